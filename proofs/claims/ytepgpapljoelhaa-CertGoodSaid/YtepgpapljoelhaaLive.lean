/- The contract of live.sets: what lives ahead of each instruction. -/
import Derived.Test.YtepgpapljoelhaaInto
import Derived.Test.YtepgpapljoelhaaCode
import Derived.StillTailTactics
namespace Go.Proofs.Ytepgpapljoelhaa.PA
open Go.RowKit Go.WideMaps Go.Maps Go.Proofs.YtepgpapljoelhaaW.PrintWords
set_option linter.unusedVariables false
set_option linter.unusedSimpArgs false

theorem cell_al {w : World} {a : Addr} {v : Value} (h : w.cell? a = some v) (o : Obj) : (w.alloc o).cell? a = some v := (((Below.refl w.heap.size w).alloc (Nat.le_refl _) o).cell (World.block_lt_of_cell? w a h)).trans h
theorem info48 : (Try.prog.info? 48).map (fun i => (i.zero, i.size, i.bytes)) = some (some (.map none), 1, 8) := by kernel_rfl
abbrev mv (b : Nat) : Value := .map (some b)
theorem set_next (ms : List Nat) (n b : Nat) (h : ms.length < n) :
    (ms.map mv ++ List.replicate (n - ms.length) (Value.map none)).set ms.length (mv b) = (ms ++ [b]).map mv ++ List.replicate (n - (ms ++ [b]).length) (Value.map none) := by
  have e : n - ms.length = (n - (ms.length + 1)) + 1 := by omega
  rw [e, List.replicate_succ, List.set_append_right _ _ (by simp)]
  simp
theorem OwnS.made (w : World) : OwnS (w.alloc (.map #[] 0)) w.heap.size (.map []) := by
  have h := World.ownsMap_made (H := Unit) w Try.prog 3 R4
  exact ⟨renorm h, tidy_empty, fun v z hv => by simp [has_eq] at hv⟩

/-- The rows of sets that sets makes first: all empty. -/
def Empties (w : World) (g n : Nat) (ms : List Nat) (wr : World) : Prop :=
  wr.ownsRow g 48 1 (.slice (some ⟨g, 0, none⟩) n n) n (ms.map mv ++ List.replicate (n - ms.length) (Value.map none)) ∧ ms.Nodup ∧ (∀ b ∈ ms, OwnS wr b (.map []) ∧ g < b) ∧ Below g w wr ∧ g < wr.heap.size

theorem row_at (ms : List Nat) (n : Nat) (h : ms.length < n) : (ms.map mv ++ List.replicate (n - ms.length) (Value.map none))[ms.length]? = some (.map none) := by
  rw [List.getElem?_append_right (by simp)]
  simp only [List.length_map, Nat.sub_self]
  rw [List.getElem?_replicate, if_pos (by omega)]
theorem empties_step {w wr : World} {g n : Nat} {ms : List Nat} (h : Empties w g n ms wr) (hlt : ms.length < n) : Empties w g n (ms ++ [wr.heap.size]) ((wr.setCell ⟨g, ms.length, none⟩ (mv wr.heap.size)).alloc (.map #[] 0)) := by
  obtain ⟨ho, hnd, hem, hbe, hgs⟩ := h
  have h1 := ho.stored ms.length (mv wr.heap.size)
  rw [set_next ms n wr.heap.size hlt] at h1
  have hsz : (wr.setCell ⟨g, ms.length, none⟩ (mv wr.heap.size)).heap.size = wr.heap.size := by simp
  refine ⟨h1.1.alloc _, ?_, fun b hb => ?_, (hbe.setCell (Nat.le_refl _) _).alloc (by rw [hsz]; omega) _, by simp; omega⟩
  · rw [List.nodup_append]
    refine ⟨hnd, by simp, fun a ha b hb e => ?_⟩
    simp at hb
    subst hb
    have := (hem a ha).1.lt
    omega
  · rcases List.mem_append.1 hb with h | h
    · obtain ⟨q1, q2⟩ := hem b h
      exact ⟨(q1.kept h1.2 (by simp; omega)).alloc _, q2⟩
    · simp at h
      subst h
      have hm := OwnS.made (wr.setCell ⟨g, ms.length, none⟩ (mv wr.heap.size))
      rw [hsz] at hm
      exact ⟨hm, hgs⟩
theorem made_nil (n : Nat) : (madeCells #[Value.map none] (n * 1)).toList = ([] : List Nat).map mv ++ List.replicate (n - ([] : List Nat).length) (Value.map none) := by
  simp [madeCells]
  apply List.ext_getElem
  · simp
  · intro i h1 h2
    simp [Nat.mod_one]
/-- What the sets hold, as a function of place and number. -/
def PP (n : Nat) (Ds : Nat → DataW Unit) : Nat → Int → Bool := fun i v => decide (i < n) && has (Ds i) (ky v)
def cAt (l : List S37) (k : Nat) : S37 := l.getD k z37
def stepP (l : List S37) (k : Nat) (p : Nat → Int → Bool) : Nat → Int → Bool := fun i v => if i = k then (p k v || ((nextOf (cAt l k) k l.length).any (fun m => p m.toNat v) && keep (db (cAt l k)) (dv (cAt l k)) v) || (us (cAt l k)).contains v) else p i v
def passD (l : List S37) : Nat → (Nat → Int → Bool) → Nat → Int → Bool
  | 0, p => p
  | k + 1, p => passD l k (stepP l k p)
def iterP (l : List S37) : Nat → Nat → Int → Bool
  | 0 => fun _ _ => false
  | j + 1 => passD l l.length (iterP l j)
/-- All numbers that are taken somewhere. -/
def allUses (l : List S37) : List Int := l.flatMap us
def Tot (n : Nat) (Ds : Nat → DataW Unit) : Nat := ((List.range n).map (fun i => size (Ds i))).sum
/-- The row of sets. -/
def St (w0 : World) (g n : Nat) (ms : List Nat) (l : List S37) (wr : World) (Ds : Nat → DataW Unit) : Prop :=
  wr.ownsRow g 48 1 (.slice (some ⟨g, 0, none⟩) n n) n (ms.map mv) ∧ (∀ i, (hi : i < ms.length) → OwnS wr ms[i] (Ds i) ∧ g < ms[i]) ∧ (∀ i v, i < n → has (Ds i) (ky v) = true → v ∈ allUses l) ∧ Below g w0 wr ∧ g < wr.heap.size
def SetsPost (l : List S37) (w : World) (e : Ending) (w' : World) : Prop :=
  ∃ (ms : List Nat) (Ds : Nat → DataW Unit) (j : Nat), e = .returned (.slice (some ⟨w.heap.size, 0, none⟩) l.length l.length) ∧ ms.length = l.length ∧ ms.Nodup ∧ St w w.heap.size l.length ms l w' Ds ∧ PP l.length Ds = iterP l j ∧ passD l l.length (PP l.length Ds) = PP l.length Ds
def bOf : Value → Bool
  | .bool b => b
  | _ => false
def mapSize (w : World) (b : Nat) : Nat := match w.heap[b]? with
  | some (.map es _) => es.size
  | _ => 0
theorem mapSize_eq {w : World} {b : Nat} {D : DataW Unit} (h : OwnS w b D) : mapSize w b = size D := by
  obtain ⟨es, clock, hb, F, hs, hD⟩ := h.own
  unfold mapSize
  rw [hb, hD, size_eq, length_sorted]
  simp
def totW (w : World) (ms : List Nat) : Nat := (ms.map (mapSize w)).sum
theorem totW_eq {w0 w : World} {g n : Nat} {ms : List Nat} {l : List S37} {Ds : Nat → DataW Unit} (h : St w0 g n ms l w Ds) (hn : ms.length = n) : totW w ms = Tot n Ds := by
  unfold totW Tot
  congr 1
  apply List.ext_getElem
  · simp [hn]
  · intro i h1 h2
    simp at h1 h2
    simp [mapSize_eq (h.2.1 i h1).1]
theorem nodup_le {α : Type} [DecidableEq α] : ∀ (xs ys : List α), xs.Nodup → (∀ x ∈ xs, x ∈ ys) → xs.length ≤ ys.length
  | [], _, _, _ => Nat.zero_le _
  | x :: xs, ys, hn, hs => by
    obtain ⟨h1, h2⟩ := List.nodup_cons.1 hn
    have hx := hs x (by simp)
    have := nodup_le xs (ys.erase x) h2 (fun y hy => (List.mem_erase_of_ne (fun e => h1 (by subst e; exact hy))).2 (hs y (by simp [hy])))
    rw [List.length_erase_of_mem hx] at this
    have h0 : 0 < ys.length := List.length_pos_of_mem hx
    simp only [List.length_cons]
    omega
def vOf : Lit → Int
  | .int _ v => v
  | _ => 0
theorem size_le {D : DataW Unit} {w : World} {b : Nat} (h : OwnS w b D) (U : List Int) (hU : ∀ v, has D (ky v) = true → v ∈ U) : size D ≤ U.length := by
  obtain ⟨es, clock, hb, F, hs, hD⟩ := h.own
  have ht := h.tidy
  obtain ⟨ds, hds, hpw⟩ := ht
  have hk : ∀ p ∈ ds, p.1 = ky (vOf p.1) := fun p hp => by
    rw [hds] at hD
    injection hD with hD
    rw [hD] at hp
    obtain ⟨x, hx, rfl⟩ := List.mem_map.1 (mem_sorted.1 hp)
    obtain ⟨y, hy⟩ := F.reads x hx
    have hkey := WideElems.rd_key hy
    obtain ⟨v, _, e, _⟩ := Maps.keyOf_int_inv Try.underlying3 hkey
    rw [WideElems.rg_of hy, e]
    rfl
  have hn : (ds.map (fun p => vOf p.1)).Nodup := by
    refine List.pairwise_map.2 (hpw.imp_of_mem fun {p q} hp hq hne e => hne ?_)
    rw [hk p hp, hk q hq, e]
  have hsub : ∀ v ∈ ds.map (fun p => vOf p.1), v ∈ U := fun v hv => by
    obtain ⟨p, hp, rfl⟩ := List.mem_map.1 hv
    apply hU
    rw [hds, has_eq]
    exact List.any_eq_true.2 ⟨p, hp, by rw [← hk p hp, hk p hp]; exact WideAt.sameKey_self (ky_lit _)⟩
  have := nodup_le _ _ hn hsub
  rw [hds, size_eq]
  simpa using this
theorem sum_le {xs : List Nat} {B : Nat} (h : ∀ x ∈ xs, x ≤ B) : xs.sum ≤ xs.length * B := by
  induction xs with
  | nil => simp
  | cons x xs ih =>
    have h1 := h x (by simp)
    have h2 := ih (fun y hy => h y (by simp [hy]))
    simp only [List.sum_cons, List.length_cons, Nat.add_mul]
    omega
theorem Tot_le {n : Nat} {Ds : Nat → DataW Unit} {B : Nat} (h : ∀ i, i < n → size (Ds i) ≤ B) : Tot n Ds ≤ n * B := by
  have := sum_le (xs := (List.range n).map (fun i => size (Ds i))) (B := B) (fun x hx => by
    obtain ⟨i, hi, rfl⟩ := List.mem_map.1 hx
    exact h i (List.mem_range.1 hi))
  simpa [Tot] using this
theorem allUses_len (l : List S37) : (allUses l).length ≤ 3 * l.length := by
  unfold allUses
  induction l with
  | nil => simp
  | cons c l ih =>
    have := us_len c
    simp only [List.flatMap_cons, List.length_append, List.length_cons]
    omega
theorem own_size {w w1 : World} {n : Nat} {xs : List Value} (h : w1.ownsRow w.heap.size 48 1 (.slice (some ⟨w.heap.size, 0, none⟩) n n) n xs) (hg : w.grownBy w1 none) : w.heap.size < w1.heap.size := by
  rcases h.2 with ⟨h', _⟩ | ⟨g', cap', cur, h', hb, hgg, _⟩
  · simp at h'
  · simp only [Value.slice.injEq, Option.some.injEq, Addr.mk.injEq, and_true, true_and] at h'
    obtain ⟨rfl, _⟩ := h'
    exact (Array.getElem?_eq_some_iff.1 hgg).1

theorem nodup_ne {ms : List Nat} (h : ms.Nodup) {i j : Nat} (hi : i < ms.length) (hj : j < ms.length) (e : i ≠ j) : ms[i] ≠ ms[j] := by
  have hp := List.pairwise_iff_getElem.1 h
  rcases Nat.lt_or_ge i j with q | q
  · exact hp i j hi hj q
  · exact fun r => hp j i hj hi (by omega) r.symm
theorem St.kept {w0 w w' : World} {g n : Nat} {ms : List Nat} {l : List S37} {Ds : Nat → DataW Unit} {row : Option Nat} (h : St w0 g n ms l w Ds) (hg : w.grownBy w' row) (hr : row ≠ some g) (hm : ∀ i (hi : i < ms.length), row ≠ some ms[i]) (hb : ∀ k, row = some k → g ≤ k) : St w0 g n ms l w' Ds := by
  obtain ⟨h1, h2, h3, h4, h5⟩ := h
  exact ⟨h1.kept hg (.inr (by intro e; exact hr e.symm)), fun i hi => ⟨(h2 i hi).1.kept hg (fun e => hm i hi e.symm), (h2 i hi).2⟩, h3, h4.grown hg (Nat.le_of_lt h5) hb, Nat.lt_of_lt_of_le h5 hg.size⟩
theorem St.below {w0 w w' : World} {g n : Nat} {ms : List Nat} {l : List S37} {Ds : Nat → DataW Unit} (h : St w0 g n ms l w Ds) (hb : Below w.heap.size w w') : St w0 g n ms l w' Ds :=
  h.kept (grown_of hb) (by simp) (fun _ _ => by simp) (fun _ e => by cases e)
def upd (Ds : Nat → DataW Unit) (k : Nat) (D : DataW Unit) : Nat → DataW Unit := fun i => if i = k then D else Ds i
theorem St.turn {w0 w w' : World} {g n k : Nat} {ms : List Nat} {l : List S37} {Ds : Nat → DataW Unit} {D : DataW Unit} (h : St w0 g n ms l w Ds) (hk : k < ms.length) (hnd : ms.Nodup) (hg : w.grownBy w' (some ms[k])) (hD : OwnS w' ms[k] D) (hU : ∀ v, has D (ky v) = true → v ∈ allUses l) : St w0 g n ms l w' (upd Ds k D) := by
  obtain ⟨h1, h2, h3, h4, h5⟩ := h
  have hgk := (h2 k hk).2
  refine ⟨h1.kept hg (.inr (fun e => (Nat.ne_of_lt hgk) (Option.some.inj e))), fun i hi => ?_, fun i v hi hv => ?_, h4.grown hg (Nat.le_of_lt h5) (fun j e => Option.some.inj e ▸ Nat.le_of_lt hgk), Nat.lt_of_lt_of_le h5 hg.size⟩
  · by_cases e : i = k
    · subst e
      exact ⟨by simpa [upd] using hD, hgk⟩
    · have hne : ms[i] ≠ ms[k] := nodup_ne hnd hi hk e
      exact ⟨by simpa [upd, e] using (h2 i hi).1.kept hg (fun r => hne (Option.some.inj r)), (h2 i hi).2⟩
  · by_cases e : i = k
    · subst e
      exact hU v (by simpa [upd] using hv)
    · exact h3 i v hi (by simpa [upd, e] using hv)
theorem St.size {w0 w : World} {g n : Nat} {ms : List Nat} {l : List S37} {Ds : Nat → DataW Unit} (h : St w0 g n ms l w Ds) (hn : ms.length = n) (hl : n = l.length) (i : Nat) (hi : i < n) : size (Ds i) ≤ 3 * n := by
  have h1 := size_le (h.2.1 i (by omega)).1 (allUses l) (fun v hv => h.2.2.1 i v hi hv)
  have h2 := allUses_len l
  omega
theorem St.cell {w0 w : World} {g n : Nat} {ms : List Nat} {l : List S37} {Ds : Nat → DataW Unit} (h : St w0 g n ms l w Ds) (hn : ms.length = n) (i : Nat) (hi : i < n) : w.cell? ⟨g, i, none⟩ = some (mv (ms[i]'(by omega))) := by
  rw [h.1.cellAt i (by omega)]
  simp [hn, hi]
theorem St.tot {w0 w : World} {g n : Nat} {ms : List Nat} {l : List S37} {Ds : Nat → DataW Unit} (h : St w0 g n ms l w Ds) (hn : ms.length = n) (hl : n = l.length) : Tot n Ds ≤ n * (3 * n) :=
  Tot_le fun i hi => by
    have h1 := size_le (h.2.1 i (by omega)).1 (allUses l) (fun v hv => h.2.2.1 i v hi hv)
    have h2 := allUses_len l
    omega
theorem List.any_eq_of_forall_eq' {α : Type} {xs : List α} {f g : α → Bool} (h : ∀ x ∈ xs, f x = g x) : xs.any f = xs.any g := by
  induction xs with
  | nil => rfl
  | cons x xs ih => simp only [List.any_cons, h x (by simp), ih (fun y hy => h y (by simp [hy]))]
theorem uses_sub {n k : Nat} {l : List S37} {Es : Nat → DataW Unit} {c : S37} {nx : List Int} {sb : Bool} {v : Int} (h : ∀ i v, i < n → has (Es i) (ky v) = true → v ∈ allUses l) (hk : k < n) (hn : ∀ m ∈ nx, 0 ≤ m ∧ m < (n : Int)) (hc : c ∈ l)
    (hv : (has (Es k) (ky v) || ((nx.any fun m => has (Es m.toNat) (ky v)) && sb) || (us c).contains v) = true) : v ∈ allUses l := by
  simp only [Bool.or_eq_true, Bool.and_eq_true] at hv
  rcases hv with (h1 | ⟨h1, _⟩) | h1
  · exact h k v hk h1
  · obtain ⟨m, hm, hv⟩ := List.any_eq_true.1 h1
    have := hn m hm
    exact h m.toNat v (by omega) hv
  · exact List.mem_flatMap.2 ⟨c, hc, by simpa using h1⟩
theorem step_eq {n k : Nat} {l : List S37} {Es : Nat → DataW Unit} {c : S37} {nx : List Int} {D : DataW Unit} (hk : k < n) (hn : n = l.length) (hc : c = cAt l k) (hx : nx = nextOf c (k : Int) (n : Int)) (hr : ∀ m ∈ nx, 0 ≤ m ∧ m < (n : Int))
    (hD : ∀ v, has D (ky v) = (has (Es k) (ky v) || ((nx.any fun m => has (Es m.toNat) (ky v)) && (!(db c) || decide (v ≠ dv c))) || (us c).contains v)) : PP n (upd Es k D) = stepP l k (PP n Es) := by
  funext i v
  unfold stepP
  by_cases e : i = k
  · subst e
    rw [if_pos rfl, ← hc, ← hn, ← hx]
    have h1 : nx.any (fun m => PP n Es m.toNat v) = nx.any (fun m => has (Es m.toNat) (ky v)) := by
      apply List.any_eq_of_forall_eq' 
      intro m hm
      have := hr m hm
      simp [PP, show m.toNat < n by omega]
    rw [h1]
    simp only [PP, upd, if_true, hk, decide_true, Bool.true_and]
    rw [hD v]
    rfl
  · rw [if_neg e]
    simp [PP, upd, e]
theorem Tot_upd (n : Nat) (Es : Nat → DataW Unit) (k : Nat) (D : DataW Unit) (hk : k < n) : Tot n (upd Es k D) + size (Es k) = Tot n Es + size D := by
  unfold Tot
  induction n with
  | zero => omega
  | succ n ih =>
    simp only [List.range_succ, List.map_append, List.map_cons, List.map_nil, List.sum_append, List.sum_cons, List.sum_nil, Nat.add_zero]
    by_cases e : k = n
    · subst e
      have h1 : (List.range k).map (fun i => size (upd Es k D i)) = (List.range k).map (fun i => size (Es i)) := List.map_congr_left fun i hi => by
        have := List.mem_range.1 hi
        simp [upd, show i ≠ k by omega]
      rw [h1]
      simp [upd]
      omega
    · have := ih (by omega)
      have h2 : size (upd Es k D n) = size (Es n) := by simp [upd, show n ≠ k by omega]
      omega
theorem PP_same {n k : Nat} {Es : Nat → DataW Unit} {D : DataW Unit} (hg : Grow (Es k) D) (h : size D = size (Es k)) : PP n (upd Es k D) = PP n Es := by
  funext i v
  by_cases e : i = k
  · subst e
    simp [PP, upd, hg.2.2.1 h v]
  · simp [PP, upd, e]
set_option maxHeartbeats 4000000 in
set_option maxRecDepth 100000 in
theorem sets_calls (A : Option Addr) (cap : Nat) (l : List S37) (w : World) (hr : Kd.C k37 w A l.length l) (hc : l.length ≤ cap) (hl : l.length ≤ 1000) (hw : ∀ c ∈ l, ∀ u ∈ us c, (Lit.int .i64 u).wf = true) :
    Calls Try.prog 18 #[.slice A l.length cap] w (SetsPost l w) := by
  have hmm := @run_makeMap Try.prog
  obtain ⟨i0, hi, hz0, hz1, hz2⟩ := info_parts info48
  have HR := Lib.hid hr
  clear hr
  obtain ⟨n, hn⟩ : ∃ n, n = l.length := ⟨_, rfl⟩
  rw [← hn] at hc hl HR ⊢
  have HN := Lib.hid hn
  clear hn
  go_enter Try.func18, Try.ntmps18
  go_wp2_with (first
    | (at_builtin; refine wpList_make_full _ rfl _ _ 46 rfl w.heap.size 48 i0 (.map none) 1 Try.underlying46 hi hz0 hz1 .i64 .i64 n n n rfl rfl rfl rfl (by rw [hz2]; omega) (by unfold maxLen; omega) (Nat.le_refl _) ?_; intro w1 hown1 hg1)
    | (at_make; refine wpList_make_full _ rfl _ _ 46 rfl w.heap.size 48 i0 (.map none) 1 Try.underlying46 hi hz0 hz1 .i64 .i64 n n n rfl rfl rfl rfl (by rw [hz2]; omega) (by unfold maxLen; omega) (Nat.le_refl _) ?_; intro w1 hown1 hg1)
    | fail)
  go_loopw [4, 15] (fun _ i wr => ∃ ms : List Nat, ms.length ≤ n ∧ i = .int .i64 ms.length ∧ Hid (Empties w w.heap.size n ms wr)) (fun _ i _ => n - (intOf i).toNat)
  case atStart =>
    have hlt1 : w.heap.size < w1.heap.size := own_size hown1 hg1
    refine ⟨[], Nat.zero_le _, rfl, Lib.hid ⟨?_, List.nodup_nil, fun b hb => by simp at hb, (Below.refl _ _).grown hg1 (Nat.le_refl _) (fun j e => by cases e), hlt1⟩⟩
    have e : (madeCells (Value.map none).cells (n * 1)).toList = ([] : List Nat).map mv ++ List.replicate (n - ([] : List Nat).length) (Value.map none) := by
      simp only [madeCells, Value.cells]
      exact made_nil n
    rw [← e]
    exact hown1
  case round =>
    obtain ⟨ms, hms, rfl, HE⟩ := hrel
    by_cases hlt : ms.length < n
    · have hE := HE.out
      obtain ⟨ho, hnd, hem, hbe, hgs⟩ := hE
      have hc0 : World.cell? wr ⟨w.heap.size, ms.length, none⟩ = some (.map none) := (ho.cellAt ms.length (by omega)).trans (row_at ms n hlt)
      have hf0 := ho.frozenAt ms.length
      have HO := Lib.hid ho
      have HM := Lib.hid hem
      have HB := Lib.hid hbe
      have HD := Lib.hid hnd
      clear ho hnd hem hbe
      go_wp2
      go_roundw
      case rel => exact ⟨ms ++ [(World.heap wr).size], by simp; omega, by simp, Lib.hid (empties_step HE.out hlt)⟩
      case measure => simp [intOf]; omega
    · have hmsn : ms.length = n := by omega
      have hE := HE.out
      have hSt0 : St w w.heap.size n ms l wr (fun _ => .map []) := by
        obtain ⟨q1, q2, q3, q4, q5⟩ := hE
        refine ⟨?_, fun i hi => q3 ms[i] (List.getElem_mem hi), fun i v _ h => by simp [has_eq] at h, q4, q5⟩
        rw [hmsn, Nat.sub_self, List.replicate_zero, List.append_nil] at q1
        exact q1
      have HS0 := Lib.hid hSt0
      have HMS := Lib.hid hmsn
      have HND := Lib.hid hE.2.1
      clear hE hSt0 HE hms hmsn
      go_wp2_with fail
      go_loopw [5] (fun again wr => ∃ (b : Bool) (Ds : Nat → DataW Unit) (j : Nat), again = .bool b ∧ Hid (St w w.heap.size n ms l wr Ds) ∧ Hid (PP n Ds = iterP l j) ∧ Hid (b = false → passD l n (PP n Ds) = PP n Ds)) (fun again wr => if bOf again = true then 1 + (n * (3 * n) - totW wr ms) else 0)
      case atStart => exact ⟨true, fun _ => .map [], 0, rfl, HS0, Lib.hid (by funext i v; simp [PP, iterP, has_eq]), Lib.hid (fun h => by cases h)⟩
      case round =>
        obtain ⟨b, Ds, j, rfl, HS, HP, HF⟩ := hrel
        cases b with
        | false =>
          go_wp2
          go_ret
          refine ⟨ms, Ds, j, by rw [← HN.out]; rfl, HMS.out.trans HN.out, HND.out, ?_, ?_, ?_⟩
          · rw [← HN.out]; exact HS.out
          · rw [← HN.out]; exact HP.out
          · rw [← HN.out]; first | exact HF.out rfl | exact HF.out trivial
        | true =>
          clear HF
          go_wp2_with fail
          go_loopw [5, 6] (fun again at_ wr => ∃ (b : Bool) (Es : Nat → DataW Unit) (k : Nat), again = .bool b ∧ at_ = .int .i64 ((k : Int) - 1) ∧ k ≤ n ∧ Hid (St w w.heap.size n ms l wr Es) ∧ Hid (passD l k (PP n Es) = passD l n (PP n Ds)) ∧ Hid (Tot n Ds ≤ Tot n Es ∧ (b = true → Tot n Ds < Tot n Es) ∧ (b = false → PP n Es = PP n Ds))) (fun _ at_ _ => (intOf at_ + 1).toNat)
          case atStart => exact ⟨false, Ds, n, rfl, rfl, Nat.le_refl _, HS, Lib.hid rfl, Lib.hid ⟨Nat.le_refl _, (fun h => by cases h), fun _ => rfl⟩⟩
          case round =>
            obtain ⟨b, Es, k, rfl, rfl, hk, HSE, HPE, HTE⟩ := hrel
            cases k with
            | zero =>
              go_wp2
              go_roundw
              case rel =>
                refine ⟨b, Es, j + 1, rfl, HSE, Lib.hid ?_, Lib.hid ?_⟩
                · have h1 : PP n Es = passD l n (PP n Ds) := HPE.out
                  rw [h1, HP.out, HN.out]
                  rfl
                · intro hb
                  have h1 : PP n Es = passD l n (PP n Ds) := HPE.out
                  have h2 := HTE.out.2.2 hb
                  rw [h2, ← h1, h2]
              case measure =>
                cases b with
                | false => simp [bOf]; omega
                | true =>
                  have h1 := totW_eq HSE.out HMS.out
                  have h2 := totW_eq HS.out HMS.out
                  have h3 := HTE.out.2.1 rfl
                  have h4 := St.tot HSE.out HMS.out HN.out
                  simp only [bOf, if_true, h1, h2]
                  omega
            | succ k =>
              obtain ⟨ad, e1, x0, x1, x2, x3, x4, x5, x6, x7⟩ := at_T37 HR.out (k : Int) (by omega) (by omega)
              cases e1
              rw [Int.toNat_natCast] at x0 x1 x2 x3 x4 x5 x6 x7
              have hcl : rd_T37 l (k : Int) = cAt l k := by unfold rd_T37 cAt; rw [Int.toNat_natCast]
              rw [hcl] at x0 x1 x2 x3 x4 x5 x6 x7
              have hbw := HSE.out.2.2.2.1
              have X := Lib.hid (And.intro x0 (And.intro x1 (And.intro x2 (And.intro x3 (And.intro x4 (And.intro x5 (And.intro x6 x7)))))))
              replace x0 := (hbw.cell (World.block_lt_of_cell? w _ x0)).trans x0
              replace x1 := (hbw.cell (World.block_lt_of_cell? w _ x1)).trans x1
              replace x2 := (hbw.cell (World.block_lt_of_cell? w _ x2)).trans x2
              replace x3 := (hbw.cell (World.block_lt_of_cell? w _ x3)).trans x3
              replace x4 := (hbw.cell (World.block_lt_of_cell? w _ x4)).trans x4
              replace x5 := (hbw.cell (World.block_lt_of_cell? w _ x5)).trans x5
              replace x6 := (hbw.cell (World.block_lt_of_cell? w _ x6)).trans x6
              replace x7 := (hbw.cell (World.block_lt_of_cell? w _ x7)).trans x7
              obtain ⟨K, hK⟩ := (Next_eq (cAt l k) (k : Int) (n : Int) (by omega) (by omega)).ex
              have HK := Lib.hid hK
              clear hK hbw hcl
              have hkc : k < n := hk
              obtain ⟨c, hcc⟩ : ∃ c, c = cAt l k := ⟨_, rfl⟩
              rw [← hcc] at x0 x1 x2 x3 x4 x5 x6 x7 HK X
              have HCC := Lib.hid hcc
              clear hcc
              replace x0 := cell_al x0 (.map #[] 0)
              replace x1 := cell_al x1 (.map #[] 0)
              replace x2 := cell_al x2 (.map #[] 0)
              replace x3 := cell_al x3 (.map #[] 0)
              replace x4 := cell_al x4 (.map #[] 0)
              replace x5 := cell_al x5 (.map #[] 0)
              replace x6 := cell_al x6 (.map #[] 0)
              replace x7 := cell_al x7 (.map #[] 0)
              go_wp2_with fail
              refine (code_Next.calls K _ _ _ _ _ _ _ _ _ _ _ _ HK.out).mono ?_
              rintro e w5 ⟨v0, rfl, hR, hb5⟩
              obtain ⟨A5, cu, rfl, hcu, hcells⟩ := us_row hR
              have hOB := (OwnS.made wr).below hb5
              have hST5 := (HSE.out.below ((Below.refl _ _).alloc (Nat.le_refl _) (.map #[] 0))).below hb5
              have hlg : w.heap.size < (World.heap wr).size := HSE.out.2.2.2.2
              have hnm : ∀ i (hi : i < ms.length), ms[i] < (World.heap wr).size := fun i hi => (HSE.out.2.1 i hi).1.lt
              obtain ⟨bm, hbm⟩ : ∃ bm, bm = (World.heap wr).size := ⟨_, rfl⟩
              rw [← hbm] at hOB hlg hnm ⊢
              have hs5 : bm < w5.heap.size := hOB.lt
              obtain ⟨nx, hnx⟩ : ∃ nx, nx = nextOf c (k : Int) (n : Int) := ⟨_, rfl⟩
              have hnr : ∀ m ∈ nx, 0 ≤ m ∧ m < (n : Int) := by rw [hnx]; exact next_range c k n (by omega)
              have hnl : nx.length ≤ 2 := by rw [hnx]; exact next_len c k n
              rw [← hnx] at hcells hcu ⊢
              have hcells' : ∀ q (hq : q < nx.length), ∃ g, bm < g ∧ g < w5.heap.size ∧ A5 = some ⟨g, 0, none⟩ ∧ w5.cell? ⟨g, q, none⟩ = some (.int .i64 nx[q]) := fun q hq => by
                obtain ⟨g, h1, h2⟩ := hcells q hq
                exact ⟨g, by simp at h1; omega, h2⟩
              have HNX := Lib.hid hnx
              have HNR := Lib.hid hnr
              have HCL := Lib.hid hcells'
              have HOB := Lib.hid hOB
              have HS5 := Lib.hid hST5
              have HNM := Lib.hid hnm
              clear hR hb5 hcells hcells' hOB hST5 hbm hnx hnr hnm x0 x1 x2 x3 x4 x5 x6 x7 HSE
              go_wp2_with fail
              go_loopw [9, 41] (fun _ i wq => ∃ (q : Nat) (DB : DataW Unit), q ≤ nx.length ∧ i = .int .i64 q ∧ Hid (OwnS wq bm DB) ∧ Hid (∀ v, has DB (ky v) = (nx.take q).any (fun m => has (Es m.toNat) (ky v))) ∧ Hid (size DB ≤ q * (3 * n)) ∧ Hid (w5.grownBy wq (some bm))) (fun _ i _ => nx.length - (intOf i).toNat)
              case atStart => exact ⟨0, .map [], Nat.zero_le _, rfl, HOB, Lib.hid (fun v => by simp [has_eq]), Lib.hid (by simp [size_eq]), Lib.hid (World.grownBy.refl _ _)⟩
              case round =>
                obtain ⟨q, DB, hq, rfl, HDB, HDV, HDS, HGQ⟩ := hrel
                have hSTq : St w w.heap.size n ms l wr Es := HS5.out.kept HGQ.out (fun e => (Nat.ne_of_gt hlg) (Option.some.inj e)) (fun i hi e => (Nat.ne_of_gt (HNM.out i hi)) (Option.some.inj e)) (fun j e => Option.some.inj e ▸ Nat.le_of_lt hlg)
                have HSQ := Lib.hid hSTq
                clear hSTq
                by_cases hlt : q < nx.length
                · obtain ⟨g5, hg50, hg51, rfl, hcell⟩ := HCL.out q hlt
                  have hcq : World.cell? wr ⟨g5, q, none⟩ = some (.int .i64 nx[q]) := (World.cell?_of_block (HGQ.out.block g5 hg51 (fun e => (Nat.ne_of_gt hg50) (Option.some.inj e)))).trans hcell
                  obtain ⟨hm0, hm1⟩ := HNR.out nx[q] (List.getElem_mem hlt)
                  have hE1 : nx.take (q + 1) = nx.take q ++ [nx[q]] := List.take_succ_eq_append_getElem hlt
                  obtain ⟨m, hm⟩ := Int.eq_ofNat_of_zero_le hm0
                  rw [hm] at hcq hm1 hE1
                  have hmn : m < n := by omega
                  have hmc := HSQ.out.cell HMS.out m hmn
                  obtain ⟨bq, hbq⟩ : ∃ bq, bq = ms[m]'(by rw [HMS.out]; exact hmn) := ⟨_, rfl⟩
                  rw [← hbq] at hmc
                  have hOm : OwnS wr bq (Es m) := by rw [hbq]; exact (HSQ.out.2.1 m _).1
                  have hbqm : bq < bm := by rw [hbq]; exact HNM.out m _
                  have hsm := HSQ.out.size HMS.out HN.out m hmn
                  have HOM := Lib.hid hOm
                  have HE1 := Lib.hid hE1
                  clear hcell hm hE1 hOm hbq hm0
                  go_wp2_with fail
                  refine (copy_calls bm bq DB (Es m) _ (by omega) HDB.out HOM.out (by have h1 := HDS.out; have h2 : q * (3 * n) ≤ 2 * 3000 := Nat.mul_le_mul (by omega) (by omega); omega)).mono ?_
                  rintro e w6 ⟨rfl, D6, ho6, hv6, hs6, hg6⟩
                  have HO6 := Lib.hid ho6
                  have HV6 := Lib.hid hv6
                  have HG6 := Lib.hid hg6
                  clear ho6 hv6 hg6
                  go_wp2
                  go_roundw
                  case rel =>
                    refine ⟨q + 1, D6, by omega, by go_num, HO6, Lib.hid fun v => ?_, Lib.hid ?_, Lib.hid (HGQ.out.andThen HG6.out (fun j e => .inr e))⟩
                    · rw [HV6.out v, HDV.out v, HE1.out]
                      simp
                    · have h1 := HDS.out
                      rw [Nat.add_mul]
                      omega
                  case measure => simp [intOf]; omega
                · obtain rfl : q = nx.length := by omega
                  have hkl : k < ms.length := by rw [HMS.out]; exact hkc
                  have hcm := HSQ.out.cell HMS.out k hkc
                  have hbw := HSQ.out.2.2.2.1
                  obtain ⟨x0, x1, x2, x3, x4, x5, x6, x7⟩ := X.out
                  replace x0 := (hbw.cell (World.block_lt_of_cell? w _ x0)).trans x0
                  replace x1 := (hbw.cell (World.block_lt_of_cell? w _ x1)).trans x1
                  replace x2 := (hbw.cell (World.block_lt_of_cell? w _ x2)).trans x2
                  replace x3 := (hbw.cell (World.block_lt_of_cell? w _ x3)).trans x3
                  replace x4 := (hbw.cell (World.block_lt_of_cell? w _ x4)).trans x4
                  replace x5 := (hbw.cell (World.block_lt_of_cell? w _ x5)).trans x5
                  replace x6 := (hbw.cell (World.block_lt_of_cell? w _ x6)).trans x6
                  replace x7 := (hbw.cell (World.block_lt_of_cell? w _ x7)).trans x7
                  obtain ⟨bk, hbk⟩ : ∃ bk, bk = ms[k] := ⟨_, rfl⟩
                  rw [← hbk] at hcm
                  have HBK := Lib.hid hbk
                  clear hbk hbw
                  have k0 : (0 : Int) ≤ (k : Int) := by omega
                  have k1 : (k : Int) < (n : Int) := by omega
                  go_wp2_with fail
                  go_still_tail 9, (by kernel_rfl)
                  have hcl : c ∈ l := by
                    have h1 : cAt l k = l[k]'(by rw [← HN.out]; exact hkc) := by unfold cAt; simp [show k < l.length by rw [← HN.out]; exact hkc]
                    rw [HCC.out, h1]
                    exact List.getElem_mem _
                  obtain ⟨KU, hKU⟩ := (Uses_eq c).ex
                  have hdr : Below (World.heap wr).size wr wr.drew := (Below.refl _ _).drew
                  have hOk : OwnS wr bk (Es k) := by rw [HBK.out]; exact (HSQ.out.2.1 k hkl).1
                  have hO2 := hOk.below hdr
                  have hD2 := HDB.out.below hdr
                  have hG2 := grown_of hdr
                  have hkm : bk < bm := by rw [HBK.out]; exact HNM.out k hkl
                  have hsk := HSQ.out.size HMS.out HN.out k hkc
                  have hsd : size (Es k) + size DB + (us c).length < 1000000 := by
                    have h1 := HDS.out
                    have h2 : nx.length * (3 * n) ≤ 2 * 3000 := Nat.mul_le_mul hnl (by omega)
                    have h3 := us_len c
                    omega
                  have HO2 := Lib.hid hO2
                  have HD2 := Lib.hid hD2
                  have HG2 := Lib.hid hG2
                  have HKU := Lib.hid hKU
                  have HOK := Lib.hid hOk
                  change wpList _ _ _ _ _ (World.drew wr)
                  generalize World.drew wr = w6 at HO2 HD2 HG2 ⊢
                  clear hO2 hD2 hG2 hKU hOk hdr x0 x1 x2 x3 x4 x5 x6 x7 hcm
                  go_wp2_with fail
                  refine (into_calls bk bm (Es k) DB c (dv c) (db c) KU (us c) _ (by omega) HO2.out HD2.out hsd (Defines_eq c) HKU.out (hw c hcl)).mono ?_
                  rintro e w7 ⟨D, rfl, hoD, hgD, hvD, hsD, hg7⟩
                  have HOD := Lib.hid hoD
                  have HGD := Lib.hid hgD
                  have HVD := Lib.hid hvD
                  have HG7 : Hid (World.grownBy wr w7 (some bk)) := Lib.hid ((weaken HG2.out (some bk)).andThen hg7 (fun j e => .inr e))
                  clear hoD hgD hvD hg7
                  have HST7 : Hid (St w w.heap.size n ms l w7 (upd Es k D)) := Lib.hid (HSQ.out.turn hkl HND.out (by rw [← HBK.out]; exact HG7.out) (by rw [← HBK.out]; exact HOD.out) (fun v hv => by
                    rw [HVD.out v, HDV.out v, List.take_length] at hv
                    exact uses_sub HSQ.out.2.2.1 hkc HNR.out hcl hv))
                  have HP7 : Hid (passD l k (PP n (upd Es k D)) = passD l n (PP n Ds)) := Lib.hid (by
                    rw [← HPE.out]
                    show _ = passD l k (stepP l k (PP n Es))
                    congr 1
                    exact step_eq hkc HN.out HCC.out HNX.out HNR.out (fun v => by rw [HVD.out v, HDV.out v, List.take_length]))
                  have HT7 := Lib.hid (Tot_upd n Es k D hkc)
                  by_cases hg : size (Es k) < size D
                  · go_wp2
                    go_roundw
                    case rel =>
                      refine ⟨true, upd Es k D, k, rfl, rfl, by omega, HST7, HP7, Lib.hid ⟨?_, fun _ => ?_, fun h => by cases h⟩⟩
                      · have h1 := HTE.out.1
                        have h2 := HT7.out
                        omega
                      · have h1 := HTE.out.1
                        have h2 := HT7.out
                        omega
                    case measure => simp [intOf]
                  · have hge := HGD.out.1
                    have hpp : PP n (upd Es k D) = PP n Es := PP_same HGD.out (by omega)
                    have HPP := Lib.hid hpp
                    clear hpp
                    go_wp2
                    go_roundw
                    case rel =>
                      refine ⟨b, upd Es k D, k, rfl, rfl, by omega, HST7, HP7, Lib.hid ⟨?_, fun h => ?_, fun h => ?_⟩⟩
                      · have h1 := HTE.out.1
                        have h2 := HT7.out
                        omega
                      · have h1 := HTE.out.2.1 h
                        have h2 := HT7.out
                        omega
                      · rw [HPP.out]
                        exact HTE.out.2.2 h
                    case measure => simp [intOf]
#print axioms sets_calls
end Go.Proofs.Ytepgpapljoelhaa.PA
