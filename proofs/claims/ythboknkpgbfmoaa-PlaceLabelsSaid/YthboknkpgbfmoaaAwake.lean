/- law10: the documents' examples hold; what the map holds, in plain words. -/
import Derived.Test.YthboknkpgbfmoaaPlace
namespace Go.Proofs.Ythboknkpgbfmoaa.PQ
open Go.RowKit Go.WideMaps Go.Maps Go.Proofs.YthboknkpgbfmoaaW.PrintWords Go.Proofs.YthboknkpgbfmoaaW.PrintLast Go.Proofs.YthboknkpgbfmoaaW.PrintMore

theorem key_ne {a b : ByteArray} (h : a ≠ b) : keyOfD a ≠ keyOfD b := by
  intro e
  unfold keyOfD at e
  injection e with e
  exact h (ByteArray.ext (Array.toList_inj.1 e))
theorem key_isLit (a : ByteArray) : WideAt.IsKeyLit (keyOfD a) := by
  unfold keyOfD
  trivial
theorem isMap_content {H : Type} (l : List S28) : IsMap (content (H := H) l) := by
  unfold content
  suffices ∀ (l : List S28) (p : DataW H × Int), IsMap p.1 → IsMap (l.foldl (fun (p : DataW H × Int) d => (p.1.put (keyOfD d.f2) (.lit (.int .i64 p.2)), p.2 + szOf d)) p).1 from this l _ isMap_empty
  intro l
  induction l with
  | nil => intro p h; exact h
  | cons d l ih => intro p h; exact ih _ (h.put _ _)

theorem content_has {H : Type} (s : ByteArray) (l : List S28) : has (content (H := H) l) (keyOfD s) = l.any (fun d => decide (d.f2 = s)) := by
  suffices ∀ n, ∀ l : List S28, l.length = n → has (content (H := H) l) (keyOfD s) = l.any (fun d => decide (d.f2 = s)) from this _ l rfl
  intro n
  induction n with
  | zero =>
    intro l hl
    obtain rfl := List.eq_nil_of_length_eq_zero hl
    rfl
  | succ n ih =>
    intro l hl
    rcases List.eq_nil_or_concat l with rfl | ⟨xs, d, rfl⟩
    · simp at hl
    · rw [List.concat_eq_append] at *
      have hx : xs.length = n := by simpa using hl
      rw [content_append, List.any_append]
      by_cases e : d.f2 = s
      · subst e
        rw [has_put_same (isMap_content xs) (key_isLit _)]
        simp
      · rw [has_put_other (key_ne (fun h => e h.symm)), ih xs hx]
        simp [e]

theorem content_at {H : Type} (z : DataW H) (l : List S28) (hd : (l.map (·.f2)).Nodup) (j : Nat) (hj : j < l.length) :
    (content (H := H) l).atKey (keyOfD l[j].f2) z = .lit (.int .i64 (total (l.take j))) := by
  suffices ∀ n, ∀ l : List S28, l.length = n → (l.map (·.f2)).Nodup → ∀ j (hj : j < l.length), (content (H := H) l).atKey (keyOfD l[j].f2) z = .lit (.int .i64 (total (l.take j))) from this _ l rfl hd j hj
  intro n
  induction n with
  | zero => intro l hl _ j hj; omega
  | succ n ih =>
    intro l hl hd j hj
    rcases List.eq_nil_or_concat l with rfl | ⟨xs, d, rfl⟩
    · simp at hl
    · simp only [List.concat_eq_append] at *
      have hx : xs.length = n := by simpa using hl
      rw [content_append]
      rw [List.map_append, List.nodup_append] at hd
      by_cases e : j < xs.length
      · rw [List.getElem_append_left e, List.take_append_of_le_length (by omega)]
        have hne : xs[j].f2 ≠ d.f2 := hd.2.2 _ (List.mem_map.2 ⟨xs[j], List.getElem_mem e, rfl⟩) _ (by simp)
        rw [atKey_put_other (key_ne hne)]
        exact ih xs hx hd.1 j e
      · have : j = xs.length := by simp at hj; omega
        subst this
        rw [List.getElem_append_right (by omega), List.take_append_of_le_length (by omega), List.take_length]
        simp only [Nat.sub_self, List.getElem_cons_zero]
        exact atKey_put_same (isMap_content xs) (key_isLit _) _ _

/-- A literal's row reads as its elements. -/
theorem reads_three (w : World) (g : Nat) (a b c : S28) (h : w.heap[g]? = some (.cells #[.bool a.f0, .int .i64 a.f1, .string a.f2, .int .i64 a.f3, .string a.f4, .int .i64 a.f5, .bool b.f0, .int .i64 b.f1, .string b.f2, .int .i64 b.f3, .string b.f4, .int .i64 b.f5, .bool c.f0, .int .i64 c.f1, .string c.f2, .int .i64 c.f3, .string c.f4, .int .i64 c.f5] 28 (0, 0))) :
    Kd.C k28 w (some ⟨g, 0, none⟩) 3 [a, b, c] := by
  refine ⟨rfl, by decide, fun _ => ⟨_, rfl, fun j p hj => ?_⟩⟩
  have hcell : ∀ i, w.cell? ((⟨g, 0, none⟩ : Addr).add i) = (#[.bool a.f0, .int .i64 a.f1, .string a.f2, .int .i64 a.f3, .string a.f4, .int .i64 a.f5, .bool b.f0, .int .i64 b.f1, .string b.f2, .int .i64 b.f3, .string b.f4, .int .i64 b.f5, .bool c.f0, .int .i64 c.f1, .string c.f2, .int .i64 c.f3, .string c.f4, .int .i64 c.f5] : Array Value)[i]? := fun i => by
    have : (⟨g, 0, none⟩ : Addr).add i = ⟨g, i, none⟩ := by
      unfold Addr.add
      split
      · next h => subst h; rfl
      · simp
    rw [this]
    exact blk_cell h i
  match j, hj with
  | 0, hj =>
    obtain rfl := Option.some.inj hj
    refine ⟨_, rfl, k28_mk w _, fun i u hu => ?_⟩
    match i, hu with
    | 0, hu | 1, hu | 2, hu | 3, hu | 4, hu | 5, hu => exact (hcell _).trans hu
    | i + 6, hu => simp at hu
  | 1, hj =>
    obtain rfl := Option.some.inj hj
    refine ⟨_, rfl, k28_mk w _, fun i u hu => ?_⟩
    match i, hu with
    | 0, hu | 1, hu | 2, hu | 3, hu | 4, hu | 5, hu => exact (hcell _).trans hu
    | i + 6, hu => simp at hu
  | 2, hj =>
    obtain rfl := Option.some.inj hj
    refine ⟨_, rfl, k28_mk w _, fun i u hu => ?_⟩
    match i, hu with
    | 0, hu | 1, hu | 2, hu | 3, hu | 4, hu | 5, hu => exact (hcell _).trans hu
    | i + 6, hu => simp at hu
  | j + 3, hj => simp at hj

def exA : S28 := ⟨true, 0, ⟨#[108]⟩, 0, ⟨#[]⟩, 0⟩
def exB : S28 := ⟨false, 0, ⟨#[97]⟩, 3, ⟨#[]⟩, 0⟩
def exC : S28 := ⟨false, 1, ⟨#[98]⟩, 0, ⟨#[]⟩, 0⟩
theorem ex_at {H : Type} : (content (H := H) [exA, exB, exC]).atKey (keyOfD ⟨#[97]⟩) (.lit (.int .i64 0)) = .lit (.int .i64 1) ∧ (content (H := H) [exA, exB, exC]).atKey (keyOfD ⟨#[98]⟩) (.lit (.int .i64 0)) = .lit (.int .i64 4) := by
  have hd : ([exA, exB, exC].map (·.f2)).Nodup := by decide
  have t1 : total [exA] = 1 := by decide
  have t2 : total [exA, exB] = 4 := by decide
  refine ⟨?_, ?_⟩
  · have := content_at (H := H) (.lit (.int .i64 0)) [exA, exB, exC] hd 1 (by decide)
    rw [show [exA, exB, exC].take 1 = [exA] from rfl, t1] at this
    exact this
  · have := content_at (H := H) (.lit (.int .i64 0)) [exA, exB, exC] hd 2 (by decide)
    rw [show [exA, exB, exC].take 2 = [exA, exB] from rfl, t2] at this
    exact this

theorem ownsMap_below {H : Type} {P : Program} {k : TypeId} {R : Value → Option (DataW H × List MemPlace)} {w w' : World} {b n : Nat} {D : DataW H} (h : w.ownsMap P k R b n D) (hb : Below w.heap.size w w') : w'.ownsMap P k R b n D := by
  have hlt := h.lt
  unfold World.ownsMap at *
  rw [hb.block b hlt]
  exact h

set_option maxRecDepth 100000 in
theorem awake_calls (w : World) : Calls Try.prog 12 #[] w fun e w' => e = .returned (.bool true) ∧ Below w.heap.size w w' := by
  have hu28 := Try.underlying28
  have hu32 := Try.underlying32
  go_enter Try.func12, Try.ntmps12
  have e5 : total [exA, exB, exC] = 5 := by decide
  have h97 : has (content (H := Unit) [exA, exB, exC]) (keyOfD ⟨#[97]⟩) = true := by rw [content_has]; decide
  have h98 : has (content (H := Unit) [exA, exB, exC]) (keyOfD ⟨#[98]⟩) = true := by rw [content_has]; decide
  have HF := Aside0.mk (And.intro e5 (And.intro h97 h98))
  clear e5 h97 h98
  go_wp2_with fail
  have hr := reads_three (w.alloc (.cells #[.bool true, .int .i64 0, .string ⟨#[108]⟩, .int .i64 0, .string ⟨#[]⟩, .int .i64 0, .bool false, .int .i64 0, .string ⟨#[97]⟩, .int .i64 3, .string ⟨#[]⟩, .int .i64 0, .bool false, .int .i64 1, .string ⟨#[98]⟩, .int .i64 0, .string ⟨#[]⟩, .int .i64 0] 28)) w.heap.size exA exB exC (blk_new _ _)
  refine (Of_calls (H := Unit) (some ⟨w.heap.size, 0, none⟩) 3 [exA, exB, exC] _ hr (by decide) (by decide) (by decide)).mono ?_
  rintro e w1 ⟨b, rfl, hb, hown, hbel⟩
  rw [HF.out.1]
  have HO := Aside0.mk hown
  have HB := Aside0.mk (((Below.refl w.heap.size w).alloc (Nat.le_refl _) _).trans (hbel.mono (by simp)))
  clear hown hbel hr hb
  go_wp2_with fail
  refine (Start_calls (H := Unit) b 3 5 (content [exA, exB, exC]) ⟨#[97]⟩ (by decide) _ (HO.out.alloc _)).mono ?_
  rintro e w2 ⟨⟨c, rfl, hat⟩, hb2⟩
  rw [ex_at.1] at hat
  obtain rfl : (1 : Int) = c := by injection hat with h; injection h
  rw [HF.out.2.1]
  have HO2 := Aside0.mk (ownsMap_below (HO.out.alloc _) hb2)
  have HM2 := blk_below (blk_new w1 _) hb2
  have HB2 := Aside0.mk ((HB.out.alloc (by have := HB.out.size; omega) _).trans (hb2.mono (by have := HB.out.size; simp; omega)))
  have m0 := (blk_cell HM2 0).trans rfl
  have m1 := (blk_cell HM2 1).trans rfl
  have HMA := Aside0.mk HM2
  clear HM2 hb2 hat HO
  go_wp2_with fail
  refine (Start_calls (H := Unit) b 3 5 (content [exA, exB, exC]) ⟨#[98]⟩ (by decide) _ HO2.out).mono ?_
  rintro e w3 ⟨⟨c, rfl, hat⟩, hb3⟩
  rw [ex_at.2] at hat
  obtain rfl : (4 : Int) = c := by injection hat with h; injection h
  rw [HF.out.2.2]
  have HM3 := blk_below HMA.out hb3
  have HB3 := Aside0.mk (HB2.out.trans (hb3.mono (by have := HB2.out.size; omega)))
  clear m0 m1
  have m0 := (blk_cell HM3 0).trans rfl
  have m1 := (blk_cell HM3 1).trans rfl
  clear HM3 hb3 hat HMA
  go_wp2_with fail
  refine (Size_calls (some b) 5 _).mono ?_
  rintro e w4 ⟨rfl, hb4⟩
  go_wp2
  go_ret
  exact ⟨rfl, HB3.out.trans (hb4.mono (by have := HB3.out.size; omega))⟩
end Go.Proofs.Ythboknkpgbfmoaa.PQ
