/- Arguments that are a struct of whole numbers, and slices of such: from the row's reading to the cells that the walks ask for. -/
import Derived.Test.YtepgpapljoelhaaDoorPEx0
import Derived.Deep.Slices
import Derived.Deep.Fields
import Derived.ChangeSame
import Derived.WalkKit
import Derived.ProofKit
import Derived.OpenShut
import Derived.ChangeOld
namespace Go.Proofs.YtepgpapljoelhaaDoor.PE
open Go.ChangeShapes Go.WideShapes Go.ChangeAt Go.RowKit Go.Deep Go.Proofs.YtepgpapljoelhaaDoorW.PrintWords
set_option linter.unusedVariables false

/-- The numbers are of their kinds. -/
def S37.wf (x : S37) : Prop := (Lit.int .i64 x.f0).wf = true ∧ (Lit.int .i64 x.f1).wf = true ∧ (Lit.int .i64 x.f2).wf = true ∧ (Lit.int .i64 x.f3).wf = true ∧ (Lit.int .i64 x.f4).wf = true ∧ (Lit.int .i64 x.f5).wf = true ∧ (Lit.int .u64 x.f6).wf = true ∧ (Lit.int .i64 x.f7).wf = true

set_option maxRecDepth 100000 in
theorem hone37 : ∀ fs, Tryd.prog.underlying 37 = some (.struct fs) → oneCellFields Tryd.prog fs = true ∧ fs.size = 8 ∧ Tryd.prog.cellsOf 37 = 8 ∧ (fs[0]?).map (·.type) = some 34 ∧ (fs[1]?).map (·.type) = some 35 ∧ (fs[2]?).map (·.type) = some 3 ∧ (fs[3]?).map (·.type) = some 3 ∧ (fs[4]?).map (·.type) = some 3 ∧ (fs[5]?).map (·.type) = some 3 ∧ (fs[6]?).map (·.type) = some 24 ∧ (fs[7]?).map (·.type) = some 3 := by
  intro fs h
  obtain rfl := TypeDesc.struct.inj (Option.some.inj (Tryd.underlying37.symm.trans h))
  exact ⟨by kernel_rfl, by kernel_rfl, by kernel_rfl, by kernel_rfl, by kernel_rfl, by kernel_rfl, by kernel_rfl, by kernel_rfl, by kernel_rfl, by kernel_rfl, by kernel_rfl⟩

set_option maxRecDepth 100000 in
theorem open_agg37 {H : Type} {enc : TypeId × Value → H} {w : World} {base : Nat} {spare : Nat → Bool} {held : Bool} {r : Reach} {b0 : Nat} {v : Value} {d : DataW H} {p : List MemPlace} (hv : Value.okWide Tryd.prog w r b0 37 v) (h : DataW.Trod enc Tryd.prog w base spare held 37 v d p) :
    ∃ x : S37, v = .agg #[.int .i64 x.f0, .int .i64 x.f1, .int .i64 x.f2, .int .i64 x.f3, .int .i64 x.f4, .int .i64 x.f5, .int .u64 x.f6, .int .i64 x.f7] ∧ x.wf := by
  have hs := Tryd.underlying37
  obtain ⟨hone, _, hC, _⟩ := hone37 _ hs
  obtain ⟨cs, rfl, hsz⟩ := okWide_struct hs hv
  obtain ⟨l⟩ := cs
  match l, hsz.trans hC with
  | [c0, c1, c2, c3, c4, c5, c6, c7], _ =>
    obtain ⟨fuel, hf⟩ := h
    obtain ⟨xs, n, _, hx, _, hlen, hg⟩ := DataW.trod_struct hs hf
    obtain ⟨o0, k0⟩ := hone_of hone 0 _ rfl
    obtain ⟨o1, k1⟩ := hone_of hone 1 _ rfl
    obtain ⟨o2, k2⟩ := hone_of hone 2 _ rfl
    obtain ⟨o3, k3⟩ := hone_of hone 3 _ rfl
    obtain ⟨o4, k4⟩ := hone_of hone 4 _ rfl
    obtain ⟨o5, k5⟩ := hone_of hone 5 _ rfl
    obtain ⟨o6, k6⟩ := hone_of hone 6 _ rfl
    obtain ⟨o7, k7⟩ := hone_of hone 7 _ rfl
    match xs, hlen with
    | [y0, y1, y2, y3, y4, y5, y6, y7], _ =>
      have g0 := hg 0 _ rfl
      rw [o0, k0] at g0
      obtain ⟨n0, e0, _, w0⟩ := DataW.trod_int Tryd.underlying34 (show DataW.trod enc Tryd.prog w base spare held n 34 [c0] = some y0 from g0)
      obtain rfl := List.cons.inj e0 |>.1
      have g1 := hg 1 _ rfl
      rw [o1, k1] at g1
      obtain ⟨n1, e1, _, w1⟩ := DataW.trod_int Tryd.underlying35 (show DataW.trod enc Tryd.prog w base spare held n 35 [c1] = some y1 from g1)
      obtain rfl := List.cons.inj e1 |>.1
      have g2 := hg 2 _ rfl
      rw [o2, k2] at g2
      obtain ⟨n2, e2, _, w2⟩ := DataW.trod_int Tryd.underlying3 (show DataW.trod enc Tryd.prog w base spare held n 3 [c2] = some y2 from g2)
      obtain rfl := List.cons.inj e2 |>.1
      have g3 := hg 3 _ rfl
      rw [o3, k3] at g3
      obtain ⟨n3, e3, _, w3⟩ := DataW.trod_int Tryd.underlying3 (show DataW.trod enc Tryd.prog w base spare held n 3 [c3] = some y3 from g3)
      obtain rfl := List.cons.inj e3 |>.1
      have g4 := hg 4 _ rfl
      rw [o4, k4] at g4
      obtain ⟨n4, e4, _, w4⟩ := DataW.trod_int Tryd.underlying3 (show DataW.trod enc Tryd.prog w base spare held n 3 [c4] = some y4 from g4)
      obtain rfl := List.cons.inj e4 |>.1
      have g5 := hg 5 _ rfl
      rw [o5, k5] at g5
      obtain ⟨n5, e5, _, w5⟩ := DataW.trod_int Tryd.underlying3 (show DataW.trod enc Tryd.prog w base spare held n 3 [c5] = some y5 from g5)
      obtain rfl := List.cons.inj e5 |>.1
      have g6 := hg 6 _ rfl
      rw [o6, k6] at g6
      obtain ⟨n6, e6, _, w6⟩ := DataW.trod_int Tryd.underlying24 (show DataW.trod enc Tryd.prog w base spare held n 24 [c6] = some y6 from g6)
      obtain rfl := List.cons.inj e6 |>.1
      have g7 := hg 7 _ rfl
      rw [o7, k7] at g7
      obtain ⟨n7, e7, _, w7⟩ := DataW.trod_int Tryd.underlying3 (show DataW.trod enc Tryd.prog w base spare held n 3 [c7] = some y7 from g7)
      obtain rfl := List.cons.inj e7 |>.1
      exact ⟨⟨n0, n1, n2, n3, n4, n5, n6, n7⟩, rfl, w0, w1, w2, w3, w4, w5, w6, w7⟩

/-- A cell's whole number. -/
def numAt (w : World) (a : Addr) : Int := match w.cell? a with | some (.int _ n) => n | _ => 0
def elAt37 (w : World) (a : Addr) (i : Nat) : S37 := ⟨numAt w (a.add (i * 8 + 0)), numAt w (a.add (i * 8 + 1)), numAt w (a.add (i * 8 + 2)), numAt w (a.add (i * 8 + 3)), numAt w (a.add (i * 8 + 4)), numAt w (a.add (i * 8 + 5)), numAt w (a.add (i * 8 + 6)), numAt w (a.add (i * 8 + 7))⟩

set_option maxRecDepth 100000 in
theorem open_sl37 {H : Type} {enc : TypeId × Value → H} {w : World} {base : Nat} {spare : Nat → Bool} {held : Bool} {fuel : Nat} {A : Option Addr} {len cap : Nat} {x : DataW H × List MemPlace} (h : DataW.trod enc Tryd.prog w base spare held fuel 22 [.slice A len cap] = some x) :
    ∃ l : List S37, l.length = len ∧ Kd.C k37 w A l.length l ∧ l.length ≤ cap ∧ l.length ≤ maxLen ∧ ∀ y ∈ l, y.wf := by
  have he := Tryd.underlying37
  obtain ⟨hone, hsz, hC, t0, t1, t2, t3, t4, t5, t6, t7⟩ := hone37 _ he
  rcases open_slice Tryd.underlying22 h with ⟨hcs, _⟩ | ⟨a, len', cap', m, n, D, Pl, hcs, hb, hl, hm, hmm, hx, hi⟩
  · injection hcs with hcs _
    injection hcs with e1 e2 e3
    subst e1 e2 e3
    exact ⟨[], rfl, ⟨rfl, by simp, fun h => by simp at h⟩, by simp, by simp, fun y hy => by cases hy⟩
  · injection hcs with hcs _
    injection hcs with e1 e2 e3
    subst e1 e2 e3
    have hle : len ≤ m := by rw [hmm]; split <;> omega
    have key : ∀ i, i < len → (∀ j, j < 8 → ∃ k q, w.cell? (a.add (i * 8 + j)) = some (.int k q)) ∧ w.cell? (a.add (i * 8 + 0)) = some (.int .i64 (elAt37 w a i).f0) ∧ w.cell? (a.add (i * 8 + 1)) = some (.int .i64 (elAt37 w a i).f1) ∧ w.cell? (a.add (i * 8 + 2)) = some (.int .i64 (elAt37 w a i).f2) ∧ w.cell? (a.add (i * 8 + 3)) = some (.int .i64 (elAt37 w a i).f3) ∧ w.cell? (a.add (i * 8 + 4)) = some (.int .i64 (elAt37 w a i).f4) ∧ w.cell? (a.add (i * 8 + 5)) = some (.int .i64 (elAt37 w a i).f5) ∧ w.cell? (a.add (i * 8 + 6)) = some (.int .u64 (elAt37 w a i).f6) ∧ w.cell? (a.add (i * 8 + 7)) = some (.int .i64 (elAt37 w a i).f7) ∧ (elAt37 w a i).wf := by
      intro i hil
      obtain ⟨cs', hc, ht'⟩ := hi i (by omega)
      rw [hC] at hc
      obtain ⟨ys, n', hn', hy, hlen, hyl, hf⟩ := DataW.trod_struct he ht'
      obtain ⟨_, hcl, hat⟩ := World.cells?_some hc
      match cs', hcl with
      | [c0, c1, c2, c3, c4, c5, c6, c7], _ =>
      match ys, hyl.trans hsz with
      | [y0, y1, y2, y3, y4, y5, y6, y7], _ =>
        obtain ⟨o0, k0⟩ := hone_of hone 0 _ rfl
        have g0 := hf 0 _ rfl
        rw [o0, k0] at g0
        obtain ⟨n0, e0, _, w0⟩ := DataW.trod_int Tryd.underlying34 (show DataW.trod enc Tryd.prog w base spare held n' 34 [c0] = some y0 from g0)
        obtain rfl := List.cons.inj e0 |>.1
        have q0 := hat 0 (by decide)
        rw [Go.Deep.add_add] at q0
        replace q0 : w.cell? (a.add (i * 8 + 0)) = some (.int .i64 n0) := by first | exact q0 | (rw [hC] at q0; exact q0)
        obtain ⟨o1, k1⟩ := hone_of hone 1 _ rfl
        have g1 := hf 1 _ rfl
        rw [o1, k1] at g1
        obtain ⟨n1, e1, _, w1⟩ := DataW.trod_int Tryd.underlying35 (show DataW.trod enc Tryd.prog w base spare held n' 35 [c1] = some y1 from g1)
        obtain rfl := List.cons.inj e1 |>.1
        have q1 := hat 1 (by decide)
        rw [Go.Deep.add_add] at q1
        replace q1 : w.cell? (a.add (i * 8 + 1)) = some (.int .i64 n1) := by first | exact q1 | (rw [hC] at q1; exact q1)
        obtain ⟨o2, k2⟩ := hone_of hone 2 _ rfl
        have g2 := hf 2 _ rfl
        rw [o2, k2] at g2
        obtain ⟨n2, e2, _, w2⟩ := DataW.trod_int Tryd.underlying3 (show DataW.trod enc Tryd.prog w base spare held n' 3 [c2] = some y2 from g2)
        obtain rfl := List.cons.inj e2 |>.1
        have q2 := hat 2 (by decide)
        rw [Go.Deep.add_add] at q2
        replace q2 : w.cell? (a.add (i * 8 + 2)) = some (.int .i64 n2) := by first | exact q2 | (rw [hC] at q2; exact q2)
        obtain ⟨o3, k3⟩ := hone_of hone 3 _ rfl
        have g3 := hf 3 _ rfl
        rw [o3, k3] at g3
        obtain ⟨n3, e3, _, w3⟩ := DataW.trod_int Tryd.underlying3 (show DataW.trod enc Tryd.prog w base spare held n' 3 [c3] = some y3 from g3)
        obtain rfl := List.cons.inj e3 |>.1
        have q3 := hat 3 (by decide)
        rw [Go.Deep.add_add] at q3
        replace q3 : w.cell? (a.add (i * 8 + 3)) = some (.int .i64 n3) := by first | exact q3 | (rw [hC] at q3; exact q3)
        obtain ⟨o4, k4⟩ := hone_of hone 4 _ rfl
        have g4 := hf 4 _ rfl
        rw [o4, k4] at g4
        obtain ⟨n4, e4, _, w4⟩ := DataW.trod_int Tryd.underlying3 (show DataW.trod enc Tryd.prog w base spare held n' 3 [c4] = some y4 from g4)
        obtain rfl := List.cons.inj e4 |>.1
        have q4 := hat 4 (by decide)
        rw [Go.Deep.add_add] at q4
        replace q4 : w.cell? (a.add (i * 8 + 4)) = some (.int .i64 n4) := by first | exact q4 | (rw [hC] at q4; exact q4)
        obtain ⟨o5, k5⟩ := hone_of hone 5 _ rfl
        have g5 := hf 5 _ rfl
        rw [o5, k5] at g5
        obtain ⟨n5, e5, _, w5⟩ := DataW.trod_int Tryd.underlying3 (show DataW.trod enc Tryd.prog w base spare held n' 3 [c5] = some y5 from g5)
        obtain rfl := List.cons.inj e5 |>.1
        have q5 := hat 5 (by decide)
        rw [Go.Deep.add_add] at q5
        replace q5 : w.cell? (a.add (i * 8 + 5)) = some (.int .i64 n5) := by first | exact q5 | (rw [hC] at q5; exact q5)
        obtain ⟨o6, k6⟩ := hone_of hone 6 _ rfl
        have g6 := hf 6 _ rfl
        rw [o6, k6] at g6
        obtain ⟨n6, e6, _, w6⟩ := DataW.trod_int Tryd.underlying24 (show DataW.trod enc Tryd.prog w base spare held n' 24 [c6] = some y6 from g6)
        obtain rfl := List.cons.inj e6 |>.1
        have q6 := hat 6 (by decide)
        rw [Go.Deep.add_add] at q6
        replace q6 : w.cell? (a.add (i * 8 + 6)) = some (.int .u64 n6) := by first | exact q6 | (rw [hC] at q6; exact q6)
        obtain ⟨o7, k7⟩ := hone_of hone 7 _ rfl
        have g7 := hf 7 _ rfl
        rw [o7, k7] at g7
        obtain ⟨n7, e7, _, w7⟩ := DataW.trod_int Tryd.underlying3 (show DataW.trod enc Tryd.prog w base spare held n' 3 [c7] = some y7 from g7)
        obtain rfl := List.cons.inj e7 |>.1
        have q7 := hat 7 (by decide)
        rw [Go.Deep.add_add] at q7
        replace q7 : w.cell? (a.add (i * 8 + 7)) = some (.int .i64 n7) := by first | exact q7 | (rw [hC] at q7; exact q7)
        have z : ∀ b k q, w.cell? b = some (.int k q) → numAt w b = q := fun b k q e => by unfold numAt; rw [e]
        have zz : elAt37 w a i = ⟨n0, n1, n2, n3, n4, n5, n6, n7⟩ := by unfold elAt37; rw [z _ _ _ q0, z _ _ _ q1, z _ _ _ q2, z _ _ _ q3, z _ _ _ q4, z _ _ _ q5, z _ _ _ q6, z _ _ _ q7]
        rw [zz]
        refine ⟨fun j hj => ?_, q0, q1, q2, q3, q4, q5, q6, q7, w0, w1, w2, w3, w4, w5, w6, w7⟩
        match j, hj with
        | 0, _ => exact ⟨_, _, q0⟩
        | 1, _ => exact ⟨_, _, q1⟩
        | 2, _ => exact ⟨_, _, q2⟩
        | 3, _ => exact ⟨_, _, q3⟩
        | 4, _ => exact ⟨_, _, q4⟩
        | 5, _ => exact ⟨_, _, q5⟩
        | 6, _ => exact ⟨_, _, q6⟩
        | 7, _ => exact ⟨_, _, q7⟩
    refine ⟨(List.range len).map (elAt37 w a), by simp, ⟨rfl, by simp only [List.length_map, List.length_range]; unfold maxLen at hm; omega, fun h0 => ⟨a, rfl, fun j p hj => ?_⟩⟩, by simp; omega, by simp; omega, fun y hy => ?_⟩
    · rw [List.getElem?_map] at hj
      have hjl : j < len := by
        rcases Nat.lt_or_ge j len with g | g
        · exact g
        · rw [List.getElem?_eq_none (by simpa using g)] at hj
          simp at hj
      rw [List.getElem?_range hjl] at hj
      obtain rfl := Option.some.inj hj
      obtain ⟨_, q0, q1, q2, q3, q4, q5, q6, q7, _⟩ := key j hjl
      refine ⟨_, rfl, k37_mk w _, fun i u hu => ?_⟩
      match i, hu with
      | 0, hu => (obtain rfl := Option.some.inj hu; exact q0)
      | 1, hu => (obtain rfl := Option.some.inj hu; exact q1)
      | 2, hu => (obtain rfl := Option.some.inj hu; exact q2)
      | 3, hu => (obtain rfl := Option.some.inj hu; exact q3)
      | 4, hu => (obtain rfl := Option.some.inj hu; exact q4)
      | 5, hu => (obtain rfl := Option.some.inj hu; exact q5)
      | 6, hu => (obtain rfl := Option.some.inj hu; exact q6)
      | 7, hu => (obtain rfl := Option.some.inj hu; exact q7)
      | i + 8, hu => simp at hu
    · obtain ⟨i, hi', rfl⟩ := List.mem_map.1 hy
      exact (key i (List.mem_range.1 hi')).2.2.2.2.2.2.2.2.2

end Go.Proofs.YtepgpapljoelhaaDoor.PE

