/- TreeExpr: the walk. -/
import Derived.Test.YthboknkpgbfmoaaDoorWalkTreeTight
import Derived.Test.YthboknkpgbfmoaaDoorReg12
import Derived.Deep.RegionWith
namespace Go.Proofs.YthboknkpgbfmoaaDoor.PQ
open Go.RowKit Go.Lib Go.Proofs.YthboknkpgbfmoaaDoorW.PrintWords
set_option linter.unusedVariables false
set_option linter.unusedSimpArgs false

theorem own_eq (q : Nat) (h : q < (⟨#[54, 54, 55, 52, 49, 50, 53, 53, 51, 51]⟩ : ByteArray).size) : ((((⟨#[54, 54, 55, 52, 49, 50, 53, 53, 51, 51]⟩ : ByteArray)[q]'h).toNat : Int) - 48) % 256 = tightOf q := by
  have h' : q < 10 := h
  rcases (show q = 0 ∨ q = 1 ∨ q = 2 ∨ q = 3 ∨ q = 4 ∨ q = 5 ∨ q = 6 ∨ q = 7 ∨ q = 8 ∨ q = 9 by omega) with e | e | e | e | e | e | e | e | e | e <;> subst e <;> rfl
/-- A tree's text, from any world behind w0. -/
def SayAt (w0 : World) (t : Tree) (X : EV) : Prop := ∀ (k : Int) (w' : World), 0 ≤ k → k ≤ 20 → Below w0.heap.size w0 w' → Calls Tryd.prog 7 #[X.val, .int .i64 k] w' (Says w' (txt t k))
theorem sayAt {w0 : World} {t : Tree} {X : EV} {B : Nat} (ha : At t B w0 X) (ho : ok t) (hb : bd t ≤ 1000000) (ht : TB w0) : SayAt w0 t X := fun k w' h0 h1 hw =>
  expr_all t X B w' k (ha.below hw) ho hb (ht.below hw) h0 h1
set_option maxHeartbeats 2000000 in
set_option maxRecDepth 100000 in
theorem walkExpr (W : World) (A : Option Addr) (n c : Nat) (hn : n ≤ c) (ha : Came W A n) (ht : TB W) (op tg : Nat) (hop : op < 256) (htg : tg < 256) :
    Calls Tryd.prog 3 #[.slice A n c, .int .u8 op, .int .u8 tg] W fun e W' => e = .returned (.bool true) ∧ Below W.heap.size W W' := by
  have HT := Lib.hid ht
  have HA := Lib.hid ha
  clear ht ha
  go_enter Tryd.func3, Tryd.ntmps3
  go_wp2_with fail
  refine (awake_calls expr_all _ HT.out).mono ?_
  rintro e w1 ⟨rfl, hb1⟩
  have HB1 := Lib.hid hb1
  clear hb1
  go_wp2_with fail
  obtain ⟨k, hk⟩ : ∃ k, k = (min (n : Int) 60).toNat := ⟨_, rfl⟩
  have hkn : k ≤ n := by omega
  rw [← hk]
  have HM := Lib.hid (MK.new (Nat.le_trans hkn hn) (HA.out.ns hkn HB1.out))
  have HK := Lib.hid hk
  clear hk
  refine (sec_all w1.heap.size 3 1 _ (by omega) (by omega) (by omega) HM.out).mono ?_
  rintro e w2 ⟨T, x, rfl, hat, hok, hbd, hM2, hK2⟩
  have HM2 := Lib.hid hM2
  have HK2 := Lib.hid hK2
  have HAT := Lib.hid hat
  have HOT := Lib.hid hok
  have HBT := Lib.hid hbd
  clear hat hok hbd hM2 hK2
  go_wp2_with fail
  refine (sec_all w1.heap.size 3 1 _ (by omega) (by omega) (by omega) HM2.out).mono ?_
  rintro e w3 ⟨U, y, rfl, hat, hok, hbd, hM3, hK3⟩
  have HK3 := Lib.hid hK3
  have HAU := Lib.hid hat
  have HOU := Lib.hid hok
  have HBU := Lib.hid hbd
  clear hat hok hbd hM3 hK3
  go_wp2_with fail
  obtain ⟨o, ho⟩ : ∃ o, o = op % 10 := ⟨_, rfl⟩
  have ho10 : o < 10 := by omega
  have hoz : (op : Int) % 10 = (o : Int) := by omega
  have hlt : op % 10 < (⟨#[54, 54, 55, 52, 49, 50, 53, 53, 51, 51]⟩ : ByteArray).size := by show _ < 10; omega
  obtain ⟨bq, hbq⟩ : ∃ bq, bq = (⟨#[54, 54, 55, 52, 49, 50, 53, 53, 51, 51]⟩ : ByteArray)[op % 10]'hlt := ⟨_, rfl⟩
  rw [← hbq]
  have hown0 : ((bq.toNat : Int) - 48) % 256 = tightOf o := by rw [hbq, ho]; exact own_eq _ hlt
  generalize ((bq.toNat : Int) - 48) % 256 = t48 at *
  subst hown0
  clear hbq hlt
  rw [hoz]
  clear hoz ho
  obtain ⟨G, hG⟩ : ∃ G, G = w3.heap.size := ⟨_, rfl⟩
  obtain ⟨E, hE⟩ : ∃ E : EV, E = ⟨3, o, ⟨#[]⟩, 0, some ⟨G + 1 + 1, 0, none⟩, 2⟩ := ⟨_, rfl⟩
  obtain ⟨w0, hw0⟩ : ∃ w0, w0 = ((((w3.alloc (row1 x)).alloc (row1 y)).alloc (row2 x y)).alloc (row1 ⟨3, o, ⟨#[]⟩, 0, some ⟨G + 1 + 1, 0, none⟩, 2⟩)).alloc (.cells #[.string ⟨#[43]⟩, .string ⟨#[45]⟩, .string ⟨#[42]⟩, .string ⟨#[38]⟩, .string ⟨#[124]⟩, .string ⟨#[94]⟩, .string ⟨#[60, 60]⟩, .string ⟨#[62, 62]⟩, .string ⟨#[61, 61]⟩, .string ⟨#[60]⟩] 9) := ⟨_, rfl⟩
  have hBw : Below w3.heap.size w3 w0 := by
    rw [hw0]
    repeat' (first | exact Below.refl _ _ | refine Below.alloc ?_ (by simp; try omega) _)
  have hBW3 : Below W.heap.size W w3 := HB1.out.trans (((Below.refl _ _).alloc (Nat.le_refl _) _ |>.trans (HK2.out.below.trans HK3.out.below)).mono HB1.out.size)
  have hBW : Below W.heap.size W w0 := hBW3.trans (hBw.mono hBW3.size)
  have rA : Row1 w0 G x := by
    rw [hw0]; exact blk_alloc (blk_alloc (blk_alloc (blk_alloc (new_at _ (by simp [hG])) _) _) _) _
  have rB : Row1 w0 (G + 1) y := by
    rw [hw0]; exact blk_alloc (blk_alloc (blk_alloc (new_at _ (by simp [hG])) _) _) _
  have rAB : Row2 w0 (G + 1 + 1) x y := by
    rw [hw0]; exact blk_alloc (blk_alloc (new_at _ (by simp [hG])) _) _
  have rE : Row1 w0 (G + 1 + 1 + 1) E := by
    rw [hw0, hE]; exact blk_alloc (new_at _ (by simp [hG])) _
  have rS : w0.heap[G + 1 + 1 + 1 + 1]? = some (.cells (signs.map Value.string).toArray 9 (0, 0)) := by
    rw [hw0]; exact new_at _ (by simp [hG])
  have hl2 : w1.heap.size < w2.heap.size := HM2.out.lt
  have aT3 : At T w1.heap.size w3 x := (HAT.out.kept HK3.out (by simp)).more (by simp)
  have aT : At T w1.heap.size w0 x := aT3.below hBw
  have aU : At U w1.heap.size w0 y := (HAU.out.more (by omega)).below hBw
  have aE : At (.bin o T U) 0 w0 E := ⟨_, _, _, Nat.zero_le _, hE, rAB, aT.more (Nat.zero_le _), aU.more (Nat.zero_le _)⟩
  have bT : bd T ≤ 9700 := HBT.out
  have bU : bd U ≤ 9700 := HBU.out
  have hT0 := HT.out.below hBW
  have SA := Lib.hid (sayAt aT HOT.out (by omega) hT0)
  have SB := Lib.hid (sayAt aU HOU.out (by omega) hT0)
  have SE := Lib.hid (sayAt aE ⟨ho10, HOT.out, HOU.out⟩ (by simp only [bd]; omega) hT0)
  have HRA := Lib.hid rA
  have HRB := Lib.hid rB
  have HRE := Lib.hid rE
  have HSG := Lib.hid (sign_cell rS o ho10)
  have HBW := Lib.hid hBW
  have HTA := Lib.hid aT
  have HTU := Lib.hid aU
  have HT0 := Lib.hid hT0
  have HW := Lib.hid hw0
  have HG := Lib.hid hG
  have HE := Lib.hid hE
  obtain ⟨tb0, tb1⟩ := tight_bd o
  have tp := tight_pos o ho10
  obtain ⟨own, hown⟩ : ∃ own, own = tightOf o := ⟨_, rfl⟩
  have HOWN := Lib.hid hown
  obtain ⟨sg, hsg⟩ : ∃ sg, sg = signOf o := ⟨_, rfl⟩
  have zsg : sg.size ≤ 2 := by rw [hsg]; exact sign_sz o
  have HSGG := Lib.hid hsg
  obtain ⟨ra, hra⟩ : ∃ ra, ra = txt T own := ⟨_, rfl⟩
  have zra : ra.size ≤ 9700 := by rw [hra]; exact Nat.le_trans (txt_size T HOT.out _) bT
  obtain ⟨rb, hrb⟩ : ∃ rb, rb = txt U (own + 1) := ⟨_, rfl⟩
  have zrb : rb.size ≤ 9700 := by rw [hrb]; exact Nat.le_trans (txt_size U HOU.out _) bU
  have HRa := Lib.hid hra
  have HRb := Lib.hid hrb
  rw [← hown] at tb0 tb1 tp ⊢
  clear hBw hBW3 hBW rA rB rAB rE rS aT3 aT aU aE hT0 hw0 hG hE hown hsg hra hrb hl2
  rw [← HG.out]
  have hx := Row1.facts HRA.out
  have hy := Row1.facts HRB.out
  have CA := Lib.hid hx
  have CB := Lib.hid hy
  obtain ⟨x0, x1, x2, x3, x4, x5⟩ := hx
  obtain ⟨y0, y1, y2, y3, y4, y5⟩ := hy
  have s0 := HSG.out
  rw [← HSGG.out] at s0
  have HS0 := Lib.hid s0
  have o0 : (0 : Int) ≤ (o : Int) := by omega
  have o1 : (o : Int) < 10 := by omega
  have q1 : ¬ (9223372036854775807 < ra.size + 1) := by omega
  have q2 : ¬ (9223372036854775807 < ra.size + 1 + sg.size) := by omega
  have q3 : ¬ (9223372036854775807 < ra.size + 1 + sg.size + 1) := by omega
  have q4 : ¬ (9223372036854775807 < ra.size + 1 + sg.size + 1 + rb.size) := by omega
  have q5 : IntKind.i64.wrap (own + 1) = own + 1 := IntWalk.i64_in _ (by omega)
  rw [← HW.out]
  have HALL : Hid (∀ w', Below w0.heap.size w0 w' → Below w0.heap.size w0 w' ∧ w'.cell? ⟨G, 0, none⟩ = some (.int .i64 x.k) ∧ w'.cell? ⟨G, 1, none⟩ = some (.int .i64 x.o) ∧ w'.cell? ⟨G, 2, none⟩ = some (.string x.s) ∧ w'.cell? ⟨G, 3, none⟩ = some (.int .u64 x.v) ∧ w'.cell? ⟨G, 4, none⟩ = some (.slice x.A x.n x.n) ∧ w'.cell? ⟨G, 5, none⟩ = some (.int .i64 0) ∧ w'.cell? ⟨G + 1, 0, none⟩ = some (.int .i64 y.k) ∧ w'.cell? ⟨G + 1, 1, none⟩ = some (.int .i64 y.o) ∧ w'.cell? ⟨G + 1, 2, none⟩ = some (.string y.s) ∧ w'.cell? ⟨G + 1, 3, none⟩ = some (.int .u64 y.v) ∧ w'.cell? ⟨G + 1, 4, none⟩ = some (.slice y.A y.n y.n) ∧ w'.cell? ⟨G + 1, 5, none⟩ = some (.int .i64 0) ∧ w'.cell? ⟨G + 1 + 1 + 1 + 1, o, none⟩ = some (.string sg)) := Lib.hid fun w' hw => by
    obtain ⟨a0, a1, a2, a3, a4, a5⟩ := Row1.facts (blk_below HRA.out hw)
    obtain ⟨b0, b1, b2, b3, b4, b5⟩ := Row1.facts (blk_below HRB.out hw)
    exact ⟨hw, a0, a1, a2, a3, a4, a5, b0, b1, b2, b3, b4, b5, (hw.cell (World.block_lt_of_cell? w0 _ HS0.out)).trans HS0.out⟩
  have HA1 : Hid (∀ w', Below w0.heap.size w0 w' → Calls Tryd.prog 7 #[x.val, .int .i64 own] w' (Says w' ra)) := Lib.hid fun w' hw => by rw [HRa.out]; exact SA.out own w' (by omega) (by omega) hw
  have HA2 : Hid (∀ w', Below w0.heap.size w0 w' → Calls Tryd.prog 7 #[y.val, .int .i64 (own + 1)] w' (Says w' rb)) := Lib.hid fun w' hw => by rw [HRb.out]; exact SB.out (own + 1) w' (by omega) (by omega) hw
  go_region_held3 (fun w' => Below w0.heap.size w0 w' ∧ w'.cell? ⟨G, 0, none⟩ = some (.int .i64 x.k) ∧ w'.cell? ⟨G, 1, none⟩ = some (.int .i64 x.o) ∧ w'.cell? ⟨G, 2, none⟩ = some (.string x.s) ∧ w'.cell? ⟨G, 3, none⟩ = some (.int .u64 x.v) ∧ w'.cell? ⟨G, 4, none⟩ = some (.slice x.A x.n x.n) ∧ w'.cell? ⟨G, 5, none⟩ = some (.int .i64 0) ∧ w'.cell? ⟨G + 1, 0, none⟩ = some (.int .i64 y.k) ∧ w'.cell? ⟨G + 1, 1, none⟩ = some (.int .i64 y.o) ∧ w'.cell? ⟨G + 1, 2, none⟩ = some (.string y.s) ∧ w'.cell? ⟨G + 1, 3, none⟩ = some (.int .u64 y.v) ∧ w'.cell? ⟨G + 1, 4, none⟩ = some (.slice y.A y.n y.n) ∧ w'.cell? ⟨G + 1, 5, none⟩ = some (.int .i64 0) ∧ w'.cell? ⟨G + 1 + 1 + 1 + 1, o, none⟩ = some (.string sg))
    (first
      | exact HALL.out _ (Below.refl _ _).drew
      | (go_split_ands; exact HALL.out _ (by assumption))
      | (go_split_ands; exact HALL.out _ (Below.trans (by assumption : Below w0.heap.size w0 _) (hbz.out.mono (Below.size (by assumption : Below w0.heap.size w0 _))))))
    (first
      | ((go_at_call 7); go_split_ands; (with_reducible refine (HA1.out _ (by assumption)).mono ?_); rintro e w' ⟨rfl, hbz0⟩; have hbz := Lib.hid hbz0; clear hbz0)
      | ((go_at_call 7); go_split_ands; (with_reducible refine (HA2.out _ (by assumption)).mono ?_); rintro e w' ⟨rfl, hbz0⟩; have hbz := Lib.hid hbz0; clear hbz0))
  rename_i hh
  have hS := hh.1
  have HS5 := Lib.hid hS
  clear hS hh q1 q2 q3 q4 q5
  obtain ⟨B0, hB0⟩ : ∃ s : ByteArray, s = ra ++ ⟨#[32]⟩ ++ sg ++ ⟨#[32]⟩ ++ rb := ⟨_, rfl⟩
  rw [← hB0]
  have zB : B0.size ≤ 20000 := by
    rw [hB0]
    have e2 : (⟨#[32]⟩ : ByteArray).size = 1 := rfl
    simp only [ByteArray.size_append, e2]; omega
  have HB0 := Lib.hid hB0
  clear hB0
  obtain ⟨w5, hw5⟩ : ∃ w5, w5 = w' := ⟨_, rfl⟩
  by_cases hlt : own < (tg : Int) % 10
  · go_wp2_with fail
    obtain ⟨B1, hB1⟩ : ∃ s : ByteArray, s = ⟨#[40]⟩ ++ B0 ++ ⟨#[41]⟩ := ⟨_, rfl⟩
    rw [← hB1]
    have HB1' := Lib.hid hB1
    clear hB1
    refine region12u (x := x) (y := y) (blk_below HRA.out HS5.out) (blk_below HRB.out HS5.out) ?_
    intro s67 s68 s69 s70 s71 s72 s73 s74 s75 s76 s77 b1 b4 b9 b11 b12 b13 w6 hb6 hb h1 h2
    have hb06 : Below w0.heap.size w0 w6 := HS5.out.trans (hb6.mono HS5.out.size)
    have HB6 := Lib.hid (HBW.out.trans (hb06.mono HBW.out.size))
    have ht6 : TB w6 := HT0.out.below hb06
    have rx := Lib.hid (blk_below HRA.out hb06)
    have ry := Lib.hid (blk_below HRB.out hb06)
    have re := Lib.hid (blk_below HRE.out hb06)
    have rn := Lib.hid h2.1
    have rc := Lib.hid h2.2.1
    have rp := Lib.hid h2.2.2
    have aT6 := HTA.out.below hb06
    have aU6 := HTU.out.below hb06
    have bT : bd T ≤ 9700 := HBT.out
    have bU : bd U ≤ 9700 := HBU.out
    have aN : At (.not T) 0 w6 ⟨4, 0, ⟨#[]⟩, 0, some ⟨b1, 0, none⟩, 1⟩ := ⟨b1, x, Nat.zero_le _, rfl, h1.1, aT6.more (Nat.zero_le _)⟩
    have aC : At (.cell ⟨#[110]⟩ T) 0 w6 ⟨2, 0, ⟨#[110]⟩, 0, some ⟨b4, 0, none⟩, 1⟩ := ⟨b4, x, Nat.zero_le _, rfl, h1.2.1, aT6.more (Nat.zero_le _)⟩
    have aP : At (.pick T U T) 0 w6 ⟨5, 0, ⟨#[]⟩, 0, some ⟨b9, 0, none⟩, 3⟩ := ⟨b9, x, y, x, Nat.zero_le _, rfl, h1.2.2, aT6.more (Nat.zero_le _), aU6.more (Nat.zero_le _), aT6.more (Nat.zero_le _)⟩
    have e1 : (⟨#[110]⟩ : ByteArray).size = 1 := rfl
    have SN := sayAt aN HOT.out (by simp only [bd]; omega) ht6
    have SC := sayAt aC HOT.out (by simp only [bd, e1]; omega) ht6
    have SP := sayAt aP ⟨HOT.out, HOU.out, HOT.out⟩ (by simp only [bd]; omega) ht6
    obtain ⟨ra0, hra0⟩ : ∃ s, s = txt T 0 := ⟨_, rfl⟩
    obtain ⟨ra9, hra9⟩ : ∃ s, s = txt T 9 := ⟨_, rfl⟩
    obtain ⟨rb0, hrb0⟩ : ∃ s, s = txt U 0 := ⟨_, rfl⟩
    have zra0 : ra0.size ≤ 9700 := by rw [hra0]; exact Nat.le_trans (txt_size T HOT.out _) bT
    have zra9 : ra9.size ≤ 9700 := by rw [hra9]; exact Nat.le_trans (txt_size T HOT.out _) bT
    have zrb0 : rb0.size ≤ 9700 := by rw [hrb0]; exact Nat.le_trans (txt_size U HOU.out _) bU
    have tN : txt (.not T) 7 = ⟨#[126]⟩ ++ ra9 := by rw [hra9]; rfl
    have tC : txt (.cell ⟨#[110]⟩ T) 9 = ⟨#[110, 91]⟩ ++ ra0 ++ ⟨#[93]⟩ := by
      rw [hra0]
      have : (⟨#[110]⟩ ++ ⟨#[91]⟩ : ByteArray) = ⟨#[110, 91]⟩ := by decide
      rw [← this]
      rfl
    have tP : txt (.pick T U T) 9 = ⟨#[112, 105, 99, 107, 40]⟩ ++ ra0 ++ ⟨#[44, 32]⟩ ++ rb0 ++ ⟨#[44, 32]⟩ ++ ra0 ++ ⟨#[41]⟩ := by rw [hra0, hrb0]; rfl
    have tE : txt (.bin o T U) ((tg : Int) % 10) = B1 := by
      have e : txt (.bin o T U) ((tg : Int) % 10) = ⟨#[40]⟩ ++ bare o (txt T (tightOf o)) (txt U (tightOf o + 1)) ++ ⟨#[41]⟩ := if_pos (by rw [← HOWN.out]; omega)
      rw [e, ← HOWN.out, ← HRa.out, ← HRb.out, HB1'.out, HB0.out]
      unfold bare
      rw [← HSGG.out]
    have C0 : Hid (∀ w', Below w6.heap.size w6 w' → Calls Tryd.prog 7 #[x.val, .int .i64 0] w' (Says w' ra0)) := Lib.hid fun w' hw => by rw [hra0]; exact SA.out 0 w' (by omega) (by omega) (hb06.trans (hw.mono hb06.size))
    have C9 : Hid (∀ w', Below w6.heap.size w6 w' → Calls Tryd.prog 7 #[x.val, .int .i64 9] w' (Says w' ra9)) := Lib.hid fun w' hw => by rw [hra9]; exact SA.out 9 w' (by omega) (by omega) (hb06.trans (hw.mono hb06.size))
    have CB0 : Hid (∀ w', Below w6.heap.size w6 w' → Calls Tryd.prog 7 #[y.val, .int .i64 0] w' (Says w' rb0)) := Lib.hid fun w' hw => by rw [hrb0]; exact SB.out 0 w' (by omega) (by omega) (hb06.trans (hw.mono hb06.size))
    have eW : IntKind.i64.wrap ((tg : Int).tmod 10) = (tg : Int) % 10 := by
      rw [Int.tmod_eq_emod_of_nonneg (by omega)]
      exact IntWalk.i64_in _ (by omega)
    have CE : Hid (∀ w', Below w6.heap.size w6 w' → Calls Tryd.prog 7 #[E.val, .int .i64 (IntKind.i64.wrap ((tg : Int).tmod 10))] w' (Says w' B1)) := Lib.hid fun w' hw => by rw [← tE, eW]; exact SE.out _ w' (by omega) (by omega) (hb06.trans (hw.mono hb06.size))
    have CN : Hid (∀ w', Below w6.heap.size w6 w' → Calls Tryd.prog 7 #[EV.val ⟨4, 0, ⟨#[]⟩, 0, some ⟨b1, 0, none⟩, 1⟩, .int .i64 7] w' (Says w' (⟨#[126]⟩ ++ ra9))) := Lib.hid fun w' hw => by rw [← tN]; exact SN 7 w' (by omega) (by omega) hw
    have CC : Hid (∀ w', Below w6.heap.size w6 w' → Calls Tryd.prog 7 #[EV.val ⟨2, 0, ⟨#[110]⟩, 0, some ⟨b4, 0, none⟩, 1⟩, .int .i64 9] w' (Says w' (⟨#[110, 91]⟩ ++ ra0 ++ ⟨#[93]⟩))) := Lib.hid fun w' hw => by rw [← tC]; exact SC 9 w' (by omega) (by omega) hw
    have CP : Hid (∀ w', Below w6.heap.size w6 w' → Calls Tryd.prog 7 #[EV.val ⟨5, 0, ⟨#[]⟩, 0, some ⟨b9, 0, none⟩, 3⟩, .int .i64 9] w' (Says w' (⟨#[112, 105, 99, 107, 40]⟩ ++ ra0 ++ ⟨#[44, 32]⟩ ++ rb0 ++ ⟨#[44, 32]⟩ ++ ra0 ++ ⟨#[41]⟩))) := Lib.hid fun w' hw => by rw [← tP]; exact SP 9 w' (by omega) (by omega) hw
    clear hb6 hb h1 h2 hb06 ht6 aT6 aU6 aN aC aP SN SC SP hra0 hra9 hrb0 tN tC tP tE e1 bT bU eW
    have HALL6 : Hid (∀ w', Below w6.heap.size w6 w' → Below w6.heap.size w6 w' ∧ w'.cell? ⟨G, 0, none⟩ = some (.int .i64 x.k) ∧ w'.cell? ⟨G, 1, none⟩ = some (.int .i64 x.o) ∧ w'.cell? ⟨G, 2, none⟩ = some (.string x.s) ∧ w'.cell? ⟨G, 3, none⟩ = some (.int .u64 x.v) ∧ w'.cell? ⟨G, 4, none⟩ = some (.slice x.A x.n x.n) ∧ w'.cell? ⟨G, 5, none⟩ = some (.int .i64 0) ∧ w'.cell? ⟨G + 1, 0, none⟩ = some (.int .i64 y.k) ∧ w'.cell? ⟨G + 1, 1, none⟩ = some (.int .i64 y.o) ∧ w'.cell? ⟨G + 1, 2, none⟩ = some (.string y.s) ∧ w'.cell? ⟨G + 1, 3, none⟩ = some (.int .u64 y.v) ∧ w'.cell? ⟨G + 1, 4, none⟩ = some (.slice y.A y.n y.n) ∧ w'.cell? ⟨G + 1, 5, none⟩ = some (.int .i64 0) ∧ w'.cell? ⟨G + 1 + 1 + 1, 0, none⟩ = some (.int .i64 E.k) ∧ w'.cell? ⟨G + 1 + 1 + 1, 1, none⟩ = some (.int .i64 E.o) ∧ w'.cell? ⟨G + 1 + 1 + 1, 2, none⟩ = some (.string E.s) ∧ w'.cell? ⟨G + 1 + 1 + 1, 3, none⟩ = some (.int .u64 E.v) ∧ w'.cell? ⟨G + 1 + 1 + 1, 4, none⟩ = some (.slice E.A E.n E.n) ∧ w'.cell? ⟨G + 1 + 1 + 1, 5, none⟩ = some (.int .i64 0) ∧ w'.cell? ⟨b11, 0, none⟩ = some (.int .i64 4) ∧ w'.cell? ⟨b11, 1, none⟩ = some (.int .i64 0) ∧ w'.cell? ⟨b11, 2, none⟩ = some (.string ⟨#[]⟩) ∧ w'.cell? ⟨b11, 3, none⟩ = some (.int .u64 0) ∧ w'.cell? ⟨b11, 4, none⟩ = some (.slice (some ⟨b1, 0, none⟩) 1 1) ∧ w'.cell? ⟨b11, 5, none⟩ = some (.int .i64 0) ∧ w'.cell? ⟨b12, 0, none⟩ = some (.int .i64 2) ∧ w'.cell? ⟨b12, 1, none⟩ = some (.int .i64 0) ∧ w'.cell? ⟨b12, 2, none⟩ = some (.string ⟨#[110]⟩) ∧ w'.cell? ⟨b12, 3, none⟩ = some (.int .u64 0) ∧ w'.cell? ⟨b12, 4, none⟩ = some (.slice (some ⟨b4, 0, none⟩) 1 1) ∧ w'.cell? ⟨b12, 5, none⟩ = some (.int .i64 0) ∧ w'.cell? ⟨b13, 0, none⟩ = some (.int .i64 5) ∧ w'.cell? ⟨b13, 1, none⟩ = some (.int .i64 0) ∧ w'.cell? ⟨b13, 2, none⟩ = some (.string ⟨#[]⟩) ∧ w'.cell? ⟨b13, 3, none⟩ = some (.int .u64 0) ∧ w'.cell? ⟨b13, 4, none⟩ = some (.slice (some ⟨b9, 0, none⟩) 3 3) ∧ w'.cell? ⟨b13, 5, none⟩ = some (.int .i64 0)) := Lib.hid fun w' hw => by
      obtain ⟨rx0, rx1, rx2, rx3, rx4, rx5⟩ := Row1.facts (blk_below rx.out hw)
      obtain ⟨ry0, ry1, ry2, ry3, ry4, ry5⟩ := Row1.facts (blk_below ry.out hw)
      obtain ⟨re0, re1, re2, re3, re4, re5⟩ := Row1.facts (blk_below re.out hw)
      obtain ⟨rn0, rn1, rn2, rn3, rn4, rn5⟩ := Row1.facts (blk_below rn.out hw)
      obtain ⟨rc0, rc1, rc2, rc3, rc4, rc5⟩ := Row1.facts (blk_below rc.out hw)
      obtain ⟨rp0, rp1, rp2, rp3, rp4, rp5⟩ := Row1.facts (blk_below rp.out hw)
      exact ⟨hw, rx0, rx1, rx2, rx3, rx4, rx5, ry0, ry1, ry2, ry3, ry4, ry5, re0, re1, re2, re3, re4, re5, rn0, rn1, rn2, rn3, rn4, rn5, rc0, rc1, rc2, rc3, rc4, rc5, rp0, rp1, rp2, rp3, rp4, rp5⟩
    dsimp only
    go_wp2_with fail
    have q1 : ¬ (9223372036854775807 < 1 + ra9.size) := by omega
    have q2 : ¬ (9223372036854775807 < 2 + ra0.size) := by omega
    have q3 : ¬ (9223372036854775807 < 2 + ra0.size + 1) := by omega
    have q4 : ¬ (9223372036854775807 < 5 + ra0.size) := by omega
    have q5 : ¬ (9223372036854775807 < 5 + ra0.size + 2) := by omega
    have q6 : ¬ (9223372036854775807 < 5 + ra0.size + 2 + rb0.size) := by omega
    have q7 : ¬ (9223372036854775807 < 5 + ra0.size + 2 + rb0.size + 2) := by omega
    have q8 : ¬ (9223372036854775807 < 5 + ra0.size + 2 + rb0.size + 2 + ra0.size) := by omega
    have q9 : ¬ (9223372036854775807 < 5 + ra0.size + 2 + rb0.size + 2 + ra0.size + 1) := by omega
    go_region_held3 (fun w' => Below w6.heap.size w6 w' ∧ w'.cell? ⟨G, 0, none⟩ = some (.int .i64 x.k) ∧ w'.cell? ⟨G, 1, none⟩ = some (.int .i64 x.o) ∧ w'.cell? ⟨G, 2, none⟩ = some (.string x.s) ∧ w'.cell? ⟨G, 3, none⟩ = some (.int .u64 x.v) ∧ w'.cell? ⟨G, 4, none⟩ = some (.slice x.A x.n x.n) ∧ w'.cell? ⟨G, 5, none⟩ = some (.int .i64 0) ∧ w'.cell? ⟨G + 1, 0, none⟩ = some (.int .i64 y.k) ∧ w'.cell? ⟨G + 1, 1, none⟩ = some (.int .i64 y.o) ∧ w'.cell? ⟨G + 1, 2, none⟩ = some (.string y.s) ∧ w'.cell? ⟨G + 1, 3, none⟩ = some (.int .u64 y.v) ∧ w'.cell? ⟨G + 1, 4, none⟩ = some (.slice y.A y.n y.n) ∧ w'.cell? ⟨G + 1, 5, none⟩ = some (.int .i64 0) ∧ w'.cell? ⟨G + 1 + 1 + 1, 0, none⟩ = some (.int .i64 E.k) ∧ w'.cell? ⟨G + 1 + 1 + 1, 1, none⟩ = some (.int .i64 E.o) ∧ w'.cell? ⟨G + 1 + 1 + 1, 2, none⟩ = some (.string E.s) ∧ w'.cell? ⟨G + 1 + 1 + 1, 3, none⟩ = some (.int .u64 E.v) ∧ w'.cell? ⟨G + 1 + 1 + 1, 4, none⟩ = some (.slice E.A E.n E.n) ∧ w'.cell? ⟨G + 1 + 1 + 1, 5, none⟩ = some (.int .i64 0) ∧ w'.cell? ⟨b11, 0, none⟩ = some (.int .i64 4) ∧ w'.cell? ⟨b11, 1, none⟩ = some (.int .i64 0) ∧ w'.cell? ⟨b11, 2, none⟩ = some (.string ⟨#[]⟩) ∧ w'.cell? ⟨b11, 3, none⟩ = some (.int .u64 0) ∧ w'.cell? ⟨b11, 4, none⟩ = some (.slice (some ⟨b1, 0, none⟩) 1 1) ∧ w'.cell? ⟨b11, 5, none⟩ = some (.int .i64 0) ∧ w'.cell? ⟨b12, 0, none⟩ = some (.int .i64 2) ∧ w'.cell? ⟨b12, 1, none⟩ = some (.int .i64 0) ∧ w'.cell? ⟨b12, 2, none⟩ = some (.string ⟨#[110]⟩) ∧ w'.cell? ⟨b12, 3, none⟩ = some (.int .u64 0) ∧ w'.cell? ⟨b12, 4, none⟩ = some (.slice (some ⟨b4, 0, none⟩) 1 1) ∧ w'.cell? ⟨b12, 5, none⟩ = some (.int .i64 0) ∧ w'.cell? ⟨b13, 0, none⟩ = some (.int .i64 5) ∧ w'.cell? ⟨b13, 1, none⟩ = some (.int .i64 0) ∧ w'.cell? ⟨b13, 2, none⟩ = some (.string ⟨#[]⟩) ∧ w'.cell? ⟨b13, 3, none⟩ = some (.int .u64 0) ∧ w'.cell? ⟨b13, 4, none⟩ = some (.slice (some ⟨b9, 0, none⟩) 3 3) ∧ w'.cell? ⟨b13, 5, none⟩ = some (.int .i64 0))
      (first
        | exact HALL6.out _ (Below.refl _ _).drew
        | (go_split_ands; exact HALL6.out _ (by assumption))
        | (go_split_ands; exact HALL6.out _ (Below.trans (by assumption : Below w6.heap.size w6 _) (hbz.out.mono (Below.size (by assumption : Below w6.heap.size w6 _))))))
      (first
        | ((go_at_call 7); go_split_ands; (first
            | ((with_reducible refine (CE.out _ (by assumption)).mono ?_); rintro e w' ⟨rfl, hbz0⟩; have hbz := Lib.hid hbz0; clear hbz0)
            | ((with_reducible refine (CN.out _ (by assumption)).mono ?_); rintro e w' ⟨rfl, hbz0⟩; have hbz := Lib.hid hbz0; clear hbz0)
            | ((with_reducible refine (C9.out _ (by assumption)).mono ?_); rintro e w' ⟨rfl, hbz0⟩; have hbz := Lib.hid hbz0; clear hbz0)
            | ((with_reducible refine (CC.out _ (by assumption)).mono ?_); rintro e w' ⟨rfl, hbz0⟩; have hbz := Lib.hid hbz0; clear hbz0)
            | ((with_reducible refine (CP.out _ (by assumption)).mono ?_); rintro e w' ⟨rfl, hbz0⟩; have hbz := Lib.hid hbz0; clear hbz0)
            | ((with_reducible refine (C0.out _ (by assumption)).mono ?_); rintro e w' ⟨rfl, hbz0⟩; have hbz := Lib.hid hbz0; clear hbz0)
            | ((with_reducible refine (CB0.out _ (by assumption)).mono ?_); rintro e w' ⟨rfl, hbz0⟩; have hbz := Lib.hid hbz0; clear hbz0))))
    rename_i hh
    have hS := Lib.hid hh.1
    clear hh q1 q2 q3 q4 q5 q6 q7 q8 q9
    go_wp2
    go_ret
    exact ⟨rfl, HB6.out.trans (hS.out.mono HB6.out.size)⟩
  · go_wp2_with fail
    refine region12u (x := x) (y := y) (blk_below HRA.out HS5.out) (blk_below HRB.out HS5.out) ?_
    intro s67 s68 s69 s70 s71 s72 s73 s74 s75 s76 s77 b1 b4 b9 b11 b12 b13 w6 hb6 hb h1 h2
    have hb06 : Below w0.heap.size w0 w6 := HS5.out.trans (hb6.mono HS5.out.size)
    have HB6 := Lib.hid (HBW.out.trans (hb06.mono HBW.out.size))
    have ht6 : TB w6 := HT0.out.below hb06
    have rx := Lib.hid (blk_below HRA.out hb06)
    have ry := Lib.hid (blk_below HRB.out hb06)
    have re := Lib.hid (blk_below HRE.out hb06)
    have rn := Lib.hid h2.1
    have rc := Lib.hid h2.2.1
    have rp := Lib.hid h2.2.2
    have aT6 := HTA.out.below hb06
    have aU6 := HTU.out.below hb06
    have bT : bd T ≤ 9700 := HBT.out
    have bU : bd U ≤ 9700 := HBU.out
    have aN : At (.not T) 0 w6 ⟨4, 0, ⟨#[]⟩, 0, some ⟨b1, 0, none⟩, 1⟩ := ⟨b1, x, Nat.zero_le _, rfl, h1.1, aT6.more (Nat.zero_le _)⟩
    have aC : At (.cell ⟨#[110]⟩ T) 0 w6 ⟨2, 0, ⟨#[110]⟩, 0, some ⟨b4, 0, none⟩, 1⟩ := ⟨b4, x, Nat.zero_le _, rfl, h1.2.1, aT6.more (Nat.zero_le _)⟩
    have aP : At (.pick T U T) 0 w6 ⟨5, 0, ⟨#[]⟩, 0, some ⟨b9, 0, none⟩, 3⟩ := ⟨b9, x, y, x, Nat.zero_le _, rfl, h1.2.2, aT6.more (Nat.zero_le _), aU6.more (Nat.zero_le _), aT6.more (Nat.zero_le _)⟩
    have e1 : (⟨#[110]⟩ : ByteArray).size = 1 := rfl
    have SN := sayAt aN HOT.out (by simp only [bd]; omega) ht6
    have SC := sayAt aC HOT.out (by simp only [bd, e1]; omega) ht6
    have SP := sayAt aP ⟨HOT.out, HOU.out, HOT.out⟩ (by simp only [bd]; omega) ht6
    obtain ⟨ra0, hra0⟩ : ∃ s, s = txt T 0 := ⟨_, rfl⟩
    obtain ⟨ra9, hra9⟩ : ∃ s, s = txt T 9 := ⟨_, rfl⟩
    obtain ⟨rb0, hrb0⟩ : ∃ s, s = txt U 0 := ⟨_, rfl⟩
    have zra0 : ra0.size ≤ 9700 := by rw [hra0]; exact Nat.le_trans (txt_size T HOT.out _) bT
    have zra9 : ra9.size ≤ 9700 := by rw [hra9]; exact Nat.le_trans (txt_size T HOT.out _) bT
    have zrb0 : rb0.size ≤ 9700 := by rw [hrb0]; exact Nat.le_trans (txt_size U HOU.out _) bU
    have tN : txt (.not T) 7 = ⟨#[126]⟩ ++ ra9 := by rw [hra9]; rfl
    have tC : txt (.cell ⟨#[110]⟩ T) 9 = ⟨#[110, 91]⟩ ++ ra0 ++ ⟨#[93]⟩ := by
      rw [hra0]
      have : (⟨#[110]⟩ ++ ⟨#[91]⟩ : ByteArray) = ⟨#[110, 91]⟩ := by decide
      rw [← this]
      rfl
    have tP : txt (.pick T U T) 9 = ⟨#[112, 105, 99, 107, 40]⟩ ++ ra0 ++ ⟨#[44, 32]⟩ ++ rb0 ++ ⟨#[44, 32]⟩ ++ ra0 ++ ⟨#[41]⟩ := by rw [hra0, hrb0]; rfl
    have tE : txt (.bin o T U) ((tg : Int) % 10) = B0 := by
      have e : txt (.bin o T U) ((tg : Int) % 10) = bare o (txt T (tightOf o)) (txt U (tightOf o + 1)) := if_neg (by rw [← HOWN.out]; omega)
      rw [e, ← HOWN.out, ← HRa.out, ← HRb.out, HB0.out]
      unfold bare
      rw [← HSGG.out]
    have C0 : Hid (∀ w', Below w6.heap.size w6 w' → Calls Tryd.prog 7 #[x.val, .int .i64 0] w' (Says w' ra0)) := Lib.hid fun w' hw => by rw [hra0]; exact SA.out 0 w' (by omega) (by omega) (hb06.trans (hw.mono hb06.size))
    have C9 : Hid (∀ w', Below w6.heap.size w6 w' → Calls Tryd.prog 7 #[x.val, .int .i64 9] w' (Says w' ra9)) := Lib.hid fun w' hw => by rw [hra9]; exact SA.out 9 w' (by omega) (by omega) (hb06.trans (hw.mono hb06.size))
    have CB0 : Hid (∀ w', Below w6.heap.size w6 w' → Calls Tryd.prog 7 #[y.val, .int .i64 0] w' (Says w' rb0)) := Lib.hid fun w' hw => by rw [hrb0]; exact SB.out 0 w' (by omega) (by omega) (hb06.trans (hw.mono hb06.size))
    have eW : IntKind.i64.wrap ((tg : Int).tmod 10) = (tg : Int) % 10 := by
      rw [Int.tmod_eq_emod_of_nonneg (by omega)]
      exact IntWalk.i64_in _ (by omega)
    have CE : Hid (∀ w', Below w6.heap.size w6 w' → Calls Tryd.prog 7 #[E.val, .int .i64 (IntKind.i64.wrap ((tg : Int).tmod 10))] w' (Says w' B0)) := Lib.hid fun w' hw => by rw [← tE, eW]; exact SE.out _ w' (by omega) (by omega) (hb06.trans (hw.mono hb06.size))
    have CN : Hid (∀ w', Below w6.heap.size w6 w' → Calls Tryd.prog 7 #[EV.val ⟨4, 0, ⟨#[]⟩, 0, some ⟨b1, 0, none⟩, 1⟩, .int .i64 7] w' (Says w' (⟨#[126]⟩ ++ ra9))) := Lib.hid fun w' hw => by rw [← tN]; exact SN 7 w' (by omega) (by omega) hw
    have CC : Hid (∀ w', Below w6.heap.size w6 w' → Calls Tryd.prog 7 #[EV.val ⟨2, 0, ⟨#[110]⟩, 0, some ⟨b4, 0, none⟩, 1⟩, .int .i64 9] w' (Says w' (⟨#[110, 91]⟩ ++ ra0 ++ ⟨#[93]⟩))) := Lib.hid fun w' hw => by rw [← tC]; exact SC 9 w' (by omega) (by omega) hw
    have CP : Hid (∀ w', Below w6.heap.size w6 w' → Calls Tryd.prog 7 #[EV.val ⟨5, 0, ⟨#[]⟩, 0, some ⟨b9, 0, none⟩, 3⟩, .int .i64 9] w' (Says w' (⟨#[112, 105, 99, 107, 40]⟩ ++ ra0 ++ ⟨#[44, 32]⟩ ++ rb0 ++ ⟨#[44, 32]⟩ ++ ra0 ++ ⟨#[41]⟩))) := Lib.hid fun w' hw => by rw [← tP]; exact SP 9 w' (by omega) (by omega) hw
    clear hb6 hb h1 h2 hb06 ht6 aT6 aU6 aN aC aP SN SC SP hra0 hra9 hrb0 tN tC tP tE e1 bT bU eW
    have HALL6 : Hid (∀ w', Below w6.heap.size w6 w' → Below w6.heap.size w6 w' ∧ w'.cell? ⟨G, 0, none⟩ = some (.int .i64 x.k) ∧ w'.cell? ⟨G, 1, none⟩ = some (.int .i64 x.o) ∧ w'.cell? ⟨G, 2, none⟩ = some (.string x.s) ∧ w'.cell? ⟨G, 3, none⟩ = some (.int .u64 x.v) ∧ w'.cell? ⟨G, 4, none⟩ = some (.slice x.A x.n x.n) ∧ w'.cell? ⟨G, 5, none⟩ = some (.int .i64 0) ∧ w'.cell? ⟨G + 1, 0, none⟩ = some (.int .i64 y.k) ∧ w'.cell? ⟨G + 1, 1, none⟩ = some (.int .i64 y.o) ∧ w'.cell? ⟨G + 1, 2, none⟩ = some (.string y.s) ∧ w'.cell? ⟨G + 1, 3, none⟩ = some (.int .u64 y.v) ∧ w'.cell? ⟨G + 1, 4, none⟩ = some (.slice y.A y.n y.n) ∧ w'.cell? ⟨G + 1, 5, none⟩ = some (.int .i64 0) ∧ w'.cell? ⟨G + 1 + 1 + 1, 0, none⟩ = some (.int .i64 E.k) ∧ w'.cell? ⟨G + 1 + 1 + 1, 1, none⟩ = some (.int .i64 E.o) ∧ w'.cell? ⟨G + 1 + 1 + 1, 2, none⟩ = some (.string E.s) ∧ w'.cell? ⟨G + 1 + 1 + 1, 3, none⟩ = some (.int .u64 E.v) ∧ w'.cell? ⟨G + 1 + 1 + 1, 4, none⟩ = some (.slice E.A E.n E.n) ∧ w'.cell? ⟨G + 1 + 1 + 1, 5, none⟩ = some (.int .i64 0) ∧ w'.cell? ⟨b11, 0, none⟩ = some (.int .i64 4) ∧ w'.cell? ⟨b11, 1, none⟩ = some (.int .i64 0) ∧ w'.cell? ⟨b11, 2, none⟩ = some (.string ⟨#[]⟩) ∧ w'.cell? ⟨b11, 3, none⟩ = some (.int .u64 0) ∧ w'.cell? ⟨b11, 4, none⟩ = some (.slice (some ⟨b1, 0, none⟩) 1 1) ∧ w'.cell? ⟨b11, 5, none⟩ = some (.int .i64 0) ∧ w'.cell? ⟨b12, 0, none⟩ = some (.int .i64 2) ∧ w'.cell? ⟨b12, 1, none⟩ = some (.int .i64 0) ∧ w'.cell? ⟨b12, 2, none⟩ = some (.string ⟨#[110]⟩) ∧ w'.cell? ⟨b12, 3, none⟩ = some (.int .u64 0) ∧ w'.cell? ⟨b12, 4, none⟩ = some (.slice (some ⟨b4, 0, none⟩) 1 1) ∧ w'.cell? ⟨b12, 5, none⟩ = some (.int .i64 0) ∧ w'.cell? ⟨b13, 0, none⟩ = some (.int .i64 5) ∧ w'.cell? ⟨b13, 1, none⟩ = some (.int .i64 0) ∧ w'.cell? ⟨b13, 2, none⟩ = some (.string ⟨#[]⟩) ∧ w'.cell? ⟨b13, 3, none⟩ = some (.int .u64 0) ∧ w'.cell? ⟨b13, 4, none⟩ = some (.slice (some ⟨b9, 0, none⟩) 3 3) ∧ w'.cell? ⟨b13, 5, none⟩ = some (.int .i64 0)) := Lib.hid fun w' hw => by
      obtain ⟨rx0, rx1, rx2, rx3, rx4, rx5⟩ := Row1.facts (blk_below rx.out hw)
      obtain ⟨ry0, ry1, ry2, ry3, ry4, ry5⟩ := Row1.facts (blk_below ry.out hw)
      obtain ⟨re0, re1, re2, re3, re4, re5⟩ := Row1.facts (blk_below re.out hw)
      obtain ⟨rn0, rn1, rn2, rn3, rn4, rn5⟩ := Row1.facts (blk_below rn.out hw)
      obtain ⟨rc0, rc1, rc2, rc3, rc4, rc5⟩ := Row1.facts (blk_below rc.out hw)
      obtain ⟨rp0, rp1, rp2, rp3, rp4, rp5⟩ := Row1.facts (blk_below rp.out hw)
      exact ⟨hw, rx0, rx1, rx2, rx3, rx4, rx5, ry0, ry1, ry2, ry3, ry4, ry5, re0, re1, re2, re3, re4, re5, rn0, rn1, rn2, rn3, rn4, rn5, rc0, rc1, rc2, rc3, rc4, rc5, rp0, rp1, rp2, rp3, rp4, rp5⟩
    dsimp only
    go_wp2_with fail
    have q1 : ¬ (9223372036854775807 < 1 + ra9.size) := by omega
    have q2 : ¬ (9223372036854775807 < 2 + ra0.size) := by omega
    have q3 : ¬ (9223372036854775807 < 2 + ra0.size + 1) := by omega
    have q4 : ¬ (9223372036854775807 < 5 + ra0.size) := by omega
    have q5 : ¬ (9223372036854775807 < 5 + ra0.size + 2) := by omega
    have q6 : ¬ (9223372036854775807 < 5 + ra0.size + 2 + rb0.size) := by omega
    have q7 : ¬ (9223372036854775807 < 5 + ra0.size + 2 + rb0.size + 2) := by omega
    have q8 : ¬ (9223372036854775807 < 5 + ra0.size + 2 + rb0.size + 2 + ra0.size) := by omega
    have q9 : ¬ (9223372036854775807 < 5 + ra0.size + 2 + rb0.size + 2 + ra0.size + 1) := by omega
    go_region_held3 (fun w' => Below w6.heap.size w6 w' ∧ w'.cell? ⟨G, 0, none⟩ = some (.int .i64 x.k) ∧ w'.cell? ⟨G, 1, none⟩ = some (.int .i64 x.o) ∧ w'.cell? ⟨G, 2, none⟩ = some (.string x.s) ∧ w'.cell? ⟨G, 3, none⟩ = some (.int .u64 x.v) ∧ w'.cell? ⟨G, 4, none⟩ = some (.slice x.A x.n x.n) ∧ w'.cell? ⟨G, 5, none⟩ = some (.int .i64 0) ∧ w'.cell? ⟨G + 1, 0, none⟩ = some (.int .i64 y.k) ∧ w'.cell? ⟨G + 1, 1, none⟩ = some (.int .i64 y.o) ∧ w'.cell? ⟨G + 1, 2, none⟩ = some (.string y.s) ∧ w'.cell? ⟨G + 1, 3, none⟩ = some (.int .u64 y.v) ∧ w'.cell? ⟨G + 1, 4, none⟩ = some (.slice y.A y.n y.n) ∧ w'.cell? ⟨G + 1, 5, none⟩ = some (.int .i64 0) ∧ w'.cell? ⟨G + 1 + 1 + 1, 0, none⟩ = some (.int .i64 E.k) ∧ w'.cell? ⟨G + 1 + 1 + 1, 1, none⟩ = some (.int .i64 E.o) ∧ w'.cell? ⟨G + 1 + 1 + 1, 2, none⟩ = some (.string E.s) ∧ w'.cell? ⟨G + 1 + 1 + 1, 3, none⟩ = some (.int .u64 E.v) ∧ w'.cell? ⟨G + 1 + 1 + 1, 4, none⟩ = some (.slice E.A E.n E.n) ∧ w'.cell? ⟨G + 1 + 1 + 1, 5, none⟩ = some (.int .i64 0) ∧ w'.cell? ⟨b11, 0, none⟩ = some (.int .i64 4) ∧ w'.cell? ⟨b11, 1, none⟩ = some (.int .i64 0) ∧ w'.cell? ⟨b11, 2, none⟩ = some (.string ⟨#[]⟩) ∧ w'.cell? ⟨b11, 3, none⟩ = some (.int .u64 0) ∧ w'.cell? ⟨b11, 4, none⟩ = some (.slice (some ⟨b1, 0, none⟩) 1 1) ∧ w'.cell? ⟨b11, 5, none⟩ = some (.int .i64 0) ∧ w'.cell? ⟨b12, 0, none⟩ = some (.int .i64 2) ∧ w'.cell? ⟨b12, 1, none⟩ = some (.int .i64 0) ∧ w'.cell? ⟨b12, 2, none⟩ = some (.string ⟨#[110]⟩) ∧ w'.cell? ⟨b12, 3, none⟩ = some (.int .u64 0) ∧ w'.cell? ⟨b12, 4, none⟩ = some (.slice (some ⟨b4, 0, none⟩) 1 1) ∧ w'.cell? ⟨b12, 5, none⟩ = some (.int .i64 0) ∧ w'.cell? ⟨b13, 0, none⟩ = some (.int .i64 5) ∧ w'.cell? ⟨b13, 1, none⟩ = some (.int .i64 0) ∧ w'.cell? ⟨b13, 2, none⟩ = some (.string ⟨#[]⟩) ∧ w'.cell? ⟨b13, 3, none⟩ = some (.int .u64 0) ∧ w'.cell? ⟨b13, 4, none⟩ = some (.slice (some ⟨b9, 0, none⟩) 3 3) ∧ w'.cell? ⟨b13, 5, none⟩ = some (.int .i64 0))
      (first
        | exact HALL6.out _ (Below.refl _ _).drew
        | (go_split_ands; exact HALL6.out _ (by assumption))
        | (go_split_ands; exact HALL6.out _ (Below.trans (by assumption : Below w6.heap.size w6 _) (hbz.out.mono (Below.size (by assumption : Below w6.heap.size w6 _))))))
      (first
        | ((go_at_call 7); go_split_ands; (first
            | ((with_reducible refine (CE.out _ (by assumption)).mono ?_); rintro e w' ⟨rfl, hbz0⟩; have hbz := Lib.hid hbz0; clear hbz0)
            | ((with_reducible refine (CN.out _ (by assumption)).mono ?_); rintro e w' ⟨rfl, hbz0⟩; have hbz := Lib.hid hbz0; clear hbz0)
            | ((with_reducible refine (C9.out _ (by assumption)).mono ?_); rintro e w' ⟨rfl, hbz0⟩; have hbz := Lib.hid hbz0; clear hbz0)
            | ((with_reducible refine (CC.out _ (by assumption)).mono ?_); rintro e w' ⟨rfl, hbz0⟩; have hbz := Lib.hid hbz0; clear hbz0)
            | ((with_reducible refine (CP.out _ (by assumption)).mono ?_); rintro e w' ⟨rfl, hbz0⟩; have hbz := Lib.hid hbz0; clear hbz0)
            | ((with_reducible refine (C0.out _ (by assumption)).mono ?_); rintro e w' ⟨rfl, hbz0⟩; have hbz := Lib.hid hbz0; clear hbz0)
            | ((with_reducible refine (CB0.out _ (by assumption)).mono ?_); rintro e w' ⟨rfl, hbz0⟩; have hbz := Lib.hid hbz0; clear hbz0))))
    rename_i hh
    have hS := Lib.hid hh.1
    clear hh q1 q2 q3 q4 q5 q6 q7 q8 q9
    go_wp2
    go_ret
    exact ⟨rfl, HB6.out.trans (hS.out.mono HB6.out.size)⟩

theorem u8_nat {a : Int} (h : (Lit.int .u8 a).wf = true) : ∃ n : Nat, a = n ∧ n < 256 := by
  simp only [Lit.wf, IntKind.min, IntKind.max, IntKind.signed, IntKind.bits, Bool.and_eq_true, decide_eq_true_eq] at h
  simp at h
  obtain ⟨n, hn⟩ := Int.eq_ofNat_of_zero_le h.1
  exact ⟨n, hn, by omega⟩
theorem walkTreeExpr (W : World) (ht : TB W) (A0 : Option Addr) (c0 : Nat) (l0 : List Int) (hr0 : Kd.C (Kd.int .u8) W A0 l0.length l0) (hc0 : l0.length ≤ c0) (hm : l0.length ≤ maxLen) (hw : ∀ x ∈ l0, (Lit.int .u8 x).wf = true) (a1 : Int) (w1 : (Lit.int .u8 a1).wf = true) (a2 : Int) (w2 : (Lit.int .u8 a2).wf = true) :
    Calls Tryd.prog 3 #[.slice A0 l0.length c0, .int .u8 a1, .int .u8 a2] W fun e W' => e = .returned (.bool true) ∧ Below W.heap.size W W' := by
  obtain ⟨op, rfl, hop⟩ := u8_nat w1
  obtain ⟨tg, rfl, htg⟩ := u8_nat w2
  exact walkExpr W A0 l0.length c0 hc0 (came_of hr0 hw) ht op tg hop htg
#print axioms walkTreeExpr
end Go.Proofs.YthboknkpgbfmoaaDoor.PQ
