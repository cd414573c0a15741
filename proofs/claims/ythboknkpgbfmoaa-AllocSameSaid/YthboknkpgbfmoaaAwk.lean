/- The contract of awake: it is true. -/
import Derived.Test.YthboknkpgbfmoaaPat
namespace Go.Proofs.Ythboknkpgbfmoaa.PA
open Go.RowKit Go.WideMaps Go.Maps Go.Shelf Go.Proofs.YthboknkpgbfmoaaW.PrintWords
set_option linter.unusedVariables false
set_option linter.unusedSimpArgs false

/-- A slice of codes of the call's own. -/
def RK (base : Nat) (w : World) (v : Value) (xs : List S60) : Prop := Kd.R k60 60 w base (fun _ => True) v xs
theorem RK.nil (base : Nat) (w : World) : RK base w (.slice none 0 0) [] := Kd.R_nil _ _ _ _ _
theorem RK.below {base : Nat} {w w' : World} {v : Value} {xs : List S60} (h : RK base w v xs) (hb : Below w.heap.size w w') : RK base w' v xs := Kd.R_below h hb
theorem RK.alloc {base : Nat} {w : World} {v : Value} {xs : List S60} (h : RK base w v xs) (o : Obj) : RK base (w.alloc o) v xs := Kd.R_alloc h o
theorem RK.own {base : Nat} {w : World} {v : Value} {xs : List S60} (h : RK base w v xs) {k : Nat} (e : v.ownBlock = some k) : base ≤ k ∧ k < w.heap.size := by
  obtain ⟨_, inner, ho, _⟩ := h
  exact ⟨own_base ho k e, own_lt ho k e⟩
theorem RK.reads {base : Nat} {w : World} {v : Value} {xs : List S60} (h : RK base w v xs) : ∃ A c, v = .slice A xs.length c ∧ xs.length ≤ c ∧ Kd.C k60 w A xs.length xs := Kd.R_reads h
theorem wpList_append_rk {W : World} {ops : Array Oper} {rest : List Oper} {o : Oper} {a : Act} {Q : Exit → Act → World → Prop} (hgd : o.guard = none) (s x : Operand) (ho : o.op = .call { callee := .builtin .append, args := #[s, x], argTypes := #[44, 44] })
    (base : Nat) (v : Value) (xs : List S60) (p : S60) (hs : a.eval s = v) (hx : a.eval x = .slice (some ⟨W.heap.size, 0, none⟩) 1 1) (HO : RK base W v xs) (hbase : base ≤ W.heap.size) (hl : xs.length ≤ 1000)
    (h : ∀ v1 w1, RK base w1 v1 (xs ++ [p]) → W.grownBy w1 v.ownBlock → Below base W w1 → wpList Try.prog ops Q rest (a.put o.dst v1) w1) :
    wpList Try.prog ops Q (o :: rest) a (W.alloc (.cells #[.int .i64 p.f0, .int .i64 p.f1, .int .i64 p.f2, .int .i64 p.f3, .int .i64 p.f4, .int .i64 p.f5, .int .u64 p.f6, .int .i64 p.f7] 60)) :=
  Kd.R_append k60 (w0 := W) base hgd s x 44 60 (.agg #[.int .i64 0, .int .i64 0, .int .i64 0, .int .i64 0, .int .i64 0, .int .i64 0, .int .u64 0, .int .i64 0]) 64 ho Try.underlying44 info60 rfl (by decide) (by omega) v xs p
    [.int .i64 p.f0, .int .i64 p.f1, .int .i64 p.f2, .int .i64 p.f3, .int .i64 p.f4, .int .i64 p.f5, .int .u64 p.f6, .int .i64 p.f7] (fun _ => True) (fun _ => False) hs hx (k60_mkM _ _ _ p) (fun _ hk => hk.elim) (fun _ _ => trivial) HO (Below.refl _ _) hbase (by omega) (fun v1 w1 h1 h2 h3 h4 => h v1 w1 h1 h3 h2)
theorem wpList_append_rkp {W : World} {ops : Array Oper} {rest : List Oper} {o : Oper} {a : Act} {Q : Exit → Act → World → Prop} (n2 n3 : Int) (f0 : Int) (p : S60) (hp : p = ⟨f0, 0, n2, n3, 0, 0, 0, 0⟩) (hgd : o.guard = none) (s x : Operand) (ho : o.op = .call { callee := .builtin .append, args := #[s, x], argTypes := #[44, 44] })
    (base : Nat) (v : Value) (xs : List S60) (hs : a.eval s = v) (hx : a.eval x = .slice (some ⟨W.heap.size, 0, none⟩) 1 1) (HO : RK base W v xs) (hbase : base ≤ W.heap.size) (hl : xs.length ≤ 1000)
    (h : ∀ v1 w1, RK base w1 v1 (xs ++ [p]) → W.grownBy w1 v.ownBlock → Below base W w1 → wpList Try.prog ops Q rest (a.put o.dst v1) w1) :
    wpList Try.prog ops Q (o :: rest) a (W.alloc (.cells #[.int .i64 f0, .int .i64 0, .int .i64 n2, .int .i64 n3, .int .i64 0, .int .i64 0, .int .u64 0, .int .i64 0] 60)) := by
  subst hp
  exact wpList_append_rk hgd s x ho base v xs ⟨f0, 0, n2, n3, 0, 0, 0, 0⟩ hs hx HO hbase hl h
theorem pat6_set (j : Nat) (hj : j < 6) : patAt 6 j = setC (j : Int) := by
  have := patAt_set (k := 6) (i := 0) (j := j) hj
  simpa using this
theorem pat6_tell (j : Nat) (hj : j < 6) : patAt 6 (6 + j) = tellC (j : Int) := by
  have := patAt_tell (k := 6) (i := 0) (j := j) hj
  simpa using this
theorem patL_len (k m : Nat) : (patL k m).length = m := by simp [patL]
set_option maxHeartbeats 2000000 in
set_option maxRecDepth 100000 in
theorem awake_calls (w : World) : Calls Try.prog 18 #[] w fun e w' => e = .returned (.bool true) ∧ Below w.heap.size w w' := by
  obtain ⟨base, hb⟩ : ∃ base, base = w.heap.size := ⟨_, rfl⟩
  go_enter Try.func18, Try.ntmps18
  go_wp2_with fail
  go_loopw [1, 8] (fun sv_ i wr => ∃ (sv : Value) (j : Nat), sv = sv_ ∧ j ≤ 6 ∧ i = .int .i64 j ∧ Hid (RK base wr sv (patL 6 j)) ∧ Hid (Below base w wr ∧ base ≤ wr.heap.size)) (fun _ i _ => 6 - (intOf i).toNat)
  case atStart => exact ⟨_, 0, rfl, by omega, rfl, Lib.hid (RK.nil _ _), Lib.hid ⟨Below.refl _ _, by omega⟩⟩
  case round =>
    obtain ⟨sv, j, rfl, hj, rfl, HR, HB⟩ := hrel
    by_cases hlt : j < 6
    · have hbw := HB.out.2
      go_wp2_with (first
        | (at_builtin; refine wpList_append_rkp (j : Int) 0 0 (setC (j : Int)) rfl rfl (.tmp 11) (.tmp 14) rfl base _ (patL 6 j) rfl rfl HR.out hbw (by rw [patL_len]; omega) ?_; intro v1 w1 h1 h2 h3; have HR1 := Lib.hid h1; have HB1 : Hid (Below base w w1 ∧ base ≤ w1.heap.size) := Lib.hid ⟨HB.out.1.trans h3, Nat.le_trans hbw h2.size⟩; clear h1 h2 h3; go_frame)
        | fail)
      go_roundw
      case rel =>
        refine ⟨_, j + 1, rfl, by omega, by go_num, ?_, HB1⟩
        rw [patL_succ, pat6_set j hlt]
        exact HR1
      case measure => simp [intOf]; omega
    · obtain rfl : j = 6 := by omega
      go_wp2_with fail
      go_loopw [1, 17] (fun sv_ i wr => ∃ (sv : Value) (j : Nat), sv = sv_ ∧ j ≤ 6 ∧ i = .int .i64 j ∧ Hid (RK base wr sv (patL 6 (6 + j))) ∧ Hid (Below base w wr ∧ base ≤ wr.heap.size)) (fun _ i _ => 6 - (intOf i).toNat)
      case atStart => exact ⟨_, 0, rfl, by omega, rfl, HR, HB⟩
      case round =>
        clear HR HB
        obtain ⟨sv, j, rfl, hj, rfl, HR, HB⟩ := hrel
        have hbw := HB.out.2
        by_cases hlt : j < 6
        · go_wp2_with (first
            | (at_builtin; refine wpList_append_rkp 0 (j : Int) 12 (tellC (j : Int)) rfl rfl (.tmp 20) (.tmp 23) rfl base _ (patL 6 (6 + j)) rfl rfl HR.out hbw (by rw [patL_len]; omega) ?_; intro v1 w1 h1 h2 h3; have HR1 := Lib.hid h1; have HB1 : Hid (Below base w w1 ∧ base ≤ w1.heap.size) := Lib.hid ⟨HB.out.1.trans h3, Nat.le_trans hbw h2.size⟩; clear h1 h2 h3; go_frame)
            | fail)
          go_roundw
          case rel =>
            refine ⟨_, j + 1, rfl, by omega, by go_num, ?_, HB1⟩
            rw [← Nat.add_assoc, patL_succ, pat6_tell j hlt]
            exact HR1
          case measure => simp [intOf]; omega
        · obtain rfl : j = 6 := by omega
          obtain ⟨K, hfit⟩ := pat_fit (k := 6) (R := 1) (by omega) (by omega) (by omega) (.inl (by omega))
          have HFIT := Lib.hid hfit
          clear hfit
          go_wp2_with (first
            | (at_builtin; refine wpList_append_rkp 0 0 13 haltC rfl rfl (.tmp 26) (.tmp 28) rfl base _ (patL 6 (6 + 6)) rfl rfl HR.out hbw (by rw [patL_len]; omega) ?_; intro v1 w1 h1 h2 h3; obtain ⟨A, c, rfl, hAc, hC⟩ := RK.reads h1; obtain ⟨nn, hnn⟩ : ∃ nn, nn = (patL 6 (6 + 6) ++ [haltC]).length := ⟨_, rfl⟩; rw [← hnn] at hC hAc ⊢; have HNN := Lib.hid hnn; clear hnn; have HB1 : Hid (Below base w w1 ∧ base ≤ w1.heap.size) := Lib.hid ⟨HB.out.1.trans h3, Nat.le_trans hbw h2.size⟩; have HC := Lib.hid hC; clear h1 h2 h3 hC)
            | fail)
          refine (allocn_calls nn A c (patH 6 1) K 6 _ HNN.out HC.out hAc HFIT.out).mono ?_
          rintro e w2 ⟨P, wg, hP, rfl, hg2, hR2, hb2⟩
          obtain ⟨hwh, hsl⟩ := pat_alloc (k := 6) (R := 1) (by omega) hP
          rw [show (1 * 6 : Nat) = 6 from rfl] at hwh
          rw [show (1 * 6 : Nat) = 6 from rfl, show (1 * (6 - 5) : Nat) = 1 from rfl] at hsl
          rw [hsl]
          have hR3 : w2.rowIs wg 3 6 (fun i => .int .i64 (whP 6 i)) := World.rowIs.congr hR2 fun i hi => by rw [hwh i hi]
          have r0 : w2.cell? ⟨wg, 0, none⟩ = some (.int .i64 0) := World.rowIs.cell hR3 (by omega : 0 < 6)
          have r1 : w2.cell? ⟨wg, 1, none⟩ = some (.int .i64 1) := World.rowIs.cell hR3 (by omega : 1 < 6)
          have r2 : w2.cell? ⟨wg, 2, none⟩ = some (.int .i64 2) := World.rowIs.cell hR3 (by omega : 2 < 6)
          have r3 : w2.cell? ⟨wg, 3, none⟩ = some (.int .i64 3) := World.rowIs.cell hR3 (by omega : 3 < 6)
          have r4 : w2.cell? ⟨wg, 4, none⟩ = some (.int .i64 4) := World.rowIs.cell hR3 (by omega : 4 < 6)
          have r5 : w2.cell? ⟨wg, 5, none⟩ = some (.int .i64 (-1)) := World.rowIs.cell hR3 (by omega : 5 < 6)
          have HB2 := Lib.hid (HB1.out.1.trans (hb2.mono HB1.out.2))
          have hwl : wg < w2.heap.size := World.rowIs.lt hR3
          clear hR2 hR3 hwh hsl hb2 HR HB hP
          replace r0 := cell_al r0 (.cells #[.slice (some ⟨wg, 0, none⟩) 6 6, .int .i64 1] 49)
          replace r1 := cell_al r1 (.cells #[.slice (some ⟨wg, 0, none⟩) 6 6, .int .i64 1] 49)
          replace r2 := cell_al r2 (.cells #[.slice (some ⟨wg, 0, none⟩) 6 6, .int .i64 1] 49)
          replace r3 := cell_al r3 (.cells #[.slice (some ⟨wg, 0, none⟩) 6 6, .int .i64 1] 49)
          replace r4 := cell_al r4 (.cells #[.slice (some ⟨wg, 0, none⟩) 6 6, .int .i64 1] 49)
          replace r5 := cell_al r5 (.cells #[.slice (some ⟨wg, 0, none⟩) 6 6, .int .i64 1] 49)
          have hpc := blk_new w2 (.cells #[.slice (some ⟨wg, 0, none⟩) 6 6, .int .i64 1] 49)
          have p0 := (blk_cell hpc 0).trans rfl
          have p1 := (blk_cell hpc 1).trans rfl
          have HB3 : Hid (Below base w (w2.alloc (.cells #[.slice (some ⟨wg, 0, none⟩) 6 6, .int .i64 1] 49))) := Lib.hid (HB2.out.alloc (Nat.le_trans hg2 (Nat.le_of_lt hwl) |> fun h => by have := HB1.out.2; omega) _)
          clear hpc
          go_wp2_with fail
          generalize w2.alloc (.cells #[.slice (some ⟨wg, 0, none⟩) 6 6, .int .i64 1] 49) = w3 at r0 r1 r2 r3 r4 r5 p0 p1 HB3 ⊢
          generalize (World.heap w2).size = pb at p0 p1 ⊢
          go_loopw [5, 34] (fun n_ i wr => ∃ (j : Nat), j ≤ 6 ∧ i = .int .i64 j ∧ n_ = .int .i64 (if j = 6 then 1 else 0) ∧ wr = w3) (fun _ i _ => 6 - (intOf i).toNat)
          case atStart => exact ⟨0, by omega, rfl, rfl, rfl⟩
          case round =>
            obtain ⟨j, hj, rfl, rfl, rfl⟩ := hrel
            match j, hj with
            | 0, _ =>
              go_wp2_with fail
              go_roundw
              case rel => exact ⟨1, by omega, by go_num, by simp, trivial⟩
              case measure => simp [intOf]
            | 1, _ =>
              go_wp2_with fail
              go_roundw
              case rel => exact ⟨2, by omega, by go_num, by simp, trivial⟩
              case measure => simp [intOf]
            | 2, _ =>
              go_wp2_with fail
              go_roundw
              case rel => exact ⟨3, by omega, by go_num, by simp, trivial⟩
              case measure => simp [intOf]
            | 3, _ =>
              go_wp2_with fail
              go_roundw
              case rel => exact ⟨4, by omega, by go_num, by simp, trivial⟩
              case measure => simp [intOf]
            | 4, _ =>
              go_wp2_with fail
              go_roundw
              case rel => exact ⟨5, by omega, by go_num, by simp, trivial⟩
              case measure => simp [intOf]
            | 5, _ =>
              go_wp2_with fail
              go_roundw
              case rel => exact ⟨6, by omega, by go_num, by simp, trivial⟩
              case measure => simp [intOf]
            | 6, _ =>
              go_wp2_with fail
              go_ret
              rw [hb] at HB3
              exact ⟨rfl, HB3.out⟩
end Go.Proofs.Ythboknkpgbfmoaa.PA
