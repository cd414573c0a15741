/- The walk of the law AllocNone. -/
import Derived.Test.YthboknkpgbfmoaaAwk
namespace Go.Proofs.Ythboknkpgbfmoaa.PA
open Go.RowKit Go.WideMaps Go.Maps Go.Shelf Go.Proofs.YthboknkpgbfmoaaW.PrintWords
set_option linter.unusedVariables false
set_option linter.unusedSimpArgs false

def enc8 (c : S60) : List Value := [.int .i64 c.f0, .int .i64 c.f1, .int .i64 c.f2, .int .i64 c.f3, .int .i64 c.f4, .int .i64 c.f5, .int .u64 c.f6, .int .i64 c.f7]
theorem add0 (b k : Nat) : (⟨b, 0, none⟩ : Addr).add k = ⟨b, k, none⟩ := by
  unfold Addr.add
  split <;> simp_all
/-- Two codes, one behind the other. -/
theorem row2 {w : World} {b : Nat} {c d : S60} {fr : Nat × Nat} (h : w.heap[b]? = some (.cells (enc8 c ++ enc8 d).toArray 60 fr)) : ReadsRow (fun x cs => cs = enc8 x) 8 w (some ⟨b, 0, none⟩) 2 [c, d] := by
  refine ⟨rfl, by omega, fun _ => ⟨_, rfl, fun j p hj => ⟨enc8 p, rfl, rfl, fun i u hu => ?_⟩⟩⟩
  have hi : i < 8 := by
    rcases Nat.lt_or_ge i 8 with q | q
    · exact q
    · rw [List.getElem?_eq_none (by simpa [enc8] using q)] at hu
      cases hu
  have key : ∀ k, w.cell? ⟨b, k, none⟩ = (enc8 c ++ enc8 d)[k]? := fun k => by
    rw [cell_of_row w b k _ 60 fr h]
    simp
  rw [add0, key]
  match j, hj with
  | 0, hj =>
    obtain rfl := Option.some.inj hj
    rw [List.getElem?_append_left (by simp [enc8]; omega)]
    simpa using hu
  | 1, hj =>
    obtain rfl := Option.some.inj hj
    rw [List.getElem?_append_right (by simp [enc8])]
    simpa [enc8] using hu
  | j + 2, hj => simp at hj
theorem row2C {w : World} {b : Nat} {c d : S60} {fr : Nat × Nat} (h : w.heap[b]? = some (.cells (enc8 c ++ enc8 d).toArray 60 fr)) : Kd.C k60 w (some ⟨b, 0, none⟩) 2 [c, d] :=
  ReadsRow.imp_ (row2 h) (Below.refl _ _) (fun p cs hp => by subst hp; exact k60_mk w p)
theorem wpList_append_rk2 {W : World} {ops : Array Oper} {rest : List Oper} {o : Oper} {a : Act} {Q : Exit → Act → World → Prop} (hgd : o.guard = none) (s x : Operand) (ho : o.op = .call { callee := .builtin .append, args := #[s, x], argTypes := #[44, 44] })
    (base : Nat) (v : Value) (xs : List S60) (p q : S60) (b : Nat) (hs : a.eval s = v) (hx : a.eval x = .slice (some ⟨b, 0, none⟩) 2 2) (hb : W.heap[b]? = some (.cells (enc8 p ++ enc8 q).toArray 60 (0, 0))) (HO : RK base W v xs) (hbase : base ≤ W.heap.size) (hl : xs.length ≤ 1000)
    (h : ∀ v1 w1, RK base w1 v1 (xs ++ [p, q]) → W.grownBy w1 v.ownBlock → Below base W w1 → wpList Try.prog ops Q rest (a.put o.dst v1) w1) :
    wpList Try.prog ops Q (o :: rest) a W :=
  Kd.R_append_rows k60 (w0 := W) base hgd s x 44 60 (.agg #[.int .i64 0, .int .i64 0, .int .i64 0, .int .i64 0, .int .i64 0, .int .i64 0, .int .u64 0, .int .i64 0]) 64 ho Try.underlying44 info60 rfl (by decide) (by omega) v xs [p, q] (some ⟨b, 0, none⟩) 2 2
    (fun _ => True) (fun _ => False) hs hx HO (row2 hb) (fun x cs hx => by subst hx; exact k60_mkM _ _ _ x) (fun _ hk => hk.elim) (fun _ _ => trivial) (Below.refl _ _) hbase (by omega) (fun v1 w1 h1 h2 h3 h4 => h v1 w1 h1 h3 h2)
def mendC : S60 := ⟨11, 0, 0, 0, 0, 0, 0, 0⟩
theorem none_fit : ∃ K, Fit [mendC, haltC] K 0 := by
  have hok : ∀ c ∈ [mendC, haltC], Okv c ∧ us c = [] := fun c hc => by
    simp at hc
    rcases hc with rfl | rfl
    · exact ⟨⟨fun h => by simp [db, mendC] at h, fun u hu => by simp [us, mendC] at hu⟩, by simp [us, mendC]⟩
    · exact ⟨⟨fun h => by simp [db, haltC] at h, fun u hu => by simp [us, haltC] at hu⟩, by simp [us, haltC]⟩
  obtain ⟨K, hK⟩ := (vals_eq [mendC, haltC] (by simp) (fun c hc => (hok c hc).1)).ex
  have hv : valsOf [mendC, haltC] = 0 := by simp [valsOf, valC, valU, db, us, mendC, haltC]
  rw [hv] at hK
  exact ⟨K, by simp, fun c hc u hu => by rw [(hok c hc).2] at hu; simp at hu, hK, by omega, .inl (by omega)⟩
theorem none_slots (s : Nat → Int × Int) (n : Nat) : (allocF s 0 n).sl = 0 := by
  have : ordOf s 0 n = [] := by
    rw [List.eq_nil_iff_forall_not_mem]
    intro x hx
    have := mem_ordOf hx
    omega
  unfold allocF
  rw [this]
  rfl
theorem pat1 (v : Nat) : patL 1 (2 * v + 2) = patL 1 (2 * v) ++ [setC (v : Int), tellC (v : Int)] := by
  rw [patL_succ, patL_succ]
  have h1 := patAt_set (k := 1) (i := v) (j := 0) (by omega)
  have h2 := patAt_tell (k := 1) (i := v) (j := 0) (by omega)
  rw [show v * (2 * 1) + 0 = 2 * v by omega, show v * 1 + 0 = v by omega] at h1
  rw [show v * (2 * 1) + 1 + 0 = 2 * v + 1 by omega, show v * 1 + 0 = v by omega] at h2
  rw [h1, h2]
  simp
set_option maxHeartbeats 2000000 in
set_option maxRecDepth 100000 in
theorem walkAllocNone (W : World) (a : Int) (ha : (Lit.int .u8 a).wf = true) :
    Calls Try.prog 11 #[.int .u8 a] W fun e W' => e = .returned (.bool true) ∧ Below W.heap.size W W' := by
  obtain ⟨a0, a1⟩ : 0 ≤ a ∧ a ≤ 255 := by
    simp only [Lit.wf, IntKind.min, IntKind.max, IntKind.signed, IntKind.bits, Bool.and_eq_true, decide_eq_true_eq] at ha
    simp at ha
    exact ha
  clear ha
  obtain ⟨m, hm⟩ := Int.eq_ofNat_of_zero_le (show 0 ≤ a % 20 by omega)
  have hm20 : m < 20 := by omega
  have HM := Lib.hid hm
  clear hm
  obtain ⟨K0, hf0⟩ := none_fit
  have HF0 := Lib.hid hf0
  clear hf0
  go_enter Try.func11, Try.ntmps11
  go_wp2_with fail
  refine (awake_calls _).mono ?_
  rintro e w1 ⟨rfl, hb1⟩
  have HB1 := Lib.hid hb1
  clear hb1
  go_wp2_with fail
  have h0 : (w1.alloc (.cells (enc8 mendC ++ enc8 haltC).toArray 60)).heap[w1.heap.size]? = some (.cells (enc8 mendC ++ enc8 haltC).toArray 60 (0, 0)) := blk_new w1 _
  refine (allocn_calls 2 (some ⟨w1.heap.size, 0, none⟩) 2 [mendC, haltC] K0 0 _ rfl (row2C h0) (by omega) HF0.out).mono ?_
  rintro e w2 ⟨P0, wg0, hP0, rfl, hg2, hR2, hb2⟩
  rw [none_slots]
  have HB2 : Hid (Below W.heap.size W w2) := Lib.hid ((HB1.out.alloc HB1.out.size _).trans (hb2.mono (Nat.le_trans HB1.out.size (by simp))))
  clear hP0 hg2 hR2 hb2 h0 HB1
  have HB3 : Hid (Below W.heap.size W (w2.alloc (.cells #[.slice (some ⟨wg0, 0, none⟩) 0 0, .int .i64 0] 49))) := Lib.hid (HB2.out.alloc HB2.out.size _)
  have hpc := blk_new w2 (.cells #[.slice (some ⟨wg0, 0, none⟩) 0 0, .int .i64 0] 49)
  have HPC := Lib.hid hpc
  clear hpc HB2
  go_wp2_with fail
  generalize w2.alloc (.cells #[.slice (some ⟨wg0, 0, none⟩) 0 0, .int .i64 0] 49) = w3 at HB3 HPC ⊢
  generalize (World.heap w2).size = pb at HPC ⊢
  have hpl := lt_of_block HPC.out
  obtain ⟨b3, hb3⟩ : ∃ b3, b3 = w3.heap.size := ⟨_, rfl⟩
  have HB33 : Hid (Below b3 w3 w3 ∧ b3 ≤ w3.heap.size) := Lib.hid ⟨Below.refl _ _, by omega⟩
  have hpl2 : pb < b3 := by omega
  have hb33 : Hid (W.heap.size ≤ b3) := Lib.hid (by rw [hb3]; exact HB3.out.size)
  have HB3E := Lib.hid hb3
  clear hb3 hpl
  go_loopw [4, 5] (fun sv_ i wr => ∃ (sv : Value) (v : Nat), sv = sv_ ∧ v ≤ m ∧ i = .int .i64 v ∧ Hid (RK b3 wr sv (patL 1 (2 * v))) ∧ Hid (Below b3 w3 wr ∧ b3 ≤ wr.heap.size)) (fun _ i _ => m - (intOf i).toNat)
  case atStart => exact ⟨_, 0, rfl, Nat.zero_le _, rfl, Lib.hid (RK.nil _ _), HB33⟩
  case round =>
    clear HB33
    obtain ⟨sv, v, rfl, hv, rfl, HR, HB⟩ := hrel
    have hbw := HB.out.2
    by_cases hlt : v < m
    · have hlt2 : (v : Int) < a % 20 := by rw [HM.out]; omega
      go_wp2_with (first
        | (at_builtin; refine wpList_append_rk2 rfl (.tmp 22) (.tmp 27) rfl b3 _ (patL 1 (2 * v)) (setC (v : Int)) (tellC (v : Int)) _ rfl rfl (blk_new _ _) (HR.out.alloc _) (by simp; omega) (by rw [patL_len]; omega) ?_; intro v1 w1 h1 h2 h3; have HR1 := Lib.hid h1; have HB1 : Hid (Below b3 w3 w1 ∧ b3 ≤ w1.heap.size) := Lib.hid ⟨(HB.out.1.alloc hbw _).trans h3, Nat.le_trans (by simp; omega) h2.size⟩; clear h1 h2 h3; go_frame)
        | fail)
      go_roundw
      case rel =>
        refine ⟨_, v + 1, rfl, by omega, by go_num, ?_, HB1⟩
        rw [show 2 * (v + 1) = 2 * v + 2 by omega, pat1]
        exact HR1
      case measure => simp [intOf]; omega
    · obtain rfl : m = v := by omega
      have hlt2 : ¬ (m : Int) < a % 20 := by rw [HM.out]; omega
      obtain ⟨K, hfit⟩ := pat_fit (k := 1) (R := m) (by omega) (by omega) (by omega) (.inl (by omega))
      have HFIT := Lib.hid hfit
      clear hfit
      go_wp2_with (first
        | (at_builtin; refine wpList_append_rkp 0 0 13 haltC rfl rfl (.tmp 29) (.tmp 31) rfl b3 _ (patL 1 (2 * m)) rfl rfl HR.out hbw (by rw [patL_len]; omega) ?_; intro v1 w1 h1 h2 h3; obtain ⟨A, c, rfl, hAc, hC⟩ := RK.reads h1; obtain ⟨nn, hnn⟩ : ∃ nn, nn = (patL 1 (2 * m) ++ [haltC]).length := ⟨_, rfl⟩; rw [← hnn] at hC hAc ⊢; have HNN := Lib.hid hnn; clear hnn; have HB1 : Hid (Below b3 w3 w1 ∧ b3 ≤ w1.heap.size) := Lib.hid ⟨HB.out.1.trans h3, Nat.le_trans hbw h2.size⟩; have HC := Lib.hid hC; clear h1 h2 h3 hC)
        | fail)
      have hpat : patL 1 (2 * m) ++ [haltC] = patH 1 m := by unfold patH; rw [show m * (2 * 1) = 2 * m by omega]
      rw [hpat] at HNN HC
      refine (allocn_calls nn A c (patH 1 m) K (m * 1) _ HNN.out HC.out hAc HFIT.out).mono ?_
      rintro e w5 ⟨P, wg, hP, rfl, hg5, hR5, hb5⟩
      obtain ⟨hwh, hsl⟩ := pat_alloc (k := 1) (R := m) (by omega) hP
      rw [hsl]
      have hm0 : m * (1 - 5) = 0 := by simp
      rw [hm0]
      have hR6 : w5.rowIs wg 3 m (fun i => .int .i64 0) := World.rowIs.congr (by rw [Nat.mul_one] at hR5; exact hR5) fun i hi => by
        have h1 := hwh i (by omega)
        rw [Nat.mul_one] at h1
        rw [h1]
        simp [whP, Nat.mod_one]
      have hB5 : Below b3 w3 w5 := HB1.out.1.trans (hb5.mono HB1.out.2)
      have HPC5 := (hB5.block pb hpl2).trans HPC.out
      have HR6 := Lib.hid (World.rowIs.alloc hR6 (.cells #[.slice (some ⟨wg, 0, none⟩) m m, .int .i64 0] 49))
      have p0 := (blk_cell HPC5 0).trans rfl
      have p1 := (blk_cell HPC5 1).trans rfl
      replace p0 := cell_al p0 (.cells #[.slice (some ⟨wg, 0, none⟩) m m, .int .i64 0] 49)
      replace p1 := cell_al p1 (.cells #[.slice (some ⟨wg, 0, none⟩) m m, .int .i64 0] 49)
      have hqc := blk_new w5 (.cells #[.slice (some ⟨wg, 0, none⟩) m m, .int .i64 0] 49)
      have q0 := (blk_cell hqc 0).trans rfl
      have q1 := (blk_cell hqc 1).trans rfl
      have HF : Hid (Below W.heap.size W (w5.alloc (.cells #[.slice (some ⟨wg, 0, none⟩) m m, .int .i64 0] 49))) := Lib.hid ((HB3.out.trans (hB5.mono hb33.out)).alloc (HB3.out.trans (hB5.mono hb33.out)).size _)
      clear hqc hR5 hR6 hB5 HPC5 hP hwh hsl hm0 hpat hg5 hb5 HR HB HC
      rw [Nat.mul_one]
      go_wp2_with fail
      generalize w5.alloc (.cells #[.slice (some ⟨wg, 0, none⟩) m m, .int .i64 0] 49) = w6 at HR6 HF p0 p1 q0 q1 ⊢
      generalize (World.heap w5).size = qb at q0 q1 ⊢
      have hm2 := HM.out
      go_loopw [37] (fun i wr => ∃ (v : Nat), v ≤ m ∧ i = .int .i64 v ∧ wr = w6) (fun i _ => m - (intOf i).toNat)
      case atStart => exact ⟨0, Nat.zero_le _, rfl, rfl⟩
      case round =>
        obtain ⟨v, hv, rfl, rfl⟩ := hrel
        by_cases hlt : v < m
        · have c0 := World.rowIs.cell HR6.out hlt
          clear hm2
          go_wp2_with fail
          go_roundw
          case rel => exact ⟨v + 1, by omega, by go_num, by first | rfl | trivial⟩
          case measure => simp [intOf]; omega
        · obtain rfl : m = v := by omega
          go_wp2_with fail
          go_ret
          exact ⟨rfl, HF.out⟩
end Go.Proofs.Ythboknkpgbfmoaa.PA
