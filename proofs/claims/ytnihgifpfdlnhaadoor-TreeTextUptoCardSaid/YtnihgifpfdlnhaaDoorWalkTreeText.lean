/- TreeText: the walk; and that a program of one statement has the text that the law says. Written by mktt.py. -/
import Derived.Test.YtnihgifpfdlnhaaDoorText
import Derived.Test.YtnihgifpfdlnhaaDoorAwk4
namespace Go.Proofs.YtnihgifpfdlnhaaDoor.PT
open Go.RowKit Go.Lib
set_option linter.unusedVariables false
set_option linter.unusedSimpArgs false
theorem u8_range {a : Int} (h : (Lit.int .u8 a).wf = true) : 0 ≤ a ∧ a ≤ 255 := by
  simp only [Lit.wf, IntKind.min, IntKind.max, IntKind.signed, IntKind.bits, Bool.and_eq_true, decide_eq_true_eq] at h
  simp at h
  omega
theorem bl_app (a b : ByteArray) : bl (a ++ b) = bl a ++ bl b := by simp [bl, ByteArray.data_append]
theorem bl_ext {a b : ByteArray} (h : bl a = bl b) : a = b := by
  obtain ⟨⟨x⟩⟩ := a
  obtain ⟨⟨y⟩⟩ := b
  have h' : x = y := h
  rw [h']
abbrev vT : Tree := .name ⟨#[118]⟩ 0
abbrev fenceB : Blk := .cons 8 ⟨#[]⟩ [] 0 .nil .nil 0 .nil
abbrev oneB (kd ct : Nat) : Blk := .cons kd ⟨#[109]⟩ [vT, vT] ct fenceB .nil 0 .nil
abbrev lockD : Dcl := ⟨true, 0, ⟨#[108]⟩, 0, ⟨#[]⟩, 0⟩
abbrev prgT (d : Dcl) (kd ct : Nat) : Prg := ⟨[d, lockD], [oneB kd ct]⟩
/-- The law's lines. -/
def lineOf (ct : Nat) : List ByteArray := [⟨#[9, 108, 111, 99, 97, 108, 32, 109, 32, 61, 32, 118, 59, 10]⟩, ⟨#[9, 109, 32, 61, 32, 118, 59, 10]⟩, ⟨#[9, 109, 91, 118, 93, 32, 61, 32, 118, 59, 10]⟩, ⟨#[9, 105, 102, 32, 40, 118, 41, 32, 123, 10, 9, 9, 102, 101, 110, 99, 101, 59, 10, 9, 125, 10]⟩,
  (⟨#[9, 108, 111, 111, 112, 32, 109, 32]⟩ : ByteArray) ++ dgt ct ++ ⟨#[32, 123, 10, 9, 9, 102, 101, 110, 99, 101, 59, 10, 9, 125, 10]⟩, ⟨#[9, 116, 97, 107, 101, 32, 109, 59, 10]⟩, ⟨#[9, 103, 105, 118, 101, 32, 109, 59, 10]⟩, ⟨#[9, 97, 100, 100, 32, 109, 32, 118, 59, 10]⟩, ⟨#[9, 102, 101, 110, 99, 101, 59, 10]⟩, ⟨#[9, 111, 117, 116, 112, 117, 116, 32, 118, 59, 10]⟩, ⟨#[9, 111, 117, 116, 112, 117, 116, 32, 118, 59, 10]⟩]
theorem num_one (n : Nat) (h : n < 10) : bl (numT (n : Int)) = bl (dgt n) := by
  show (Lib.decDigits n).toArray.toList = [UInt8.ofNat (48 + n)]
  rw [Lib.decDigits_one h]
theorem line_of (kd ct : Nat) (hk : kd < 11) (hc : ct < 10) : ∃ s, (lineOf ct)[kd]? = some s ∧ bl s = blkT (oneB kd ct) 1 := by
  have hn := num_one ct hc
  rcases (show kd = 0 ∨ kd = 1 ∨ kd = 2 ∨ kd = 3 ∨ kd = 4 ∨ kd = 5 ∨ kd = 6 ∨ kd = 7 ∨ kd = 8 ∨ kd = 9 ∨ kd = 10 by omega) with h | h | h | h | h | h | h | h | h | h | h <;> subst h
  all_goals refine ⟨_, rfl, ?_⟩
  case inr.inr.inr.inr.inl =>
    rw [bl_app, bl_app]
    simp only [blkT, stT, lineT, List.flatMap_cons, List.flatMap_nil, hn]
    rfl
  all_goals rfl
theorem prg_text (d : Dcl) (F : ByteArray) (hF : declT d = F ++ ⟨#[59]⟩) (kd ct : Nat) (s : ByteArray) (hs : bl s = blkT (oneB kd ct) 1) :
    (⟨(progT (prgT d kd ct)).toArray⟩ : ByteArray) = F ++ ⟨#[59, 10, 108, 111, 99, 107, 32, 108, 59, 10, 116, 104, 114, 101, 97, 100, 32, 123, 10]⟩ ++ s ++ ⟨#[125, 10]⟩ := by
  refine bl_ext ?_
  rw [bl_app, bl_app, bl_app, hs]
  show progT (prgT d kd ct) = _
  simp only [progT, prgT, List.flatMap_cons, List.flatMap_nil, List.append_nil, lineT, List.replicate_zero, List.nil_append, hF, bl_app]
  simp only [List.append_assoc]
  congr 1
theorem prg_ok (d : Dcl) (hd : d.ok) (kd ct : Nat) (hk : kd < 11) (hc : ct < 10) : POk (prgT d kd ct) := by
  have hv : PT.ok vT ∧ PT.bd vT ≤ 1000000 := ⟨trivial, by decide⟩
  refine ⟨?_, ?_, ?_, ?_⟩
  · intro x hx
    simp at hx
    rcases hx with rfl | rfl
    · exact hd
    · exact ⟨by decide, by decide, by decide⟩
  · intro t ht
    simp at ht
    subst ht
    refine ⟨⟨?_, by omega, by omega, ⟨?_, by omega, by omega, trivial, trivial, trivial⟩, trivial, trivial⟩, ⟨by omega, ⟨by omega, trivial, trivial, trivial⟩, trivial, trivial⟩, ?_⟩
    · intro t ht; simp at ht; subst ht; exact hv
    · intro t ht; cases ht
    · show 1 + (1 + 0 + 0 + 0) + 0 + 0 ≤ 900; omega
  · show 2 * 5000000 + ((100 + 3 * 1 + 1 + (1 + (1 + 0)) + (100 + 3 * 2 + 0 + 0 + 0 + 0 + 0) + 0 + 0) + 100 + 0) ≤ _; omega
  · intro h
    have := congrArg List.length h
    rw [progT_eq, List.length_append] at this
    simp only [declsT, List.flatMap_cons, List.length_append, line_sum, List.length_nil] at this
    omega
abbrev fenceV : SV := ⟨8, ⟨#[]⟩, none, 0, 0, 0, none, 0, 0, none, 0, 0, 0⟩
abbrev oneV (kd ct : Nat) (n : Nat) : SV := ⟨kd, ⟨#[109]⟩, some ⟨n + 1 + 1, 0, none⟩, 2, 2, ct, some ⟨n + 1 + 1 + 1, 0, none⟩, 1, 1, none, 0, 0, 0⟩
theorem prg_mem (d : Dcl) (kd ct n : Nat) (w0 : World) (r1 : w0.heap[n + 1 + 1]? = some (box2 (xN 118) (xN 118))) (r2 : w0.heap[n + 1 + 1 + 1]? = some (sbox fenceV))
    (r3 : w0.heap[n + 1 + 1 + 1 + 1 + 1]? = some (.cells #[.bool d.lock, .int .i64 d.label, .string d.name, .int .i64 d.size, .string d.by', .int .i64 d.p, .bool true, .int .i64 0, .string ⟨#[108]⟩, .int .i64 0, .string ⟨#[]⟩, .int .i64 0] TD))
    (r4 : w0.heap[n + 1 + 1 + 1 + 1 + 1 + 1]? = some (sbox (oneV kd ct n))) (r5 : w0.heap[n + 1 + 1 + 1 + 1 + 1 + 1 + 1]? = some (.cells #[.slice (some ⟨n + 1 + 1 + 1 + 1 + 1 + 1, 0, none⟩) 1 1] TB')) :
    DsA (prgT d kd ct).ds (fun _ => True) w0 (some ⟨n + 1 + 1 + 1 + 1 + 1, 0, none⟩) 2 2 ∧ ThA (prgT d kd ct).ts (fun _ => True) w0 (some ⟨n + 1 + 1 + 1 + 1 + 1 + 1 + 1, 0, none⟩) 1 1 := by
  refine ⟨⟨rfl, .inr ⟨_, rfl, trivial, Nat.le_refl _, (show 2 ≤ maxLen by decide), Row.of r3⟩⟩, rfl, [(some ⟨n + 1 + 1 + 1 + 1 + 1 + 1, 0, none⟩, 1, 1)], ⟨_, _, rfl, ⟨rfl, [oneV kd ct n], ⟨_, _, rfl, rfl, rfl, rfl, rfl, ⟨rfl, [xN 118, xN 118], ⟨_, _, rfl, rfl, _, _, rfl, rfl, rfl⟩, .inr ⟨_, rfl, trivial, Nat.le_refl _, (show 2 ≤ maxLen by decide), Row.of r1⟩⟩, ⟨[fenceV], ⟨_, _, rfl, rfl, rfl, rfl, rfl, ⟨rfl, [], rfl, .inl ⟨rfl, rfl, rfl, rfl⟩⟩, ⟨[], rfl, rfl, .inl ⟨rfl, rfl, rfl, rfl⟩⟩, ⟨[], rfl, rfl, .inl ⟨rfl, rfl, rfl, rfl⟩⟩, rfl⟩, rfl, .inr ⟨_, rfl, trivial, Nat.le_refl _, (show 1 ≤ maxLen by decide), Row.of r2⟩⟩, ⟨[], rfl, rfl, .inl ⟨rfl, rfl, rfl, rfl⟩⟩, rfl⟩, .inr ⟨_, rfl, trivial, Nat.le_refl _, (show 1 ≤ maxLen by decide), Row.of r4⟩⟩, rfl⟩, .inr ⟨_, rfl, trivial, Nat.le_refl _, (show 1 ≤ maxLen by decide), Row.of r5⟩⟩
set_option maxHeartbeats 2000000 in
theorem tt_000 (W : World) (ht : TB W) (label : Int) (nm by' : ByteArray) (size count kind : Int) (hn : nm.size ≤ 1048576) (hb : by'.size ≤ 1048576) (s3 ct kd : Nat) (hs3 : size % 3 = s3) (hct : count % 10 = ct) (hkd : kind % 11 = kd) (hs0 : 0 ≤ size) (hs1 : size ≤ 255) (hc0 : 0 ≤ count) (hc1 : count ≤ 255) (hk0 : 0 ≤ kind) (hk1 : kind ≤ 255) (b3 : s3 < 3) (bc : ct < 10) (bk : kd < 11) (hl : label = 0) (hz : s3 = 0) (hbb : by'.size = 0) :
    Calls Tryd.prog 3 #[.int .i64 label, .string nm, .string by', .int .u8 size, .int .u8 count, .int .u8 kind] W fun e W' => e = .returned (.bool true) ∧ Below W.heap.size W W' := by
  have HAW := Lib.hid (awake4_calls W ht)
  obtain ⟨sl, hsl1, hsl2⟩ := line_of kd ct bk bc
  have hd : Dcl.ok ⟨false, label, nm, s3, by', 0⟩ := ⟨by show (s3 : Int) < 1000000; omega, by show nm.size ≤ 2000000; omega, by show by'.size ≤ 2000000; omega⟩
  have hF : declT ⟨false, label, nm, s3, by', 0⟩ = ((⟨#[112, 117, 98, 108, 105, 99, 32]⟩ : ByteArray) ++ nm) ++ ⟨#[59]⟩ := by
    refine bl_ext ?_
    unfold declT
    simp only [if_pos hl, if_neg (show ¬ (0 : Int) < (s3 : Int) by omega), if_pos hbb, bl_app]
    simp only [if_false, Bool.false_eq_true, bl_app, List.append_assoc]
    rfl
  have HOK := Lib.hid (prg_ok ⟨false, label, nm, s3, by', 0⟩ hd kd ct bk bc)
  have HTX := Lib.hid (prg_text ⟨false, label, nm, s3, by', 0⟩ _ hF kd ct sl hsl2)
  have HSL := Lib.hid hsl1
  have HT := Lib.hid ht
  have hslz : sl.size ≤ 1000 := by
    have h := congrArg List.length hsl2
    rw [bl_len] at h
    have h2 := blkT_len (oneB kd ct) ((prg_ok ⟨false, label, nm, s3, by', 0⟩ hd kd ct bk bc).ts _ (by simp)).1 1
    have h3 : (oneB kd ct).bd 1 ≤ 1000 := by show 100 + 3 * 1 + 1 + (1 + (1 + 0)) + (100 + 3 * 2 + 0 + 0 + 0 + 0 + 0) + 0 + 0 ≤ 1000; omega
    omega
  have hz1 : (dgt s3).size ≤ 1 := Nat.le_refl _
  have hz2 : (dgt ct).size ≤ 1 := Nat.le_refl _
  clear ht hsl1 hsl2 hd hF
  subst hl
  obtain rfl : by' = ⟨#[]⟩ := by
    obtain ⟨⟨l⟩⟩ := by'
    cases l with
    | nil => rfl
    | cons a t => simp [ByteArray.size] at hbb
  subst hz
  go_enter Tryd.func3, Tryd.ntmps3
  go_wp2_with fail
  refine HAW.out.mono ?_
  rintro e w1 ⟨rfl, hb1⟩
  have HB1 := Lib.hid hb1
  clear hb1
  go_wp2_with fail
  refine (digit_calls ct (by omega) _).mono ?_
  rintro e w2 ⟨rfl, rfl⟩
  go_wp2_with fail
  obtain ⟨n, hnn⟩ : ∃ n, n = w1.heap.size := ⟨_, rfl⟩
  rw [← hnn]
  obtain ⟨w0, hw0⟩ : ∃ w0, w0 = ((((((((w1.alloc (dbox ⟨false, 0, nm, 0, ⟨#[]⟩, 0⟩)).alloc (box (xN 118))).alloc (box2 (xN 118) (xN 118))).alloc (sbox fenceV)).alloc (sbox (oneV kd ct n))).alloc (.cells #[.bool false, .int .i64 0, .string nm, .int .i64 0, .string ⟨#[]⟩, .int .i64 0, .bool true, .int .i64 0, .string ⟨#[108]⟩, .int .i64 0, .string ⟨#[]⟩, .int .i64 0] TD)).alloc (sbox (oneV kd ct n))).alloc (.cells #[.slice (some ⟨n + 1 + 1 + 1 + 1 + 1 + 1, 0, none⟩) 1 1] TB')).alloc (.cells #[.slice (some ⟨n + 1 + 1 + 1 + 1 + 1, 0, none⟩) 2 2, .slice (some ⟨n + 1 + 1 + 1 + 1 + 1 + 1 + 1, 0, none⟩) 1 1] 39) := ⟨_, rfl⟩
  have r1 : w0.heap[n + 1 + 1]? = some (box2 (xN 118) (xN 118)) := by rw [hw0]; exact blk_alloc (blk_alloc (blk_alloc (blk_alloc (blk_alloc (blk_alloc (new_at4 _ (by simp [hnn])) _) _) _) _) _) _
  have r2 : w0.heap[n + 1 + 1 + 1]? = some (sbox fenceV) := by rw [hw0]; exact blk_alloc (blk_alloc (blk_alloc (blk_alloc (blk_alloc (new_at4 _ (by simp [hnn])) _) _) _) _) _
  have r3 : w0.heap[n + 1 + 1 + 1 + 1 + 1]? = some (.cells #[.bool false, .int .i64 0, .string nm, .int .i64 0, .string ⟨#[]⟩, .int .i64 0, .bool true, .int .i64 0, .string ⟨#[108]⟩, .int .i64 0, .string ⟨#[]⟩, .int .i64 0] TD) := by rw [hw0]; exact blk_alloc (blk_alloc (blk_alloc (new_at4 _ (by simp [hnn])) _) _) _
  have r4 : w0.heap[n + 1 + 1 + 1 + 1 + 1 + 1]? = some (sbox (oneV kd ct n)) := by rw [hw0]; exact blk_alloc (blk_alloc (new_at4 _ (by simp [hnn])) _) _
  have r5 : w0.heap[n + 1 + 1 + 1 + 1 + 1 + 1 + 1]? = some (.cells #[.slice (some ⟨n + 1 + 1 + 1 + 1 + 1 + 1, 0, none⟩) 1 1] TB') := by rw [hw0]; exact blk_alloc (new_at4 _ (by simp [hnn])) _
  have r6 : w0.heap[n + 1 + 1 + 1 + 1 + 1 + 1 + 1 + 1]? = some (.cells #[.slice (some ⟨n + 1 + 1 + 1 + 1 + 1, 0, none⟩) 2 2, .slice (some ⟨n + 1 + 1 + 1 + 1 + 1 + 1 + 1, 0, none⟩) 1 1] 39) := by rw [hw0]; exact new_at4 _ (by simp [hnn])
  have hB : Below w1.heap.size w1 w0 := by
    rw [hw0]
    repeat' (first | exact Below.refl _ _ | refine Below.alloc ?_ (by simp; try omega) _)
  obtain ⟨hDS, hTS⟩ := prg_mem ⟨false, 0, nm, ((0 : Nat) : Int), ⟨#[]⟩, 0⟩ kd ct n w0 r1 r2 r3 r4 r5
  have HX := Lib.hid r6
  have HB := Lib.hid (HB1.out.trans (hB.mono HB1.out.size))
  have HDS := Lib.hid hDS
  have HTS := Lib.hid hTS
  have HW := Lib.hid hw0
  obtain ⟨F, hFF⟩ : ∃ F : ByteArray, F = (⟨#[112, 117, 98, 108, 105, 99, 32]⟩ : ByteArray) ++ nm := ⟨_, rfl⟩
  have hFs : F.size ≤ 3000000 := by
    rw [hFF]
    simp only [ByteArray.size_append, show (⟨#[112, 117, 98, 108, 105, 99, 32]⟩ : ByteArray).size = 7 from rfl]
    omega
  rw [← hFF] at HTX
  rw [← hFF]
  have HFF := Lib.hid hFF
  clear hFF
  have HTX' : Hid (∀ w', Below w0.heap.size w0 w' → Calls Tryd.prog 11 #[.agg #[.slice (some ⟨n + 1 + 1 + 1 + 1 + 1, 0, none⟩) 2 2, .slice (some ⟨n + 1 + 1 + 1 + 1 + 1 + 1 + 1, 0, none⟩) 1 1]] w' (Says w' (F ++ ⟨#[59, 10, 108, 111, 99, 107, 32, 108, 59, 10, 116, 104, 114, 101, 97, 100, 32, 123, 10]⟩ ++ sl ++ ⟨#[125, 10]⟩))) := Lib.hid fun w' hb => by
    have h := text_calls (prgT ⟨false, 0, nm, ((0 : Nat) : Int), ⟨#[]⟩, 0⟩ kd ct) (fun _ => True) _ _ _ _ _ _ w' ⟨HDS.out.1, HDS.out.2.mono (fun _ h _ => h) fun g _ hl => hb.block g hl⟩ ⟨HTS.out.1, HTS.out.2.imp fun vs h => ⟨h.1.stay (fun _ h _ => h) (Stay.of fun g _ hl => hb.block g hl) (Stay.of fun g _ hl => hb.block g hl), h.2.mono (fun _ h _ => h) fun g _ hl => hb.block g hl⟩⟩ HOK.out (HT.out.below (HB.out.trans (hb.mono HB.out.size)))
    rw [HTX.out] at h
    exact h
  have HN := Lib.hid hnn
  clear r1 r2 r3 r4 r5 r6 hB hDS hTS hw0 hnn
  rw [← HW.out]
  obtain ⟨w9, hw9⟩ : ∃ w9, w9 = w0.alloc (.cells #[.string ⟨#[9, 108, 111, 99, 97, 108, 32, 109, 32, 61, 32, 118, 59, 10]⟩, .string ⟨#[9, 109, 32, 61, 32, 118, 59, 10]⟩, .string ⟨#[9, 109, 91, 118, 93, 32, 61, 32, 118, 59, 10]⟩, .string ⟨#[9, 105, 102, 32, 40, 118, 41, 32, 123, 10, 9, 9, 102, 101, 110, 99, 101, 59, 10, 9, 125, 10]⟩, .string ((⟨#[9, 108, 111, 111, 112, 32, 109, 32]⟩ : ByteArray) ++ dgt ct ++ ⟨#[32, 123, 10, 9, 9, 102, 101, 110, 99, 101, 59, 10, 9, 125, 10]⟩), .string ⟨#[9, 116, 97, 107, 101, 32, 109, 59, 10]⟩, .string ⟨#[9, 103, 105, 118, 101, 32, 109, 59, 10]⟩, .string ⟨#[9, 97, 100, 100, 32, 109, 32, 118, 59, 10]⟩, .string ⟨#[9, 102, 101, 110, 99, 101, 59, 10]⟩, .string ⟨#[9, 111, 117, 116, 112, 117, 116, 32, 118, 59, 10]⟩, .string ⟨#[9, 111, 117, 116, 112, 117, 116, 32, 118, 59, 10]⟩] 9) := ⟨_, rfl⟩
  rw [← hw9]
  have hs0' : w0.heap.size = n + 1 + 1 + 1 + 1 + 1 + 1 + 1 + 1 + 1 := by rw [HW.out, HN.out]; simp
  have hq : w9.heap[n + 1 + 1 + 1 + 1 + 1 + 1 + 1 + 1 + 1]? = some (.cells ((lineOf ct).map Value.string).toArray 9 (0, 0)) := by rw [hw9]; exact new_at4 _ hs0'.symm
  have hb9 : Below w0.heap.size w0 w9 := by rw [hw9]; exact (Below.refl _ _).alloc (Nat.le_refl _) _
  have hln : ∀ w', Below w9.heap.size w9 w' → w'.cell? ⟨n + 1 + 1 + 1 + 1 + 1 + 1 + 1 + 1 + 1, kd, none⟩ = some (.string sl) := fun w' hb => by
    rw [blk_cell (blk_below hq hb) kd]
    simp [HSL.out]
  have HLN := Lib.hid hln
  have HB9 := Lib.hid hb9
  have p0 : w9.cell? ⟨n + 1 + 1 + 1 + 1 + 1 + 1 + 1 + 1, 0, none⟩ = some (.slice (some ⟨n + 1 + 1 + 1 + 1 + 1, 0, none⟩) 2 2) := (blk_cell (blk_below HX.out hb9) 0).trans rfl
  have p1 : w9.cell? ⟨n + 1 + 1 + 1 + 1 + 1 + 1 + 1 + 1, 1, none⟩ = some (.slice (some ⟨n + 1 + 1 + 1 + 1 + 1 + 1 + 1, 0, none⟩) 1 1) := (blk_cell (blk_below HX.out hb9) 1).trans rfl
  have l0 : w9.cell? ⟨n + 1 + 1 + 1 + 1 + 1 + 1 + 1 + 1 + 1, kd, none⟩ = some (.string sl) := hln _ (Below.refl _ _)
  have hkt : kind.tmod 11 = (kd : Int) := by rw [Int.tmod_eq_emod_of_nonneg hk0]; exact hkd
  have i0 : (0 : Int) ≤ (kd : Int) := by omega
  have i1 : (kd : Int) < 11 := by omega
  clear hw9 hs0' hq hb9 hln
  have q1 : ¬ (9223372036854775807 < F.size + 19) := by omega
  have q2 : ¬ (9223372036854775807 < F.size + 19 + sl.size) := by omega
  have q3 : ¬ (9223372036854775807 < F.size + 19 + sl.size + 2) := by omega
  go_region_with ((go_at_call 11; refine (HTX'.out _ (HB9.out.trans ((Below.refl _ _).drew.mono HB9.out.size))).mono ?_; rintro e w' ⟨rfl, hbz⟩; have HBZ := Lib.hid (Below.trans (Below.refl w9.heap.size w9).drew hbz); have l1 := HLN.out _ HBZ.out; clear hbz))
  all_goals
    go_wp2
    go_ret
    exact ⟨rfl, HB.out.trans ((HB9.out.trans (HBZ.out.mono HB9.out.size)).mono HB.out.size)⟩
set_option maxHeartbeats 2000000 in
theorem tt_001 (W : World) (ht : TB W) (label : Int) (nm by' : ByteArray) (size count kind : Int) (hn : nm.size ≤ 1048576) (hb : by'.size ≤ 1048576) (s3 ct kd : Nat) (hs3 : size % 3 = s3) (hct : count % 10 = ct) (hkd : kind % 11 = kd) (hs0 : 0 ≤ size) (hs1 : size ≤ 255) (hc0 : 0 ≤ count) (hc1 : count ≤ 255) (hk0 : 0 ≤ kind) (hk1 : kind ≤ 255) (b3 : s3 < 3) (bc : ct < 10) (bk : kd < 11) (hl : label = 0) (hz : s3 = 0) (hbb : ¬ by'.size = 0) :
    Calls Tryd.prog 3 #[.int .i64 label, .string nm, .string by', .int .u8 size, .int .u8 count, .int .u8 kind] W fun e W' => e = .returned (.bool true) ∧ Below W.heap.size W W' := by
  have HAW := Lib.hid (awake4_calls W ht)
  obtain ⟨sl, hsl1, hsl2⟩ := line_of kd ct bk bc
  have hd : Dcl.ok ⟨false, label, nm, s3, by', 0⟩ := ⟨by show (s3 : Int) < 1000000; omega, by show nm.size ≤ 2000000; omega, by show by'.size ≤ 2000000; omega⟩
  have hF : declT ⟨false, label, nm, s3, by', 0⟩ = ((⟨#[112, 117, 98, 108, 105, 99, 32]⟩ : ByteArray) ++ nm ++ ⟨#[32, 98, 121, 32]⟩ ++ by') ++ ⟨#[59]⟩ := by
    refine bl_ext ?_
    unfold declT
    simp only [if_pos hl, if_neg (show ¬ (0 : Int) < (s3 : Int) by omega), if_neg hbb, bl_app]
    simp only [if_false, Bool.false_eq_true, bl_app, List.append_assoc]
    rfl
  have HOK := Lib.hid (prg_ok ⟨false, label, nm, s3, by', 0⟩ hd kd ct bk bc)
  have HTX := Lib.hid (prg_text ⟨false, label, nm, s3, by', 0⟩ _ hF kd ct sl hsl2)
  have HSL := Lib.hid hsl1
  have HT := Lib.hid ht
  have hslz : sl.size ≤ 1000 := by
    have h := congrArg List.length hsl2
    rw [bl_len] at h
    have h2 := blkT_len (oneB kd ct) ((prg_ok ⟨false, label, nm, s3, by', 0⟩ hd kd ct bk bc).ts _ (by simp)).1 1
    have h3 : (oneB kd ct).bd 1 ≤ 1000 := by show 100 + 3 * 1 + 1 + (1 + (1 + 0)) + (100 + 3 * 2 + 0 + 0 + 0 + 0 + 0) + 0 + 0 ≤ 1000; omega
    omega
  have hz1 : (dgt s3).size ≤ 1 := Nat.le_refl _
  have hz2 : (dgt ct).size ≤ 1 := Nat.le_refl _
  clear ht hsl1 hsl2 hd hF
  subst hl
  have hbe : by'.toList.isEmpty = false := by
    rw [Lib.toList_data]
    obtain ⟨⟨l⟩⟩ := by'
    cases l with
    | nil => exact absurd rfl hbb
    | cons a t => rfl
  have hbl : ¬ by'.toList = [] := fun h => by rw [h] at hbe; cases hbe
  subst hz
  go_enter Tryd.func3, Tryd.ntmps3
  go_wp2_with fail
  refine HAW.out.mono ?_
  rintro e w1 ⟨rfl, hb1⟩
  have HB1 := Lib.hid hb1
  clear hb1
  go_wp2_with fail
  refine (digit_calls ct (by omega) _).mono ?_
  rintro e w2 ⟨rfl, rfl⟩
  go_wp2_with fail
  obtain ⟨n, hnn⟩ : ∃ n, n = w1.heap.size := ⟨_, rfl⟩
  rw [← hnn]
  obtain ⟨w0, hw0⟩ : ∃ w0, w0 = ((((((((w1.alloc (dbox ⟨false, 0, nm, 0, by', 0⟩)).alloc (box (xN 118))).alloc (box2 (xN 118) (xN 118))).alloc (sbox fenceV)).alloc (sbox (oneV kd ct n))).alloc (.cells #[.bool false, .int .i64 0, .string nm, .int .i64 0, .string by', .int .i64 0, .bool true, .int .i64 0, .string ⟨#[108]⟩, .int .i64 0, .string ⟨#[]⟩, .int .i64 0] TD)).alloc (sbox (oneV kd ct n))).alloc (.cells #[.slice (some ⟨n + 1 + 1 + 1 + 1 + 1 + 1, 0, none⟩) 1 1] TB')).alloc (.cells #[.slice (some ⟨n + 1 + 1 + 1 + 1 + 1, 0, none⟩) 2 2, .slice (some ⟨n + 1 + 1 + 1 + 1 + 1 + 1 + 1, 0, none⟩) 1 1] 39) := ⟨_, rfl⟩
  have r1 : w0.heap[n + 1 + 1]? = some (box2 (xN 118) (xN 118)) := by rw [hw0]; exact blk_alloc (blk_alloc (blk_alloc (blk_alloc (blk_alloc (blk_alloc (new_at4 _ (by simp [hnn])) _) _) _) _) _) _
  have r2 : w0.heap[n + 1 + 1 + 1]? = some (sbox fenceV) := by rw [hw0]; exact blk_alloc (blk_alloc (blk_alloc (blk_alloc (blk_alloc (new_at4 _ (by simp [hnn])) _) _) _) _) _
  have r3 : w0.heap[n + 1 + 1 + 1 + 1 + 1]? = some (.cells #[.bool false, .int .i64 0, .string nm, .int .i64 0, .string by', .int .i64 0, .bool true, .int .i64 0, .string ⟨#[108]⟩, .int .i64 0, .string ⟨#[]⟩, .int .i64 0] TD) := by rw [hw0]; exact blk_alloc (blk_alloc (blk_alloc (new_at4 _ (by simp [hnn])) _) _) _
  have r4 : w0.heap[n + 1 + 1 + 1 + 1 + 1 + 1]? = some (sbox (oneV kd ct n)) := by rw [hw0]; exact blk_alloc (blk_alloc (new_at4 _ (by simp [hnn])) _) _
  have r5 : w0.heap[n + 1 + 1 + 1 + 1 + 1 + 1 + 1]? = some (.cells #[.slice (some ⟨n + 1 + 1 + 1 + 1 + 1 + 1, 0, none⟩) 1 1] TB') := by rw [hw0]; exact blk_alloc (new_at4 _ (by simp [hnn])) _
  have r6 : w0.heap[n + 1 + 1 + 1 + 1 + 1 + 1 + 1 + 1]? = some (.cells #[.slice (some ⟨n + 1 + 1 + 1 + 1 + 1, 0, none⟩) 2 2, .slice (some ⟨n + 1 + 1 + 1 + 1 + 1 + 1 + 1, 0, none⟩) 1 1] 39) := by rw [hw0]; exact new_at4 _ (by simp [hnn])
  have hB : Below w1.heap.size w1 w0 := by
    rw [hw0]
    repeat' (first | exact Below.refl _ _ | refine Below.alloc ?_ (by simp; try omega) _)
  obtain ⟨hDS, hTS⟩ := prg_mem ⟨false, 0, nm, ((0 : Nat) : Int), by', 0⟩ kd ct n w0 r1 r2 r3 r4 r5
  have HX := Lib.hid r6
  have HB := Lib.hid (HB1.out.trans (hB.mono HB1.out.size))
  have HDS := Lib.hid hDS
  have HTS := Lib.hid hTS
  have HW := Lib.hid hw0
  obtain ⟨F, hFF⟩ : ∃ F : ByteArray, F = (⟨#[112, 117, 98, 108, 105, 99, 32]⟩ : ByteArray) ++ nm ++ ⟨#[32, 98, 121, 32]⟩ ++ by' := ⟨_, rfl⟩
  have hFs : F.size ≤ 3000000 := by
    rw [hFF]
    simp only [ByteArray.size_append, show (⟨#[112, 117, 98, 108, 105, 99, 32]⟩ : ByteArray).size = 7 from rfl, show (⟨#[32, 98, 121, 32]⟩ : ByteArray).size = 4 from rfl]
    omega
  rw [← hFF] at HTX
  rw [← hFF]
  have HFF := Lib.hid hFF
  clear hFF
  have HTX' : Hid (∀ w', Below w0.heap.size w0 w' → Calls Tryd.prog 11 #[.agg #[.slice (some ⟨n + 1 + 1 + 1 + 1 + 1, 0, none⟩) 2 2, .slice (some ⟨n + 1 + 1 + 1 + 1 + 1 + 1 + 1, 0, none⟩) 1 1]] w' (Says w' (F ++ ⟨#[59, 10, 108, 111, 99, 107, 32, 108, 59, 10, 116, 104, 114, 101, 97, 100, 32, 123, 10]⟩ ++ sl ++ ⟨#[125, 10]⟩))) := Lib.hid fun w' hb => by
    have h := text_calls (prgT ⟨false, 0, nm, ((0 : Nat) : Int), by', 0⟩ kd ct) (fun _ => True) _ _ _ _ _ _ w' ⟨HDS.out.1, HDS.out.2.mono (fun _ h _ => h) fun g _ hl => hb.block g hl⟩ ⟨HTS.out.1, HTS.out.2.imp fun vs h => ⟨h.1.stay (fun _ h _ => h) (Stay.of fun g _ hl => hb.block g hl) (Stay.of fun g _ hl => hb.block g hl), h.2.mono (fun _ h _ => h) fun g _ hl => hb.block g hl⟩⟩ HOK.out (HT.out.below (HB.out.trans (hb.mono HB.out.size)))
    rw [HTX.out] at h
    exact h
  have HN := Lib.hid hnn
  clear r1 r2 r3 r4 r5 r6 hB hDS hTS hw0 hnn
  rw [← HW.out]
  obtain ⟨w9, hw9⟩ : ∃ w9, w9 = w0.alloc (.cells #[.string ⟨#[9, 108, 111, 99, 97, 108, 32, 109, 32, 61, 32, 118, 59, 10]⟩, .string ⟨#[9, 109, 32, 61, 32, 118, 59, 10]⟩, .string ⟨#[9, 109, 91, 118, 93, 32, 61, 32, 118, 59, 10]⟩, .string ⟨#[9, 105, 102, 32, 40, 118, 41, 32, 123, 10, 9, 9, 102, 101, 110, 99, 101, 59, 10, 9, 125, 10]⟩, .string ((⟨#[9, 108, 111, 111, 112, 32, 109, 32]⟩ : ByteArray) ++ dgt ct ++ ⟨#[32, 123, 10, 9, 9, 102, 101, 110, 99, 101, 59, 10, 9, 125, 10]⟩), .string ⟨#[9, 116, 97, 107, 101, 32, 109, 59, 10]⟩, .string ⟨#[9, 103, 105, 118, 101, 32, 109, 59, 10]⟩, .string ⟨#[9, 97, 100, 100, 32, 109, 32, 118, 59, 10]⟩, .string ⟨#[9, 102, 101, 110, 99, 101, 59, 10]⟩, .string ⟨#[9, 111, 117, 116, 112, 117, 116, 32, 118, 59, 10]⟩, .string ⟨#[9, 111, 117, 116, 112, 117, 116, 32, 118, 59, 10]⟩] 9) := ⟨_, rfl⟩
  rw [← hw9]
  have hs0' : w0.heap.size = n + 1 + 1 + 1 + 1 + 1 + 1 + 1 + 1 + 1 := by rw [HW.out, HN.out]; simp
  have hq : w9.heap[n + 1 + 1 + 1 + 1 + 1 + 1 + 1 + 1 + 1]? = some (.cells ((lineOf ct).map Value.string).toArray 9 (0, 0)) := by rw [hw9]; exact new_at4 _ hs0'.symm
  have hb9 : Below w0.heap.size w0 w9 := by rw [hw9]; exact (Below.refl _ _).alloc (Nat.le_refl _) _
  have hln : ∀ w', Below w9.heap.size w9 w' → w'.cell? ⟨n + 1 + 1 + 1 + 1 + 1 + 1 + 1 + 1 + 1, kd, none⟩ = some (.string sl) := fun w' hb => by
    rw [blk_cell (blk_below hq hb) kd]
    simp [HSL.out]
  have HLN := Lib.hid hln
  have HB9 := Lib.hid hb9
  have p0 : w9.cell? ⟨n + 1 + 1 + 1 + 1 + 1 + 1 + 1 + 1, 0, none⟩ = some (.slice (some ⟨n + 1 + 1 + 1 + 1 + 1, 0, none⟩) 2 2) := (blk_cell (blk_below HX.out hb9) 0).trans rfl
  have p1 : w9.cell? ⟨n + 1 + 1 + 1 + 1 + 1 + 1 + 1 + 1, 1, none⟩ = some (.slice (some ⟨n + 1 + 1 + 1 + 1 + 1 + 1 + 1, 0, none⟩) 1 1) := (blk_cell (blk_below HX.out hb9) 1).trans rfl
  have l0 : w9.cell? ⟨n + 1 + 1 + 1 + 1 + 1 + 1 + 1 + 1 + 1, kd, none⟩ = some (.string sl) := hln _ (Below.refl _ _)
  have hkt : kind.tmod 11 = (kd : Int) := by rw [Int.tmod_eq_emod_of_nonneg hk0]; exact hkd
  have i0 : (0 : Int) ≤ (kd : Int) := by omega
  have i1 : (kd : Int) < 11 := by omega
  clear hw9 hs0' hq hb9 hln
  have q1 : ¬ (9223372036854775807 < F.size + 19) := by omega
  have q2 : ¬ (9223372036854775807 < F.size + 19 + sl.size) := by omega
  have q3 : ¬ (9223372036854775807 < F.size + 19 + sl.size + 2) := by omega
  go_region_with ((go_at_call 11; refine (HTX'.out _ (HB9.out.trans ((Below.refl _ _).drew.mono HB9.out.size))).mono ?_; rintro e w' ⟨rfl, hbz⟩; have HBZ := Lib.hid (Below.trans (Below.refl w9.heap.size w9).drew hbz); have l1 := HLN.out _ HBZ.out; clear hbz))
  all_goals
    go_wp2
    go_ret
    exact ⟨rfl, HB.out.trans ((HB9.out.trans (HBZ.out.mono HB9.out.size)).mono HB.out.size)⟩
set_option maxHeartbeats 2000000 in
theorem tt_010 (W : World) (ht : TB W) (label : Int) (nm by' : ByteArray) (size count kind : Int) (hn : nm.size ≤ 1048576) (hb : by'.size ≤ 1048576) (s3 ct kd : Nat) (hs3 : size % 3 = s3) (hct : count % 10 = ct) (hkd : kind % 11 = kd) (hs0 : 0 ≤ size) (hs1 : size ≤ 255) (hc0 : 0 ≤ count) (hc1 : count ≤ 255) (hk0 : 0 ≤ kind) (hk1 : kind ≤ 255) (b3 : s3 < 3) (bc : ct < 10) (bk : kd < 11) (hl : label = 0) (hz : 0 < s3) (hbb : by'.size = 0) :
    Calls Tryd.prog 3 #[.int .i64 label, .string nm, .string by', .int .u8 size, .int .u8 count, .int .u8 kind] W fun e W' => e = .returned (.bool true) ∧ Below W.heap.size W W' := by
  have HAW := Lib.hid (awake4_calls W ht)
  obtain ⟨sl, hsl1, hsl2⟩ := line_of kd ct bk bc
  have hd : Dcl.ok ⟨false, label, nm, s3, by', 0⟩ := ⟨by show (s3 : Int) < 1000000; omega, by show nm.size ≤ 2000000; omega, by show by'.size ≤ 2000000; omega⟩
  have hF : declT ⟨false, label, nm, s3, by', 0⟩ = ((⟨#[112, 117, 98, 108, 105, 99, 32]⟩ : ByteArray) ++ nm ++ ⟨#[91]⟩ ++ dgt s3 ++ ⟨#[93]⟩) ++ ⟨#[59]⟩ := by
    refine bl_ext ?_
    unfold declT
    simp only [if_pos hl, if_pos (show (0 : Int) < (s3 : Int) by omega), if_pos hbb, bl_app, num_one s3 (by omega)]
    simp only [if_false, Bool.false_eq_true, bl_app, num_one s3 (by omega), List.append_assoc]
    rfl
  have HOK := Lib.hid (prg_ok ⟨false, label, nm, s3, by', 0⟩ hd kd ct bk bc)
  have HTX := Lib.hid (prg_text ⟨false, label, nm, s3, by', 0⟩ _ hF kd ct sl hsl2)
  have HSL := Lib.hid hsl1
  have HT := Lib.hid ht
  have hslz : sl.size ≤ 1000 := by
    have h := congrArg List.length hsl2
    rw [bl_len] at h
    have h2 := blkT_len (oneB kd ct) ((prg_ok ⟨false, label, nm, s3, by', 0⟩ hd kd ct bk bc).ts _ (by simp)).1 1
    have h3 : (oneB kd ct).bd 1 ≤ 1000 := by show 100 + 3 * 1 + 1 + (1 + (1 + 0)) + (100 + 3 * 2 + 0 + 0 + 0 + 0 + 0) + 0 + 0 ≤ 1000; omega
    omega
  have hz1 : (dgt s3).size ≤ 1 := Nat.le_refl _
  have hz2 : (dgt ct).size ≤ 1 := Nat.le_refl _
  clear ht hsl1 hsl2 hd hF
  subst hl
  obtain rfl : by' = ⟨#[]⟩ := by
    obtain ⟨⟨l⟩⟩ := by'
    cases l with
    | nil => rfl
    | cons a t => simp [ByteArray.size] at hbb
  go_enter Tryd.func3, Tryd.ntmps3
  go_wp2_with fail
  refine HAW.out.mono ?_
  rintro e w1 ⟨rfl, hb1⟩
  have HB1 := Lib.hid hb1
  clear hb1
  go_wp2_with fail
  refine (digit_calls s3 (by omega) _).mono ?_
  rintro e w2 ⟨rfl, rfl⟩
  go_wp2_with fail
  refine (digit_calls ct (by omega) _).mono ?_
  rintro e w2 ⟨rfl, rfl⟩
  go_wp2_with fail
  obtain ⟨n, hnn⟩ : ∃ n, n = w1.heap.size := ⟨_, rfl⟩
  rw [← hnn]
  obtain ⟨w0, hw0⟩ : ∃ w0, w0 = ((((((((w1.alloc (dbox ⟨false, 0, nm, s3, ⟨#[]⟩, 0⟩)).alloc (box (xN 118))).alloc (box2 (xN 118) (xN 118))).alloc (sbox fenceV)).alloc (sbox (oneV kd ct n))).alloc (.cells #[.bool false, .int .i64 0, .string nm, .int .i64 s3, .string ⟨#[]⟩, .int .i64 0, .bool true, .int .i64 0, .string ⟨#[108]⟩, .int .i64 0, .string ⟨#[]⟩, .int .i64 0] TD)).alloc (sbox (oneV kd ct n))).alloc (.cells #[.slice (some ⟨n + 1 + 1 + 1 + 1 + 1 + 1, 0, none⟩) 1 1] TB')).alloc (.cells #[.slice (some ⟨n + 1 + 1 + 1 + 1 + 1, 0, none⟩) 2 2, .slice (some ⟨n + 1 + 1 + 1 + 1 + 1 + 1 + 1, 0, none⟩) 1 1] 39) := ⟨_, rfl⟩
  have r1 : w0.heap[n + 1 + 1]? = some (box2 (xN 118) (xN 118)) := by rw [hw0]; exact blk_alloc (blk_alloc (blk_alloc (blk_alloc (blk_alloc (blk_alloc (new_at4 _ (by simp [hnn])) _) _) _) _) _) _
  have r2 : w0.heap[n + 1 + 1 + 1]? = some (sbox fenceV) := by rw [hw0]; exact blk_alloc (blk_alloc (blk_alloc (blk_alloc (blk_alloc (new_at4 _ (by simp [hnn])) _) _) _) _) _
  have r3 : w0.heap[n + 1 + 1 + 1 + 1 + 1]? = some (.cells #[.bool false, .int .i64 0, .string nm, .int .i64 s3, .string ⟨#[]⟩, .int .i64 0, .bool true, .int .i64 0, .string ⟨#[108]⟩, .int .i64 0, .string ⟨#[]⟩, .int .i64 0] TD) := by rw [hw0]; exact blk_alloc (blk_alloc (blk_alloc (new_at4 _ (by simp [hnn])) _) _) _
  have r4 : w0.heap[n + 1 + 1 + 1 + 1 + 1 + 1]? = some (sbox (oneV kd ct n)) := by rw [hw0]; exact blk_alloc (blk_alloc (new_at4 _ (by simp [hnn])) _) _
  have r5 : w0.heap[n + 1 + 1 + 1 + 1 + 1 + 1 + 1]? = some (.cells #[.slice (some ⟨n + 1 + 1 + 1 + 1 + 1 + 1, 0, none⟩) 1 1] TB') := by rw [hw0]; exact blk_alloc (new_at4 _ (by simp [hnn])) _
  have r6 : w0.heap[n + 1 + 1 + 1 + 1 + 1 + 1 + 1 + 1]? = some (.cells #[.slice (some ⟨n + 1 + 1 + 1 + 1 + 1, 0, none⟩) 2 2, .slice (some ⟨n + 1 + 1 + 1 + 1 + 1 + 1 + 1, 0, none⟩) 1 1] 39) := by rw [hw0]; exact new_at4 _ (by simp [hnn])
  have hB : Below w1.heap.size w1 w0 := by
    rw [hw0]
    repeat' (first | exact Below.refl _ _ | refine Below.alloc ?_ (by simp; try omega) _)
  obtain ⟨hDS, hTS⟩ := prg_mem ⟨false, 0, nm, s3, ⟨#[]⟩, 0⟩ kd ct n w0 r1 r2 r3 r4 r5
  have HX := Lib.hid r6
  have HB := Lib.hid (HB1.out.trans (hB.mono HB1.out.size))
  have HDS := Lib.hid hDS
  have HTS := Lib.hid hTS
  have HW := Lib.hid hw0
  obtain ⟨F, hFF⟩ : ∃ F : ByteArray, F = (⟨#[112, 117, 98, 108, 105, 99, 32]⟩ : ByteArray) ++ nm ++ ⟨#[91]⟩ ++ dgt s3 ++ ⟨#[93]⟩ := ⟨_, rfl⟩
  have hFs : F.size ≤ 3000000 := by
    rw [hFF]
    simp only [ByteArray.size_append, show (⟨#[112, 117, 98, 108, 105, 99, 32]⟩ : ByteArray).size = 7 from rfl, show (⟨#[91]⟩ : ByteArray).size = 1 from rfl, show (⟨#[93]⟩ : ByteArray).size = 1 from rfl]
    omega
  rw [← hFF] at HTX
  rw [← hFF]
  have HFF := Lib.hid hFF
  clear hFF
  have HTX' : Hid (∀ w', Below w0.heap.size w0 w' → Calls Tryd.prog 11 #[.agg #[.slice (some ⟨n + 1 + 1 + 1 + 1 + 1, 0, none⟩) 2 2, .slice (some ⟨n + 1 + 1 + 1 + 1 + 1 + 1 + 1, 0, none⟩) 1 1]] w' (Says w' (F ++ ⟨#[59, 10, 108, 111, 99, 107, 32, 108, 59, 10, 116, 104, 114, 101, 97, 100, 32, 123, 10]⟩ ++ sl ++ ⟨#[125, 10]⟩))) := Lib.hid fun w' hb => by
    have h := text_calls (prgT ⟨false, 0, nm, s3, ⟨#[]⟩, 0⟩ kd ct) (fun _ => True) _ _ _ _ _ _ w' ⟨HDS.out.1, HDS.out.2.mono (fun _ h _ => h) fun g _ hl => hb.block g hl⟩ ⟨HTS.out.1, HTS.out.2.imp fun vs h => ⟨h.1.stay (fun _ h _ => h) (Stay.of fun g _ hl => hb.block g hl) (Stay.of fun g _ hl => hb.block g hl), h.2.mono (fun _ h _ => h) fun g _ hl => hb.block g hl⟩⟩ HOK.out (HT.out.below (HB.out.trans (hb.mono HB.out.size)))
    rw [HTX.out] at h
    exact h
  have HN := Lib.hid hnn
  clear r1 r2 r3 r4 r5 r6 hB hDS hTS hw0 hnn
  rw [← HW.out]
  obtain ⟨w9, hw9⟩ : ∃ w9, w9 = w0.alloc (.cells #[.string ⟨#[9, 108, 111, 99, 97, 108, 32, 109, 32, 61, 32, 118, 59, 10]⟩, .string ⟨#[9, 109, 32, 61, 32, 118, 59, 10]⟩, .string ⟨#[9, 109, 91, 118, 93, 32, 61, 32, 118, 59, 10]⟩, .string ⟨#[9, 105, 102, 32, 40, 118, 41, 32, 123, 10, 9, 9, 102, 101, 110, 99, 101, 59, 10, 9, 125, 10]⟩, .string ((⟨#[9, 108, 111, 111, 112, 32, 109, 32]⟩ : ByteArray) ++ dgt ct ++ ⟨#[32, 123, 10, 9, 9, 102, 101, 110, 99, 101, 59, 10, 9, 125, 10]⟩), .string ⟨#[9, 116, 97, 107, 101, 32, 109, 59, 10]⟩, .string ⟨#[9, 103, 105, 118, 101, 32, 109, 59, 10]⟩, .string ⟨#[9, 97, 100, 100, 32, 109, 32, 118, 59, 10]⟩, .string ⟨#[9, 102, 101, 110, 99, 101, 59, 10]⟩, .string ⟨#[9, 111, 117, 116, 112, 117, 116, 32, 118, 59, 10]⟩, .string ⟨#[9, 111, 117, 116, 112, 117, 116, 32, 118, 59, 10]⟩] 9) := ⟨_, rfl⟩
  rw [← hw9]
  have hs0' : w0.heap.size = n + 1 + 1 + 1 + 1 + 1 + 1 + 1 + 1 + 1 := by rw [HW.out, HN.out]; simp
  have hq : w9.heap[n + 1 + 1 + 1 + 1 + 1 + 1 + 1 + 1 + 1]? = some (.cells ((lineOf ct).map Value.string).toArray 9 (0, 0)) := by rw [hw9]; exact new_at4 _ hs0'.symm
  have hb9 : Below w0.heap.size w0 w9 := by rw [hw9]; exact (Below.refl _ _).alloc (Nat.le_refl _) _
  have hln : ∀ w', Below w9.heap.size w9 w' → w'.cell? ⟨n + 1 + 1 + 1 + 1 + 1 + 1 + 1 + 1 + 1, kd, none⟩ = some (.string sl) := fun w' hb => by
    rw [blk_cell (blk_below hq hb) kd]
    simp [HSL.out]
  have HLN := Lib.hid hln
  have HB9 := Lib.hid hb9
  have p0 : w9.cell? ⟨n + 1 + 1 + 1 + 1 + 1 + 1 + 1 + 1, 0, none⟩ = some (.slice (some ⟨n + 1 + 1 + 1 + 1 + 1, 0, none⟩) 2 2) := (blk_cell (blk_below HX.out hb9) 0).trans rfl
  have p1 : w9.cell? ⟨n + 1 + 1 + 1 + 1 + 1 + 1 + 1 + 1, 1, none⟩ = some (.slice (some ⟨n + 1 + 1 + 1 + 1 + 1 + 1 + 1, 0, none⟩) 1 1) := (blk_cell (blk_below HX.out hb9) 1).trans rfl
  have l0 : w9.cell? ⟨n + 1 + 1 + 1 + 1 + 1 + 1 + 1 + 1 + 1, kd, none⟩ = some (.string sl) := hln _ (Below.refl _ _)
  have hkt : kind.tmod 11 = (kd : Int) := by rw [Int.tmod_eq_emod_of_nonneg hk0]; exact hkd
  have i0 : (0 : Int) ≤ (kd : Int) := by omega
  have i1 : (kd : Int) < 11 := by omega
  clear hw9 hs0' hq hb9 hln
  have q1 : ¬ (9223372036854775807 < F.size + 19) := by omega
  have q2 : ¬ (9223372036854775807 < F.size + 19 + sl.size) := by omega
  have q3 : ¬ (9223372036854775807 < F.size + 19 + sl.size + 2) := by omega
  go_region_with ((go_at_call 11; refine (HTX'.out _ (HB9.out.trans ((Below.refl _ _).drew.mono HB9.out.size))).mono ?_; rintro e w' ⟨rfl, hbz⟩; have HBZ := Lib.hid (Below.trans (Below.refl w9.heap.size w9).drew hbz); have l1 := HLN.out _ HBZ.out; clear hbz))
  all_goals
    go_wp2
    go_ret
    exact ⟨rfl, HB.out.trans ((HB9.out.trans (HBZ.out.mono HB9.out.size)).mono HB.out.size)⟩
set_option maxHeartbeats 2000000 in
theorem tt_011 (W : World) (ht : TB W) (label : Int) (nm by' : ByteArray) (size count kind : Int) (hn : nm.size ≤ 1048576) (hb : by'.size ≤ 1048576) (s3 ct kd : Nat) (hs3 : size % 3 = s3) (hct : count % 10 = ct) (hkd : kind % 11 = kd) (hs0 : 0 ≤ size) (hs1 : size ≤ 255) (hc0 : 0 ≤ count) (hc1 : count ≤ 255) (hk0 : 0 ≤ kind) (hk1 : kind ≤ 255) (b3 : s3 < 3) (bc : ct < 10) (bk : kd < 11) (hl : label = 0) (hz : 0 < s3) (hbb : ¬ by'.size = 0) :
    Calls Tryd.prog 3 #[.int .i64 label, .string nm, .string by', .int .u8 size, .int .u8 count, .int .u8 kind] W fun e W' => e = .returned (.bool true) ∧ Below W.heap.size W W' := by
  have HAW := Lib.hid (awake4_calls W ht)
  obtain ⟨sl, hsl1, hsl2⟩ := line_of kd ct bk bc
  have hd : Dcl.ok ⟨false, label, nm, s3, by', 0⟩ := ⟨by show (s3 : Int) < 1000000; omega, by show nm.size ≤ 2000000; omega, by show by'.size ≤ 2000000; omega⟩
  have hF : declT ⟨false, label, nm, s3, by', 0⟩ = ((⟨#[112, 117, 98, 108, 105, 99, 32]⟩ : ByteArray) ++ nm ++ ⟨#[91]⟩ ++ dgt s3 ++ ⟨#[93]⟩ ++ ⟨#[32, 98, 121, 32]⟩ ++ by') ++ ⟨#[59]⟩ := by
    refine bl_ext ?_
    unfold declT
    simp only [if_pos hl, if_pos (show (0 : Int) < (s3 : Int) by omega), if_neg hbb, bl_app, num_one s3 (by omega)]
    simp only [if_false, Bool.false_eq_true, bl_app, num_one s3 (by omega), List.append_assoc]
    rfl
  have HOK := Lib.hid (prg_ok ⟨false, label, nm, s3, by', 0⟩ hd kd ct bk bc)
  have HTX := Lib.hid (prg_text ⟨false, label, nm, s3, by', 0⟩ _ hF kd ct sl hsl2)
  have HSL := Lib.hid hsl1
  have HT := Lib.hid ht
  have hslz : sl.size ≤ 1000 := by
    have h := congrArg List.length hsl2
    rw [bl_len] at h
    have h2 := blkT_len (oneB kd ct) ((prg_ok ⟨false, label, nm, s3, by', 0⟩ hd kd ct bk bc).ts _ (by simp)).1 1
    have h3 : (oneB kd ct).bd 1 ≤ 1000 := by show 100 + 3 * 1 + 1 + (1 + (1 + 0)) + (100 + 3 * 2 + 0 + 0 + 0 + 0 + 0) + 0 + 0 ≤ 1000; omega
    omega
  have hz1 : (dgt s3).size ≤ 1 := Nat.le_refl _
  have hz2 : (dgt ct).size ≤ 1 := Nat.le_refl _
  clear ht hsl1 hsl2 hd hF
  subst hl
  have hbe : by'.toList.isEmpty = false := by
    rw [Lib.toList_data]
    obtain ⟨⟨l⟩⟩ := by'
    cases l with
    | nil => exact absurd rfl hbb
    | cons a t => rfl
  have hbl : ¬ by'.toList = [] := fun h => by rw [h] at hbe; cases hbe
  go_enter Tryd.func3, Tryd.ntmps3
  go_wp2_with fail
  refine HAW.out.mono ?_
  rintro e w1 ⟨rfl, hb1⟩
  have HB1 := Lib.hid hb1
  clear hb1
  go_wp2_with fail
  refine (digit_calls s3 (by omega) _).mono ?_
  rintro e w2 ⟨rfl, rfl⟩
  go_wp2_with fail
  refine (digit_calls ct (by omega) _).mono ?_
  rintro e w2 ⟨rfl, rfl⟩
  go_wp2_with fail
  obtain ⟨n, hnn⟩ : ∃ n, n = w1.heap.size := ⟨_, rfl⟩
  rw [← hnn]
  obtain ⟨w0, hw0⟩ : ∃ w0, w0 = ((((((((w1.alloc (dbox ⟨false, 0, nm, s3, by', 0⟩)).alloc (box (xN 118))).alloc (box2 (xN 118) (xN 118))).alloc (sbox fenceV)).alloc (sbox (oneV kd ct n))).alloc (.cells #[.bool false, .int .i64 0, .string nm, .int .i64 s3, .string by', .int .i64 0, .bool true, .int .i64 0, .string ⟨#[108]⟩, .int .i64 0, .string ⟨#[]⟩, .int .i64 0] TD)).alloc (sbox (oneV kd ct n))).alloc (.cells #[.slice (some ⟨n + 1 + 1 + 1 + 1 + 1 + 1, 0, none⟩) 1 1] TB')).alloc (.cells #[.slice (some ⟨n + 1 + 1 + 1 + 1 + 1, 0, none⟩) 2 2, .slice (some ⟨n + 1 + 1 + 1 + 1 + 1 + 1 + 1, 0, none⟩) 1 1] 39) := ⟨_, rfl⟩
  have r1 : w0.heap[n + 1 + 1]? = some (box2 (xN 118) (xN 118)) := by rw [hw0]; exact blk_alloc (blk_alloc (blk_alloc (blk_alloc (blk_alloc (blk_alloc (new_at4 _ (by simp [hnn])) _) _) _) _) _) _
  have r2 : w0.heap[n + 1 + 1 + 1]? = some (sbox fenceV) := by rw [hw0]; exact blk_alloc (blk_alloc (blk_alloc (blk_alloc (blk_alloc (new_at4 _ (by simp [hnn])) _) _) _) _) _
  have r3 : w0.heap[n + 1 + 1 + 1 + 1 + 1]? = some (.cells #[.bool false, .int .i64 0, .string nm, .int .i64 s3, .string by', .int .i64 0, .bool true, .int .i64 0, .string ⟨#[108]⟩, .int .i64 0, .string ⟨#[]⟩, .int .i64 0] TD) := by rw [hw0]; exact blk_alloc (blk_alloc (blk_alloc (new_at4 _ (by simp [hnn])) _) _) _
  have r4 : w0.heap[n + 1 + 1 + 1 + 1 + 1 + 1]? = some (sbox (oneV kd ct n)) := by rw [hw0]; exact blk_alloc (blk_alloc (new_at4 _ (by simp [hnn])) _) _
  have r5 : w0.heap[n + 1 + 1 + 1 + 1 + 1 + 1 + 1]? = some (.cells #[.slice (some ⟨n + 1 + 1 + 1 + 1 + 1 + 1, 0, none⟩) 1 1] TB') := by rw [hw0]; exact blk_alloc (new_at4 _ (by simp [hnn])) _
  have r6 : w0.heap[n + 1 + 1 + 1 + 1 + 1 + 1 + 1 + 1]? = some (.cells #[.slice (some ⟨n + 1 + 1 + 1 + 1 + 1, 0, none⟩) 2 2, .slice (some ⟨n + 1 + 1 + 1 + 1 + 1 + 1 + 1, 0, none⟩) 1 1] 39) := by rw [hw0]; exact new_at4 _ (by simp [hnn])
  have hB : Below w1.heap.size w1 w0 := by
    rw [hw0]
    repeat' (first | exact Below.refl _ _ | refine Below.alloc ?_ (by simp; try omega) _)
  obtain ⟨hDS, hTS⟩ := prg_mem ⟨false, 0, nm, s3, by', 0⟩ kd ct n w0 r1 r2 r3 r4 r5
  have HX := Lib.hid r6
  have HB := Lib.hid (HB1.out.trans (hB.mono HB1.out.size))
  have HDS := Lib.hid hDS
  have HTS := Lib.hid hTS
  have HW := Lib.hid hw0
  obtain ⟨F, hFF⟩ : ∃ F : ByteArray, F = (⟨#[112, 117, 98, 108, 105, 99, 32]⟩ : ByteArray) ++ nm ++ ⟨#[91]⟩ ++ dgt s3 ++ ⟨#[93]⟩ ++ ⟨#[32, 98, 121, 32]⟩ ++ by' := ⟨_, rfl⟩
  have hFs : F.size ≤ 3000000 := by
    rw [hFF]
    simp only [ByteArray.size_append, show (⟨#[112, 117, 98, 108, 105, 99, 32]⟩ : ByteArray).size = 7 from rfl, show (⟨#[91]⟩ : ByteArray).size = 1 from rfl, show (⟨#[93]⟩ : ByteArray).size = 1 from rfl, show (⟨#[32, 98, 121, 32]⟩ : ByteArray).size = 4 from rfl]
    omega
  rw [← hFF] at HTX
  rw [← hFF]
  have HFF := Lib.hid hFF
  clear hFF
  have HTX' : Hid (∀ w', Below w0.heap.size w0 w' → Calls Tryd.prog 11 #[.agg #[.slice (some ⟨n + 1 + 1 + 1 + 1 + 1, 0, none⟩) 2 2, .slice (some ⟨n + 1 + 1 + 1 + 1 + 1 + 1 + 1, 0, none⟩) 1 1]] w' (Says w' (F ++ ⟨#[59, 10, 108, 111, 99, 107, 32, 108, 59, 10, 116, 104, 114, 101, 97, 100, 32, 123, 10]⟩ ++ sl ++ ⟨#[125, 10]⟩))) := Lib.hid fun w' hb => by
    have h := text_calls (prgT ⟨false, 0, nm, s3, by', 0⟩ kd ct) (fun _ => True) _ _ _ _ _ _ w' ⟨HDS.out.1, HDS.out.2.mono (fun _ h _ => h) fun g _ hl => hb.block g hl⟩ ⟨HTS.out.1, HTS.out.2.imp fun vs h => ⟨h.1.stay (fun _ h _ => h) (Stay.of fun g _ hl => hb.block g hl) (Stay.of fun g _ hl => hb.block g hl), h.2.mono (fun _ h _ => h) fun g _ hl => hb.block g hl⟩⟩ HOK.out (HT.out.below (HB.out.trans (hb.mono HB.out.size)))
    rw [HTX.out] at h
    exact h
  have HN := Lib.hid hnn
  clear r1 r2 r3 r4 r5 r6 hB hDS hTS hw0 hnn
  rw [← HW.out]
  obtain ⟨w9, hw9⟩ : ∃ w9, w9 = w0.alloc (.cells #[.string ⟨#[9, 108, 111, 99, 97, 108, 32, 109, 32, 61, 32, 118, 59, 10]⟩, .string ⟨#[9, 109, 32, 61, 32, 118, 59, 10]⟩, .string ⟨#[9, 109, 91, 118, 93, 32, 61, 32, 118, 59, 10]⟩, .string ⟨#[9, 105, 102, 32, 40, 118, 41, 32, 123, 10, 9, 9, 102, 101, 110, 99, 101, 59, 10, 9, 125, 10]⟩, .string ((⟨#[9, 108, 111, 111, 112, 32, 109, 32]⟩ : ByteArray) ++ dgt ct ++ ⟨#[32, 123, 10, 9, 9, 102, 101, 110, 99, 101, 59, 10, 9, 125, 10]⟩), .string ⟨#[9, 116, 97, 107, 101, 32, 109, 59, 10]⟩, .string ⟨#[9, 103, 105, 118, 101, 32, 109, 59, 10]⟩, .string ⟨#[9, 97, 100, 100, 32, 109, 32, 118, 59, 10]⟩, .string ⟨#[9, 102, 101, 110, 99, 101, 59, 10]⟩, .string ⟨#[9, 111, 117, 116, 112, 117, 116, 32, 118, 59, 10]⟩, .string ⟨#[9, 111, 117, 116, 112, 117, 116, 32, 118, 59, 10]⟩] 9) := ⟨_, rfl⟩
  rw [← hw9]
  have hs0' : w0.heap.size = n + 1 + 1 + 1 + 1 + 1 + 1 + 1 + 1 + 1 := by rw [HW.out, HN.out]; simp
  have hq : w9.heap[n + 1 + 1 + 1 + 1 + 1 + 1 + 1 + 1 + 1]? = some (.cells ((lineOf ct).map Value.string).toArray 9 (0, 0)) := by rw [hw9]; exact new_at4 _ hs0'.symm
  have hb9 : Below w0.heap.size w0 w9 := by rw [hw9]; exact (Below.refl _ _).alloc (Nat.le_refl _) _
  have hln : ∀ w', Below w9.heap.size w9 w' → w'.cell? ⟨n + 1 + 1 + 1 + 1 + 1 + 1 + 1 + 1 + 1, kd, none⟩ = some (.string sl) := fun w' hb => by
    rw [blk_cell (blk_below hq hb) kd]
    simp [HSL.out]
  have HLN := Lib.hid hln
  have HB9 := Lib.hid hb9
  have p0 : w9.cell? ⟨n + 1 + 1 + 1 + 1 + 1 + 1 + 1 + 1, 0, none⟩ = some (.slice (some ⟨n + 1 + 1 + 1 + 1 + 1, 0, none⟩) 2 2) := (blk_cell (blk_below HX.out hb9) 0).trans rfl
  have p1 : w9.cell? ⟨n + 1 + 1 + 1 + 1 + 1 + 1 + 1 + 1, 1, none⟩ = some (.slice (some ⟨n + 1 + 1 + 1 + 1 + 1 + 1 + 1, 0, none⟩) 1 1) := (blk_cell (blk_below HX.out hb9) 1).trans rfl
  have l0 : w9.cell? ⟨n + 1 + 1 + 1 + 1 + 1 + 1 + 1 + 1 + 1, kd, none⟩ = some (.string sl) := hln _ (Below.refl _ _)
  have hkt : kind.tmod 11 = (kd : Int) := by rw [Int.tmod_eq_emod_of_nonneg hk0]; exact hkd
  have i0 : (0 : Int) ≤ (kd : Int) := by omega
  have i1 : (kd : Int) < 11 := by omega
  clear hw9 hs0' hq hb9 hln
  have q1 : ¬ (9223372036854775807 < F.size + 19) := by omega
  have q2 : ¬ (9223372036854775807 < F.size + 19 + sl.size) := by omega
  have q3 : ¬ (9223372036854775807 < F.size + 19 + sl.size + 2) := by omega
  go_region_with ((go_at_call 11; refine (HTX'.out _ (HB9.out.trans ((Below.refl _ _).drew.mono HB9.out.size))).mono ?_; rintro e w' ⟨rfl, hbz⟩; have HBZ := Lib.hid (Below.trans (Below.refl w9.heap.size w9).drew hbz); have l1 := HLN.out _ HBZ.out; clear hbz))
  all_goals
    go_wp2
    go_ret
    exact ⟨rfl, HB.out.trans ((HB9.out.trans (HBZ.out.mono HB9.out.size)).mono HB.out.size)⟩
set_option maxHeartbeats 2000000 in
theorem tt_100 (W : World) (ht : TB W) (label : Int) (nm by' : ByteArray) (size count kind : Int) (hn : nm.size ≤ 1048576) (hb : by'.size ≤ 1048576) (s3 ct kd : Nat) (hs3 : size % 3 = s3) (hct : count % 10 = ct) (hkd : kind % 11 = kd) (hs0 : 0 ≤ size) (hs1 : size ≤ 255) (hc0 : 0 ≤ count) (hc1 : count ≤ 255) (hk0 : 0 ≤ kind) (hk1 : kind ≤ 255) (b3 : s3 < 3) (bc : ct < 10) (bk : kd < 11) (hl : ¬ label = 0) (hz : s3 = 0) (hbb : by'.size = 0) :
    Calls Tryd.prog 3 #[.int .i64 label, .string nm, .string by', .int .u8 size, .int .u8 count, .int .u8 kind] W fun e W' => e = .returned (.bool true) ∧ Below W.heap.size W W' := by
  have HAW := Lib.hid (awake4_calls W ht)
  obtain ⟨sl, hsl1, hsl2⟩ := line_of kd ct bk bc
  have hd : Dcl.ok ⟨false, label, nm, s3, by', 0⟩ := ⟨by show (s3 : Int) < 1000000; omega, by show nm.size ≤ 2000000; omega, by show by'.size ≤ 2000000; omega⟩
  have hF : declT ⟨false, label, nm, s3, by', 0⟩ = ((⟨#[115, 101, 99, 114, 101, 116, 32]⟩ : ByteArray) ++ nm) ++ ⟨#[59]⟩ := by
    refine bl_ext ?_
    unfold declT
    simp only [if_neg hl, if_neg (show ¬ (0 : Int) < (s3 : Int) by omega), if_pos hbb, bl_app]
    simp only [if_false, Bool.false_eq_true, bl_app, List.append_assoc]
    rfl
  have HOK := Lib.hid (prg_ok ⟨false, label, nm, s3, by', 0⟩ hd kd ct bk bc)
  have HTX := Lib.hid (prg_text ⟨false, label, nm, s3, by', 0⟩ _ hF kd ct sl hsl2)
  have HSL := Lib.hid hsl1
  have HT := Lib.hid ht
  have hslz : sl.size ≤ 1000 := by
    have h := congrArg List.length hsl2
    rw [bl_len] at h
    have h2 := blkT_len (oneB kd ct) ((prg_ok ⟨false, label, nm, s3, by', 0⟩ hd kd ct bk bc).ts _ (by simp)).1 1
    have h3 : (oneB kd ct).bd 1 ≤ 1000 := by show 100 + 3 * 1 + 1 + (1 + (1 + 0)) + (100 + 3 * 2 + 0 + 0 + 0 + 0 + 0) + 0 + 0 ≤ 1000; omega
    omega
  have hz1 : (dgt s3).size ≤ 1 := Nat.le_refl _
  have hz2 : (dgt ct).size ≤ 1 := Nat.le_refl _
  clear ht hsl1 hsl2 hd hF
  have hl2 : (label != 0) = true := by simp [hl]
  obtain rfl : by' = ⟨#[]⟩ := by
    obtain ⟨⟨l⟩⟩ := by'
    cases l with
    | nil => rfl
    | cons a t => simp [ByteArray.size] at hbb
  subst hz
  go_enter Tryd.func3, Tryd.ntmps3
  go_wp2_with fail
  refine HAW.out.mono ?_
  rintro e w1 ⟨rfl, hb1⟩
  have HB1 := Lib.hid hb1
  clear hb1
  go_wp2_with fail
  refine (digit_calls ct (by omega) _).mono ?_
  rintro e w2 ⟨rfl, rfl⟩
  go_wp2_with fail
  obtain ⟨n, hnn⟩ : ∃ n, n = w1.heap.size := ⟨_, rfl⟩
  rw [← hnn]
  obtain ⟨w0, hw0⟩ : ∃ w0, w0 = ((((((((w1.alloc (dbox ⟨false, label, nm, 0, ⟨#[]⟩, 0⟩)).alloc (box (xN 118))).alloc (box2 (xN 118) (xN 118))).alloc (sbox fenceV)).alloc (sbox (oneV kd ct n))).alloc (.cells #[.bool false, .int .i64 label, .string nm, .int .i64 0, .string ⟨#[]⟩, .int .i64 0, .bool true, .int .i64 0, .string ⟨#[108]⟩, .int .i64 0, .string ⟨#[]⟩, .int .i64 0] TD)).alloc (sbox (oneV kd ct n))).alloc (.cells #[.slice (some ⟨n + 1 + 1 + 1 + 1 + 1 + 1, 0, none⟩) 1 1] TB')).alloc (.cells #[.slice (some ⟨n + 1 + 1 + 1 + 1 + 1, 0, none⟩) 2 2, .slice (some ⟨n + 1 + 1 + 1 + 1 + 1 + 1 + 1, 0, none⟩) 1 1] 39) := ⟨_, rfl⟩
  have r1 : w0.heap[n + 1 + 1]? = some (box2 (xN 118) (xN 118)) := by rw [hw0]; exact blk_alloc (blk_alloc (blk_alloc (blk_alloc (blk_alloc (blk_alloc (new_at4 _ (by simp [hnn])) _) _) _) _) _) _
  have r2 : w0.heap[n + 1 + 1 + 1]? = some (sbox fenceV) := by rw [hw0]; exact blk_alloc (blk_alloc (blk_alloc (blk_alloc (blk_alloc (new_at4 _ (by simp [hnn])) _) _) _) _) _
  have r3 : w0.heap[n + 1 + 1 + 1 + 1 + 1]? = some (.cells #[.bool false, .int .i64 label, .string nm, .int .i64 0, .string ⟨#[]⟩, .int .i64 0, .bool true, .int .i64 0, .string ⟨#[108]⟩, .int .i64 0, .string ⟨#[]⟩, .int .i64 0] TD) := by rw [hw0]; exact blk_alloc (blk_alloc (blk_alloc (new_at4 _ (by simp [hnn])) _) _) _
  have r4 : w0.heap[n + 1 + 1 + 1 + 1 + 1 + 1]? = some (sbox (oneV kd ct n)) := by rw [hw0]; exact blk_alloc (blk_alloc (new_at4 _ (by simp [hnn])) _) _
  have r5 : w0.heap[n + 1 + 1 + 1 + 1 + 1 + 1 + 1]? = some (.cells #[.slice (some ⟨n + 1 + 1 + 1 + 1 + 1 + 1, 0, none⟩) 1 1] TB') := by rw [hw0]; exact blk_alloc (new_at4 _ (by simp [hnn])) _
  have r6 : w0.heap[n + 1 + 1 + 1 + 1 + 1 + 1 + 1 + 1]? = some (.cells #[.slice (some ⟨n + 1 + 1 + 1 + 1 + 1, 0, none⟩) 2 2, .slice (some ⟨n + 1 + 1 + 1 + 1 + 1 + 1 + 1, 0, none⟩) 1 1] 39) := by rw [hw0]; exact new_at4 _ (by simp [hnn])
  have hB : Below w1.heap.size w1 w0 := by
    rw [hw0]
    repeat' (first | exact Below.refl _ _ | refine Below.alloc ?_ (by simp; try omega) _)
  obtain ⟨hDS, hTS⟩ := prg_mem ⟨false, label, nm, ((0 : Nat) : Int), ⟨#[]⟩, 0⟩ kd ct n w0 r1 r2 r3 r4 r5
  have HX := Lib.hid r6
  have HB := Lib.hid (HB1.out.trans (hB.mono HB1.out.size))
  have HDS := Lib.hid hDS
  have HTS := Lib.hid hTS
  have HW := Lib.hid hw0
  obtain ⟨F, hFF⟩ : ∃ F : ByteArray, F = (⟨#[115, 101, 99, 114, 101, 116, 32]⟩ : ByteArray) ++ nm := ⟨_, rfl⟩
  have hFs : F.size ≤ 3000000 := by
    rw [hFF]
    simp only [ByteArray.size_append, show (⟨#[115, 101, 99, 114, 101, 116, 32]⟩ : ByteArray).size = 7 from rfl]
    omega
  rw [← hFF] at HTX
  rw [← hFF]
  have HFF := Lib.hid hFF
  clear hFF
  have HTX' : Hid (∀ w', Below w0.heap.size w0 w' → Calls Tryd.prog 11 #[.agg #[.slice (some ⟨n + 1 + 1 + 1 + 1 + 1, 0, none⟩) 2 2, .slice (some ⟨n + 1 + 1 + 1 + 1 + 1 + 1 + 1, 0, none⟩) 1 1]] w' (Says w' (F ++ ⟨#[59, 10, 108, 111, 99, 107, 32, 108, 59, 10, 116, 104, 114, 101, 97, 100, 32, 123, 10]⟩ ++ sl ++ ⟨#[125, 10]⟩))) := Lib.hid fun w' hb => by
    have h := text_calls (prgT ⟨false, label, nm, ((0 : Nat) : Int), ⟨#[]⟩, 0⟩ kd ct) (fun _ => True) _ _ _ _ _ _ w' ⟨HDS.out.1, HDS.out.2.mono (fun _ h _ => h) fun g _ hl => hb.block g hl⟩ ⟨HTS.out.1, HTS.out.2.imp fun vs h => ⟨h.1.stay (fun _ h _ => h) (Stay.of fun g _ hl => hb.block g hl) (Stay.of fun g _ hl => hb.block g hl), h.2.mono (fun _ h _ => h) fun g _ hl => hb.block g hl⟩⟩ HOK.out (HT.out.below (HB.out.trans (hb.mono HB.out.size)))
    rw [HTX.out] at h
    exact h
  have HN := Lib.hid hnn
  clear r1 r2 r3 r4 r5 r6 hB hDS hTS hw0 hnn
  rw [← HW.out]
  obtain ⟨w9, hw9⟩ : ∃ w9, w9 = w0.alloc (.cells #[.string ⟨#[9, 108, 111, 99, 97, 108, 32, 109, 32, 61, 32, 118, 59, 10]⟩, .string ⟨#[9, 109, 32, 61, 32, 118, 59, 10]⟩, .string ⟨#[9, 109, 91, 118, 93, 32, 61, 32, 118, 59, 10]⟩, .string ⟨#[9, 105, 102, 32, 40, 118, 41, 32, 123, 10, 9, 9, 102, 101, 110, 99, 101, 59, 10, 9, 125, 10]⟩, .string ((⟨#[9, 108, 111, 111, 112, 32, 109, 32]⟩ : ByteArray) ++ dgt ct ++ ⟨#[32, 123, 10, 9, 9, 102, 101, 110, 99, 101, 59, 10, 9, 125, 10]⟩), .string ⟨#[9, 116, 97, 107, 101, 32, 109, 59, 10]⟩, .string ⟨#[9, 103, 105, 118, 101, 32, 109, 59, 10]⟩, .string ⟨#[9, 97, 100, 100, 32, 109, 32, 118, 59, 10]⟩, .string ⟨#[9, 102, 101, 110, 99, 101, 59, 10]⟩, .string ⟨#[9, 111, 117, 116, 112, 117, 116, 32, 118, 59, 10]⟩, .string ⟨#[9, 111, 117, 116, 112, 117, 116, 32, 118, 59, 10]⟩] 9) := ⟨_, rfl⟩
  rw [← hw9]
  have hs0' : w0.heap.size = n + 1 + 1 + 1 + 1 + 1 + 1 + 1 + 1 + 1 := by rw [HW.out, HN.out]; simp
  have hq : w9.heap[n + 1 + 1 + 1 + 1 + 1 + 1 + 1 + 1 + 1]? = some (.cells ((lineOf ct).map Value.string).toArray 9 (0, 0)) := by rw [hw9]; exact new_at4 _ hs0'.symm
  have hb9 : Below w0.heap.size w0 w9 := by rw [hw9]; exact (Below.refl _ _).alloc (Nat.le_refl _) _
  have hln : ∀ w', Below w9.heap.size w9 w' → w'.cell? ⟨n + 1 + 1 + 1 + 1 + 1 + 1 + 1 + 1 + 1, kd, none⟩ = some (.string sl) := fun w' hb => by
    rw [blk_cell (blk_below hq hb) kd]
    simp [HSL.out]
  have HLN := Lib.hid hln
  have HB9 := Lib.hid hb9
  have p0 : w9.cell? ⟨n + 1 + 1 + 1 + 1 + 1 + 1 + 1 + 1, 0, none⟩ = some (.slice (some ⟨n + 1 + 1 + 1 + 1 + 1, 0, none⟩) 2 2) := (blk_cell (blk_below HX.out hb9) 0).trans rfl
  have p1 : w9.cell? ⟨n + 1 + 1 + 1 + 1 + 1 + 1 + 1 + 1, 1, none⟩ = some (.slice (some ⟨n + 1 + 1 + 1 + 1 + 1 + 1 + 1, 0, none⟩) 1 1) := (blk_cell (blk_below HX.out hb9) 1).trans rfl
  have l0 : w9.cell? ⟨n + 1 + 1 + 1 + 1 + 1 + 1 + 1 + 1 + 1, kd, none⟩ = some (.string sl) := hln _ (Below.refl _ _)
  have hkt : kind.tmod 11 = (kd : Int) := by rw [Int.tmod_eq_emod_of_nonneg hk0]; exact hkd
  have i0 : (0 : Int) ≤ (kd : Int) := by omega
  have i1 : (kd : Int) < 11 := by omega
  clear hw9 hs0' hq hb9 hln
  have q1 : ¬ (9223372036854775807 < F.size + 19) := by omega
  have q2 : ¬ (9223372036854775807 < F.size + 19 + sl.size) := by omega
  have q3 : ¬ (9223372036854775807 < F.size + 19 + sl.size + 2) := by omega
  go_region_with ((go_at_call 11; refine (HTX'.out _ (HB9.out.trans ((Below.refl _ _).drew.mono HB9.out.size))).mono ?_; rintro e w' ⟨rfl, hbz⟩; have HBZ := Lib.hid (Below.trans (Below.refl w9.heap.size w9).drew hbz); have l1 := HLN.out _ HBZ.out; clear hbz))
  all_goals
    go_wp2
    go_ret
    exact ⟨rfl, HB.out.trans ((HB9.out.trans (HBZ.out.mono HB9.out.size)).mono HB.out.size)⟩
set_option maxHeartbeats 2000000 in
theorem tt_101 (W : World) (ht : TB W) (label : Int) (nm by' : ByteArray) (size count kind : Int) (hn : nm.size ≤ 1048576) (hb : by'.size ≤ 1048576) (s3 ct kd : Nat) (hs3 : size % 3 = s3) (hct : count % 10 = ct) (hkd : kind % 11 = kd) (hs0 : 0 ≤ size) (hs1 : size ≤ 255) (hc0 : 0 ≤ count) (hc1 : count ≤ 255) (hk0 : 0 ≤ kind) (hk1 : kind ≤ 255) (b3 : s3 < 3) (bc : ct < 10) (bk : kd < 11) (hl : ¬ label = 0) (hz : s3 = 0) (hbb : ¬ by'.size = 0) :
    Calls Tryd.prog 3 #[.int .i64 label, .string nm, .string by', .int .u8 size, .int .u8 count, .int .u8 kind] W fun e W' => e = .returned (.bool true) ∧ Below W.heap.size W W' := by
  have HAW := Lib.hid (awake4_calls W ht)
  obtain ⟨sl, hsl1, hsl2⟩ := line_of kd ct bk bc
  have hd : Dcl.ok ⟨false, label, nm, s3, by', 0⟩ := ⟨by show (s3 : Int) < 1000000; omega, by show nm.size ≤ 2000000; omega, by show by'.size ≤ 2000000; omega⟩
  have hF : declT ⟨false, label, nm, s3, by', 0⟩ = ((⟨#[115, 101, 99, 114, 101, 116, 32]⟩ : ByteArray) ++ nm ++ ⟨#[32, 98, 121, 32]⟩ ++ by') ++ ⟨#[59]⟩ := by
    refine bl_ext ?_
    unfold declT
    simp only [if_neg hl, if_neg (show ¬ (0 : Int) < (s3 : Int) by omega), if_neg hbb, bl_app]
    simp only [if_false, Bool.false_eq_true, bl_app, List.append_assoc]
    rfl
  have HOK := Lib.hid (prg_ok ⟨false, label, nm, s3, by', 0⟩ hd kd ct bk bc)
  have HTX := Lib.hid (prg_text ⟨false, label, nm, s3, by', 0⟩ _ hF kd ct sl hsl2)
  have HSL := Lib.hid hsl1
  have HT := Lib.hid ht
  have hslz : sl.size ≤ 1000 := by
    have h := congrArg List.length hsl2
    rw [bl_len] at h
    have h2 := blkT_len (oneB kd ct) ((prg_ok ⟨false, label, nm, s3, by', 0⟩ hd kd ct bk bc).ts _ (by simp)).1 1
    have h3 : (oneB kd ct).bd 1 ≤ 1000 := by show 100 + 3 * 1 + 1 + (1 + (1 + 0)) + (100 + 3 * 2 + 0 + 0 + 0 + 0 + 0) + 0 + 0 ≤ 1000; omega
    omega
  have hz1 : (dgt s3).size ≤ 1 := Nat.le_refl _
  have hz2 : (dgt ct).size ≤ 1 := Nat.le_refl _
  clear ht hsl1 hsl2 hd hF
  have hl2 : (label != 0) = true := by simp [hl]
  have hbe : by'.toList.isEmpty = false := by
    rw [Lib.toList_data]
    obtain ⟨⟨l⟩⟩ := by'
    cases l with
    | nil => exact absurd rfl hbb
    | cons a t => rfl
  have hbl : ¬ by'.toList = [] := fun h => by rw [h] at hbe; cases hbe
  subst hz
  go_enter Tryd.func3, Tryd.ntmps3
  go_wp2_with fail
  refine HAW.out.mono ?_
  rintro e w1 ⟨rfl, hb1⟩
  have HB1 := Lib.hid hb1
  clear hb1
  go_wp2_with fail
  refine (digit_calls ct (by omega) _).mono ?_
  rintro e w2 ⟨rfl, rfl⟩
  go_wp2_with fail
  obtain ⟨n, hnn⟩ : ∃ n, n = w1.heap.size := ⟨_, rfl⟩
  rw [← hnn]
  obtain ⟨w0, hw0⟩ : ∃ w0, w0 = ((((((((w1.alloc (dbox ⟨false, label, nm, 0, by', 0⟩)).alloc (box (xN 118))).alloc (box2 (xN 118) (xN 118))).alloc (sbox fenceV)).alloc (sbox (oneV kd ct n))).alloc (.cells #[.bool false, .int .i64 label, .string nm, .int .i64 0, .string by', .int .i64 0, .bool true, .int .i64 0, .string ⟨#[108]⟩, .int .i64 0, .string ⟨#[]⟩, .int .i64 0] TD)).alloc (sbox (oneV kd ct n))).alloc (.cells #[.slice (some ⟨n + 1 + 1 + 1 + 1 + 1 + 1, 0, none⟩) 1 1] TB')).alloc (.cells #[.slice (some ⟨n + 1 + 1 + 1 + 1 + 1, 0, none⟩) 2 2, .slice (some ⟨n + 1 + 1 + 1 + 1 + 1 + 1 + 1, 0, none⟩) 1 1] 39) := ⟨_, rfl⟩
  have r1 : w0.heap[n + 1 + 1]? = some (box2 (xN 118) (xN 118)) := by rw [hw0]; exact blk_alloc (blk_alloc (blk_alloc (blk_alloc (blk_alloc (blk_alloc (new_at4 _ (by simp [hnn])) _) _) _) _) _) _
  have r2 : w0.heap[n + 1 + 1 + 1]? = some (sbox fenceV) := by rw [hw0]; exact blk_alloc (blk_alloc (blk_alloc (blk_alloc (blk_alloc (new_at4 _ (by simp [hnn])) _) _) _) _) _
  have r3 : w0.heap[n + 1 + 1 + 1 + 1 + 1]? = some (.cells #[.bool false, .int .i64 label, .string nm, .int .i64 0, .string by', .int .i64 0, .bool true, .int .i64 0, .string ⟨#[108]⟩, .int .i64 0, .string ⟨#[]⟩, .int .i64 0] TD) := by rw [hw0]; exact blk_alloc (blk_alloc (blk_alloc (new_at4 _ (by simp [hnn])) _) _) _
  have r4 : w0.heap[n + 1 + 1 + 1 + 1 + 1 + 1]? = some (sbox (oneV kd ct n)) := by rw [hw0]; exact blk_alloc (blk_alloc (new_at4 _ (by simp [hnn])) _) _
  have r5 : w0.heap[n + 1 + 1 + 1 + 1 + 1 + 1 + 1]? = some (.cells #[.slice (some ⟨n + 1 + 1 + 1 + 1 + 1 + 1, 0, none⟩) 1 1] TB') := by rw [hw0]; exact blk_alloc (new_at4 _ (by simp [hnn])) _
  have r6 : w0.heap[n + 1 + 1 + 1 + 1 + 1 + 1 + 1 + 1]? = some (.cells #[.slice (some ⟨n + 1 + 1 + 1 + 1 + 1, 0, none⟩) 2 2, .slice (some ⟨n + 1 + 1 + 1 + 1 + 1 + 1 + 1, 0, none⟩) 1 1] 39) := by rw [hw0]; exact new_at4 _ (by simp [hnn])
  have hB : Below w1.heap.size w1 w0 := by
    rw [hw0]
    repeat' (first | exact Below.refl _ _ | refine Below.alloc ?_ (by simp; try omega) _)
  obtain ⟨hDS, hTS⟩ := prg_mem ⟨false, label, nm, ((0 : Nat) : Int), by', 0⟩ kd ct n w0 r1 r2 r3 r4 r5
  have HX := Lib.hid r6
  have HB := Lib.hid (HB1.out.trans (hB.mono HB1.out.size))
  have HDS := Lib.hid hDS
  have HTS := Lib.hid hTS
  have HW := Lib.hid hw0
  obtain ⟨F, hFF⟩ : ∃ F : ByteArray, F = (⟨#[115, 101, 99, 114, 101, 116, 32]⟩ : ByteArray) ++ nm ++ ⟨#[32, 98, 121, 32]⟩ ++ by' := ⟨_, rfl⟩
  have hFs : F.size ≤ 3000000 := by
    rw [hFF]
    simp only [ByteArray.size_append, show (⟨#[115, 101, 99, 114, 101, 116, 32]⟩ : ByteArray).size = 7 from rfl, show (⟨#[32, 98, 121, 32]⟩ : ByteArray).size = 4 from rfl]
    omega
  rw [← hFF] at HTX
  rw [← hFF]
  have HFF := Lib.hid hFF
  clear hFF
  have HTX' : Hid (∀ w', Below w0.heap.size w0 w' → Calls Tryd.prog 11 #[.agg #[.slice (some ⟨n + 1 + 1 + 1 + 1 + 1, 0, none⟩) 2 2, .slice (some ⟨n + 1 + 1 + 1 + 1 + 1 + 1 + 1, 0, none⟩) 1 1]] w' (Says w' (F ++ ⟨#[59, 10, 108, 111, 99, 107, 32, 108, 59, 10, 116, 104, 114, 101, 97, 100, 32, 123, 10]⟩ ++ sl ++ ⟨#[125, 10]⟩))) := Lib.hid fun w' hb => by
    have h := text_calls (prgT ⟨false, label, nm, ((0 : Nat) : Int), by', 0⟩ kd ct) (fun _ => True) _ _ _ _ _ _ w' ⟨HDS.out.1, HDS.out.2.mono (fun _ h _ => h) fun g _ hl => hb.block g hl⟩ ⟨HTS.out.1, HTS.out.2.imp fun vs h => ⟨h.1.stay (fun _ h _ => h) (Stay.of fun g _ hl => hb.block g hl) (Stay.of fun g _ hl => hb.block g hl), h.2.mono (fun _ h _ => h) fun g _ hl => hb.block g hl⟩⟩ HOK.out (HT.out.below (HB.out.trans (hb.mono HB.out.size)))
    rw [HTX.out] at h
    exact h
  have HN := Lib.hid hnn
  clear r1 r2 r3 r4 r5 r6 hB hDS hTS hw0 hnn
  rw [← HW.out]
  obtain ⟨w9, hw9⟩ : ∃ w9, w9 = w0.alloc (.cells #[.string ⟨#[9, 108, 111, 99, 97, 108, 32, 109, 32, 61, 32, 118, 59, 10]⟩, .string ⟨#[9, 109, 32, 61, 32, 118, 59, 10]⟩, .string ⟨#[9, 109, 91, 118, 93, 32, 61, 32, 118, 59, 10]⟩, .string ⟨#[9, 105, 102, 32, 40, 118, 41, 32, 123, 10, 9, 9, 102, 101, 110, 99, 101, 59, 10, 9, 125, 10]⟩, .string ((⟨#[9, 108, 111, 111, 112, 32, 109, 32]⟩ : ByteArray) ++ dgt ct ++ ⟨#[32, 123, 10, 9, 9, 102, 101, 110, 99, 101, 59, 10, 9, 125, 10]⟩), .string ⟨#[9, 116, 97, 107, 101, 32, 109, 59, 10]⟩, .string ⟨#[9, 103, 105, 118, 101, 32, 109, 59, 10]⟩, .string ⟨#[9, 97, 100, 100, 32, 109, 32, 118, 59, 10]⟩, .string ⟨#[9, 102, 101, 110, 99, 101, 59, 10]⟩, .string ⟨#[9, 111, 117, 116, 112, 117, 116, 32, 118, 59, 10]⟩, .string ⟨#[9, 111, 117, 116, 112, 117, 116, 32, 118, 59, 10]⟩] 9) := ⟨_, rfl⟩
  rw [← hw9]
  have hs0' : w0.heap.size = n + 1 + 1 + 1 + 1 + 1 + 1 + 1 + 1 + 1 := by rw [HW.out, HN.out]; simp
  have hq : w9.heap[n + 1 + 1 + 1 + 1 + 1 + 1 + 1 + 1 + 1]? = some (.cells ((lineOf ct).map Value.string).toArray 9 (0, 0)) := by rw [hw9]; exact new_at4 _ hs0'.symm
  have hb9 : Below w0.heap.size w0 w9 := by rw [hw9]; exact (Below.refl _ _).alloc (Nat.le_refl _) _
  have hln : ∀ w', Below w9.heap.size w9 w' → w'.cell? ⟨n + 1 + 1 + 1 + 1 + 1 + 1 + 1 + 1 + 1, kd, none⟩ = some (.string sl) := fun w' hb => by
    rw [blk_cell (blk_below hq hb) kd]
    simp [HSL.out]
  have HLN := Lib.hid hln
  have HB9 := Lib.hid hb9
  have p0 : w9.cell? ⟨n + 1 + 1 + 1 + 1 + 1 + 1 + 1 + 1, 0, none⟩ = some (.slice (some ⟨n + 1 + 1 + 1 + 1 + 1, 0, none⟩) 2 2) := (blk_cell (blk_below HX.out hb9) 0).trans rfl
  have p1 : w9.cell? ⟨n + 1 + 1 + 1 + 1 + 1 + 1 + 1 + 1, 1, none⟩ = some (.slice (some ⟨n + 1 + 1 + 1 + 1 + 1 + 1 + 1, 0, none⟩) 1 1) := (blk_cell (blk_below HX.out hb9) 1).trans rfl
  have l0 : w9.cell? ⟨n + 1 + 1 + 1 + 1 + 1 + 1 + 1 + 1 + 1, kd, none⟩ = some (.string sl) := hln _ (Below.refl _ _)
  have hkt : kind.tmod 11 = (kd : Int) := by rw [Int.tmod_eq_emod_of_nonneg hk0]; exact hkd
  have i0 : (0 : Int) ≤ (kd : Int) := by omega
  have i1 : (kd : Int) < 11 := by omega
  clear hw9 hs0' hq hb9 hln
  have q1 : ¬ (9223372036854775807 < F.size + 19) := by omega
  have q2 : ¬ (9223372036854775807 < F.size + 19 + sl.size) := by omega
  have q3 : ¬ (9223372036854775807 < F.size + 19 + sl.size + 2) := by omega
  go_region_with ((go_at_call 11; refine (HTX'.out _ (HB9.out.trans ((Below.refl _ _).drew.mono HB9.out.size))).mono ?_; rintro e w' ⟨rfl, hbz⟩; have HBZ := Lib.hid (Below.trans (Below.refl w9.heap.size w9).drew hbz); have l1 := HLN.out _ HBZ.out; clear hbz))
  all_goals
    go_wp2
    go_ret
    exact ⟨rfl, HB.out.trans ((HB9.out.trans (HBZ.out.mono HB9.out.size)).mono HB.out.size)⟩
set_option maxHeartbeats 2000000 in
theorem tt_110 (W : World) (ht : TB W) (label : Int) (nm by' : ByteArray) (size count kind : Int) (hn : nm.size ≤ 1048576) (hb : by'.size ≤ 1048576) (s3 ct kd : Nat) (hs3 : size % 3 = s3) (hct : count % 10 = ct) (hkd : kind % 11 = kd) (hs0 : 0 ≤ size) (hs1 : size ≤ 255) (hc0 : 0 ≤ count) (hc1 : count ≤ 255) (hk0 : 0 ≤ kind) (hk1 : kind ≤ 255) (b3 : s3 < 3) (bc : ct < 10) (bk : kd < 11) (hl : ¬ label = 0) (hz : 0 < s3) (hbb : by'.size = 0) :
    Calls Tryd.prog 3 #[.int .i64 label, .string nm, .string by', .int .u8 size, .int .u8 count, .int .u8 kind] W fun e W' => e = .returned (.bool true) ∧ Below W.heap.size W W' := by
  have HAW := Lib.hid (awake4_calls W ht)
  obtain ⟨sl, hsl1, hsl2⟩ := line_of kd ct bk bc
  have hd : Dcl.ok ⟨false, label, nm, s3, by', 0⟩ := ⟨by show (s3 : Int) < 1000000; omega, by show nm.size ≤ 2000000; omega, by show by'.size ≤ 2000000; omega⟩
  have hF : declT ⟨false, label, nm, s3, by', 0⟩ = ((⟨#[115, 101, 99, 114, 101, 116, 32]⟩ : ByteArray) ++ nm ++ ⟨#[91]⟩ ++ dgt s3 ++ ⟨#[93]⟩) ++ ⟨#[59]⟩ := by
    refine bl_ext ?_
    unfold declT
    simp only [if_neg hl, if_pos (show (0 : Int) < (s3 : Int) by omega), if_pos hbb, bl_app, num_one s3 (by omega)]
    simp only [if_false, Bool.false_eq_true, bl_app, num_one s3 (by omega), List.append_assoc]
    rfl
  have HOK := Lib.hid (prg_ok ⟨false, label, nm, s3, by', 0⟩ hd kd ct bk bc)
  have HTX := Lib.hid (prg_text ⟨false, label, nm, s3, by', 0⟩ _ hF kd ct sl hsl2)
  have HSL := Lib.hid hsl1
  have HT := Lib.hid ht
  have hslz : sl.size ≤ 1000 := by
    have h := congrArg List.length hsl2
    rw [bl_len] at h
    have h2 := blkT_len (oneB kd ct) ((prg_ok ⟨false, label, nm, s3, by', 0⟩ hd kd ct bk bc).ts _ (by simp)).1 1
    have h3 : (oneB kd ct).bd 1 ≤ 1000 := by show 100 + 3 * 1 + 1 + (1 + (1 + 0)) + (100 + 3 * 2 + 0 + 0 + 0 + 0 + 0) + 0 + 0 ≤ 1000; omega
    omega
  have hz1 : (dgt s3).size ≤ 1 := Nat.le_refl _
  have hz2 : (dgt ct).size ≤ 1 := Nat.le_refl _
  clear ht hsl1 hsl2 hd hF
  have hl2 : (label != 0) = true := by simp [hl]
  obtain rfl : by' = ⟨#[]⟩ := by
    obtain ⟨⟨l⟩⟩ := by'
    cases l with
    | nil => rfl
    | cons a t => simp [ByteArray.size] at hbb
  go_enter Tryd.func3, Tryd.ntmps3
  go_wp2_with fail
  refine HAW.out.mono ?_
  rintro e w1 ⟨rfl, hb1⟩
  have HB1 := Lib.hid hb1
  clear hb1
  go_wp2_with fail
  refine (digit_calls s3 (by omega) _).mono ?_
  rintro e w2 ⟨rfl, rfl⟩
  go_wp2_with fail
  refine (digit_calls ct (by omega) _).mono ?_
  rintro e w2 ⟨rfl, rfl⟩
  go_wp2_with fail
  obtain ⟨n, hnn⟩ : ∃ n, n = w1.heap.size := ⟨_, rfl⟩
  rw [← hnn]
  obtain ⟨w0, hw0⟩ : ∃ w0, w0 = ((((((((w1.alloc (dbox ⟨false, label, nm, s3, ⟨#[]⟩, 0⟩)).alloc (box (xN 118))).alloc (box2 (xN 118) (xN 118))).alloc (sbox fenceV)).alloc (sbox (oneV kd ct n))).alloc (.cells #[.bool false, .int .i64 label, .string nm, .int .i64 s3, .string ⟨#[]⟩, .int .i64 0, .bool true, .int .i64 0, .string ⟨#[108]⟩, .int .i64 0, .string ⟨#[]⟩, .int .i64 0] TD)).alloc (sbox (oneV kd ct n))).alloc (.cells #[.slice (some ⟨n + 1 + 1 + 1 + 1 + 1 + 1, 0, none⟩) 1 1] TB')).alloc (.cells #[.slice (some ⟨n + 1 + 1 + 1 + 1 + 1, 0, none⟩) 2 2, .slice (some ⟨n + 1 + 1 + 1 + 1 + 1 + 1 + 1, 0, none⟩) 1 1] 39) := ⟨_, rfl⟩
  have r1 : w0.heap[n + 1 + 1]? = some (box2 (xN 118) (xN 118)) := by rw [hw0]; exact blk_alloc (blk_alloc (blk_alloc (blk_alloc (blk_alloc (blk_alloc (new_at4 _ (by simp [hnn])) _) _) _) _) _) _
  have r2 : w0.heap[n + 1 + 1 + 1]? = some (sbox fenceV) := by rw [hw0]; exact blk_alloc (blk_alloc (blk_alloc (blk_alloc (blk_alloc (new_at4 _ (by simp [hnn])) _) _) _) _) _
  have r3 : w0.heap[n + 1 + 1 + 1 + 1 + 1]? = some (.cells #[.bool false, .int .i64 label, .string nm, .int .i64 s3, .string ⟨#[]⟩, .int .i64 0, .bool true, .int .i64 0, .string ⟨#[108]⟩, .int .i64 0, .string ⟨#[]⟩, .int .i64 0] TD) := by rw [hw0]; exact blk_alloc (blk_alloc (blk_alloc (new_at4 _ (by simp [hnn])) _) _) _
  have r4 : w0.heap[n + 1 + 1 + 1 + 1 + 1 + 1]? = some (sbox (oneV kd ct n)) := by rw [hw0]; exact blk_alloc (blk_alloc (new_at4 _ (by simp [hnn])) _) _
  have r5 : w0.heap[n + 1 + 1 + 1 + 1 + 1 + 1 + 1]? = some (.cells #[.slice (some ⟨n + 1 + 1 + 1 + 1 + 1 + 1, 0, none⟩) 1 1] TB') := by rw [hw0]; exact blk_alloc (new_at4 _ (by simp [hnn])) _
  have r6 : w0.heap[n + 1 + 1 + 1 + 1 + 1 + 1 + 1 + 1]? = some (.cells #[.slice (some ⟨n + 1 + 1 + 1 + 1 + 1, 0, none⟩) 2 2, .slice (some ⟨n + 1 + 1 + 1 + 1 + 1 + 1 + 1, 0, none⟩) 1 1] 39) := by rw [hw0]; exact new_at4 _ (by simp [hnn])
  have hB : Below w1.heap.size w1 w0 := by
    rw [hw0]
    repeat' (first | exact Below.refl _ _ | refine Below.alloc ?_ (by simp; try omega) _)
  obtain ⟨hDS, hTS⟩ := prg_mem ⟨false, label, nm, s3, ⟨#[]⟩, 0⟩ kd ct n w0 r1 r2 r3 r4 r5
  have HX := Lib.hid r6
  have HB := Lib.hid (HB1.out.trans (hB.mono HB1.out.size))
  have HDS := Lib.hid hDS
  have HTS := Lib.hid hTS
  have HW := Lib.hid hw0
  obtain ⟨F, hFF⟩ : ∃ F : ByteArray, F = (⟨#[115, 101, 99, 114, 101, 116, 32]⟩ : ByteArray) ++ nm ++ ⟨#[91]⟩ ++ dgt s3 ++ ⟨#[93]⟩ := ⟨_, rfl⟩
  have hFs : F.size ≤ 3000000 := by
    rw [hFF]
    simp only [ByteArray.size_append, show (⟨#[115, 101, 99, 114, 101, 116, 32]⟩ : ByteArray).size = 7 from rfl, show (⟨#[91]⟩ : ByteArray).size = 1 from rfl, show (⟨#[93]⟩ : ByteArray).size = 1 from rfl]
    omega
  rw [← hFF] at HTX
  rw [← hFF]
  have HFF := Lib.hid hFF
  clear hFF
  have HTX' : Hid (∀ w', Below w0.heap.size w0 w' → Calls Tryd.prog 11 #[.agg #[.slice (some ⟨n + 1 + 1 + 1 + 1 + 1, 0, none⟩) 2 2, .slice (some ⟨n + 1 + 1 + 1 + 1 + 1 + 1 + 1, 0, none⟩) 1 1]] w' (Says w' (F ++ ⟨#[59, 10, 108, 111, 99, 107, 32, 108, 59, 10, 116, 104, 114, 101, 97, 100, 32, 123, 10]⟩ ++ sl ++ ⟨#[125, 10]⟩))) := Lib.hid fun w' hb => by
    have h := text_calls (prgT ⟨false, label, nm, s3, ⟨#[]⟩, 0⟩ kd ct) (fun _ => True) _ _ _ _ _ _ w' ⟨HDS.out.1, HDS.out.2.mono (fun _ h _ => h) fun g _ hl => hb.block g hl⟩ ⟨HTS.out.1, HTS.out.2.imp fun vs h => ⟨h.1.stay (fun _ h _ => h) (Stay.of fun g _ hl => hb.block g hl) (Stay.of fun g _ hl => hb.block g hl), h.2.mono (fun _ h _ => h) fun g _ hl => hb.block g hl⟩⟩ HOK.out (HT.out.below (HB.out.trans (hb.mono HB.out.size)))
    rw [HTX.out] at h
    exact h
  have HN := Lib.hid hnn
  clear r1 r2 r3 r4 r5 r6 hB hDS hTS hw0 hnn
  rw [← HW.out]
  obtain ⟨w9, hw9⟩ : ∃ w9, w9 = w0.alloc (.cells #[.string ⟨#[9, 108, 111, 99, 97, 108, 32, 109, 32, 61, 32, 118, 59, 10]⟩, .string ⟨#[9, 109, 32, 61, 32, 118, 59, 10]⟩, .string ⟨#[9, 109, 91, 118, 93, 32, 61, 32, 118, 59, 10]⟩, .string ⟨#[9, 105, 102, 32, 40, 118, 41, 32, 123, 10, 9, 9, 102, 101, 110, 99, 101, 59, 10, 9, 125, 10]⟩, .string ((⟨#[9, 108, 111, 111, 112, 32, 109, 32]⟩ : ByteArray) ++ dgt ct ++ ⟨#[32, 123, 10, 9, 9, 102, 101, 110, 99, 101, 59, 10, 9, 125, 10]⟩), .string ⟨#[9, 116, 97, 107, 101, 32, 109, 59, 10]⟩, .string ⟨#[9, 103, 105, 118, 101, 32, 109, 59, 10]⟩, .string ⟨#[9, 97, 100, 100, 32, 109, 32, 118, 59, 10]⟩, .string ⟨#[9, 102, 101, 110, 99, 101, 59, 10]⟩, .string ⟨#[9, 111, 117, 116, 112, 117, 116, 32, 118, 59, 10]⟩, .string ⟨#[9, 111, 117, 116, 112, 117, 116, 32, 118, 59, 10]⟩] 9) := ⟨_, rfl⟩
  rw [← hw9]
  have hs0' : w0.heap.size = n + 1 + 1 + 1 + 1 + 1 + 1 + 1 + 1 + 1 := by rw [HW.out, HN.out]; simp
  have hq : w9.heap[n + 1 + 1 + 1 + 1 + 1 + 1 + 1 + 1 + 1]? = some (.cells ((lineOf ct).map Value.string).toArray 9 (0, 0)) := by rw [hw9]; exact new_at4 _ hs0'.symm
  have hb9 : Below w0.heap.size w0 w9 := by rw [hw9]; exact (Below.refl _ _).alloc (Nat.le_refl _) _
  have hln : ∀ w', Below w9.heap.size w9 w' → w'.cell? ⟨n + 1 + 1 + 1 + 1 + 1 + 1 + 1 + 1 + 1, kd, none⟩ = some (.string sl) := fun w' hb => by
    rw [blk_cell (blk_below hq hb) kd]
    simp [HSL.out]
  have HLN := Lib.hid hln
  have HB9 := Lib.hid hb9
  have p0 : w9.cell? ⟨n + 1 + 1 + 1 + 1 + 1 + 1 + 1 + 1, 0, none⟩ = some (.slice (some ⟨n + 1 + 1 + 1 + 1 + 1, 0, none⟩) 2 2) := (blk_cell (blk_below HX.out hb9) 0).trans rfl
  have p1 : w9.cell? ⟨n + 1 + 1 + 1 + 1 + 1 + 1 + 1 + 1, 1, none⟩ = some (.slice (some ⟨n + 1 + 1 + 1 + 1 + 1 + 1 + 1, 0, none⟩) 1 1) := (blk_cell (blk_below HX.out hb9) 1).trans rfl
  have l0 : w9.cell? ⟨n + 1 + 1 + 1 + 1 + 1 + 1 + 1 + 1 + 1, kd, none⟩ = some (.string sl) := hln _ (Below.refl _ _)
  have hkt : kind.tmod 11 = (kd : Int) := by rw [Int.tmod_eq_emod_of_nonneg hk0]; exact hkd
  have i0 : (0 : Int) ≤ (kd : Int) := by omega
  have i1 : (kd : Int) < 11 := by omega
  clear hw9 hs0' hq hb9 hln
  have q1 : ¬ (9223372036854775807 < F.size + 19) := by omega
  have q2 : ¬ (9223372036854775807 < F.size + 19 + sl.size) := by omega
  have q3 : ¬ (9223372036854775807 < F.size + 19 + sl.size + 2) := by omega
  go_region_with ((go_at_call 11; refine (HTX'.out _ (HB9.out.trans ((Below.refl _ _).drew.mono HB9.out.size))).mono ?_; rintro e w' ⟨rfl, hbz⟩; have HBZ := Lib.hid (Below.trans (Below.refl w9.heap.size w9).drew hbz); have l1 := HLN.out _ HBZ.out; clear hbz))
  all_goals
    go_wp2
    go_ret
    exact ⟨rfl, HB.out.trans ((HB9.out.trans (HBZ.out.mono HB9.out.size)).mono HB.out.size)⟩
set_option maxHeartbeats 2000000 in
theorem tt_111 (W : World) (ht : TB W) (label : Int) (nm by' : ByteArray) (size count kind : Int) (hn : nm.size ≤ 1048576) (hb : by'.size ≤ 1048576) (s3 ct kd : Nat) (hs3 : size % 3 = s3) (hct : count % 10 = ct) (hkd : kind % 11 = kd) (hs0 : 0 ≤ size) (hs1 : size ≤ 255) (hc0 : 0 ≤ count) (hc1 : count ≤ 255) (hk0 : 0 ≤ kind) (hk1 : kind ≤ 255) (b3 : s3 < 3) (bc : ct < 10) (bk : kd < 11) (hl : ¬ label = 0) (hz : 0 < s3) (hbb : ¬ by'.size = 0) :
    Calls Tryd.prog 3 #[.int .i64 label, .string nm, .string by', .int .u8 size, .int .u8 count, .int .u8 kind] W fun e W' => e = .returned (.bool true) ∧ Below W.heap.size W W' := by
  have HAW := Lib.hid (awake4_calls W ht)
  obtain ⟨sl, hsl1, hsl2⟩ := line_of kd ct bk bc
  have hd : Dcl.ok ⟨false, label, nm, s3, by', 0⟩ := ⟨by show (s3 : Int) < 1000000; omega, by show nm.size ≤ 2000000; omega, by show by'.size ≤ 2000000; omega⟩
  have hF : declT ⟨false, label, nm, s3, by', 0⟩ = ((⟨#[115, 101, 99, 114, 101, 116, 32]⟩ : ByteArray) ++ nm ++ ⟨#[91]⟩ ++ dgt s3 ++ ⟨#[93]⟩ ++ ⟨#[32, 98, 121, 32]⟩ ++ by') ++ ⟨#[59]⟩ := by
    refine bl_ext ?_
    unfold declT
    simp only [if_neg hl, if_pos (show (0 : Int) < (s3 : Int) by omega), if_neg hbb, bl_app, num_one s3 (by omega)]
    simp only [if_false, Bool.false_eq_true, bl_app, num_one s3 (by omega), List.append_assoc]
    rfl
  have HOK := Lib.hid (prg_ok ⟨false, label, nm, s3, by', 0⟩ hd kd ct bk bc)
  have HTX := Lib.hid (prg_text ⟨false, label, nm, s3, by', 0⟩ _ hF kd ct sl hsl2)
  have HSL := Lib.hid hsl1
  have HT := Lib.hid ht
  have hslz : sl.size ≤ 1000 := by
    have h := congrArg List.length hsl2
    rw [bl_len] at h
    have h2 := blkT_len (oneB kd ct) ((prg_ok ⟨false, label, nm, s3, by', 0⟩ hd kd ct bk bc).ts _ (by simp)).1 1
    have h3 : (oneB kd ct).bd 1 ≤ 1000 := by show 100 + 3 * 1 + 1 + (1 + (1 + 0)) + (100 + 3 * 2 + 0 + 0 + 0 + 0 + 0) + 0 + 0 ≤ 1000; omega
    omega
  have hz1 : (dgt s3).size ≤ 1 := Nat.le_refl _
  have hz2 : (dgt ct).size ≤ 1 := Nat.le_refl _
  clear ht hsl1 hsl2 hd hF
  have hl2 : (label != 0) = true := by simp [hl]
  have hbe : by'.toList.isEmpty = false := by
    rw [Lib.toList_data]
    obtain ⟨⟨l⟩⟩ := by'
    cases l with
    | nil => exact absurd rfl hbb
    | cons a t => rfl
  have hbl : ¬ by'.toList = [] := fun h => by rw [h] at hbe; cases hbe
  go_enter Tryd.func3, Tryd.ntmps3
  go_wp2_with fail
  refine HAW.out.mono ?_
  rintro e w1 ⟨rfl, hb1⟩
  have HB1 := Lib.hid hb1
  clear hb1
  go_wp2_with fail
  refine (digit_calls s3 (by omega) _).mono ?_
  rintro e w2 ⟨rfl, rfl⟩
  go_wp2_with fail
  refine (digit_calls ct (by omega) _).mono ?_
  rintro e w2 ⟨rfl, rfl⟩
  go_wp2_with fail
  obtain ⟨n, hnn⟩ : ∃ n, n = w1.heap.size := ⟨_, rfl⟩
  rw [← hnn]
  obtain ⟨w0, hw0⟩ : ∃ w0, w0 = ((((((((w1.alloc (dbox ⟨false, label, nm, s3, by', 0⟩)).alloc (box (xN 118))).alloc (box2 (xN 118) (xN 118))).alloc (sbox fenceV)).alloc (sbox (oneV kd ct n))).alloc (.cells #[.bool false, .int .i64 label, .string nm, .int .i64 s3, .string by', .int .i64 0, .bool true, .int .i64 0, .string ⟨#[108]⟩, .int .i64 0, .string ⟨#[]⟩, .int .i64 0] TD)).alloc (sbox (oneV kd ct n))).alloc (.cells #[.slice (some ⟨n + 1 + 1 + 1 + 1 + 1 + 1, 0, none⟩) 1 1] TB')).alloc (.cells #[.slice (some ⟨n + 1 + 1 + 1 + 1 + 1, 0, none⟩) 2 2, .slice (some ⟨n + 1 + 1 + 1 + 1 + 1 + 1 + 1, 0, none⟩) 1 1] 39) := ⟨_, rfl⟩
  have r1 : w0.heap[n + 1 + 1]? = some (box2 (xN 118) (xN 118)) := by rw [hw0]; exact blk_alloc (blk_alloc (blk_alloc (blk_alloc (blk_alloc (blk_alloc (new_at4 _ (by simp [hnn])) _) _) _) _) _) _
  have r2 : w0.heap[n + 1 + 1 + 1]? = some (sbox fenceV) := by rw [hw0]; exact blk_alloc (blk_alloc (blk_alloc (blk_alloc (blk_alloc (new_at4 _ (by simp [hnn])) _) _) _) _) _
  have r3 : w0.heap[n + 1 + 1 + 1 + 1 + 1]? = some (.cells #[.bool false, .int .i64 label, .string nm, .int .i64 s3, .string by', .int .i64 0, .bool true, .int .i64 0, .string ⟨#[108]⟩, .int .i64 0, .string ⟨#[]⟩, .int .i64 0] TD) := by rw [hw0]; exact blk_alloc (blk_alloc (blk_alloc (new_at4 _ (by simp [hnn])) _) _) _
  have r4 : w0.heap[n + 1 + 1 + 1 + 1 + 1 + 1]? = some (sbox (oneV kd ct n)) := by rw [hw0]; exact blk_alloc (blk_alloc (new_at4 _ (by simp [hnn])) _) _
  have r5 : w0.heap[n + 1 + 1 + 1 + 1 + 1 + 1 + 1]? = some (.cells #[.slice (some ⟨n + 1 + 1 + 1 + 1 + 1 + 1, 0, none⟩) 1 1] TB') := by rw [hw0]; exact blk_alloc (new_at4 _ (by simp [hnn])) _
  have r6 : w0.heap[n + 1 + 1 + 1 + 1 + 1 + 1 + 1 + 1]? = some (.cells #[.slice (some ⟨n + 1 + 1 + 1 + 1 + 1, 0, none⟩) 2 2, .slice (some ⟨n + 1 + 1 + 1 + 1 + 1 + 1 + 1, 0, none⟩) 1 1] 39) := by rw [hw0]; exact new_at4 _ (by simp [hnn])
  have hB : Below w1.heap.size w1 w0 := by
    rw [hw0]
    repeat' (first | exact Below.refl _ _ | refine Below.alloc ?_ (by simp; try omega) _)
  obtain ⟨hDS, hTS⟩ := prg_mem ⟨false, label, nm, s3, by', 0⟩ kd ct n w0 r1 r2 r3 r4 r5
  have HX := Lib.hid r6
  have HB := Lib.hid (HB1.out.trans (hB.mono HB1.out.size))
  have HDS := Lib.hid hDS
  have HTS := Lib.hid hTS
  have HW := Lib.hid hw0
  obtain ⟨F, hFF⟩ : ∃ F : ByteArray, F = (⟨#[115, 101, 99, 114, 101, 116, 32]⟩ : ByteArray) ++ nm ++ ⟨#[91]⟩ ++ dgt s3 ++ ⟨#[93]⟩ ++ ⟨#[32, 98, 121, 32]⟩ ++ by' := ⟨_, rfl⟩
  have hFs : F.size ≤ 3000000 := by
    rw [hFF]
    simp only [ByteArray.size_append, show (⟨#[115, 101, 99, 114, 101, 116, 32]⟩ : ByteArray).size = 7 from rfl, show (⟨#[91]⟩ : ByteArray).size = 1 from rfl, show (⟨#[93]⟩ : ByteArray).size = 1 from rfl, show (⟨#[32, 98, 121, 32]⟩ : ByteArray).size = 4 from rfl]
    omega
  rw [← hFF] at HTX
  rw [← hFF]
  have HFF := Lib.hid hFF
  clear hFF
  have HTX' : Hid (∀ w', Below w0.heap.size w0 w' → Calls Tryd.prog 11 #[.agg #[.slice (some ⟨n + 1 + 1 + 1 + 1 + 1, 0, none⟩) 2 2, .slice (some ⟨n + 1 + 1 + 1 + 1 + 1 + 1 + 1, 0, none⟩) 1 1]] w' (Says w' (F ++ ⟨#[59, 10, 108, 111, 99, 107, 32, 108, 59, 10, 116, 104, 114, 101, 97, 100, 32, 123, 10]⟩ ++ sl ++ ⟨#[125, 10]⟩))) := Lib.hid fun w' hb => by
    have h := text_calls (prgT ⟨false, label, nm, s3, by', 0⟩ kd ct) (fun _ => True) _ _ _ _ _ _ w' ⟨HDS.out.1, HDS.out.2.mono (fun _ h _ => h) fun g _ hl => hb.block g hl⟩ ⟨HTS.out.1, HTS.out.2.imp fun vs h => ⟨h.1.stay (fun _ h _ => h) (Stay.of fun g _ hl => hb.block g hl) (Stay.of fun g _ hl => hb.block g hl), h.2.mono (fun _ h _ => h) fun g _ hl => hb.block g hl⟩⟩ HOK.out (HT.out.below (HB.out.trans (hb.mono HB.out.size)))
    rw [HTX.out] at h
    exact h
  have HN := Lib.hid hnn
  clear r1 r2 r3 r4 r5 r6 hB hDS hTS hw0 hnn
  rw [← HW.out]
  obtain ⟨w9, hw9⟩ : ∃ w9, w9 = w0.alloc (.cells #[.string ⟨#[9, 108, 111, 99, 97, 108, 32, 109, 32, 61, 32, 118, 59, 10]⟩, .string ⟨#[9, 109, 32, 61, 32, 118, 59, 10]⟩, .string ⟨#[9, 109, 91, 118, 93, 32, 61, 32, 118, 59, 10]⟩, .string ⟨#[9, 105, 102, 32, 40, 118, 41, 32, 123, 10, 9, 9, 102, 101, 110, 99, 101, 59, 10, 9, 125, 10]⟩, .string ((⟨#[9, 108, 111, 111, 112, 32, 109, 32]⟩ : ByteArray) ++ dgt ct ++ ⟨#[32, 123, 10, 9, 9, 102, 101, 110, 99, 101, 59, 10, 9, 125, 10]⟩), .string ⟨#[9, 116, 97, 107, 101, 32, 109, 59, 10]⟩, .string ⟨#[9, 103, 105, 118, 101, 32, 109, 59, 10]⟩, .string ⟨#[9, 97, 100, 100, 32, 109, 32, 118, 59, 10]⟩, .string ⟨#[9, 102, 101, 110, 99, 101, 59, 10]⟩, .string ⟨#[9, 111, 117, 116, 112, 117, 116, 32, 118, 59, 10]⟩, .string ⟨#[9, 111, 117, 116, 112, 117, 116, 32, 118, 59, 10]⟩] 9) := ⟨_, rfl⟩
  rw [← hw9]
  have hs0' : w0.heap.size = n + 1 + 1 + 1 + 1 + 1 + 1 + 1 + 1 + 1 := by rw [HW.out, HN.out]; simp
  have hq : w9.heap[n + 1 + 1 + 1 + 1 + 1 + 1 + 1 + 1 + 1]? = some (.cells ((lineOf ct).map Value.string).toArray 9 (0, 0)) := by rw [hw9]; exact new_at4 _ hs0'.symm
  have hb9 : Below w0.heap.size w0 w9 := by rw [hw9]; exact (Below.refl _ _).alloc (Nat.le_refl _) _
  have hln : ∀ w', Below w9.heap.size w9 w' → w'.cell? ⟨n + 1 + 1 + 1 + 1 + 1 + 1 + 1 + 1 + 1, kd, none⟩ = some (.string sl) := fun w' hb => by
    rw [blk_cell (blk_below hq hb) kd]
    simp [HSL.out]
  have HLN := Lib.hid hln
  have HB9 := Lib.hid hb9
  have p0 : w9.cell? ⟨n + 1 + 1 + 1 + 1 + 1 + 1 + 1 + 1, 0, none⟩ = some (.slice (some ⟨n + 1 + 1 + 1 + 1 + 1, 0, none⟩) 2 2) := (blk_cell (blk_below HX.out hb9) 0).trans rfl
  have p1 : w9.cell? ⟨n + 1 + 1 + 1 + 1 + 1 + 1 + 1 + 1, 1, none⟩ = some (.slice (some ⟨n + 1 + 1 + 1 + 1 + 1 + 1 + 1, 0, none⟩) 1 1) := (blk_cell (blk_below HX.out hb9) 1).trans rfl
  have l0 : w9.cell? ⟨n + 1 + 1 + 1 + 1 + 1 + 1 + 1 + 1 + 1, kd, none⟩ = some (.string sl) := hln _ (Below.refl _ _)
  have hkt : kind.tmod 11 = (kd : Int) := by rw [Int.tmod_eq_emod_of_nonneg hk0]; exact hkd
  have i0 : (0 : Int) ≤ (kd : Int) := by omega
  have i1 : (kd : Int) < 11 := by omega
  clear hw9 hs0' hq hb9 hln
  have q1 : ¬ (9223372036854775807 < F.size + 19) := by omega
  have q2 : ¬ (9223372036854775807 < F.size + 19 + sl.size) := by omega
  have q3 : ¬ (9223372036854775807 < F.size + 19 + sl.size + 2) := by omega
  go_region_with ((go_at_call 11; refine (HTX'.out _ (HB9.out.trans ((Below.refl _ _).drew.mono HB9.out.size))).mono ?_; rintro e w' ⟨rfl, hbz⟩; have HBZ := Lib.hid (Below.trans (Below.refl w9.heap.size w9).drew hbz); have l1 := HLN.out _ HBZ.out; clear hbz))
  all_goals
    go_wp2
    go_ret
    exact ⟨rfl, HB.out.trans ((HB9.out.trans (HBZ.out.mono HB9.out.size)).mono HB.out.size)⟩
theorem walkTreeText (W : World) (ht : TB W) (label : Int) (_ : (Lit.int .i64 label).wf = true) (nm : ByteArray) (hn : nm.size ≤ 1048576) (by' : ByteArray) (hb : by'.size ≤ 1048576) (size : Int) (hs : (Lit.int .u8 size).wf = true) (count : Int) (hc : (Lit.int .u8 count).wf = true) (kind : Int) (hk : (Lit.int .u8 kind).wf = true) :
    Calls Tryd.prog 3 #[.int .i64 label, .string nm, .string by', .int .u8 size, .int .u8 count, .int .u8 kind] W fun e W' => e = .returned (.bool true) ∧ Below W.heap.size W W' := by
  obtain ⟨hs0, hs1⟩ := u8_range hs
  obtain ⟨hc0, hc1⟩ := u8_range hc
  obtain ⟨hk0, hk1⟩ := u8_range hk
  obtain ⟨s3, hs3⟩ : ∃ s3 : Nat, size % 3 = s3 := ⟨(size % 3).toNat, by omega⟩
  obtain ⟨ct, hct⟩ : ∃ ct : Nat, count % 10 = ct := ⟨(count % 10).toNat, by omega⟩
  obtain ⟨kd, hkd⟩ : ∃ kd : Nat, kind % 11 = kd := ⟨(kind % 11).toNat, by omega⟩
  have b3 : s3 < 3 := by omega
  have bc : ct < 10 := by omega
  have bk : kd < 11 := by omega
  by_cases hl : label = 0 <;> by_cases hz : s3 = 0 <;> by_cases hbb : by'.size = 0
  · exact tt_000 W ht label nm by' size count kind hn hb s3 ct kd hs3 hct hkd hs0 hs1 hc0 hc1 hk0 hk1 b3 bc bk hl hz hbb
  · exact tt_001 W ht label nm by' size count kind hn hb s3 ct kd hs3 hct hkd hs0 hs1 hc0 hc1 hk0 hk1 b3 bc bk hl hz hbb
  · exact tt_010 W ht label nm by' size count kind hn hb s3 ct kd hs3 hct hkd hs0 hs1 hc0 hc1 hk0 hk1 b3 bc bk hl (by omega) hbb
  · exact tt_011 W ht label nm by' size count kind hn hb s3 ct kd hs3 hct hkd hs0 hs1 hc0 hc1 hk0 hk1 b3 bc bk hl (by omega) hbb
  · exact tt_100 W ht label nm by' size count kind hn hb s3 ct kd hs3 hct hkd hs0 hs1 hc0 hc1 hk0 hk1 b3 bc bk hl hz hbb
  · exact tt_101 W ht label nm by' size count kind hn hb s3 ct kd hs3 hct hkd hs0 hs1 hc0 hc1 hk0 hk1 b3 bc bk hl hz hbb
  · exact tt_110 W ht label nm by' size count kind hn hb s3 ct kd hs3 hct hkd hs0 hs1 hc0 hc1 hk0 hk1 b3 bc bk hl (by omega) hbb
  · exact tt_111 W ht label nm by' size count kind hn hb s3 ct kd hs3 hct hkd hs0 hs1 hc0 hc1 hk0 hk1 b3 bc bk hl (by omega) hbb
end Go.Proofs.YtnihgifpfdlnhaaDoor.PT
