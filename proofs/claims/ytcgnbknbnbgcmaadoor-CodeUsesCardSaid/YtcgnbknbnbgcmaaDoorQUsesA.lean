-- Written by a program of this session (wip/tools/extprint.py, pr.sh).
import Derived.Test.YtcgnbknbnbgcmaaDoorPQx5
namespace Go.Proofs.YtcgnbknbnbgcmaaDoor.PQ
open Go.RowKit Go.Proofs.YtcgnbknbnbgcmaaDoorW.PrintWords Go.Proofs.YtcgnbknbnbgcmaaDoorW.PrintLast Go.Proofs.YtcgnbknbnbgcmaaDoorW.PrintMore
attribute [local go_sem] max2_int min2_int max_two min_two max_three min_three max_four min_four   -- for this text's walks alone
set_option linter.unusedVariables false
set_option linter.unusedSimpArgs false

/-! ### tautochronelaw12_CodeUses: function 3 -/
def tautochronelaw12_CodeUses.f (k : Nat) (a0_0 : Int) (a0_1 : Int) (a0_2 : Int) (a0_3 : Int) (a0_4 : Int) (a0_5 : Int) (a0_6 : Int) (a0_7 : Int) : Option (Bool) := (tautochronelaw12_awake.f k).bind fun t211 => (if t211 = true then ((code_Defines.f a0_0 a0_1 a0_2 a0_3 a0_4 a0_5 a0_6 a0_7).bind fun bt212 => ((code_Jumps.f a0_0 a0_1 a0_2 a0_3 a0_4 a0_5 a0_6 a0_7).bind fun bt214 => ((tautochronelaw12_sets.f a0_0 a0_1 a0_2 a0_3 a0_4 a0_5 a0_6 a0_7).bind fun t216 => (if (bt212.2 == t216) = true then (if bt212.2 = true then (if bt212.1 = a0_2 then ((code_Uses.f k a0_0 a0_1 a0_2 a0_3 a0_4 a0_5 a0_6 a0_7).bind fun t217 => ((tautochronelaw12_uses.f k a0_0 a0_1 a0_2 a0_3 a0_4 a0_5 a0_6 a0_7).bind fun t220 => ((tautochronelaw12_same.f k t217 t220).bind fun t223 => (if t223 = true then (if a0_0 = 6 then (if (bt214.1 == true) = true then (some (bt214.2 == false)) else (none)) else (if (bt214.1 == (a0_0 == 7)) = true then (some (bt214.2 == (a0_0 != 13))) else (none))) else (none))))) else (none)) else (if bt212.1 = 0 then ((code_Uses.f k a0_0 a0_1 a0_2 a0_3 a0_4 a0_5 a0_6 a0_7).bind fun t224 => ((tautochronelaw12_uses.f k a0_0 a0_1 a0_2 a0_3 a0_4 a0_5 a0_6 a0_7).bind fun t227 => ((tautochronelaw12_same.f k t224 t227).bind fun t230 => (if t230 = true then (if a0_0 = 6 then (if (bt214.1 == true) = true then (some (bt214.2 == false)) else (none)) else (if (bt214.1 == (a0_0 == 7)) = true then (some (bt214.2 == (a0_0 != 13))) else (none))) else (none))))) else (none))) else (none))))) else (none))
theorem tautochronelaw12_CodeUses.mono : ∀ a0 a1 a2 a3 a4 a5 a6 a7 k, LeO (tautochronelaw12_CodeUses.f k a0 a1 a2 a3 a4 a5 a6 a7) (tautochronelaw12_CodeUses.f (k + 1) a0 a1 a2 a3 a4 a5 a6 a7) := by
  intro a0 a1 a2 a3 a4 a5 a6 a7 k
  unfold tautochronelaw12_CodeUses.f
  repeat' first
      | (with_reducible exact code_Uses.mono _ _ _ _ _ _ _ _ _)
      | (with_reducible exact tautochronelaw12_awake.mono _)
      | (with_reducible exact tautochronelaw12_same.mono _ _ _)
      | (with_reducible exact tautochronelaw12_uses.mono _ _ _ _ _ _ _ _ _)
      | (with_reducible exact LeO.refl _)
      | (with_reducible exact LeO.none _)
      | (with_reducible refine LeO.ite ?_ ?_)
      | (with_reducible refine LeO.bind ?_ (fun _ => ?_))
      | exact code_Uses.mono _ _ _ _ _ _ _ _ _
      | exact tautochronelaw12_awake.mono _
      | exact tautochronelaw12_same.mono _ _ _
      | exact tautochronelaw12_uses.mono _ _ _ _ _ _ _ _ _
      | exact LeO.none _
      | refine LeO.ite ?_ ?_
      | refine LeO.bind ?_ (fun _ => ?_)
def tautochronelaw12_CodeUses.T5 : Bool × List (List Nat × List Nat) := (true, [([], []), ([], []), ([1], [1]), ([0, 2], [0, 2]), ([3, 2], [3]), ([4], [4]), ([5, 4, 4], [4, 5]), ([6], [6]), ([6], [6]), ([8, 6], [6, 8]), ([7, 9, 6], [6, 7, 9]), ([6, 10, 4], [4, 6, 10]), ([11, 6, 4], [4, 11]), ([12], [12]), ([13, 12], [12, 13]), ([14, 12, 12], [12, 14]), ([15], [15]), ([16, 15], [15, 16]), ([15, 17, 12], [12, 15, 17]), ([12, 18, 4], [4, 12, 18]), ([4, 19], [4, 19]), ([20, 15], [20]), ([21], [21]), ([22, 21, 21], [21, 22]), ([21], [21]), ([24, 23, 21], [21, 24]), ([23, 25, 25, 21], [21, 23, 25]), ([21, 26], [21, 26]), ([27, 26], [27]), ([28], [28]), ([28], [28]), ([30, 28], [28, 30]), ([31, 28], [28, 31]), ([32, 28, 28], [28, 32]), ([33], [33]), ([34, 33], [33, 34]), ([35, 33], [33, 35]), ([33, 36, 28], [28, 33, 36]), ([29, 37, 28], [28, 29, 37]), ([28, 38], [28, 38]), ([39, 33], [39]), ([40], [40]), ([40], [40]), ([42, 40], [40, 42]), ([43, 40], [40, 43]), ([44, 40, 40], [40, 44]), ([45], [45]), ([46, 45], [45, 46]), ([47, 45], [45, 47]), ([45, 48, 40], [40, 45, 48]), ([41, 49, 40], [40, 41, 49]), ([40, 50], [40, 50]), ([51, 45, 0, 1, 2, 3, 4, 5, 6, 7, 8, 9, 10, 11, 12, 13, 14, 15, 16, 17, 18, 19, 20, 21, 22, 23, 24, 25, 26, 27, 28, 29, 30, 31, 32, 33, 34, 35, 36, 37, 38, 39, 40, 41, 42, 43, 44, 45, 46, 47, 48, 49, 50, 51], [51])])
def tautochronelaw12_CodeUses.B5 : List Nat := [0, 0, 2, 7, 15, 31, 63, 127, 127, 383, 1023, 2047, 4095, 8191, 16383, 32767, 65535, 131071, 262143, 524287, 1048575, 2097151, 4194303, 8388607, 4194303, 33554431, 67108863, 134217727, 268435455, 536870911, 536870911, 1610612735, 3758096383, 8053063679, 16642998271, 33822867455, 68182605823, 136902082559, 274877906943, 549755813887, 1099511627775, 2199023255551, 2199023255551, 6597069766655, 15393162788863, 32985348833279, 68169720922111, 138538465099775, 279275953455103, 560750930165759, 1125899906842623, 2251799813685247, 4503599627370495]
theorem tautochronelaw12_CodeUses.tab5 : rtab .any (opsOf Tryd.f3 5) = tautochronelaw12_CodeUses.T5 := by kernel_rfl
theorem tautochronelaw12_CodeUses.bits5 : waitsOk tautochronelaw12_CodeUses.T5.2 tautochronelaw12_CodeUses.B5 = true := by kernel_rfl
end Go.Proofs.YtcgnbknbnbgcmaaDoor.PQ
