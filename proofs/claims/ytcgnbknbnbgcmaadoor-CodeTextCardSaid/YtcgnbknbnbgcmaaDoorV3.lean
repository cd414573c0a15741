-- Written by programs of this session (wip/tools/extprint.py, pr.sh; wip/law12/mkv.py).
import Derived.Test.YtcgnbknbnbgcmaaDoorV1
import Derived.Test.YtcgnbknbnbgcmaaDoorV2
import Derived.Lib.SmallJoins
namespace Go.Proofs.YtcgnbknbnbgcmaaDoor.PQ.V
open Go.RowKit Go.Proofs.YtcgnbknbnbgcmaaDoorW.PrintWords Go.Proofs.YtcgnbknbnbgcmaaDoorW.PrintLast Go.Proofs.YtcgnbknbnbgcmaaDoorW.PrintMore
attribute [local go_sem] max2_int min2_int max_two min_two max_three min_three max_four min_four
set_option linter.unusedVariables false
set_option linter.unusedSimpArgs false
/-! ### tautochronelaw12_CodeText: function 4 -/
mutual
def tautochronelaw12_CodeText.j0 : Nat → Bool → Int → Int → Int → Int → Int → Int → Int → Int → Option (Bool)
  | 0, _, _, _, _, _, _, _, _, _ => none
  | k + 1, x16, x104000, x104001, x104002, x104003, x104004, x104005, x104006, x104007 => if x16 = true then ((code_Text.f k x104000 x104001 x104002 x104003 x104004 x104005 x104006 x104007).bind fun t105 => (some (t105.toList == ([63] : List UInt8)))) else ((some (([(⟨#[115, 101, 116]⟩ : ByteArray), (⟨#[109, 111, 118, 101]⟩ : ByteArray), (⟨#[100, 111]⟩ : ByteArray), (⟨#[99, 104, 111, 111, 115, 101]⟩ : ByteArray), (⟨#[114, 101, 97, 100]⟩ : ByteArray), (⟨#[119, 114, 105, 116, 101]⟩ : ByteArray), (⟨#[106, 117, 109, 112]⟩ : ByteArray), (⟨#[122, 101, 114, 111]⟩ : ByteArray), (⟨#[108, 111, 99, 107]⟩ : ByteArray), (⟨#[117, 110, 108, 111, 99, 107]⟩ : ByteArray), (⟨#[105, 110, 99]⟩ : ByteArray), (⟨#[109, 101, 110, 100]⟩ : ByteArray), (⟨#[116, 101, 108, 108]⟩ : ByteArray), (⟨#[104, 97, 108, 116]⟩ : ByteArray)] : List ByteArray) : List ByteArray)).bind fun y106 => (if 0 ≤ x104000 then (if x104000 < (y106.length : Int) then ((tautochronelaw12_sets.f x104000 x104001 x104002 x104003 x104004 x104005 x104006 x104007).bind fun t110 => (if t110 = true then (if (rdOf ByteArray.empty y106 x104000).size + 2 ≤ 9223372036854775807 then ((tautochronelaw12_number.f k x104002).bind fun t111 => (if ((rdOf ByteArray.empty y106 x104000) ++ (⟨#[32, 118]⟩ : ByteArray)).size + t111.size ≤ 9223372036854775807 then (tautochronelaw12_CodeText.j1 k (((rdOf ByteArray.empty y106 x104000) ++ (⟨#[32, 118]⟩ : ByteArray)) ++ t111) x104000 x104001 x104002 x104003 x104004 x104005 x104006 x104007) else (none))) else (none)) else (tautochronelaw12_CodeText.j1 k (rdOf ByteArray.empty y106 x104000) x104000 x104001 x104002 x104003 x104004 x104005 x104006 x104007))) else (none)) else (none)))
def tautochronelaw12_CodeText.j1 : Nat → ByteArray → Int → Int → Int → Int → Int → Int → Int → Int → Option (Bool)
  | 0, _, _, _, _, _, _, _, _, _ => none
  | k + 1, x4, x104000, x104001, x104002, x104003, x104004, x104005, x104006, x104007 => if x104000 = 2 then (if x104001 ≥ 0 then (tautochronelaw12_CodeText.j2 k x4 (decide (x104001 < 10)) x104000 x104001 x104002 x104003 x104004 x104005 x104006 x104007) else (tautochronelaw12_CodeText.j2 k x4 false x104000 x104001 x104002 x104003 x104004 x104005 x104006 x104007)) else (tautochronelaw12_CodeText.j2 k x4 false x104000 x104001 x104002 x104003 x104004 x104005 x104006 x104007)
def tautochronelaw12_CodeText.j2 : Nat → ByteArray → Bool → Int → Int → Int → Int → Int → Int → Int → Int → Option (Bool)
  | 0, _, _, _, _, _, _, _, _, _, _ => none
  | k + 1, x4, x46, x104000, x104001, x104002, x104003, x104004, x104005, x104006, x104007 => if x46 = true then (if x4.size + 1 ≤ 9223372036854775807 then ((word_Signs.f).bind fun t112 => (if 0 ≤ x104001 then (if x104001 < (t112.length : Int) then (if (x4 ++ (⟨#[32]⟩ : ByteArray)).size + (rdOf ByteArray.empty t112 x104001).size ≤ 9223372036854775807 then (tautochronelaw12_CodeText.j3 k ((x4 ++ (⟨#[32]⟩ : ByteArray)) ++ (rdOf ByteArray.empty t112 x104001)) x104000 x104001 x104002 x104003 x104004 x104005 x104006 x104007) else (none)) else (none)) else (none))) else (none)) else (tautochronelaw12_CodeText.j3 k x4 x104000 x104001 x104002 x104003 x104004 x104005 x104006 x104007)
def tautochronelaw12_CodeText.j3 : Nat → ByteArray → Int → Int → Int → Int → Int → Int → Int → Int → Option (Bool)
  | 0, _, _, _, _, _, _, _, _, _ => none
  | k + 1, x4, x104000, x104001, x104002, x104003, x104004, x104005, x104006, x104007 => (tautochronelaw12_uses.f k x104000 x104001 x104002 x104003 x104004 x104005 x104006 x104007).bind fun t116 => (tautochronelaw12_CodeText.l0 k x4 t116 (t116.length : Int) 0 x104000 x104001 x104002 x104003 x104004 x104005 x104006 x104007)
def tautochronelaw12_CodeText.l0 : Nat → ByteArray → List Int → Int → Int → Int → Int → Int → Int → Int → Int → Int → Int → Option (Bool)
  | 0, _, _, _, _, _, _, _, _, _, _, _, _ => none
  | k + 1, x4, x56, x57, x58, x104000, x104001, x104002, x104003, x104004, x104005, x104006, x104007 => if x58 < x57 then (if 0 ≤ x58 then (if x58 < (x56.length : Int) then (if x4.size + 2 ≤ 9223372036854775807 then ((tautochronelaw12_number.f k (rd x56 x58)).bind fun t120 => (if (x4 ++ (⟨#[32, 118]⟩ : ByteArray)).size + t120.size ≤ 9223372036854775807 then (tautochronelaw12_CodeText.l0 k ((x4 ++ (⟨#[32, 118]⟩ : ByteArray)) ++ t120) x56 x57 (wrap64 (x58 + 1)) x104000 x104001 x104002 x104003 x104004 x104005 x104006 x104007) else (none))) else (none)) else (none)) else (none)) else (if x104000 = 0 then (tautochronelaw12_CodeText.j5 k x4 x104000 true x104000 x104001 x104002 x104003 x104004 x104005 x104006 x104007) else (if x104000 = 4 then (tautochronelaw12_CodeText.j5 k x4 x104000 true x104000 x104001 x104002 x104003 x104004 x104005 x104006 x104007) else (if x104000 = 5 then (tautochronelaw12_CodeText.j5 k x4 x104000 true x104000 x104001 x104002 x104003 x104004 x104005 x104006 x104007) else (if x104000 = 8 then (tautochronelaw12_CodeText.j5 k x4 x104000 true x104000 x104001 x104002 x104003 x104004 x104005 x104006 x104007) else (if x104000 = 9 then (tautochronelaw12_CodeText.j5 k x4 x104000 true x104000 x104001 x104002 x104003 x104004 x104005 x104006 x104007) else (tautochronelaw12_CodeText.j5 k x4 x104000 (x104000 == 10) x104000 x104001 x104002 x104003 x104004 x104005 x104006 x104007))))))
def tautochronelaw12_CodeText.j5 : Nat → ByteArray → Int → Bool → Int → Int → Int → Int → Int → Int → Int → Int → Option (Bool)
  | 0, _, _, _, _, _, _, _, _, _, _, _ => none
  | k + 1, x4, x69, x70, x104000, x104001, x104002, x104003, x104004, x104005, x104006, x104007 => if x70 = true then (if x4.size + 1 ≤ 9223372036854775807 then ((tautochronelaw12_digits.f k x104006).bind fun t121 => (if (x4 ++ (⟨#[32]⟩ : ByteArray)).size + t121.size ≤ 9223372036854775807 then ((code_Text.f k x104000 x104001 x104002 x104003 x104004 x104005 x104006 x104007).bind fun t122 => (some (t122.toList == ((x4 ++ (⟨#[32]⟩ : ByteArray)) ++ t121).toList))) else (none))) else (none)) else (if x69 = 6 then (tautochronelaw12_CodeText.j6 k x4 true x104000 x104001 x104002 x104003 x104004 x104005 x104006 x104007) else (tautochronelaw12_CodeText.j6 k x4 (x69 == 7) x104000 x104001 x104002 x104003 x104004 x104005 x104006 x104007))
def tautochronelaw12_CodeText.j6 : Nat → ByteArray → Bool → Int → Int → Int → Int → Int → Int → Int → Int → Option (Bool)
  | 0, _, _, _, _, _, _, _, _, _, _ => none
  | k + 1, x4, x83, x104000, x104001, x104002, x104003, x104004, x104005, x104006, x104007 => if x83 = true then (if x4.size + 2 ≤ 9223372036854775807 then ((tautochronelaw12_number.f k x104007).bind fun t123 => (if (x4 ++ (⟨#[32, 64]⟩ : ByteArray)).size + t123.size ≤ 9223372036854775807 then ((code_Text.f k x104000 x104001 x104002 x104003 x104004 x104005 x104006 x104007).bind fun t124 => (some (t124.toList == ((x4 ++ (⟨#[32, 64]⟩ : ByteArray)) ++ t123).toList))) else (none))) else (none)) else ((code_Text.f k x104000 x104001 x104002 x104003 x104004 x104005 x104006 x104007).bind fun t125 => (some (t125.toList == x4.toList)))
end
def tautochronelaw12_CodeText.f (k : Nat) (a0_0 : Int) (a0_1 : Int) (a0_2 : Int) (a0_3 : Int) (a0_4 : Int) (a0_5 : Int) (a0_6 : Int) (a0_7 : Int) : Option (Bool) := (tautochronelaw12_awake.f k).bind fun t104 => (if t104 = true then (if a0_0 < 0 then (tautochronelaw12_CodeText.j0 k true a0_0 a0_1 a0_2 a0_3 a0_4 a0_5 a0_6 a0_7) else (tautochronelaw12_CodeText.j0 k (decide (a0_0 > 13)) a0_0 a0_1 a0_2 a0_3 a0_4 a0_5 a0_6 a0_7)) else (some false))
theorem tautochronelaw12_CodeText.mono_l : ∀ k, (∀ y0 y1 y2 y3 y4 y5 y6 y7 y8, LeO (tautochronelaw12_CodeText.j0 k y0 y1 y2 y3 y4 y5 y6 y7 y8) (tautochronelaw12_CodeText.j0 (k + 1) y0 y1 y2 y3 y4 y5 y6 y7 y8)) ∧ (∀ y0 y1 y2 y3 y4 y5 y6 y7 y8, LeO (tautochronelaw12_CodeText.j1 k y0 y1 y2 y3 y4 y5 y6 y7 y8) (tautochronelaw12_CodeText.j1 (k + 1) y0 y1 y2 y3 y4 y5 y6 y7 y8)) ∧ (∀ y0 y1 y2 y3 y4 y5 y6 y7 y8 y9, LeO (tautochronelaw12_CodeText.j2 k y0 y1 y2 y3 y4 y5 y6 y7 y8 y9) (tautochronelaw12_CodeText.j2 (k + 1) y0 y1 y2 y3 y4 y5 y6 y7 y8 y9)) ∧ (∀ y0 y1 y2 y3 y4 y5 y6 y7 y8, LeO (tautochronelaw12_CodeText.j3 k y0 y1 y2 y3 y4 y5 y6 y7 y8) (tautochronelaw12_CodeText.j3 (k + 1) y0 y1 y2 y3 y4 y5 y6 y7 y8)) ∧ (∀ y0 y1 y2 y3 y4 y5 y6 y7 y8 y9 y10 y11, LeO (tautochronelaw12_CodeText.l0 k y0 y1 y2 y3 y4 y5 y6 y7 y8 y9 y10 y11) (tautochronelaw12_CodeText.l0 (k + 1) y0 y1 y2 y3 y4 y5 y6 y7 y8 y9 y10 y11)) ∧ (∀ y0 y1 y2 y3 y4 y5 y6 y7 y8 y9 y10, LeO (tautochronelaw12_CodeText.j5 k y0 y1 y2 y3 y4 y5 y6 y7 y8 y9 y10) (tautochronelaw12_CodeText.j5 (k + 1) y0 y1 y2 y3 y4 y5 y6 y7 y8 y9 y10)) ∧ (∀ y0 y1 y2 y3 y4 y5 y6 y7 y8 y9, LeO (tautochronelaw12_CodeText.j6 k y0 y1 y2 y3 y4 y5 y6 y7 y8 y9) (tautochronelaw12_CodeText.j6 (k + 1) y0 y1 y2 y3 y4 y5 y6 y7 y8 y9))
  | 0 => ⟨fun _ _ _ _ _ _ _ _ _ r h => by simp [tautochronelaw12_CodeText.j0] at h, fun _ _ _ _ _ _ _ _ _ r h => by simp [tautochronelaw12_CodeText.j1] at h, fun _ _ _ _ _ _ _ _ _ _ r h => by simp [tautochronelaw12_CodeText.j2] at h, fun _ _ _ _ _ _ _ _ _ r h => by simp [tautochronelaw12_CodeText.j3] at h, fun _ _ _ _ _ _ _ _ _ _ _ _ r h => by simp [tautochronelaw12_CodeText.l0] at h, fun _ _ _ _ _ _ _ _ _ _ _ r h => by simp [tautochronelaw12_CodeText.j5] at h, fun _ _ _ _ _ _ _ _ _ _ r h => by simp [tautochronelaw12_CodeText.j6] at h⟩
  | k + 1 => by
    obtain ⟨ih0, ih1, ih2, ih3, ih4, ih5, ih6⟩ := tautochronelaw12_CodeText.mono_l k
    refine ⟨?_, ?_, ?_, ?_, ?_, ?_, ?_⟩
    · intro y0 y1 y2 y3 y4 y5 y6 y7 y8
      unfold tautochronelaw12_CodeText.j0
      repeat' first
      | (with_reducible exact ih0 _ _ _ _ _ _ _ _ _)
      | (with_reducible exact ih1 _ _ _ _ _ _ _ _ _)
      | (with_reducible exact ih2 _ _ _ _ _ _ _ _ _ _)
      | (with_reducible exact ih3 _ _ _ _ _ _ _ _ _)
      | (with_reducible exact ih4 _ _ _ _ _ _ _ _ _ _ _ _)
      | (with_reducible exact ih5 _ _ _ _ _ _ _ _ _ _ _)
      | (with_reducible exact ih6 _ _ _ _ _ _ _ _ _ _)
      | (with_reducible exact code_Text.mono _ _ _ _ _ _ _ _ _)
      | (with_reducible exact tautochronelaw12_awake.mono _)
      | (with_reducible exact tautochronelaw12_digits.mono _ _)
      | (with_reducible exact tautochronelaw12_number.mono _ _)
      | (with_reducible exact tautochronelaw12_uses.mono _ _ _ _ _ _ _ _ _)
      | (with_reducible exact LeO.refl _)
      | (with_reducible exact LeO.none _)
      | (with_reducible refine LeO.ite ?_ ?_)
      | (with_reducible refine LeO.bind ?_ (fun _ => ?_))
      | exact ih0 _ _ _ _ _ _ _ _ _
      | exact ih1 _ _ _ _ _ _ _ _ _
      | exact ih2 _ _ _ _ _ _ _ _ _ _
      | exact ih3 _ _ _ _ _ _ _ _ _
      | exact ih4 _ _ _ _ _ _ _ _ _ _ _ _
      | exact ih5 _ _ _ _ _ _ _ _ _ _ _
      | exact ih6 _ _ _ _ _ _ _ _ _ _
      | exact code_Text.mono _ _ _ _ _ _ _ _ _
      | exact tautochronelaw12_awake.mono _
      | exact tautochronelaw12_digits.mono _ _
      | exact tautochronelaw12_number.mono _ _
      | exact tautochronelaw12_uses.mono _ _ _ _ _ _ _ _ _
      | exact LeO.none _
      | refine LeO.ite ?_ ?_
      | refine LeO.bind ?_ (fun _ => ?_)
    · intro y0 y1 y2 y3 y4 y5 y6 y7 y8
      unfold tautochronelaw12_CodeText.j1
      repeat' first
      | (with_reducible exact ih0 _ _ _ _ _ _ _ _ _)
      | (with_reducible exact ih1 _ _ _ _ _ _ _ _ _)
      | (with_reducible exact ih2 _ _ _ _ _ _ _ _ _ _)
      | (with_reducible exact ih3 _ _ _ _ _ _ _ _ _)
      | (with_reducible exact ih4 _ _ _ _ _ _ _ _ _ _ _ _)
      | (with_reducible exact ih5 _ _ _ _ _ _ _ _ _ _ _)
      | (with_reducible exact ih6 _ _ _ _ _ _ _ _ _ _)
      | (with_reducible exact code_Text.mono _ _ _ _ _ _ _ _ _)
      | (with_reducible exact tautochronelaw12_awake.mono _)
      | (with_reducible exact tautochronelaw12_digits.mono _ _)
      | (with_reducible exact tautochronelaw12_number.mono _ _)
      | (with_reducible exact tautochronelaw12_uses.mono _ _ _ _ _ _ _ _ _)
      | (with_reducible exact LeO.refl _)
      | (with_reducible exact LeO.none _)
      | (with_reducible refine LeO.ite ?_ ?_)
      | (with_reducible refine LeO.bind ?_ (fun _ => ?_))
      | exact ih0 _ _ _ _ _ _ _ _ _
      | exact ih1 _ _ _ _ _ _ _ _ _
      | exact ih2 _ _ _ _ _ _ _ _ _ _
      | exact ih3 _ _ _ _ _ _ _ _ _
      | exact ih4 _ _ _ _ _ _ _ _ _ _ _ _
      | exact ih5 _ _ _ _ _ _ _ _ _ _ _
      | exact ih6 _ _ _ _ _ _ _ _ _ _
      | exact code_Text.mono _ _ _ _ _ _ _ _ _
      | exact tautochronelaw12_awake.mono _
      | exact tautochronelaw12_digits.mono _ _
      | exact tautochronelaw12_number.mono _ _
      | exact tautochronelaw12_uses.mono _ _ _ _ _ _ _ _ _
      | exact LeO.none _
      | refine LeO.ite ?_ ?_
      | refine LeO.bind ?_ (fun _ => ?_)
    · intro y0 y1 y2 y3 y4 y5 y6 y7 y8 y9
      unfold tautochronelaw12_CodeText.j2
      repeat' first
      | (with_reducible exact ih0 _ _ _ _ _ _ _ _ _)
      | (with_reducible exact ih1 _ _ _ _ _ _ _ _ _)
      | (with_reducible exact ih2 _ _ _ _ _ _ _ _ _ _)
      | (with_reducible exact ih3 _ _ _ _ _ _ _ _ _)
      | (with_reducible exact ih4 _ _ _ _ _ _ _ _ _ _ _ _)
      | (with_reducible exact ih5 _ _ _ _ _ _ _ _ _ _ _)
      | (with_reducible exact ih6 _ _ _ _ _ _ _ _ _ _)
      | (with_reducible exact code_Text.mono _ _ _ _ _ _ _ _ _)
      | (with_reducible exact tautochronelaw12_awake.mono _)
      | (with_reducible exact tautochronelaw12_digits.mono _ _)
      | (with_reducible exact tautochronelaw12_number.mono _ _)
      | (with_reducible exact tautochronelaw12_uses.mono _ _ _ _ _ _ _ _ _)
      | (with_reducible exact LeO.refl _)
      | (with_reducible exact LeO.none _)
      | (with_reducible refine LeO.ite ?_ ?_)
      | (with_reducible refine LeO.bind ?_ (fun _ => ?_))
      | exact ih0 _ _ _ _ _ _ _ _ _
      | exact ih1 _ _ _ _ _ _ _ _ _
      | exact ih2 _ _ _ _ _ _ _ _ _ _
      | exact ih3 _ _ _ _ _ _ _ _ _
      | exact ih4 _ _ _ _ _ _ _ _ _ _ _ _
      | exact ih5 _ _ _ _ _ _ _ _ _ _ _
      | exact ih6 _ _ _ _ _ _ _ _ _ _
      | exact code_Text.mono _ _ _ _ _ _ _ _ _
      | exact tautochronelaw12_awake.mono _
      | exact tautochronelaw12_digits.mono _ _
      | exact tautochronelaw12_number.mono _ _
      | exact tautochronelaw12_uses.mono _ _ _ _ _ _ _ _ _
      | exact LeO.none _
      | refine LeO.ite ?_ ?_
      | refine LeO.bind ?_ (fun _ => ?_)
    · intro y0 y1 y2 y3 y4 y5 y6 y7 y8
      unfold tautochronelaw12_CodeText.j3
      repeat' first
      | (with_reducible exact ih0 _ _ _ _ _ _ _ _ _)
      | (with_reducible exact ih1 _ _ _ _ _ _ _ _ _)
      | (with_reducible exact ih2 _ _ _ _ _ _ _ _ _ _)
      | (with_reducible exact ih3 _ _ _ _ _ _ _ _ _)
      | (with_reducible exact ih4 _ _ _ _ _ _ _ _ _ _ _ _)
      | (with_reducible exact ih5 _ _ _ _ _ _ _ _ _ _ _)
      | (with_reducible exact ih6 _ _ _ _ _ _ _ _ _ _)
      | (with_reducible exact code_Text.mono _ _ _ _ _ _ _ _ _)
      | (with_reducible exact tautochronelaw12_awake.mono _)
      | (with_reducible exact tautochronelaw12_digits.mono _ _)
      | (with_reducible exact tautochronelaw12_number.mono _ _)
      | (with_reducible exact tautochronelaw12_uses.mono _ _ _ _ _ _ _ _ _)
      | (with_reducible exact LeO.refl _)
      | (with_reducible exact LeO.none _)
      | (with_reducible refine LeO.ite ?_ ?_)
      | (with_reducible refine LeO.bind ?_ (fun _ => ?_))
      | exact ih0 _ _ _ _ _ _ _ _ _
      | exact ih1 _ _ _ _ _ _ _ _ _
      | exact ih2 _ _ _ _ _ _ _ _ _ _
      | exact ih3 _ _ _ _ _ _ _ _ _
      | exact ih4 _ _ _ _ _ _ _ _ _ _ _ _
      | exact ih5 _ _ _ _ _ _ _ _ _ _ _
      | exact ih6 _ _ _ _ _ _ _ _ _ _
      | exact code_Text.mono _ _ _ _ _ _ _ _ _
      | exact tautochronelaw12_awake.mono _
      | exact tautochronelaw12_digits.mono _ _
      | exact tautochronelaw12_number.mono _ _
      | exact tautochronelaw12_uses.mono _ _ _ _ _ _ _ _ _
      | exact LeO.none _
      | refine LeO.ite ?_ ?_
      | refine LeO.bind ?_ (fun _ => ?_)
    · intro y0 y1 y2 y3 y4 y5 y6 y7 y8 y9 y10 y11
      unfold tautochronelaw12_CodeText.l0
      repeat' first
      | (with_reducible exact ih0 _ _ _ _ _ _ _ _ _)
      | (with_reducible exact ih1 _ _ _ _ _ _ _ _ _)
      | (with_reducible exact ih2 _ _ _ _ _ _ _ _ _ _)
      | (with_reducible exact ih3 _ _ _ _ _ _ _ _ _)
      | (with_reducible exact ih4 _ _ _ _ _ _ _ _ _ _ _ _)
      | (with_reducible exact ih5 _ _ _ _ _ _ _ _ _ _ _)
      | (with_reducible exact ih6 _ _ _ _ _ _ _ _ _ _)
      | (with_reducible exact code_Text.mono _ _ _ _ _ _ _ _ _)
      | (with_reducible exact tautochronelaw12_awake.mono _)
      | (with_reducible exact tautochronelaw12_digits.mono _ _)
      | (with_reducible exact tautochronelaw12_number.mono _ _)
      | (with_reducible exact tautochronelaw12_uses.mono _ _ _ _ _ _ _ _ _)
      | (with_reducible exact LeO.refl _)
      | (with_reducible exact LeO.none _)
      | (with_reducible refine LeO.ite ?_ ?_)
      | (with_reducible refine LeO.bind ?_ (fun _ => ?_))
      | exact ih0 _ _ _ _ _ _ _ _ _
      | exact ih1 _ _ _ _ _ _ _ _ _
      | exact ih2 _ _ _ _ _ _ _ _ _ _
      | exact ih3 _ _ _ _ _ _ _ _ _
      | exact ih4 _ _ _ _ _ _ _ _ _ _ _ _
      | exact ih5 _ _ _ _ _ _ _ _ _ _ _
      | exact ih6 _ _ _ _ _ _ _ _ _ _
      | exact code_Text.mono _ _ _ _ _ _ _ _ _
      | exact tautochronelaw12_awake.mono _
      | exact tautochronelaw12_digits.mono _ _
      | exact tautochronelaw12_number.mono _ _
      | exact tautochronelaw12_uses.mono _ _ _ _ _ _ _ _ _
      | exact LeO.none _
      | refine LeO.ite ?_ ?_
      | refine LeO.bind ?_ (fun _ => ?_)
    · intro y0 y1 y2 y3 y4 y5 y6 y7 y8 y9 y10
      unfold tautochronelaw12_CodeText.j5
      repeat' first
      | (with_reducible exact ih0 _ _ _ _ _ _ _ _ _)
      | (with_reducible exact ih1 _ _ _ _ _ _ _ _ _)
      | (with_reducible exact ih2 _ _ _ _ _ _ _ _ _ _)
      | (with_reducible exact ih3 _ _ _ _ _ _ _ _ _)
      | (with_reducible exact ih4 _ _ _ _ _ _ _ _ _ _ _ _)
      | (with_reducible exact ih5 _ _ _ _ _ _ _ _ _ _ _)
      | (with_reducible exact ih6 _ _ _ _ _ _ _ _ _ _)
      | (with_reducible exact code_Text.mono _ _ _ _ _ _ _ _ _)
      | (with_reducible exact tautochronelaw12_awake.mono _)
      | (with_reducible exact tautochronelaw12_digits.mono _ _)
      | (with_reducible exact tautochronelaw12_number.mono _ _)
      | (with_reducible exact tautochronelaw12_uses.mono _ _ _ _ _ _ _ _ _)
      | (with_reducible exact LeO.refl _)
      | (with_reducible exact LeO.none _)
      | (with_reducible refine LeO.ite ?_ ?_)
      | (with_reducible refine LeO.bind ?_ (fun _ => ?_))
      | exact ih0 _ _ _ _ _ _ _ _ _
      | exact ih1 _ _ _ _ _ _ _ _ _
      | exact ih2 _ _ _ _ _ _ _ _ _ _
      | exact ih3 _ _ _ _ _ _ _ _ _
      | exact ih4 _ _ _ _ _ _ _ _ _ _ _ _
      | exact ih5 _ _ _ _ _ _ _ _ _ _ _
      | exact ih6 _ _ _ _ _ _ _ _ _ _
      | exact code_Text.mono _ _ _ _ _ _ _ _ _
      | exact tautochronelaw12_awake.mono _
      | exact tautochronelaw12_digits.mono _ _
      | exact tautochronelaw12_number.mono _ _
      | exact tautochronelaw12_uses.mono _ _ _ _ _ _ _ _ _
      | exact LeO.none _
      | refine LeO.ite ?_ ?_
      | refine LeO.bind ?_ (fun _ => ?_)
    · intro y0 y1 y2 y3 y4 y5 y6 y7 y8 y9
      unfold tautochronelaw12_CodeText.j6
      repeat' first
      | (with_reducible exact ih0 _ _ _ _ _ _ _ _ _)
      | (with_reducible exact ih1 _ _ _ _ _ _ _ _ _)
      | (with_reducible exact ih2 _ _ _ _ _ _ _ _ _ _)
      | (with_reducible exact ih3 _ _ _ _ _ _ _ _ _)
      | (with_reducible exact ih4 _ _ _ _ _ _ _ _ _ _ _ _)
      | (with_reducible exact ih5 _ _ _ _ _ _ _ _ _ _ _)
      | (with_reducible exact ih6 _ _ _ _ _ _ _ _ _ _)
      | (with_reducible exact code_Text.mono _ _ _ _ _ _ _ _ _)
      | (with_reducible exact tautochronelaw12_awake.mono _)
      | (with_reducible exact tautochronelaw12_digits.mono _ _)
      | (with_reducible exact tautochronelaw12_number.mono _ _)
      | (with_reducible exact tautochronelaw12_uses.mono _ _ _ _ _ _ _ _ _)
      | (with_reducible exact LeO.refl _)
      | (with_reducible exact LeO.none _)
      | (with_reducible refine LeO.ite ?_ ?_)
      | (with_reducible refine LeO.bind ?_ (fun _ => ?_))
      | exact ih0 _ _ _ _ _ _ _ _ _
      | exact ih1 _ _ _ _ _ _ _ _ _
      | exact ih2 _ _ _ _ _ _ _ _ _ _
      | exact ih3 _ _ _ _ _ _ _ _ _
      | exact ih4 _ _ _ _ _ _ _ _ _ _ _ _
      | exact ih5 _ _ _ _ _ _ _ _ _ _ _
      | exact ih6 _ _ _ _ _ _ _ _ _ _
      | exact code_Text.mono _ _ _ _ _ _ _ _ _
      | exact tautochronelaw12_awake.mono _
      | exact tautochronelaw12_digits.mono _ _
      | exact tautochronelaw12_number.mono _ _
      | exact tautochronelaw12_uses.mono _ _ _ _ _ _ _ _ _
      | exact LeO.none _
      | refine LeO.ite ?_ ?_
      | refine LeO.bind ?_ (fun _ => ?_)
theorem tautochronelaw12_CodeText.mono : ∀ a0 a1 a2 a3 a4 a5 a6 a7 k, LeO (tautochronelaw12_CodeText.f k a0 a1 a2 a3 a4 a5 a6 a7) (tautochronelaw12_CodeText.f (k + 1) a0 a1 a2 a3 a4 a5 a6 a7) := by
  intro a0 a1 a2 a3 a4 a5 a6 a7 k
  obtain ⟨ih0, ih1, ih2, ih3, ih4, ih5, ih6⟩ := tautochronelaw12_CodeText.mono_l k
  unfold tautochronelaw12_CodeText.f
  repeat' first
      | (with_reducible exact ih0 _ _ _ _ _ _ _ _ _)
      | (with_reducible exact ih1 _ _ _ _ _ _ _ _ _)
      | (with_reducible exact ih2 _ _ _ _ _ _ _ _ _ _)
      | (with_reducible exact ih3 _ _ _ _ _ _ _ _ _)
      | (with_reducible exact ih4 _ _ _ _ _ _ _ _ _ _ _ _)
      | (with_reducible exact ih5 _ _ _ _ _ _ _ _ _ _ _)
      | (with_reducible exact ih6 _ _ _ _ _ _ _ _ _ _)
      | (with_reducible exact code_Text.mono _ _ _ _ _ _ _ _ _)
      | (with_reducible exact tautochronelaw12_awake.mono _)
      | (with_reducible exact tautochronelaw12_digits.mono _ _)
      | (with_reducible exact tautochronelaw12_number.mono _ _)
      | (with_reducible exact tautochronelaw12_uses.mono _ _ _ _ _ _ _ _ _)
      | (with_reducible exact LeO.refl _)
      | (with_reducible exact LeO.none _)
      | (with_reducible refine LeO.ite ?_ ?_)
      | (with_reducible refine LeO.bind ?_ (fun _ => ?_))
      | exact ih0 _ _ _ _ _ _ _ _ _
      | exact ih1 _ _ _ _ _ _ _ _ _
      | exact ih2 _ _ _ _ _ _ _ _ _ _
      | exact ih3 _ _ _ _ _ _ _ _ _
      | exact ih4 _ _ _ _ _ _ _ _ _ _ _ _
      | exact ih5 _ _ _ _ _ _ _ _ _ _ _
      | exact ih6 _ _ _ _ _ _ _ _ _ _
      | exact code_Text.mono _ _ _ _ _ _ _ _ _
      | exact tautochronelaw12_awake.mono _
      | exact tautochronelaw12_digits.mono _ _
      | exact tautochronelaw12_number.mono _ _
      | exact tautochronelaw12_uses.mono _ _ _ _ _ _ _ _ _
      | exact LeO.none _
      | refine LeO.ite ?_ ?_
      | refine LeO.bind ?_ (fun _ => ?_)
def tautochronelaw12_CodeText.T10 : Bool × List (List Nat × List Nat) := (true, [([], []), ([0], [0]), ([], []), ([], []), ([3], [3]), ([2, 4], [2, 4]), ([5], [5]), ([1, 6], [1, 6]), ([7, 2, 0, 1, 2, 3, 4, 5, 6, 7], [0, 7])])
def tautochronelaw12_CodeText.B10 : List Nat := [0, 1, 0, 0, 8, 28, 60, 127, 255]
theorem tautochronelaw12_CodeText.tab10 : rtab .any (opsOf Tryd.f4 10) = tautochronelaw12_CodeText.T10 := by kernel_rfl
theorem tautochronelaw12_CodeText.bits10 : waitsOk tautochronelaw12_CodeText.T10.2 tautochronelaw12_CodeText.B10 = true := by kernel_rfl
set_option maxHeartbeats 8000000 in
set_option maxRecDepth 100000 in
theorem tautochronelaw12_CodeText.calls (k : Nat) (a0_0 : Int) (a0_1 : Int) (a0_2 : Int) (a0_3 : Int) (a0_4 : Int) (a0_5 : Int) (a0_6 : Int) (a0_7 : Int) (r : Bool) (w : World) (h : tautochronelaw12_CodeText.f k a0_0 a0_1 a0_2 a0_3 a0_4 a0_5 a0_6 a0_7 = some r) (ht : TB w) :
    Calls Tryd.prog 4 #[.agg #[.int .i64 a0_0, .int .i64 a0_1, .int .i64 a0_2, .int .i64 a0_3, .int .i64 a0_4, .int .i64 a0_5, .int .u64 a0_6, .int .i64 a0_7]] w fun e w' => e = .returned (.bool r) ∧ Below w.heap.size w w' := by
  have HT := Aside0.mk ht
  clear ht
  have hu26 := Tryd.underlying26
  have HB := Aside0.mk (Below.refl w.heap.size w)
  have H : ((tautochronelaw12_awake.f k).bind fun t104 => (if t104 = true then (if a0_0 < 0 then (tautochronelaw12_CodeText.j0 k true a0_0 a0_1 a0_2 a0_3 a0_4 a0_5 a0_6 a0_7) else (tautochronelaw12_CodeText.j0 k (decide (a0_0 > 13)) a0_0 a0_1 a0_2 a0_3 a0_4 a0_5 a0_6 a0_7)) else (some false))) = some r := h
  clear h
  replace H := Option.bind_eq_some_iff.mp H
  obtain ⟨t104, A20, H⟩ := H
  replace H : (if t104 = true then (if a0_0 < 0 then (tautochronelaw12_CodeText.j0 k true a0_0 a0_1 a0_2 a0_3 a0_4 a0_5 a0_6 a0_7) else (tautochronelaw12_CodeText.j0 k (decide (a0_0 > 13)) a0_0 a0_1 a0_2 a0_3 a0_4 a0_5 a0_6 a0_7)) else (some false)) = some r := H
  have A2 := Aside0.mk A20
  clear A20
  by_cases c3 : t104 = true
  · subst c3
    have H1 : (if a0_0 < 0 then (tautochronelaw12_CodeText.j0 k true a0_0 a0_1 a0_2 a0_3 a0_4 a0_5 a0_6 a0_7) else (tautochronelaw12_CodeText.j0 k (decide (a0_0 > 13)) a0_0 a0_1 a0_2 a0_3 a0_4 a0_5 a0_6 a0_7)) = some r := by rw [if_pos rfl] at H; exact H
    clear H
    have H := H1
    clear H1
    have HC4 := Aside0.mk H
    clear H
    go_enter Tryd.func4, Tryd.ntmps4
    go_upto_region 3 with (first | ((with_reducible refine gate_dst (N := 1) rfl ?_); refine box_event ?hg (N := 1) ?hd (cs := #[.int .i64 a0_0, .int .i64 a0_1, .int .i64 a0_2, .int .i64 a0_3, .int .i64 a0_4, .int .i64 a0_5, .int .u64 a0_6, .int .i64 a0_7]) (t := 26) ?hr ?_; (case hd => rfl); (case hg => rfl); (case hr => first | (go_simp; done) | (go_simp; rfl)); intro gb103 hg w5 hbox hb; have n0_ := Aside0.mk (below_step (by repeat (first | (with_reducible first | exact HB.out | apply below_alloc | apply pw_below_drewN | apply below_drew1) | exact HB.out)) hb); have n1_ := Aside0.mk (hbox); have n2_ := Aside0.mk ((by rw [hg]; exact (below_size (by repeat (first | (with_reducible first | exact HB.out | apply below_alloc | apply pw_below_drewN | apply below_drew1) | exact HB.out))) : w.heap.size ≤ gb103)); have n3_ := Aside0.mk ((by rw [hg]; exact (below_size (by repeat (first | (with_reducible first | exact HB.out | apply below_alloc | apply pw_below_drewN | apply below_drew1) | exact HB.out))) : w.heap.size ≤ gb103)); clear HB; have HB := n0_; have BK103 := n1_; have GW103 := n2_; have GE103 := n3_; clear n0_ n1_ n2_ n3_; clear hb hbox hg) | ((with_reducible refine gate_callee (f := 8) rfl ?_); refine goesL_ (some 7) rfl rfl Tryd.func8 (by kernel_rfl) rfl #[] rfl (by (try simp only [List.map_toArray, List.map_cons, List.map_nil]); first | done | rfl | (simp only [List.length_drop, List.length_take]; rfl)) ?_; (with_reducible refine (tautochronelaw12_awake.calls k  true _ A2.out).mono ?_); rintro e w6 ⟨rfl, hb⟩; refine ⟨_, rfl, ?_⟩; have n0_ := Aside0.mk (blk_below (g := gb103) (o := .cells #[.int .i64 a0_0, .int .i64 a0_1, .int .i64 a0_2, .int .i64 a0_3, .int .i64 a0_4, .int .i64 a0_5, .int .u64 a0_6, .int .i64 a0_7] 26 (0, 0)) (by (with_reducible repeat (first | refine blk_drewN ?_ _ | refine blk_drew ?_ | refine blk_alloc ?_ _)); exact BK103.out) hb); have n1_ := Aside0.mk (below_step (by repeat (first | (with_reducible first | exact HB.out | apply below_alloc | apply pw_below_drewN | apply below_drew1 | refine below_set ?_ GE103.out) | exact HB.out)) hb); clear BK103; clear HB; have BK103 := n0_; have HB := n1_; clear n0_ n1_; (try clear hb); (try clear hb2); (try clear hk); (try clear hi)))
    (try simp only [Act.put, List.setIfInBounds_toArray, List.set_cons_zero, List.set_cons_succ])
    go_cut [16] (fun v16 wc => ∃ (kq : Nat) (x16_3 : Bool), v16 = .bool x16_3 ∧ Aside0 (tautochronelaw12_CodeText.j0 kq x16_3 a0_0 a0_1 a0_2 a0_3 a0_4 a0_5 a0_6 a0_7 = some r) ∧ Aside0 (kq ≤ k) ∧ Aside0 (wc.heap[gb103]? = some (.cells #[.int .i64 a0_0, .int .i64 a0_1, .int .i64 a0_2, .int .i64 a0_3, .int .i64 a0_4, .int .i64 a0_5, .int .u64 a0_6, .int .i64 a0_7] 26 (0, 0))) ∧ Aside0 (Below w.heap.size w wc))
    case first =>
      have H := HC4.out
      clear HC4
      by_cases c7 : a0_0 < 0
      · rw [if_pos c7] at H
        have c7b0 : decide (a0_0 < 0) = true := decide_eq_true c7
        clear c7
        (first | rw [c7b0] | (simp only [i64_w, i32_w]; rw [c7b0]) | skip)
        have H' := Aside0.mk H
        clear H
        have hcz8_0 : w6.cell? ⟨gb103, 0, none⟩ = some (.int .i64 a0_0) := (blk_cell BK103.out 0).trans rfl
        have hcz8_1 : w6.cell? ⟨gb103, 1, none⟩ = some (.int .i64 a0_1) := (blk_cell BK103.out 1).trans rfl
        have hcz8_2 : w6.cell? ⟨gb103, 2, none⟩ = some (.int .i64 a0_2) := (blk_cell BK103.out 2).trans rfl
        have hcz8_3 : w6.cell? ⟨gb103, 3, none⟩ = some (.int .i64 a0_3) := (blk_cell BK103.out 3).trans rfl
        have hcz8_4 : w6.cell? ⟨gb103, 4, none⟩ = some (.int .i64 a0_4) := (blk_cell BK103.out 4).trans rfl
        have hcz8_5 : w6.cell? ⟨gb103, 5, none⟩ = some (.int .i64 a0_5) := (blk_cell BK103.out 5).trans rfl
        have hcz8_6 : w6.cell? ⟨gb103, 6, none⟩ = some (.int .u64 a0_6) := (blk_cell BK103.out 6).trans rfl
        have hcz8_7 : w6.cell? ⟨gb103, 7, none⟩ = some (.int .i64 a0_7) := (blk_cell BK103.out 7).trans rfl
        have hfz8_0 := blk_frozen BK103.out 0
        have hfz8_1 := blk_frozen BK103.out 1
        have hfz8_2 := blk_frozen BK103.out 2
        have hfz8_3 := blk_frozen BK103.out 3
        have hfz8_4 := blk_frozen BK103.out 4
        have hfz8_5 := blk_frozen BK103.out 5
        have hfz8_6 := blk_frozen BK103.out 6
        have hfz8_7 := blk_frozen BK103.out 7
        go_wp2
        go_meet
        case rel => exact ⟨_, (true), (by first | rfl | (simp; done) | (simp [*]; done)), H', ⟨by first | omega | exact Nat.le_refl _⟩, ⟨by (with_reducible repeat (first | refine blk_drewN ?_ _ | refine blk_drew ?_ | refine blk_alloc ?_ _)); exact BK103.out⟩, ⟨by repeat (first | (with_reducible first | exact HB.out | apply below_alloc | apply pw_below_drewN | apply below_drew1 | refine below_set ?_ GE103.out) | exact HB.out)⟩⟩
      · rw [if_neg c7] at H
        have c7b0 : decide (a0_0 < 0) = false := decide_eq_false c7
        clear c7
        (first | rw [c7b0] | (simp only [i64_w, i32_w]; rw [c7b0]) | skip)
        have H' := Aside0.mk H
        clear H
        have hcz9_0 : w6.cell? ⟨gb103, 0, none⟩ = some (.int .i64 a0_0) := (blk_cell BK103.out 0).trans rfl
        have hcz9_1 : w6.cell? ⟨gb103, 1, none⟩ = some (.int .i64 a0_1) := (blk_cell BK103.out 1).trans rfl
        have hcz9_2 : w6.cell? ⟨gb103, 2, none⟩ = some (.int .i64 a0_2) := (blk_cell BK103.out 2).trans rfl
        have hcz9_3 : w6.cell? ⟨gb103, 3, none⟩ = some (.int .i64 a0_3) := (blk_cell BK103.out 3).trans rfl
        have hcz9_4 : w6.cell? ⟨gb103, 4, none⟩ = some (.int .i64 a0_4) := (blk_cell BK103.out 4).trans rfl
        have hcz9_5 : w6.cell? ⟨gb103, 5, none⟩ = some (.int .i64 a0_5) := (blk_cell BK103.out 5).trans rfl
        have hcz9_6 : w6.cell? ⟨gb103, 6, none⟩ = some (.int .u64 a0_6) := (blk_cell BK103.out 6).trans rfl
        have hcz9_7 : w6.cell? ⟨gb103, 7, none⟩ = some (.int .i64 a0_7) := (blk_cell BK103.out 7).trans rfl
        have hfz9_0 := blk_frozen BK103.out 0
        have hfz9_1 := blk_frozen BK103.out 1
        have hfz9_2 := blk_frozen BK103.out 2
        have hfz9_3 := blk_frozen BK103.out 3
        have hfz9_4 := blk_frozen BK103.out 4
        have hfz9_5 := blk_frozen BK103.out 5
        have hfz9_6 := blk_frozen BK103.out 6
        have hfz9_7 := blk_frozen BK103.out 7
        go_wp2
        go_meet
        case rel => exact ⟨_, (decide (a0_0 > 13)), (by first | rfl | (simp; done) | (simp [*]; done)), H', ⟨by first | omega | exact Nat.le_refl _⟩, ⟨by (with_reducible repeat (first | refine blk_drewN ?_ _ | refine blk_drew ?_ | refine blk_alloc ?_ _)); exact BK103.out⟩, ⟨by repeat (first | (with_reducible first | exact HB.out | apply below_alloc | apply pw_below_drewN | apply below_drew1 | refine below_set ?_ GE103.out) | exact HB.out)⟩⟩
    case rest =>
      clear HC4
      try clear p2
      try clear c3
      try clear c4
      try clear c7
      try clear c7b0
      try clear c8
      obtain ⟨kq, x16_3, rfl, HA, HJ3, BK103, HB⟩ := hcut
      cases kq with
      | zero => exact absurd HA.out (by simp [tautochronelaw12_CodeText.j0])
      | succ kj3 =>
        have H := HA.out
        clear HA
        simp only [tautochronelaw12_CodeText.j0] at H
        by_cases c10 : x16_3 = true
        · subst c10
          have H1 : ((code_Text.f kj3 a0_0 a0_1 a0_2 a0_3 a0_4 a0_5 a0_6 a0_7).bind fun t105 => (some (t105.toList == ([63] : List UInt8)))) = some r := by rw [if_pos rfl] at H; exact H
          clear H
          have H := H1
          clear H1
          replace H := Option.bind_eq_some_iff.mp H
          obtain ⟨t105, A110, H⟩ := H
          replace H : (some (t105.toList == ([63] : List UInt8))) = some r := H
          have A11 := Aside0.mk A110
          clear A110
          obtain rfl := Option.some.inj H
          have hcz12_0 : wc.cell? ⟨gb103, 0, none⟩ = some (.int .i64 a0_0) := (blk_cell BK103.out 0).trans rfl
          have hcz12_1 : wc.cell? ⟨gb103, 1, none⟩ = some (.int .i64 a0_1) := (blk_cell BK103.out 1).trans rfl
          have hcz12_2 : wc.cell? ⟨gb103, 2, none⟩ = some (.int .i64 a0_2) := (blk_cell BK103.out 2).trans rfl
          have hcz12_3 : wc.cell? ⟨gb103, 3, none⟩ = some (.int .i64 a0_3) := (blk_cell BK103.out 3).trans rfl
          have hcz12_4 : wc.cell? ⟨gb103, 4, none⟩ = some (.int .i64 a0_4) := (blk_cell BK103.out 4).trans rfl
          have hcz12_5 : wc.cell? ⟨gb103, 5, none⟩ = some (.int .i64 a0_5) := (blk_cell BK103.out 5).trans rfl
          have hcz12_6 : wc.cell? ⟨gb103, 6, none⟩ = some (.int .u64 a0_6) := (blk_cell BK103.out 6).trans rfl
          have hcz12_7 : wc.cell? ⟨gb103, 7, none⟩ = some (.int .i64 a0_7) := (blk_cell BK103.out 7).trans rfl
          have hfz12_0 := blk_frozen BK103.out 0
          have hfz12_1 := blk_frozen BK103.out 1
          have hfz12_2 := blk_frozen BK103.out 2
          have hfz12_3 := blk_frozen BK103.out 3
          have hfz12_4 := blk_frozen BK103.out 4
          have hfz12_5 := blk_frozen BK103.out 5
          have hfz12_6 := blk_frozen BK103.out 6
          have hfz12_7 := blk_frozen BK103.out 7
          go_wp2_with (first | ((with_reducible refine gate_callee (f := 15) rfl ?_); refine goesL_ (some 18) rfl rfl Tryd.func15 (by kernel_rfl) rfl #[.agg #[.int .i64 a0_0, .int .i64 a0_1, .int .i64 a0_2, .int .i64 a0_3, .int .i64 a0_4, .int .i64 a0_5, .int .u64 a0_6, .int .i64 a0_7]] rfl (by (try simp only [List.map_toArray, List.map_cons, List.map_nil]); first | done | rfl | (simp only [List.length_drop, List.length_take]; rfl)) ?_; (with_reducible refine (code_Text.calls kj3 a0_0 a0_1 a0_2 a0_3 a0_4 a0_5 a0_6 a0_7 t105 _ A11.out (Go.Joins.tab_stays gTab HT.out (by repeat (first | (with_reducible first | exact HB.out | apply below_alloc | apply pw_below_drewN | apply below_drew1 | refine below_set ?_ GE103.out) | exact HB.out)) (Nat.le_refl _))).mono ?_); rintro e w13 ⟨rfl, hb⟩; refine ⟨_, rfl, ?_⟩; have n0_ := Aside0.mk (blk_below (g := gb103) (o := .cells #[.int .i64 a0_0, .int .i64 a0_1, .int .i64 a0_2, .int .i64 a0_3, .int .i64 a0_4, .int .i64 a0_5, .int .u64 a0_6, .int .i64 a0_7] 26 (0, 0)) (by (with_reducible repeat (first | refine blk_drewN ?_ _ | refine blk_drew ?_ | refine blk_alloc ?_ _)); exact BK103.out) hb); have n1_ := Aside0.mk (below_step (by repeat (first | (with_reducible first | exact HB.out | apply below_alloc | apply pw_below_drewN | apply below_drew1 | refine below_set ?_ GE103.out) | exact HB.out)) hb); clear BK103; clear HB; have BK103 := n0_; have HB := n1_; clear n0_ n1_; (try clear hb); (try clear hb2); (try clear hk); (try clear hi)))
          go_ret
          exact ⟨by first | rfl | (simp [errW_none, errW_some] <;> rfl) | (simp [*, errW_none, errW_some] <;> rfl), by repeat (first | (with_reducible first | exact HB.out | apply below_alloc | apply pw_below_drewN | apply below_drew1 | refine below_set ?_ GE103.out) | exact HB.out)⟩
        · replace c10 := Bool.eq_false_iff.mpr c10
          subst c10
          have H1 : ((some (([(⟨#[115, 101, 116]⟩ : ByteArray), (⟨#[109, 111, 118, 101]⟩ : ByteArray), (⟨#[100, 111]⟩ : ByteArray), (⟨#[99, 104, 111, 111, 115, 101]⟩ : ByteArray), (⟨#[114, 101, 97, 100]⟩ : ByteArray), (⟨#[119, 114, 105, 116, 101]⟩ : ByteArray), (⟨#[106, 117, 109, 112]⟩ : ByteArray), (⟨#[122, 101, 114, 111]⟩ : ByteArray), (⟨#[108, 111, 99, 107]⟩ : ByteArray), (⟨#[117, 110, 108, 111, 99, 107]⟩ : ByteArray), (⟨#[105, 110, 99]⟩ : ByteArray), (⟨#[109, 101, 110, 100]⟩ : ByteArray), (⟨#[116, 101, 108, 108]⟩ : ByteArray), (⟨#[104, 97, 108, 116]⟩ : ByteArray)] : List ByteArray) : List ByteArray)).bind fun y106 => (if 0 ≤ a0_0 then (if a0_0 < (y106.length : Int) then ((tautochronelaw12_sets.f a0_0 a0_1 a0_2 a0_3 a0_4 a0_5 a0_6 a0_7).bind fun t110 => (if t110 = true then (if (rdOf ByteArray.empty y106 a0_0).size + 2 ≤ 9223372036854775807 then ((tautochronelaw12_number.f kj3 a0_2).bind fun t111 => (if ((rdOf ByteArray.empty y106 a0_0) ++ (⟨#[32, 118]⟩ : ByteArray)).size + t111.size ≤ 9223372036854775807 then (tautochronelaw12_CodeText.j1 kj3 (((rdOf ByteArray.empty y106 a0_0) ++ (⟨#[32, 118]⟩ : ByteArray)) ++ t111) a0_0 a0_1 a0_2 a0_3 a0_4 a0_5 a0_6 a0_7) else (none))) else (none)) else (tautochronelaw12_CodeText.j1 kj3 (rdOf ByteArray.empty y106 a0_0) a0_0 a0_1 a0_2 a0_3 a0_4 a0_5 a0_6 a0_7))) else (none)) else (none))) = some r := by rw [if_neg (show ¬ (false = true) by decide)] at H; exact H
          clear H
          have H := H1
          clear H1
          obtain ⟨y106, hy106⟩ : ∃ y_ : List ByteArray, y_ = (([(⟨#[115, 101, 116]⟩ : ByteArray), (⟨#[109, 111, 118, 101]⟩ : ByteArray), (⟨#[100, 111]⟩ : ByteArray), (⟨#[99, 104, 111, 111, 115, 101]⟩ : ByteArray), (⟨#[114, 101, 97, 100]⟩ : ByteArray), (⟨#[119, 114, 105, 116, 101]⟩ : ByteArray), (⟨#[106, 117, 109, 112]⟩ : ByteArray), (⟨#[122, 101, 114, 111]⟩ : ByteArray), (⟨#[108, 111, 99, 107]⟩ : ByteArray), (⟨#[117, 110, 108, 111, 99, 107]⟩ : ByteArray), (⟨#[105, 110, 99]⟩ : ByteArray), (⟨#[109, 101, 110, 100]⟩ : ByteArray), (⟨#[116, 101, 108, 108]⟩ : ByteArray), (⟨#[104, 97, 108, 116]⟩ : ByteArray)] : List ByteArray)) := ⟨_, rfl⟩
          replace H : (if 0 ≤ a0_0 then (if a0_0 < (y106.length : Int) then ((tautochronelaw12_sets.f a0_0 a0_1 a0_2 a0_3 a0_4 a0_5 a0_6 a0_7).bind fun t110 => (if t110 = true then (if (rdOf ByteArray.empty y106 a0_0).size + 2 ≤ 9223372036854775807 then ((tautochronelaw12_number.f kj3 a0_2).bind fun t111 => (if ((rdOf ByteArray.empty y106 a0_0) ++ (⟨#[32, 118]⟩ : ByteArray)).size + t111.size ≤ 9223372036854775807 then (tautochronelaw12_CodeText.j1 kj3 (((rdOf ByteArray.empty y106 a0_0) ++ (⟨#[32, 118]⟩ : ByteArray)) ++ t111) a0_0 a0_1 a0_2 a0_3 a0_4 a0_5 a0_6 a0_7) else (none))) else (none)) else (tautochronelaw12_CodeText.j1 kj3 (rdOf ByteArray.empty y106 a0_0) a0_0 a0_1 a0_2 a0_3 a0_4 a0_5 a0_6 a0_7))) else (none)) else (none)) = some r := by first | (rw [hy106]; with_reducible exact H) | (have H2_ := (Option.bind_some _ _).symm.trans H; rw [hy106]; with_reducible exact H2_) | (have H2_ := (Option.bind_some _ _).symm.trans H; with_reducible exact H2_) | with_reducible exact H | (rw [hy106]; exact H) | exact H
          have Ny106 := Aside0.mk hy106
          clear hy106
          by_cases c14 : 0 ≤ a0_0
          rotate_left
          · rw [if_neg c14] at H; exact absurd H (by simp)
          rw [if_pos c14] at H
          have c14b0 : decide (0 ≤ a0_0) = true := decide_eq_true c14
          clear c14
          by_cases c15 : a0_0 < (y106.length : Int)
          rotate_left
          · rw [if_neg c15] at H; exact absurd H (by simp)
          rw [if_pos c15] at H
          have c15b0 : decide (a0_0 < (y106.length : Int)) = true := decide_eq_true c15
          clear c15
          replace H := Option.bind_eq_some_iff.mp H
          obtain ⟨t110, A160, H⟩ := H
          replace H : (if t110 = true then (if (rdOf ByteArray.empty y106 a0_0).size + 2 ≤ 9223372036854775807 then ((tautochronelaw12_number.f kj3 a0_2).bind fun t111 => (if ((rdOf ByteArray.empty y106 a0_0) ++ (⟨#[32, 118]⟩ : ByteArray)).size + t111.size ≤ 9223372036854775807 then (tautochronelaw12_CodeText.j1 kj3 (((rdOf ByteArray.empty y106 a0_0) ++ (⟨#[32, 118]⟩ : ByteArray)) ++ t111) a0_0 a0_1 a0_2 a0_3 a0_4 a0_5 a0_6 a0_7) else (none))) else (none)) else (tautochronelaw12_CodeText.j1 kj3 (rdOf ByteArray.empty y106 a0_0) a0_0 a0_1 a0_2 a0_3 a0_4 a0_5 a0_6 a0_7)) = some r := H
          have A16 := Aside0.mk A160
          clear A160
          have HC17 := Aside0.mk H
          clear H
          go_upto_if 27 with (first | ((with_reducible refine gate_dst (N := 20) rfl ?_); refine Kd.R_lit Kd.string _ 9 ?hg (N := 20) ?hd (xs := ([(⟨#[115, 101, 116]⟩ : ByteArray), (⟨#[109, 111, 118, 101]⟩ : ByteArray), (⟨#[100, 111]⟩ : ByteArray), (⟨#[99, 104, 111, 111, 115, 101]⟩ : ByteArray), (⟨#[114, 101, 97, 100]⟩ : ByteArray), (⟨#[119, 114, 105, 116, 101]⟩ : ByteArray), (⟨#[106, 117, 109, 112]⟩ : ByteArray), (⟨#[122, 101, 114, 111]⟩ : ByteArray), (⟨#[108, 111, 99, 107]⟩ : ByteArray), (⟨#[117, 110, 108, 111, 99, 107]⟩ : ByteArray), (⟨#[105, 110, 99]⟩ : ByteArray), (⟨#[109, 101, 110, 100]⟩ : ByteArray), (⟨#[116, 101, 108, 108]⟩ : ByteArray), (⟨#[104, 97, 108, 116]⟩ : ByteArray)] : List ByteArray)) (inner := [.string (⟨#[115, 101, 116]⟩ : ByteArray), .string (⟨#[109, 111, 118, 101]⟩ : ByteArray), .string (⟨#[100, 111]⟩ : ByteArray), .string (⟨#[99, 104, 111, 111, 115, 101]⟩ : ByteArray), .string (⟨#[114, 101, 97, 100]⟩ : ByteArray), .string (⟨#[119, 114, 105, 116, 101]⟩ : ByteArray), .string (⟨#[106, 117, 109, 112]⟩ : ByteArray), .string (⟨#[122, 101, 114, 111]⟩ : ByteArray), .string (⟨#[108, 111, 99, 107]⟩ : ByteArray), .string (⟨#[117, 110, 108, 111, 99, 107]⟩ : ByteArray), .string (⟨#[105, 110, 99]⟩ : ByteArray), .string (⟨#[109, 101, 110, 100]⟩ : ByteArray), .string (⟨#[116, 101, 108, 108]⟩ : ByteArray), .string (⟨#[104, 97, 108, 116]⟩ : ByteArray)]) (ok := fun _ => True) (okp := fun _ => True) ?hr ?hp (fun _ hk => hk) trivial (Below.refl _ _) (Nat.le_refl _) (by simp) ?_; (case hd => rfl); (case hg => rfl); (case hr => first | (go_simp; done) | (go_simp; rfl)); (case hp => exact (Reps.one (show Kd.M Kd.string _ _ _ (⟨#[115, 101, 116]⟩ : ByteArray) [.string (⟨#[115, 101, 116]⟩ : ByteArray)] from rfl) (Reps.one (show Kd.M Kd.string _ _ _ (⟨#[109, 111, 118, 101]⟩ : ByteArray) [.string (⟨#[109, 111, 118, 101]⟩ : ByteArray)] from rfl) (Reps.one (show Kd.M Kd.string _ _ _ (⟨#[100, 111]⟩ : ByteArray) [.string (⟨#[100, 111]⟩ : ByteArray)] from rfl) (Reps.one (show Kd.M Kd.string _ _ _ (⟨#[99, 104, 111, 111, 115, 101]⟩ : ByteArray) [.string (⟨#[99, 104, 111, 111, 115, 101]⟩ : ByteArray)] from rfl) (Reps.one (show Kd.M Kd.string _ _ _ (⟨#[114, 101, 97, 100]⟩ : ByteArray) [.string (⟨#[114, 101, 97, 100]⟩ : ByteArray)] from rfl) (Reps.one (show Kd.M Kd.string _ _ _ (⟨#[119, 114, 105, 116, 101]⟩ : ByteArray) [.string (⟨#[119, 114, 105, 116, 101]⟩ : ByteArray)] from rfl) (Reps.one (show Kd.M Kd.string _ _ _ (⟨#[106, 117, 109, 112]⟩ : ByteArray) [.string (⟨#[106, 117, 109, 112]⟩ : ByteArray)] from rfl) (Reps.one (show Kd.M Kd.string _ _ _ (⟨#[122, 101, 114, 111]⟩ : ByteArray) [.string (⟨#[122, 101, 114, 111]⟩ : ByteArray)] from rfl) (Reps.one (show Kd.M Kd.string _ _ _ (⟨#[108, 111, 99, 107]⟩ : ByteArray) [.string (⟨#[108, 111, 99, 107]⟩ : ByteArray)] from rfl) (Reps.one (show Kd.M Kd.string _ _ _ (⟨#[117, 110, 108, 111, 99, 107]⟩ : ByteArray) [.string (⟨#[117, 110, 108, 111, 99, 107]⟩ : ByteArray)] from rfl) (Reps.one (show Kd.M Kd.string _ _ _ (⟨#[105, 110, 99]⟩ : ByteArray) [.string (⟨#[105, 110, 99]⟩ : ByteArray)] from rfl) (Reps.one (show Kd.M Kd.string _ _ _ (⟨#[109, 101, 110, 100]⟩ : ByteArray) [.string (⟨#[109, 101, 110, 100]⟩ : ByteArray)] from rfl) (Reps.one (show Kd.M Kd.string _ _ _ (⟨#[116, 101, 108, 108]⟩ : ByteArray) [.string (⟨#[116, 101, 108, 108]⟩ : ByteArray)] from rfl) (Reps.one (show Kd.M Kd.string _ _ _ (⟨#[104, 97, 108, 116]⟩ : ByteArray) [.string (⟨#[104, 97, 108, 116]⟩ : ByteArray)] from rfl) (Reps.none _ _)))))))))))))))); intro v107 w18 ho19 hb hg_ hnew_; clear hg_ hnew_; (first | rw [← Ny106.out] at ho19 | (simp only [Int.reduceToNat] at ho19; rw [← Ny106.out] at ho19)); have n0_ := Aside0.mk (Kd.R_lower ho19 (below_size (by repeat (first | (with_reducible first | exact HB.out | apply below_alloc | apply pw_below_drewN | apply below_drew1 | refine below_set ?_ GE103.out) | exact HB.out)))); have n1_ := Aside0.mk (blk_below (g := gb103) (o := .cells #[.int .i64 a0_0, .int .i64 a0_1, .int .i64 a0_2, .int .i64 a0_3, .int .i64 a0_4, .int .i64 a0_5, .int .u64 a0_6, .int .i64 a0_7] 26 (0, 0)) (by (with_reducible repeat (first | refine blk_drewN ?_ _ | refine blk_drew ?_ | refine blk_alloc ?_ _)); exact BK103.out) hb); have n2_ := Aside0.mk (below_step (by repeat (first | (with_reducible first | exact HB.out | apply below_alloc | apply pw_below_drewN | apply below_drew1 | refine below_set ?_ GE103.out) | exact HB.out)) hb); clear BK103; clear HB; have HO108 := n0_; have BK103 := n1_; have HB := n2_; clear n0_ n1_ n2_; clear hb ho19; have hcz20_0 : w18.cell? ⟨gb103, 0, none⟩ = some (.int .i64 a0_0) := (blk_cell BK103.out 0).trans rfl; have hcz20_1 : w18.cell? ⟨gb103, 1, none⟩ = some (.int .i64 a0_1) := (blk_cell BK103.out 1).trans rfl; have hcz20_2 : w18.cell? ⟨gb103, 2, none⟩ = some (.int .i64 a0_2) := (blk_cell BK103.out 2).trans rfl; have hcz20_3 : w18.cell? ⟨gb103, 3, none⟩ = some (.int .i64 a0_3) := (blk_cell BK103.out 3).trans rfl; have hcz20_4 : w18.cell? ⟨gb103, 4, none⟩ = some (.int .i64 a0_4) := (blk_cell BK103.out 4).trans rfl; have hcz20_5 : w18.cell? ⟨gb103, 5, none⟩ = some (.int .i64 a0_5) := (blk_cell BK103.out 5).trans rfl; have hcz20_6 : w18.cell? ⟨gb103, 6, none⟩ = some (.int .u64 a0_6) := (blk_cell BK103.out 6).trans rfl; have hcz20_7 : w18.cell? ⟨gb103, 7, none⟩ = some (.int .i64 a0_7) := (blk_cell BK103.out 7).trans rfl; have hfz20_0 := blk_frozen BK103.out 0; have hfz20_1 := blk_frozen BK103.out 1; have hfz20_2 := blk_frozen BK103.out 2; have hfz20_3 := blk_frozen BK103.out 3; have hfz20_4 := blk_frozen BK103.out 4; have hfz20_5 := blk_frozen BK103.out 5; have hfz20_6 := blk_frozen BK103.out 6; have hfz20_7 := blk_frozen BK103.out 7; obtain ⟨Ao21, co21, eo21⟩ := Kd.R_slice HO108.out; subst eo21; have p109 : 0 ≤ (a0_0 : Int) := of_decide_eq_true (by first | (with_reducible assumption) | assumption); have q109 : a0_0 < (y106.length : Int) := of_decide_eq_true (by first | (with_reducible assumption) | assumption); obtain ⟨ad109, e109, hx109_0⟩ := Kd.at_string (Kd.R_reads' HO108.out).2.2 a0_0 p109 q109; cases e109; replace p109 := eq_true p109; replace q109 := eq_true q109) | ((with_reducible refine gate_callee (f := 11) rfl ?_); refine goesL_ (some 27) rfl rfl Tryd.func11 (by kernel_rfl) rfl #[.agg #[.int .i64 a0_0, .int .i64 a0_1, .int .i64 a0_2, .int .i64 a0_3, .int .i64 a0_4, .int .i64 a0_5, .int .u64 a0_6, .int .i64 a0_7]] rfl (by (try simp only [List.map_toArray, List.map_cons, List.map_nil]); first | done | rfl | (simp only [List.length_drop, List.length_take]; rfl)) ?_; (with_reducible refine (tautochronelaw12_sets.calls a0_0 a0_1 a0_2 a0_3 a0_4 a0_5 a0_6 a0_7 t110 _ A16.out).mono ?_); rintro e w22 ⟨rfl, hb⟩; refine ⟨_, rfl, ?_⟩; have n0_ := Aside0.mk (Kd.R_below (by (with_reducible repeat (first | apply Kd.R_alloc | apply Kd.R_drewN | apply Kd.R_drew)); exact HO108.out) hb); have n1_ := Aside0.mk (blk_below (g := gb103) (o := .cells #[.int .i64 a0_0, .int .i64 a0_1, .int .i64 a0_2, .int .i64 a0_3, .int .i64 a0_4, .int .i64 a0_5, .int .u64 a0_6, .int .i64 a0_7] 26 (0, 0)) (by (with_reducible repeat (first | refine blk_drewN ?_ _ | refine blk_drew ?_ | refine blk_alloc ?_ _)); exact BK103.out) hb); have n2_ := Aside0.mk (below_step (by repeat (first | (with_reducible first | exact HB.out | apply below_alloc | apply pw_below_drewN | apply below_drew1 | refine below_set ?_ GE103.out) | exact HB.out)) hb); clear HO108; clear BK103; clear HB; have HO108 := n0_; have BK103 := n1_; have HB := n2_; clear n0_ n1_ n2_; (try clear hb); (try clear hb2); (try clear hk); (try clear hi)))
          (try simp only [Act.put, List.setIfInBounds_toArray, List.set_cons_zero, List.set_cons_succ])
          go_cut [4] (fun v4 wc => ∃ (kq : Nat) (x4_16 : ByteArray), v4 = .string x4_16 ∧ Aside0 (tautochronelaw12_CodeText.j1 kq x4_16 a0_0 a0_1 a0_2 a0_3 a0_4 a0_5 a0_6 a0_7 = some r) ∧ Aside0 (kq ≤ kj3) ∧ Aside0 (wc.heap[gb103]? = some (.cells #[.int .i64 a0_0, .int .i64 a0_1, .int .i64 a0_2, .int .i64 a0_3, .int .i64 a0_4, .int .i64 a0_5, .int .u64 a0_6, .int .i64 a0_7] 26 (0, 0))) ∧ Aside0 (Below w.heap.size w wc))
          case first =>
            have H := HC17.out
            clear HC17
            by_cases c23 : t110 = true
            · subst c23
              have H1 : (if (rdOf ByteArray.empty y106 a0_0).size + 2 ≤ 9223372036854775807 then ((tautochronelaw12_number.f kj3 a0_2).bind fun t111 => (if ((rdOf ByteArray.empty y106 a0_0) ++ (⟨#[32, 118]⟩ : ByteArray)).size + t111.size ≤ 9223372036854775807 then (tautochronelaw12_CodeText.j1 kj3 (((rdOf ByteArray.empty y106 a0_0) ++ (⟨#[32, 118]⟩ : ByteArray)) ++ t111) a0_0 a0_1 a0_2 a0_3 a0_4 a0_5 a0_6 a0_7) else (none))) else (none)) = some r := by rw [if_pos rfl] at H; exact H
              clear H
              have H := H1
              clear H1
              by_cases c24 : (rdOf ByteArray.empty y106 a0_0).size + 2 ≤ 9223372036854775807
              rotate_left
              · rw [if_neg c24] at H; exact absurd H (by simp)
              rw [if_pos c24] at H
              have c24b0 := eq_true c24
              have c24b1 : decide ((rdOf ByteArray.empty y106 a0_0).size + 2 ≤ 9223372036854775807) = true := decide_eq_true c24
              try have c24b2 : (9223372036854775807 < (rdOf ByteArray.empty y106 a0_0).size + 2) = False := eq_false (Nat.not_lt.2 c24)
              replace H := Option.bind_eq_some_iff.mp H
              obtain ⟨t111, A250, H⟩ := H
              replace H : (if ((rdOf ByteArray.empty y106 a0_0) ++ (⟨#[32, 118]⟩ : ByteArray)).size + t111.size ≤ 9223372036854775807 then (tautochronelaw12_CodeText.j1 kj3 (((rdOf ByteArray.empty y106 a0_0) ++ (⟨#[32, 118]⟩ : ByteArray)) ++ t111) a0_0 a0_1 a0_2 a0_3 a0_4 a0_5 a0_6 a0_7) else (none)) = some r := H
              have A25 := Aside0.mk A250
              clear A250
              by_cases c26 : ((rdOf ByteArray.empty y106 a0_0) ++ (⟨#[32, 118]⟩ : ByteArray)).size + t111.size ≤ 9223372036854775807
              rotate_left
              · rw [if_neg c26] at H; exact absurd H (by simp)
              rw [if_pos c26] at H
              have c26b0 := eq_true c26
              have c26b1 : decide (((rdOf ByteArray.empty y106 a0_0) ++ (⟨#[32, 118]⟩ : ByteArray)).size + t111.size ≤ 9223372036854775807) = true := decide_eq_true c26
              have c26s : (rdOf ByteArray.empty y106 a0_0).size + 2 + t111.size ≤ 9223372036854775807 := by have h_ := c26; rw [ByteArray.size_append] at h_; exact h_
              have c26s0 := eq_true c26s
              have c26s1 := decide_eq_true c26s
              have c26s2 := eq_false (Nat.not_lt.2 c26s)
              try have c26b2 : (9223372036854775807 < ((rdOf ByteArray.empty y106 a0_0) ++ (⟨#[32, 118]⟩ : ByteArray)).size + t111.size) = False := eq_false (Nat.not_lt.2 c26)
              have H' := Aside0.mk H
              clear H
              have hcz27_0 : w22.cell? ⟨gb103, 0, none⟩ = some (.int .i64 a0_0) := (blk_cell BK103.out 0).trans rfl
              have hcz27_1 : w22.cell? ⟨gb103, 1, none⟩ = some (.int .i64 a0_1) := (blk_cell BK103.out 1).trans rfl
              have hcz27_2 : w22.cell? ⟨gb103, 2, none⟩ = some (.int .i64 a0_2) := (blk_cell BK103.out 2).trans rfl
              have hcz27_3 : w22.cell? ⟨gb103, 3, none⟩ = some (.int .i64 a0_3) := (blk_cell BK103.out 3).trans rfl
              have hcz27_4 : w22.cell? ⟨gb103, 4, none⟩ = some (.int .i64 a0_4) := (blk_cell BK103.out 4).trans rfl
              have hcz27_5 : w22.cell? ⟨gb103, 5, none⟩ = some (.int .i64 a0_5) := (blk_cell BK103.out 5).trans rfl
              have hcz27_6 : w22.cell? ⟨gb103, 6, none⟩ = some (.int .u64 a0_6) := (blk_cell BK103.out 6).trans rfl
              have hcz27_7 : w22.cell? ⟨gb103, 7, none⟩ = some (.int .i64 a0_7) := (blk_cell BK103.out 7).trans rfl
              have hfz27_0 := blk_frozen BK103.out 0
              have hfz27_1 := blk_frozen BK103.out 1
              have hfz27_2 := blk_frozen BK103.out 2
              have hfz27_3 := blk_frozen BK103.out 3
              have hfz27_4 := blk_frozen BK103.out 4
              have hfz27_5 := blk_frozen BK103.out 5
              have hfz27_6 := blk_frozen BK103.out 6
              have hfz27_7 := blk_frozen BK103.out 7
              go_wp2_with (first | ((with_reducible refine gate_callee (f := 16) rfl ?_); refine goesL_ (some 32) rfl rfl Tryd.func16 (by kernel_rfl) rfl #[.int .i64 a0_2] rfl (by (try simp only [List.map_toArray, List.map_cons, List.map_nil]); first | done | rfl | (simp only [List.length_drop, List.length_take]; rfl)) ?_; (with_reducible refine (tautochronelaw12_number.calls kj3 a0_2 t111 _ A25.out).mono ?_); rintro e w' ⟨rfl, ⟨nd, rfl⟩⟩; refine ⟨_, rfl, ?_⟩))
              go_meet
              case rel => exact ⟨_, (((rdOf ByteArray.empty y106 a0_0) ++ (⟨#[32, 118]⟩ : ByteArray)) ++ t111), (by first | rfl | (simp; done) | (simp [*]; done)), H', ⟨by have := HJ3.out; first | omega | exact Nat.le_refl _⟩, ⟨by (with_reducible repeat (first | refine blk_drewN ?_ _ | refine blk_drew ?_ | refine blk_alloc ?_ _)); exact BK103.out⟩, ⟨by repeat (first | (with_reducible first | exact HB.out | apply below_alloc | apply pw_below_drewN | apply below_drew1 | refine below_set ?_ GE103.out) | exact HB.out)⟩⟩
            · replace c23 := Bool.eq_false_iff.mpr c23
              subst c23
              have H1 : (tautochronelaw12_CodeText.j1 kj3 (rdOf ByteArray.empty y106 a0_0) a0_0 a0_1 a0_2 a0_3 a0_4 a0_5 a0_6 a0_7) = some r := by rw [if_neg (show ¬ (false = true) by decide)] at H; exact H
              clear H
              have H := H1
              clear H1
              have H' := Aside0.mk H
              clear H
              go_wp2
              go_meet
              case rel => exact ⟨_, (rdOf ByteArray.empty y106 a0_0), (by first | rfl | (simp; done) | (simp [*]; done)), H', ⟨by have := HJ3.out; first | omega | exact Nat.le_refl _⟩, ⟨by (with_reducible repeat (first | refine blk_drewN ?_ _ | refine blk_drew ?_ | refine blk_alloc ?_ _)); exact BK103.out⟩, ⟨by repeat (first | (with_reducible first | exact HB.out | apply below_alloc | apply pw_below_drewN | apply below_drew1 | refine below_set ?_ GE103.out) | exact HB.out)⟩⟩
          case rest =>
            clear HC17
            try clear c1
            try clear p1
            try clear q1
            try clear hx1
            try clear c2
            try clear p2
            try clear c3
            try clear c4
            try clear c7
            try clear c7b0
            try clear c8
            try clear c10
            try clear p10
            try clear q10
            try clear hx10
            try clear c11
            try clear c14
            try clear c14b0
            try clear c15
            try clear c15b0
            try clear c16
            try clear c23
            try clear c24
            try clear c24b0
            try clear c24b1
            try clear c24b2
            try clear c26
            try clear c26b0
            try clear c26b1
            try clear c26b2
            try clear hcz20_0 hcz20_1 hcz20_2 hcz20_3 hcz20_4 hcz20_5 hcz20_6 hcz20_7
            try clear hfz20_0 hfz20_1 hfz20_2 hfz20_3 hfz20_4 hfz20_5 hfz20_6 hfz20_7
            try clear hx109_0
            try clear p109
            try clear p2
            try clear q109
            obtain ⟨kq, x4_16, rfl, HA, HJ16, BK103, HB⟩ := hcut
            cases kq with
            | zero => exact absurd HA.out (by simp [tautochronelaw12_CodeText.j1])
            | succ kj16 =>
              have H := HA.out
              clear HA
              simp only [tautochronelaw12_CodeText.j1] at H
              have HC28 := Aside0.mk H
              clear H
              go_upto_region 9 with (fail)
              go_cut [46] (fun v46 wc => ∃ (kq : Nat) (x46_27 : Bool), v46 = .bool x46_27 ∧ Aside0 (tautochronelaw12_CodeText.j2 kq x4_16 x46_27 a0_0 a0_1 a0_2 a0_3 a0_4 a0_5 a0_6 a0_7 = some r) ∧ Aside0 (kq ≤ kj16) ∧ Aside0 (wc.heap[gb103]? = some (.cells #[.int .i64 a0_0, .int .i64 a0_1, .int .i64 a0_2, .int .i64 a0_3, .int .i64 a0_4, .int .i64 a0_5, .int .u64 a0_6, .int .i64 a0_7] 26 (0, 0))) ∧ Aside0 (Below w.heap.size w wc))
              case first =>
                have H := HC28.out
                clear HC28
                by_cases c29 : a0_0 = 2
                · rw [if_pos c29] at H
                  have c29b0 : (a0_0 == 2) = true := beq_iff_eq.mpr c29
                  have c29b1 : (a0_0 != 2) = false := bne_eq_false_iff_eq.mpr c29
                  clear c29
                  (first | rw [c29b0] | (simp only [i64_w, i32_w]; rw [c29b0]) | skip)
                  by_cases c30 : a0_1 ≥ 0
                  · rw [if_pos c30] at H
                    have c30b0 : decide (0 ≤ a0_1) = true := decide_eq_true c30
                    clear c30
                    have H' := Aside0.mk H
                    clear H
                    have hcz31_0 : wc.cell? ⟨gb103, 0, none⟩ = some (.int .i64 a0_0) := (blk_cell BK103.out 0).trans rfl
                    have hcz31_1 : wc.cell? ⟨gb103, 1, none⟩ = some (.int .i64 a0_1) := (blk_cell BK103.out 1).trans rfl
                    have hcz31_2 : wc.cell? ⟨gb103, 2, none⟩ = some (.int .i64 a0_2) := (blk_cell BK103.out 2).trans rfl
                    have hcz31_3 : wc.cell? ⟨gb103, 3, none⟩ = some (.int .i64 a0_3) := (blk_cell BK103.out 3).trans rfl
                    have hcz31_4 : wc.cell? ⟨gb103, 4, none⟩ = some (.int .i64 a0_4) := (blk_cell BK103.out 4).trans rfl
                    have hcz31_5 : wc.cell? ⟨gb103, 5, none⟩ = some (.int .i64 a0_5) := (blk_cell BK103.out 5).trans rfl
                    have hcz31_6 : wc.cell? ⟨gb103, 6, none⟩ = some (.int .u64 a0_6) := (blk_cell BK103.out 6).trans rfl
                    have hcz31_7 : wc.cell? ⟨gb103, 7, none⟩ = some (.int .i64 a0_7) := (blk_cell BK103.out 7).trans rfl
                    have hfz31_0 := blk_frozen BK103.out 0
                    have hfz31_1 := blk_frozen BK103.out 1
                    have hfz31_2 := blk_frozen BK103.out 2
                    have hfz31_3 := blk_frozen BK103.out 3
                    have hfz31_4 := blk_frozen BK103.out 4
                    have hfz31_5 := blk_frozen BK103.out 5
                    have hfz31_6 := blk_frozen BK103.out 6
                    have hfz31_7 := blk_frozen BK103.out 7
                    go_wp2
                    go_meet
                    case rel => exact ⟨_, (decide (a0_1 < 10)), (by first | rfl | (simp; done) | (simp [*]; done)), H', ⟨by have := HJ3.out; have := HJ16.out; first | omega | exact Nat.le_refl _⟩, ⟨by (with_reducible repeat (first | refine blk_drewN ?_ _ | refine blk_drew ?_ | refine blk_alloc ?_ _)); exact BK103.out⟩, ⟨by repeat (first | (with_reducible first | exact HB.out | apply below_alloc | apply pw_below_drewN | apply below_drew1 | refine below_set ?_ GE103.out) | exact HB.out)⟩⟩
                  · rw [if_neg c30] at H
                    have c30b0 : decide (0 ≤ a0_1) = false := decide_eq_false c30
                    clear c30
                    have H' := Aside0.mk H
                    clear H
                    have hcz32_0 : wc.cell? ⟨gb103, 0, none⟩ = some (.int .i64 a0_0) := (blk_cell BK103.out 0).trans rfl
                    have hcz32_1 : wc.cell? ⟨gb103, 1, none⟩ = some (.int .i64 a0_1) := (blk_cell BK103.out 1).trans rfl
                    have hcz32_2 : wc.cell? ⟨gb103, 2, none⟩ = some (.int .i64 a0_2) := (blk_cell BK103.out 2).trans rfl
                    have hcz32_3 : wc.cell? ⟨gb103, 3, none⟩ = some (.int .i64 a0_3) := (blk_cell BK103.out 3).trans rfl
                    have hcz32_4 : wc.cell? ⟨gb103, 4, none⟩ = some (.int .i64 a0_4) := (blk_cell BK103.out 4).trans rfl
                    have hcz32_5 : wc.cell? ⟨gb103, 5, none⟩ = some (.int .i64 a0_5) := (blk_cell BK103.out 5).trans rfl
                    have hcz32_6 : wc.cell? ⟨gb103, 6, none⟩ = some (.int .u64 a0_6) := (blk_cell BK103.out 6).trans rfl
                    have hcz32_7 : wc.cell? ⟨gb103, 7, none⟩ = some (.int .i64 a0_7) := (blk_cell BK103.out 7).trans rfl
                    have hfz32_0 := blk_frozen BK103.out 0
                    have hfz32_1 := blk_frozen BK103.out 1
                    have hfz32_2 := blk_frozen BK103.out 2
                    have hfz32_3 := blk_frozen BK103.out 3
                    have hfz32_4 := blk_frozen BK103.out 4
                    have hfz32_5 := blk_frozen BK103.out 5
                    have hfz32_6 := blk_frozen BK103.out 6
                    have hfz32_7 := blk_frozen BK103.out 7
                    go_wp2
                    go_meet
                    case rel => exact ⟨_, (false), (by first | rfl | (simp; done) | (simp [*]; done)), H', ⟨by have := HJ3.out; have := HJ16.out; first | omega | exact Nat.le_refl _⟩, ⟨by (with_reducible repeat (first | refine blk_drewN ?_ _ | refine blk_drew ?_ | refine blk_alloc ?_ _)); exact BK103.out⟩, ⟨by repeat (first | (with_reducible first | exact HB.out | apply below_alloc | apply pw_below_drewN | apply below_drew1 | refine below_set ?_ GE103.out) | exact HB.out)⟩⟩
                · rw [if_neg c29] at H
                  have c29b0 : (a0_0 == 2) = false := beq_eq_false_iff_ne.mpr c29
                  have c29b1 : (a0_0 != 2) = true := bne_iff_ne.mpr c29
                  (first | rw [c29b0] | (simp only [i64_w, i32_w]; rw [c29b0]) | skip)
                  have H' := Aside0.mk H
                  clear H
                  have hcz33_0 : wc.cell? ⟨gb103, 0, none⟩ = some (.int .i64 a0_0) := (blk_cell BK103.out 0).trans rfl
                  have hcz33_1 : wc.cell? ⟨gb103, 1, none⟩ = some (.int .i64 a0_1) := (blk_cell BK103.out 1).trans rfl
                  have hcz33_2 : wc.cell? ⟨gb103, 2, none⟩ = some (.int .i64 a0_2) := (blk_cell BK103.out 2).trans rfl
                  have hcz33_3 : wc.cell? ⟨gb103, 3, none⟩ = some (.int .i64 a0_3) := (blk_cell BK103.out 3).trans rfl
                  have hcz33_4 : wc.cell? ⟨gb103, 4, none⟩ = some (.int .i64 a0_4) := (blk_cell BK103.out 4).trans rfl
                  have hcz33_5 : wc.cell? ⟨gb103, 5, none⟩ = some (.int .i64 a0_5) := (blk_cell BK103.out 5).trans rfl
                  have hcz33_6 : wc.cell? ⟨gb103, 6, none⟩ = some (.int .u64 a0_6) := (blk_cell BK103.out 6).trans rfl
                  have hcz33_7 : wc.cell? ⟨gb103, 7, none⟩ = some (.int .i64 a0_7) := (blk_cell BK103.out 7).trans rfl
                  have hfz33_0 := blk_frozen BK103.out 0
                  have hfz33_1 := blk_frozen BK103.out 1
                  have hfz33_2 := blk_frozen BK103.out 2
                  have hfz33_3 := blk_frozen BK103.out 3
                  have hfz33_4 := blk_frozen BK103.out 4
                  have hfz33_5 := blk_frozen BK103.out 5
                  have hfz33_6 := blk_frozen BK103.out 6
                  have hfz33_7 := blk_frozen BK103.out 7
                  go_wp2
                  go_meet
                  case rel => exact ⟨_, (false), (by first | rfl | (simp; done) | (simp [*]; done)), H', ⟨by have := HJ3.out; have := HJ16.out; first | omega | exact Nat.le_refl _⟩, ⟨by (with_reducible repeat (first | refine blk_drewN ?_ _ | refine blk_drew ?_ | refine blk_alloc ?_ _)); exact BK103.out⟩, ⟨by repeat (first | (with_reducible first | exact HB.out | apply below_alloc | apply pw_below_drewN | apply below_drew1 | refine below_set ?_ GE103.out) | exact HB.out)⟩⟩
              case rest =>
                clear HC28
                try clear c1
                try clear p1
                try clear q1
                try clear hx1
                try clear c2
                try clear p2
                try clear c3
                try clear c4
                try clear c7
                try clear c7b0
                try clear c8
                try clear c10
                try clear p10
                try clear q10
                try clear hx10
                try clear c11
                try clear c14
                try clear c14b0
                try clear c15
                try clear c15b0
                try clear c16
                try clear c23
                try clear c24
                try clear c24b0
                try clear c24b1
                try clear c24b2
                try clear c26
                try clear c26b0
                try clear c26b1
                try clear c26b2
                try clear c29
                try clear c29b0
                try clear c29b1
                try clear c30
                try clear c30b0
                try clear hcz20_0 hcz20_1 hcz20_2 hcz20_3 hcz20_4 hcz20_5 hcz20_6 hcz20_7
                try clear hfz20_0 hfz20_1 hfz20_2 hfz20_3 hfz20_4 hfz20_5 hfz20_6 hfz20_7
                try clear hx109_0
                try clear p1
                try clear p10
                try clear p109
                try clear p2
                try clear q1
                try clear q10
                try clear q109
                obtain ⟨kq, x46_27, rfl, HA, HJ27, BK103, HB⟩ := hcut
                cases kq with
                | zero => exact absurd HA.out (by simp [tautochronelaw12_CodeText.j2])
                | succ kj27 =>
                  have H := HA.out
                  clear HA
                  simp only [tautochronelaw12_CodeText.j2] at H
                  have HC34 := Aside0.mk H
                  clear H
                  go_upto_if 46 with (fail)
                  go_cut [4] (fun v4 wc => ∃ (kq : Nat) (x4_33 : ByteArray), v4 = .string x4_33 ∧ Aside0 (tautochronelaw12_CodeText.j3 kq x4_33 a0_0 a0_1 a0_2 a0_3 a0_4 a0_5 a0_6 a0_7 = some r) ∧ Aside0 (kq ≤ kj27) ∧ Aside0 (wc.heap[gb103]? = some (.cells #[.int .i64 a0_0, .int .i64 a0_1, .int .i64 a0_2, .int .i64 a0_3, .int .i64 a0_4, .int .i64 a0_5, .int .u64 a0_6, .int .i64 a0_7] 26 (0, 0))) ∧ Aside0 (Below w.heap.size w wc))
                  case first =>
                    have H := HC34.out
                    clear HC34
                    by_cases c35 : x46_27 = true
                    · subst c35
                      have H1 : (if x4_16.size + 1 ≤ 9223372036854775807 then ((word_Signs.f).bind fun t112 => (if 0 ≤ a0_1 then (if a0_1 < (t112.length : Int) then (if (x4_16 ++ (⟨#[32]⟩ : ByteArray)).size + (rdOf ByteArray.empty t112 a0_1).size ≤ 9223372036854775807 then (tautochronelaw12_CodeText.j3 kj27 ((x4_16 ++ (⟨#[32]⟩ : ByteArray)) ++ (rdOf ByteArray.empty t112 a0_1)) a0_0 a0_1 a0_2 a0_3 a0_4 a0_5 a0_6 a0_7) else (none)) else (none)) else (none))) else (none)) = some r := by rw [if_pos rfl] at H; exact H
                      clear H
                      have H := H1
                      clear H1
                      by_cases c36 : x4_16.size + 1 ≤ 9223372036854775807
                      rotate_left
                      · rw [if_neg c36] at H; exact absurd H (by simp)
                      rw [if_pos c36] at H
                      have c36b0 := eq_true c36
                      have c36b1 : decide (x4_16.size + 1 ≤ 9223372036854775807) = true := decide_eq_true c36
                      try have c36b2 : (9223372036854775807 < x4_16.size + 1) = False := eq_false (Nat.not_lt.2 c36)
                      replace H := Option.bind_eq_some_iff.mp H
                      obtain ⟨t112, A370, H⟩ := H
                      replace H : (if 0 ≤ a0_1 then (if a0_1 < (t112.length : Int) then (if (x4_16 ++ (⟨#[32]⟩ : ByteArray)).size + (rdOf ByteArray.empty t112 a0_1).size ≤ 9223372036854775807 then (tautochronelaw12_CodeText.j3 kj27 ((x4_16 ++ (⟨#[32]⟩ : ByteArray)) ++ (rdOf ByteArray.empty t112 a0_1)) a0_0 a0_1 a0_2 a0_3 a0_4 a0_5 a0_6 a0_7) else (none)) else (none)) else (none)) = some r := H
                      have A37 := Aside0.mk A370
                      clear A370
                      by_cases c38 : 0 ≤ a0_1
                      rotate_left
                      · rw [if_neg c38] at H; exact absurd H (by simp)
                      rw [if_pos c38] at H
                      have c38b0 : decide (0 ≤ a0_1) = true := decide_eq_true c38
                      clear c38
                      (first | rw [c38b0] | (simp only [i64_w, i32_w]; rw [c38b0]) | skip)
                      by_cases c39 : a0_1 < (t112.length : Int)
                      rotate_left
                      · rw [if_neg c39] at H; exact absurd H (by simp)
                      rw [if_pos c39] at H
                      have c39b0 : decide (a0_1 < (t112.length : Int)) = true := decide_eq_true c39
                      clear c39
                      by_cases c40 : (x4_16 ++ (⟨#[32]⟩ : ByteArray)).size + (rdOf ByteArray.empty t112 a0_1).size ≤ 9223372036854775807
                      rotate_left
                      · rw [if_neg c40] at H; exact absurd H (by simp)
                      rw [if_pos c40] at H
                      have c40b0 := eq_true c40
                      have c40b1 : decide ((x4_16 ++ (⟨#[32]⟩ : ByteArray)).size + (rdOf ByteArray.empty t112 a0_1).size ≤ 9223372036854775807) = true := decide_eq_true c40
                      have c40s : x4_16.size + 1 + (rdOf ByteArray.empty t112 a0_1).size ≤ 9223372036854775807 := by have h_ := c40; rw [ByteArray.size_append] at h_; exact h_
                      have c40s0 := eq_true c40s
                      have c40s1 := decide_eq_true c40s
                      have c40s2 := eq_false (Nat.not_lt.2 c40s)
                      try have c40b2 : (9223372036854775807 < (x4_16 ++ (⟨#[32]⟩ : ByteArray)).size + (rdOf ByteArray.empty t112 a0_1).size) = False := eq_false (Nat.not_lt.2 c40)
                      have H' := Aside0.mk H
                      clear H
                      try go_wp2
                      have n0_ := Aside0.mk (blk_drew BK103.out)
                      have n1_ := Aside0.mk (below_drew1 HB.out)
                      clear BK103
                      clear HB
                      have BK103 := n0_
                      have HB := n1_
                      clear n0_ n1_
                      refine start_ (n := 9) (S := fun w' => w'.cell? ⟨gb103, 0, none⟩ = some (.int .i64 a0_0) ∧ w'.cell? ⟨gb103, 1, none⟩ = some (.int .i64 a0_1) ∧ w'.cell? ⟨gb103, 2, none⟩ = some (.int .i64 a0_2) ∧ w'.cell? ⟨gb103, 3, none⟩ = some (.int .i64 a0_3) ∧ w'.cell? ⟨gb103, 4, none⟩ = some (.int .i64 a0_4) ∧ w'.cell? ⟨gb103, 5, none⟩ = some (.int .i64 a0_5) ∧ w'.cell? ⟨gb103, 6, none⟩ = some (.int .u64 a0_6) ∧ w'.cell? ⟨gb103, 7, none⟩ = some (.int .i64 a0_7)) (ds := []) #[false, false, false, false, false, false, false, false, false] (by kernel_rfl) rfl rfl ⟨(blk_cell BK103.out 0).trans rfl, (blk_cell BK103.out 1).trans rfl, (blk_cell BK103.out 2).trans rfl, (blk_cell BK103.out 3).trans rfl, (blk_cell BK103.out 4).trans rfl, (blk_cell BK103.out 5).trans rfl, (blk_cell BK103.out 6).trans rfl, (blk_cell BK103.out 7).trans rfl⟩ (fun hHeld => ?_); refine with_tabW tautochronelaw12_CodeText.tab10 tautochronelaw12_CodeText.bits10 (fun HT_ HW_ => ?_)
                      generalize wc.drew = w41 at BK103 HB hHeld ⊢
                      refine pure_ (i := 0) (N := some 47) (v := ?_) (a' := ?_) #[true, false, false, false, false, false, false, false, false] rfl rfl (any_of HT_.out (by kernel_rfl)) (fun _ _ _ h => h) (Or.inl ⟨by rfl, ?_⟩) ?_ ?_
                      rotate_left
                      · intro w'
                        go_simp
                        with_reducible rfl
                      rotate_left
                      · simp only [Act.put, List.setIfInBounds_toArray, List.set_cons_zero, List.set_cons_succ, i64_w, i32_w]
                        rfl
                      refine pure_ (i := 1) (N := some 48) (v := ?_) (a' := ?_) #[true, true, false, false, false, false, false, false, false] rfl rfl (any_of HT_.out (by kernel_rfl)) (fun _ _ _ h => h) (Or.inl ⟨by rfl, ?_⟩) ?_ ?_
                      rotate_left
                      · intro w'
                        go_simp
                        with_reducible rfl
                      rotate_left
                      · simp only [Act.put, List.setIfInBounds_toArray, List.set_cons_zero, List.set_cons_succ, i64_w, i32_w]
                        rfl
                      refine pure_ (i := 3) (N := some 50) (v := ?_) (a' := ?_) #[true, true, false, true, false, false, false, false, false] rfl rfl (any_of HT_.out (by kernel_rfl)) (fun _ _ _ h => h) (Or.inl ⟨by rfl, ?_⟩) ?_ ?_
                      rotate_left
                      · intro w'
                        go_simp
                        with_reducible rfl
                      rotate_left
                      · simp only [Act.put, List.setIfInBounds_toArray, List.set_cons_zero, List.set_cons_succ, i64_w, i32_w]
                        rfl
                      refine take_ (i := 4) (N := some 51) (v := ?_) (a' := ?_) #[true, true, false, true, true, false, false, false, false] rfl rfl (take_ofW HT_.out HW_.out (by kernel_rfl)) (fun _ _ _ h => h) (Or.inl ⟨by rfl, ?_⟩) hHeld ?_ ?_
                      rotate_left
                      · rintro w' ⟨s0, s1, s2, s3, s4, s5, s6, s7⟩
                        go_simp
                        with_reducible rfl
                      rotate_left
                      · simp only [Act.put, List.setIfInBounds_toArray, List.set_cons_zero, List.set_cons_succ, i64_w, i32_w]
                        rfl
                      refine one_ (i := 2) (N := some 49) #[true, true, true, true, true, false, false, false, false] rfl rfl (one_of HT_.out (by kernel_rfl)) (by decide) (fun K hK => ?_)
                      refine goes_ Tryd.func17 (by kernel_rfl) rfl #[] (by rfl) rfl rfl (by (try simp only [List.map_toArray, List.map_cons, List.map_nil]); first | done | rfl | (simp only [List.length_drop, List.length_take]; rfl)) ?_
                      with_reducible refine (word_Signs.calls  t112 _ A37.out).mono ?_
                      rintro e w42 ⟨v113, rfl, ho0, hb⟩
                      refine ⟨_, rfl, ?_⟩
                      have n0_ := Aside0.mk (Kd.R_lower ho0 (below_size (by repeat (first | (with_reducible first | exact HB.out | apply below_alloc | apply pw_below_drewN | apply below_drew1 | refine below_set ?_ GE103.out) | exact HB.out))))
                      have n1_ := Aside0.mk (blk_below (g := gb103) (o := .cells #[.int .i64 a0_0, .int .i64 a0_1, .int .i64 a0_2, .int .i64 a0_3, .int .i64 a0_4, .int .i64 a0_5, .int .u64 a0_6, .int .i64 a0_7] 26 (0, 0)) (by (with_reducible repeat (first | refine blk_drewN ?_ _ | refine blk_drew ?_ | refine blk_alloc ?_ _)); exact BK103.out) hb)
                      have n2_ := Aside0.mk (below_step (by repeat (first | (with_reducible first | exact HB.out | apply below_alloc | apply pw_below_drewN | apply below_drew1 | refine below_set ?_ GE103.out) | exact HB.out)) hb)
                      clear BK103
                      clear HB
                      have HO114 := n0_
                      have BK103 := n1_
                      have HB := n2_
                      clear n0_ n1_ n2_
                      (try clear hb)
                      (try clear hb2)
                      (try clear hk)
                      (try clear hi)
                      (try clear ho0)
                      obtain ⟨Ao43, co43, eo43⟩ := Kd.R_slice HO114.out
                      (first | subst eo43 | (injection eo43 with f1_ f2_ f3_; have f4_ := f1_.symm; have f5_ := f3_.symm; clear f1_ f2_ f3_; subst f4_; subst f5_))
                      have p115 : 0 ≤ (a0_1 : Int) := of_decide_eq_true (by first | (with_reducible assumption) | assumption)
                      have q115 : a0_1 < (t112.length : Int) := of_decide_eq_true (by first | (with_reducible assumption) | assumption)
                      obtain ⟨ad115, e115, hx115_0⟩ := Kd.at_string (Kd.R_reads' HO114.out).2.2 a0_1 p115 q115
                      cases e115
                      replace p115 := eq_true p115
                      replace q115 := eq_true q115
                      refine hK.out _ _ ⟨(blk_cell BK103.out 0).trans rfl, (blk_cell BK103.out 1).trans rfl, (blk_cell BK103.out 2).trans rfl, (blk_cell BK103.out 3).trans rfl, (blk_cell BK103.out 4).trans rfl, (blk_cell BK103.out 5).trans rfl, (blk_cell BK103.out 6).trans rfl, (blk_cell BK103.out 7).trans rfl⟩ (fun hHeld => ?_)
                      clear hK K
                      refine norm_ (a' := ?_) ?_ ?_
                      rotate_left
                      · show Act.put _ (some 49) _ = _
                        simp only [Act.put, List.setIfInBounds_toArray, List.set_cons_zero, List.set_cons_succ, i64_w, i32_w]
                        rfl
                      refine pure_ (i := 5) (N := some 52) (v := ?_) (a' := ?_) #[true, true, true, true, true, true, false, false, false] rfl rfl (any_of HT_.out (by kernel_rfl)) (fun _ _ _ h => h) (Or.inl ⟨by rfl, ?_⟩) ?_ ?_
                      rotate_left
                      · intro w'
                        go_simp
                        with_reducible rfl
                      rotate_left
                      · simp only [Act.put, List.setIfInBounds_toArray, List.set_cons_zero, List.set_cons_succ, i64_w, i32_w]
                        rfl
                      refine one_ (i := 6) (N := some 53) #[true, true, true, true, true, true, true, false, false] rfl rfl (one_of HT_.out (by kernel_rfl)) (by decide) (fun K hK => ?_)
                      refine value_ (w1 := ?_) (v := ?_) (by rfl) rfl ?_ ?_
                      rotate_left 2
                      · go_simp
                        constructor
                        · rfl
                        · rfl
                      refine hK.out _ _ ⟨(blk_cell BK103.out 0).trans rfl, (blk_cell BK103.out 1).trans rfl, (blk_cell BK103.out 2).trans rfl, (blk_cell BK103.out 3).trans rfl, (blk_cell BK103.out 4).trans rfl, (blk_cell BK103.out 5).trans rfl, (blk_cell BK103.out 6).trans rfl, (blk_cell BK103.out 7).trans rfl⟩ (fun hHeld => ?_)
                      clear hK K
                      refine norm_ (a' := ?_) ?_ ?_
                      rotate_left
                      · show Act.put _ (some 53) _ = _
                        simp only [Act.put, List.setIfInBounds_toArray, List.set_cons_zero, List.set_cons_succ, i64_w, i32_w]
                        rfl
                      refine pure_ (i := 7) (N := some 54) (v := ?_) (a' := ?_) #[true, true, true, true, true, true, true, true, false] rfl rfl (any_of HT_.out (by kernel_rfl)) (fun _ _ _ h => h) (Or.inl ⟨by rfl, ?_⟩) ?_ ?_
                      rotate_left
                      · intro w'
                        go_simp
                        with_reducible rfl
                      rotate_left
                      · simp only [Act.put, List.setIfInBounds_toArray, List.set_cons_zero, List.set_cons_succ, i64_w, i32_w]
                        rfl
                      refine pure_ (i := 8) (N := some 4) (v := ?_) (a' := ?_) #[true, true, true, true, true, true, true, true, true] rfl rfl (any_of HT_.out (by kernel_rfl)) (fun _ _ _ h => h) (Or.inl ⟨by rfl, ?_⟩) ?_ ?_
                      rotate_left
                      · intro w'
                        go_simp
                        with_reducible rfl
                      rotate_left
                      · simp only [Act.put, List.setIfInBounds_toArray, List.set_cons_zero, List.set_cons_succ, i64_w, i32_w]
                        rfl
                      refine done_ (done_of HT_.out (by kernel_rfl)) ?_
                      try go_wp2
                      go_meet
                      case rel => exact ⟨_, ((x4_16 ++ (⟨#[32]⟩ : ByteArray)) ++ (rdOf ByteArray.empty t112 a0_1)), (by first | rfl | (simp; done) | (simp [*]; done)), H', ⟨by have := HJ3.out; have := HJ16.out; have := HJ27.out; first | omega | exact Nat.le_refl _⟩, ⟨by (with_reducible repeat (first | refine blk_drewN ?_ _ | refine blk_drew ?_ | refine blk_alloc ?_ _)); exact BK103.out⟩, ⟨by repeat (first | (with_reducible first | exact HB.out | apply below_alloc | apply pw_below_drewN | apply below_drew1 | refine below_set ?_ GE103.out) | exact HB.out)⟩⟩
                    · replace c35 := Bool.eq_false_iff.mpr c35
                      subst c35
                      have H1 : (tautochronelaw12_CodeText.j3 kj27 x4_16 a0_0 a0_1 a0_2 a0_3 a0_4 a0_5 a0_6 a0_7) = some r := by rw [if_neg (show ¬ (false = true) by decide)] at H; exact H
                      clear H
                      have H := H1
                      clear H1
                      have H' := Aside0.mk H
                      clear H
                      go_wp2
                      go_meet
                      case rel => exact ⟨_, (x4_16), (by first | rfl | (simp; done) | (simp [*]; done)), H', ⟨by have := HJ3.out; have := HJ16.out; have := HJ27.out; first | omega | exact Nat.le_refl _⟩, ⟨by (with_reducible repeat (first | refine blk_drewN ?_ _ | refine blk_drew ?_ | refine blk_alloc ?_ _)); exact BK103.out⟩, ⟨by repeat (first | (with_reducible first | exact HB.out | apply below_alloc | apply pw_below_drewN | apply below_drew1 | refine below_set ?_ GE103.out) | exact HB.out)⟩⟩
                  case rest =>
                    clear HC34
                    try clear c1
                    try clear p1
                    try clear q1
                    try clear hx1
                    try clear c2
                    try clear p2
                    try clear c3
                    try clear c4
                    try clear c7
                    try clear c7b0
                    try clear c8
                    try clear c10
                    try clear p10
                    try clear q10
                    try clear hx10
                    try clear c11
                    try clear p11
                    try clear q11
                    try clear hx11
                    try clear c14
                    try clear c14b0
                    try clear c15
                    try clear c15b0
                    try clear c16
                    try clear c17
                    try clear c23
                    try clear c24
                    try clear c24b0
                    try clear c24b1
                    try clear c24b2
                    try clear c26
                    try clear c26b0
                    try clear c26b1
                    try clear c26b2
                    try clear c29
                    try clear c29b0
                    try clear c29b1
                    try clear c30
                    try clear c30b0
                    try clear c35
                    try clear c36
                    try clear c36b0
                    try clear c36b1
                    try clear c36b2
                    try clear c38
                    try clear c38b0
                    try clear c39
                    try clear c39b0
                    try clear c40
                    try clear c40b0
                    try clear c40b1
                    try clear c40b2
                    try clear hcz20_0 hcz20_1 hcz20_2 hcz20_3 hcz20_4 hcz20_5 hcz20_6 hcz20_7
                    try clear hfz20_0 hfz20_1 hfz20_2 hfz20_3 hfz20_4 hfz20_5 hfz20_6 hfz20_7
                    try clear hx109_0
                    try clear hx115_0
                    try clear p1
                    try clear p10
                    try clear p109
                    try clear p115
                    try clear p2
                    try clear q1
                    try clear q10
                    try clear q109
                    try clear q115
                    obtain ⟨kq, x4_33, rfl, HA, HJ33, BK103, HB⟩ := hcut
                    cases kq with
                    | zero => exact absurd HA.out (by simp [tautochronelaw12_CodeText.j3])
                    | succ kj33 =>
                      have H := HA.out
                      clear HA
                      simp only [tautochronelaw12_CodeText.j3] at H
                      replace H := Option.bind_eq_some_iff.mp H
                      obtain ⟨t116, A440, H⟩ := H
                      replace H : (tautochronelaw12_CodeText.l0 kj33 x4_33 t116 (t116.length : Int) 0 a0_0 a0_1 a0_2 a0_3 a0_4 a0_5 a0_6 a0_7) = some r := H
                      have A44 := Aside0.mk A440
                      clear A440
                      have H' := Aside0.mk H
                      clear H
                      have hcz45_0 : wc.cell? ⟨gb103, 0, none⟩ = some (.int .i64 a0_0) := (blk_cell BK103.out 0).trans rfl
                      have hcz45_1 : wc.cell? ⟨gb103, 1, none⟩ = some (.int .i64 a0_1) := (blk_cell BK103.out 1).trans rfl
                      have hcz45_2 : wc.cell? ⟨gb103, 2, none⟩ = some (.int .i64 a0_2) := (blk_cell BK103.out 2).trans rfl
                      have hcz45_3 : wc.cell? ⟨gb103, 3, none⟩ = some (.int .i64 a0_3) := (blk_cell BK103.out 3).trans rfl
                      have hcz45_4 : wc.cell? ⟨gb103, 4, none⟩ = some (.int .i64 a0_4) := (blk_cell BK103.out 4).trans rfl
                      have hcz45_5 : wc.cell? ⟨gb103, 5, none⟩ = some (.int .i64 a0_5) := (blk_cell BK103.out 5).trans rfl
                      have hcz45_6 : wc.cell? ⟨gb103, 6, none⟩ = some (.int .u64 a0_6) := (blk_cell BK103.out 6).trans rfl
                      have hcz45_7 : wc.cell? ⟨gb103, 7, none⟩ = some (.int .i64 a0_7) := (blk_cell BK103.out 7).trans rfl
                      have hfz45_0 := blk_frozen BK103.out 0
                      have hfz45_1 := blk_frozen BK103.out 1
                      have hfz45_2 := blk_frozen BK103.out 2
                      have hfz45_3 := blk_frozen BK103.out 3
                      have hfz45_4 := blk_frozen BK103.out 4
                      have hfz45_5 := blk_frozen BK103.out 5
                      have hfz45_6 := blk_frozen BK103.out 6
                      have hfz45_7 := blk_frozen BK103.out 7
                      go_wp2_with (first | ((with_reducible refine gate_callee (f := 14) rfl ?_); refine goesL_ (some 56) rfl rfl Tryd.func14 (by kernel_rfl) rfl #[.agg #[.int .i64 a0_0, .int .i64 a0_1, .int .i64 a0_2, .int .i64 a0_3, .int .i64 a0_4, .int .i64 a0_5, .int .u64 a0_6, .int .i64 a0_7]] rfl (by (try simp only [List.map_toArray, List.map_cons, List.map_nil]); first | done | rfl | (simp only [List.length_drop, List.length_take]; rfl)) ?_; (with_reducible refine (tautochronelaw12_uses.calls kj33 a0_0 a0_1 a0_2 a0_3 a0_4 a0_5 a0_6 a0_7 t116 _ A44.out).mono ?_); rintro e w46 ⟨v117, rfl, ho0, hb⟩; refine ⟨_, rfl, ?_⟩; have n0_ := Aside0.mk (Kd.R_lower ho0 (below_size (by repeat (first | (with_reducible first | exact HB.out | apply below_alloc | apply pw_below_drewN | apply below_drew1 | refine below_set ?_ GE103.out) | exact HB.out)))); have n1_ := Aside0.mk (blk_below (g := gb103) (o := .cells #[.int .i64 a0_0, .int .i64 a0_1, .int .i64 a0_2, .int .i64 a0_3, .int .i64 a0_4, .int .i64 a0_5, .int .u64 a0_6, .int .i64 a0_7] 26 (0, 0)) (by (with_reducible repeat (first | refine blk_drewN ?_ _ | refine blk_drew ?_ | refine blk_alloc ?_ _)); exact BK103.out) hb); have n2_ := Aside0.mk (below_step (by repeat (first | (with_reducible first | exact HB.out | apply below_alloc | apply pw_below_drewN | apply below_drew1 | refine below_set ?_ GE103.out) | exact HB.out)) hb); clear BK103; clear HB; have HO118 := n0_; have BK103 := n1_; have HB := n2_; clear n0_ n1_ n2_; (try clear hb); (try clear hb2); (try clear hk); (try clear hi); (try clear ho0); obtain ⟨Ao47, co47, eo47⟩ := Kd.R_slice HO118.out; subst eo47))
                      go_loopg [4, 58] kj33 (fun kq v4 v58 w' => ∃ (x4_5 : ByteArray) (x58_5 : Int), v4 = .string x4_5 ∧ v58 = .int .i64 x58_5 ∧ Aside0 (tautochronelaw12_CodeText.l0 kq x4_5 t116 (t116.length : Int) x58_5 a0_0 a0_1 a0_2 a0_3 a0_4 a0_5 a0_6 a0_7 = some r) ∧ Aside0 (kq ≤ kj33) ∧ Aside0 (Kd.R (Kd.int .i64) 3 w' w.heap.size (fun _ => True) (.slice Ao47 t116.length co47) t116) ∧ Aside0 (w'.heap[gb103]? = some (.cells #[.int .i64 a0_0, .int .i64 a0_1, .int .i64 a0_2, .int .i64 a0_3, .int .i64 a0_4, .int .i64 a0_5, .int .u64 a0_6, .int .i64 a0_7] 26 (0, 0))) ∧ Aside0 (Below w.heap.size w w'))
                      case atStart => exact ⟨(x4_33), (0), (by first | rfl | (simp; done) | (simp [*]; done)), (by first | rfl | (simp; done) | (simp [*]; done)), H', ⟨Nat.le_refl _⟩, ⟨by (with_reducible repeat (first | apply Kd.R_alloc | apply Kd.R_drewN | apply Kd.R_drew)); exact HO118.out⟩, ⟨by (with_reducible repeat (first | refine blk_drewN ?_ _ | refine blk_drew ?_ | refine blk_alloc ?_ _)); exact BK103.out⟩, ⟨by repeat (first | (with_reducible first | exact HB.out | apply below_alloc | apply pw_below_drewN | apply below_drew1 | refine below_set ?_ GE103.out) | exact HB.out)⟩⟩
                      case round =>
                        clear H'
                        try clear c1
                        try clear p1
                        try clear q1
                        try clear hx1
                        try clear c2
                        try clear p2
                        try clear c3
                        try clear c4
                        try clear c7
                        try clear c7b0
                        try clear c8
                        try clear c10
                        try clear p10
                        try clear q10
                        try clear hx10
                        try clear c11
                        try clear p11
                        try clear q11
                        try clear hx11
                        try clear c14
                        try clear c14b0
                        try clear c15
                        try clear c15b0
                        try clear c16
                        try clear c17
                        try clear c23
                        try clear c24
                        try clear c24b0
                        try clear c24b1
                        try clear c24b2
                        try clear c26
                        try clear c26b0
                        try clear c26b1
                        try clear c26b2
                        try clear c29
                        try clear c29b0
                        try clear c29b1
                        try clear c30
                        try clear c30b0
                        try clear c35
                        try clear c36
                        try clear c36b0
                        try clear c36b1
                        try clear c36b2
                        try clear c38
                        try clear c38b0
                        try clear c39
                        try clear c39b0
                        try clear c40
                        try clear c40b0
                        try clear c40b1
                        try clear c40b2
                        try clear hcz20_0 hcz20_1 hcz20_2 hcz20_3 hcz20_4 hcz20_5 hcz20_6 hcz20_7
                        try clear hcz45_0 hcz45_1 hcz45_2 hcz45_3 hcz45_4 hcz45_5 hcz45_6 hcz45_7
                        try clear hfz20_0 hfz20_1 hfz20_2 hfz20_3 hfz20_4 hfz20_5 hfz20_6 hfz20_7
                        try clear hfz45_0 hfz45_1 hfz45_2 hfz45_3 hfz45_4 hfz45_5 hfz45_6 hfz45_7
                        try clear hx109_0
                        try clear hx115_0
                        try clear p1
                        try clear p10
                        try clear p109
                        try clear p11
                        try clear p115
                        try clear p2
                        try clear q1
                        try clear q10
                        try clear q109
                        try clear q11
                        try clear q115
                        obtain ⟨x4_5, x58_5, rfl, rfl, HA, HK5, HO_56, BK103, HB⟩ := hrel
                        cases gk with
                        | zero => exact absurd HA.out (by simp [tautochronelaw12_CodeText.l0])
                        | succ k5 =>
                          have H := HA.out
                          clear HA
                          simp only [tautochronelaw12_CodeText.l0] at H
                          by_cases c48 : x58_5 < (t116.length : Int)
                          · rw [if_pos c48] at H
                            have c48b0 : decide (x58_5 < (t116.length : Int)) = true := decide_eq_true c48
                            clear c48
                            by_cases c49 : 0 ≤ x58_5
                            rotate_left
                            · rw [if_neg c49] at H; exact absurd H (by simp)
                            rw [if_pos c49] at H
                            have c49b0 : decide (0 ≤ x58_5) = true := decide_eq_true c49
                            clear c49
                            by_cases c50 : x58_5 < (t116.length : Int)
                            rotate_left
                            · rw [if_neg c50] at H; exact absurd H (by simp)
                            rw [if_pos c50] at H
                            have c50b0 : decide (x58_5 < (t116.length : Int)) = true := decide_eq_true c50
                            clear c50
                            by_cases c51 : x4_5.size + 2 ≤ 9223372036854775807
                            rotate_left
                            · rw [if_neg c51] at H; exact absurd H (by simp)
                            rw [if_pos c51] at H
                            have c51b0 := eq_true c51
                            have c51b1 : decide (x4_5.size + 2 ≤ 9223372036854775807) = true := decide_eq_true c51
                            try have c51b2 : (9223372036854775807 < x4_5.size + 2) = False := eq_false (Nat.not_lt.2 c51)
                            replace H := Option.bind_eq_some_iff.mp H
                            obtain ⟨t120, A520, H⟩ := H
                            replace H : (if (x4_5 ++ (⟨#[32, 118]⟩ : ByteArray)).size + t120.size ≤ 9223372036854775807 then (tautochronelaw12_CodeText.l0 k5 ((x4_5 ++ (⟨#[32, 118]⟩ : ByteArray)) ++ t120) t116 (t116.length : Int) (wrap64 (x58_5 + 1)) a0_0 a0_1 a0_2 a0_3 a0_4 a0_5 a0_6 a0_7) else (none)) = some r := H
                            have A52 := Aside0.mk A520
                            clear A520
                            by_cases c53 : (x4_5 ++ (⟨#[32, 118]⟩ : ByteArray)).size + t120.size ≤ 9223372036854775807
                            rotate_left
                            · rw [if_neg c53] at H; exact absurd H (by simp)
                            rw [if_pos c53] at H
                            have c53b0 := eq_true c53
                            have c53b1 : decide ((x4_5 ++ (⟨#[32, 118]⟩ : ByteArray)).size + t120.size ≤ 9223372036854775807) = true := decide_eq_true c53
                            have c53s : x4_5.size + 2 + t120.size ≤ 9223372036854775807 := by have h_ := c53; rw [ByteArray.size_append] at h_; exact h_
                            have c53s0 := eq_true c53s
                            have c53s1 := decide_eq_true c53s
                            have c53s2 := eq_false (Nat.not_lt.2 c53s)
                            try have c53b2 : (9223372036854775807 < (x4_5 ++ (⟨#[32, 118]⟩ : ByteArray)).size + t120.size) = False := eq_false (Nat.not_lt.2 c53)
                            have H' := Aside0.mk H
                            clear H
                            have p119 : 0 ≤ (x58_5 : Int) := of_decide_eq_true (by first | (with_reducible assumption) | assumption)
                            have q119 : x58_5 < (t116.length : Int) := of_decide_eq_true (by first | (with_reducible assumption) | assumption)
                            obtain ⟨ad119, e119, hx119_0⟩ := Kd.at_int (Kd.R_reads' HO_56.out).2.2 x58_5 p119 q119
                            cases e119
                            replace p119 := eq_true p119
                            replace q119 := eq_true q119
                            go_wp2_with (first | ((with_reducible refine gate_callee (f := 16) rfl ?_); refine goesL_ (some 65) rfl rfl Tryd.func16 (by kernel_rfl) rfl #[.int .i64 (rd t116 x58_5)] rfl (by (try simp only [List.map_toArray, List.map_cons, List.map_nil]); first | done | rfl | (simp only [List.length_drop, List.length_take]; rfl)) ?_; (with_reducible refine (tautochronelaw12_number.calls k5 (rd t116 x58_5) t120 _ A52.out).mono ?_); rintro e w' ⟨rfl, ⟨nd, rfl⟩⟩; refine ⟨_, rfl, ?_⟩))
                            go_roundg k5
                            case measure => have := HJ3.out; have := HJ16.out; have := HJ27.out; have := HJ33.out; have := HK5.out; omega
                            case rel => exact ⟨((x4_5 ++ (⟨#[32, 118]⟩ : ByteArray)) ++ t120), (wrap64 (x58_5 + 1)), (by first | rfl | (simp; done) | (simp [*]; done)), (by first | rfl | (simp; done) | (simp [*]; done)), H', ⟨by have := HJ3.out; have := HJ16.out; have := HJ27.out; have := HJ33.out; have := HK5.out; omega⟩, ⟨by (with_reducible repeat (first | apply Kd.R_alloc | apply Kd.R_drewN | apply Kd.R_drew)); exact HO_56.out⟩, ⟨by (with_reducible repeat (first | refine blk_drewN ?_ _ | refine blk_drew ?_ | refine blk_alloc ?_ _)); exact BK103.out⟩, ⟨by repeat (first | (with_reducible first | exact HB.out | apply below_alloc | apply pw_below_drewN | apply below_drew1 | refine below_set ?_ GE103.out) | exact HB.out)⟩⟩
                          · rw [if_neg c48] at H
                            have c48b0 : decide (x58_5 < (t116.length : Int)) = false := decide_eq_false c48
                            clear c48
                            have HC54 := Aside0.mk H
                            clear H
                            have hcz55_0 : wr.cell? ⟨gb103, 0, none⟩ = some (.int .i64 a0_0) := (blk_cell BK103.out 0).trans rfl
                            have hcz55_1 : wr.cell? ⟨gb103, 1, none⟩ = some (.int .i64 a0_1) := (blk_cell BK103.out 1).trans rfl
                            have hcz55_2 : wr.cell? ⟨gb103, 2, none⟩ = some (.int .i64 a0_2) := (blk_cell BK103.out 2).trans rfl
                            have hcz55_3 : wr.cell? ⟨gb103, 3, none⟩ = some (.int .i64 a0_3) := (blk_cell BK103.out 3).trans rfl
                            have hcz55_4 : wr.cell? ⟨gb103, 4, none⟩ = some (.int .i64 a0_4) := (blk_cell BK103.out 4).trans rfl
                            have hcz55_5 : wr.cell? ⟨gb103, 5, none⟩ = some (.int .i64 a0_5) := (blk_cell BK103.out 5).trans rfl
                            have hcz55_6 : wr.cell? ⟨gb103, 6, none⟩ = some (.int .u64 a0_6) := (blk_cell BK103.out 6).trans rfl
                            have hcz55_7 : wr.cell? ⟨gb103, 7, none⟩ = some (.int .i64 a0_7) := (blk_cell BK103.out 7).trans rfl
                            have hfz55_0 := blk_frozen BK103.out 0
                            have hfz55_1 := blk_frozen BK103.out 1
                            have hfz55_2 := blk_frozen BK103.out 2
                            have hfz55_3 := blk_frozen BK103.out 3
                            have hfz55_4 := blk_frozen BK103.out 4
                            have hfz55_5 := blk_frozen BK103.out 5
                            have hfz55_6 := blk_frozen BK103.out 6
                            have hfz55_7 := blk_frozen BK103.out 7
                            go_upto_if 70 with (fail)
                            go_cut [70] (fun v70 wc => ∃ (kq : Nat) (x70_53 : Bool), v70 = .bool x70_53 ∧ Aside0 (tautochronelaw12_CodeText.j5 kq x4_5 a0_0 x70_53 a0_0 a0_1 a0_2 a0_3 a0_4 a0_5 a0_6 a0_7 = some r) ∧ Aside0 (kq ≤ k5) ∧ Aside0 (wc.heap[gb103]? = some (.cells #[.int .i64 a0_0, .int .i64 a0_1, .int .i64 a0_2, .int .i64 a0_3, .int .i64 a0_4, .int .i64 a0_5, .int .u64 a0_6, .int .i64 a0_7] 26 (0, 0))) ∧ Aside0 (Below w.heap.size w wc))
                            case first =>
                              have H := HC54.out
                              clear HC54
                              by_cases c56 : a0_0 = 0
                              · rw [if_pos c56] at H
                                have c56b0 : (a0_0 == 0) = true := beq_iff_eq.mpr c56
                                have c56b1 : (a0_0 != 0) = false := bne_eq_false_iff_eq.mpr c56
                                clear c56
                                (first | rw [c56b0] | (simp only [i64_w, i32_w]; rw [c56b0]) | skip)
                                have H' := Aside0.mk H
                                clear H
                                go_wp2
                                go_meet
                                case rel => exact ⟨_, (true), (by first | rfl | (simp; done) | (simp [*]; done)), H', ⟨by have := HJ3.out; have := HJ16.out; have := HJ27.out; have := HJ33.out; have := HK5.out; first | omega | exact Nat.le_refl _⟩, ⟨by (with_reducible repeat (first | refine blk_drewN ?_ _ | refine blk_drew ?_ | refine blk_alloc ?_ _)); exact BK103.out⟩, ⟨by repeat (first | (with_reducible first | exact HB.out | apply below_alloc | apply pw_below_drewN | apply below_drew1 | refine below_set ?_ GE103.out) | exact HB.out)⟩⟩
                              · rw [if_neg c56] at H
                                have c56b0 : (a0_0 == 0) = false := beq_eq_false_iff_ne.mpr c56
                                have c56b1 : (a0_0 != 0) = true := bne_iff_ne.mpr c56
                                (first | rw [c56b0] | (simp only [i64_w, i32_w]; rw [c56b0]) | skip)
                                by_cases c57 : a0_0 = 4
                                · rw [if_pos c57] at H
                                  have c57b0 : (a0_0 == 4) = true := beq_iff_eq.mpr c57
                                  have c57b1 : (a0_0 != 4) = false := bne_eq_false_iff_eq.mpr c57
                                  clear c57
                                  have H' := Aside0.mk H
                                  clear H
                                  go_wp2
                                  go_meet
                                  case rel => exact ⟨_, (true), (by first | rfl | (simp; done) | (simp [*]; done)), H', ⟨by have := HJ3.out; have := HJ16.out; have := HJ27.out; have := HJ33.out; have := HK5.out; first | omega | exact Nat.le_refl _⟩, ⟨by (with_reducible repeat (first | refine blk_drewN ?_ _ | refine blk_drew ?_ | refine blk_alloc ?_ _)); exact BK103.out⟩, ⟨by repeat (first | (with_reducible first | exact HB.out | apply below_alloc | apply pw_below_drewN | apply below_drew1 | refine below_set ?_ GE103.out) | exact HB.out)⟩⟩
                                · rw [if_neg c57] at H
                                  have c57b0 : (a0_0 == 4) = false := beq_eq_false_iff_ne.mpr c57
                                  have c57b1 : (a0_0 != 4) = true := bne_iff_ne.mpr c57
                                  by_cases c58 : a0_0 = 5
                                  · rw [if_pos c58] at H
                                    have c58b0 : (a0_0 == 5) = true := beq_iff_eq.mpr c58
                                    have c58b1 : (a0_0 != 5) = false := bne_eq_false_iff_eq.mpr c58
                                    clear c58
                                    have H' := Aside0.mk H
                                    clear H
                                    go_wp2
                                    go_meet
                                    case rel => exact ⟨_, (true), (by first | rfl | (simp; done) | (simp [*]; done)), H', ⟨by have := HJ3.out; have := HJ16.out; have := HJ27.out; have := HJ33.out; have := HK5.out; first | omega | exact Nat.le_refl _⟩, ⟨by (with_reducible repeat (first | refine blk_drewN ?_ _ | refine blk_drew ?_ | refine blk_alloc ?_ _)); exact BK103.out⟩, ⟨by repeat (first | (with_reducible first | exact HB.out | apply below_alloc | apply pw_below_drewN | apply below_drew1 | refine below_set ?_ GE103.out) | exact HB.out)⟩⟩
                                  · rw [if_neg c58] at H
                                    have c58b0 : (a0_0 == 5) = false := beq_eq_false_iff_ne.mpr c58
                                    have c58b1 : (a0_0 != 5) = true := bne_iff_ne.mpr c58
                                    by_cases c59 : a0_0 = 8
                                    · rw [if_pos c59] at H
                                      have c59b0 : (a0_0 == 8) = true := beq_iff_eq.mpr c59
                                      have c59b1 : (a0_0 != 8) = false := bne_eq_false_iff_eq.mpr c59
                                      clear c59
                                      have H' := Aside0.mk H
                                      clear H
                                      go_wp2
                                      go_meet
                                      case rel => exact ⟨_, (true), (by first | rfl | (simp; done) | (simp [*]; done)), H', ⟨by have := HJ3.out; have := HJ16.out; have := HJ27.out; have := HJ33.out; have := HK5.out; first | omega | exact Nat.le_refl _⟩, ⟨by (with_reducible repeat (first | refine blk_drewN ?_ _ | refine blk_drew ?_ | refine blk_alloc ?_ _)); exact BK103.out⟩, ⟨by repeat (first | (with_reducible first | exact HB.out | apply below_alloc | apply pw_below_drewN | apply below_drew1 | refine below_set ?_ GE103.out) | exact HB.out)⟩⟩
                                    · rw [if_neg c59] at H
                                      have c59b0 : (a0_0 == 8) = false := beq_eq_false_iff_ne.mpr c59
                                      have c59b1 : (a0_0 != 8) = true := bne_iff_ne.mpr c59
                                      by_cases c60 : a0_0 = 9
                                      · rw [if_pos c60] at H
                                        have c60b0 : (a0_0 == 9) = true := beq_iff_eq.mpr c60
                                        have c60b1 : (a0_0 != 9) = false := bne_eq_false_iff_eq.mpr c60
                                        clear c60
                                        have H' := Aside0.mk H
                                        clear H
                                        go_wp2
                                        go_meet
                                        case rel => exact ⟨_, (true), (by first | rfl | (simp; done) | (simp [*]; done)), H', ⟨by have := HJ3.out; have := HJ16.out; have := HJ27.out; have := HJ33.out; have := HK5.out; first | omega | exact Nat.le_refl _⟩, ⟨by (with_reducible repeat (first | refine blk_drewN ?_ _ | refine blk_drew ?_ | refine blk_alloc ?_ _)); exact BK103.out⟩, ⟨by repeat (first | (with_reducible first | exact HB.out | apply below_alloc | apply pw_below_drewN | apply below_drew1 | refine below_set ?_ GE103.out) | exact HB.out)⟩⟩
                                      · rw [if_neg c60] at H
                                        have c60b0 : (a0_0 == 9) = false := beq_eq_false_iff_ne.mpr c60
                                        have c60b1 : (a0_0 != 9) = true := bne_iff_ne.mpr c60
                                        have H' := Aside0.mk H
                                        clear H
                                        go_wp2
                                        go_meet
                                        case rel => exact ⟨_, ((a0_0 == 10)), (by first | rfl | (simp; done) | (simp [*]; done)), H', ⟨by have := HJ3.out; have := HJ16.out; have := HJ27.out; have := HJ33.out; have := HK5.out; first | omega | exact Nat.le_refl _⟩, ⟨by (with_reducible repeat (first | refine blk_drewN ?_ _ | refine blk_drew ?_ | refine blk_alloc ?_ _)); exact BK103.out⟩, ⟨by repeat (first | (with_reducible first | exact HB.out | apply below_alloc | apply pw_below_drewN | apply below_drew1 | refine below_set ?_ GE103.out) | exact HB.out)⟩⟩
                            case rest =>
                              clear HC54
                              try clear c1
                              try clear p1
                              try clear q1
                              try clear hx1
                              try clear c2
                              try clear p2
                              try clear c3
                              try clear c4
                              try clear c5
                              try clear c6
                              try clear p6
                              try clear c7
                              try clear c7b0
                              try clear c8
                              try clear c10
                              try clear p10
                              try clear q10
                              try clear hx10
                              try clear c11
                              try clear p11
                              try clear q11
                              try clear hx11
                              try clear c14
                              try clear c14b0
                              try clear c15
                              try clear c15b0
                              try clear c16
                              try clear c17
                              try clear c23
                              try clear c24
                              try clear c24b0
                              try clear c24b1
                              try clear c24b2
                              try clear c26
                              try clear c26b0
                              try clear c26b1
                              try clear c26b2
                              try clear c29
                              try clear c29b0
                              try clear c29b1
                              try clear c30
                              try clear c30b0
                              try clear c35
                              try clear c36
                              try clear c36b0
                              try clear c36b1
                              try clear c36b2
                              try clear c38
                              try clear c38b0
                              try clear c39
                              try clear c39b0
                              try clear c40
                              try clear c40b0
                              try clear c40b1
                              try clear c40b2
                              try clear c48
                              try clear c48b0
                              try clear c49
                              try clear c49b0
                              try clear c50
                              try clear c50b0
                              try clear c51
                              try clear c51b0
                              try clear c51b1
                              try clear c51b2
                              try clear c53
                              try clear c53b0
                              try clear c53b1
                              try clear c53b2
                              try clear c56
                              try clear c56b0
                              try clear c56b1
                              try clear c57
                              try clear c57b0
                              try clear c57b1
                              try clear c58
                              try clear c58b0
                              try clear c58b1
                              try clear c59
                              try clear c59b0
                              try clear c59b1
                              try clear c60
                              try clear c60b0
                              try clear c60b1
                              try clear hcz20_0 hcz20_1 hcz20_2 hcz20_3 hcz20_4 hcz20_5 hcz20_6 hcz20_7
                              try clear hcz45_0 hcz45_1 hcz45_2 hcz45_3 hcz45_4 hcz45_5 hcz45_6 hcz45_7
                              try clear hcz55_0 hcz55_1 hcz55_2 hcz55_3 hcz55_4 hcz55_5 hcz55_6 hcz55_7
                              try clear hfz20_0 hfz20_1 hfz20_2 hfz20_3 hfz20_4 hfz20_5 hfz20_6 hfz20_7
                              try clear hfz45_0 hfz45_1 hfz45_2 hfz45_3 hfz45_4 hfz45_5 hfz45_6 hfz45_7
                              try clear hfz55_0 hfz55_1 hfz55_2 hfz55_3 hfz55_4 hfz55_5 hfz55_6 hfz55_7
                              try clear hx109_0
                              try clear hx115_0
                              try clear hx119_0
                              try clear p1
                              try clear p10
                              try clear p109
                              try clear p11
                              try clear p115
                              try clear p119
                              try clear p2
                              try clear q1
                              try clear q10
                              try clear q109
                              try clear q11
                              try clear q115
                              try clear q119
                              obtain ⟨kq, x70_53, rfl, HA, HJ53, BK103, HB⟩ := hcut
                              cases kq with
                              | zero => exact absurd HA.out (by simp [tautochronelaw12_CodeText.j5])
                              | succ kj53 =>
                                have H := HA.out
                                clear HA
                                simp only [tautochronelaw12_CodeText.j5] at H
                                by_cases c61 : x70_53 = true
                                · subst c61
                                  have H1 : (if x4_5.size + 1 ≤ 9223372036854775807 then ((tautochronelaw12_digits.f kj53 a0_6).bind fun t121 => (if (x4_5 ++ (⟨#[32]⟩ : ByteArray)).size + t121.size ≤ 9223372036854775807 then ((code_Text.f kj53 a0_0 a0_1 a0_2 a0_3 a0_4 a0_5 a0_6 a0_7).bind fun t122 => (some (t122.toList == ((x4_5 ++ (⟨#[32]⟩ : ByteArray)) ++ t121).toList))) else (none))) else (none)) = some r := by rw [if_pos rfl] at H; exact H
                                  clear H
                                  have H := H1
                                  clear H1
                                  by_cases c62 : x4_5.size + 1 ≤ 9223372036854775807
                                  rotate_left
                                  · rw [if_neg c62] at H; exact absurd H (by simp)
                                  rw [if_pos c62] at H
                                  have c62b0 := eq_true c62
                                  have c62b1 : decide (x4_5.size + 1 ≤ 9223372036854775807) = true := decide_eq_true c62
                                  try have c62b2 : (9223372036854775807 < x4_5.size + 1) = False := eq_false (Nat.not_lt.2 c62)
                                  replace H := Option.bind_eq_some_iff.mp H
                                  obtain ⟨t121, A630, H⟩ := H
                                  replace H : (if (x4_5 ++ (⟨#[32]⟩ : ByteArray)).size + t121.size ≤ 9223372036854775807 then ((code_Text.f kj53 a0_0 a0_1 a0_2 a0_3 a0_4 a0_5 a0_6 a0_7).bind fun t122 => (some (t122.toList == ((x4_5 ++ (⟨#[32]⟩ : ByteArray)) ++ t121).toList))) else (none)) = some r := H
                                  have A63 := Aside0.mk A630
                                  clear A630
                                  by_cases c64 : (x4_5 ++ (⟨#[32]⟩ : ByteArray)).size + t121.size ≤ 9223372036854775807
                                  rotate_left
                                  · rw [if_neg c64] at H; exact absurd H (by simp)
                                  rw [if_pos c64] at H
                                  have c64b0 := eq_true c64
                                  have c64b1 : decide ((x4_5 ++ (⟨#[32]⟩ : ByteArray)).size + t121.size ≤ 9223372036854775807) = true := decide_eq_true c64
                                  have c64s : x4_5.size + 1 + t121.size ≤ 9223372036854775807 := by have h_ := c64; rw [ByteArray.size_append] at h_; exact h_
                                  have c64s0 := eq_true c64s
                                  have c64s1 := decide_eq_true c64s
                                  have c64s2 := eq_false (Nat.not_lt.2 c64s)
                                  try have c64b2 : (9223372036854775807 < (x4_5 ++ (⟨#[32]⟩ : ByteArray)).size + t121.size) = False := eq_false (Nat.not_lt.2 c64)
                                  replace H := Option.bind_eq_some_iff.mp H
                                  obtain ⟨t122, A650, H⟩ := H
                                  replace H : (some (t122.toList == ((x4_5 ++ (⟨#[32]⟩ : ByteArray)) ++ t121).toList)) = some r := H
                                  have A65 := Aside0.mk A650
                                  clear A650
                                  obtain rfl := Option.some.inj H
                                  have hcz66_0 : wc.cell? ⟨gb103, 0, none⟩ = some (.int .i64 a0_0) := (blk_cell BK103.out 0).trans rfl
                                  have hcz66_1 : wc.cell? ⟨gb103, 1, none⟩ = some (.int .i64 a0_1) := (blk_cell BK103.out 1).trans rfl
                                  have hcz66_2 : wc.cell? ⟨gb103, 2, none⟩ = some (.int .i64 a0_2) := (blk_cell BK103.out 2).trans rfl
                                  have hcz66_3 : wc.cell? ⟨gb103, 3, none⟩ = some (.int .i64 a0_3) := (blk_cell BK103.out 3).trans rfl
                                  have hcz66_4 : wc.cell? ⟨gb103, 4, none⟩ = some (.int .i64 a0_4) := (blk_cell BK103.out 4).trans rfl
                                  have hcz66_5 : wc.cell? ⟨gb103, 5, none⟩ = some (.int .i64 a0_5) := (blk_cell BK103.out 5).trans rfl
                                  have hcz66_6 : wc.cell? ⟨gb103, 6, none⟩ = some (.int .u64 a0_6) := (blk_cell BK103.out 6).trans rfl
                                  have hcz66_7 : wc.cell? ⟨gb103, 7, none⟩ = some (.int .i64 a0_7) := (blk_cell BK103.out 7).trans rfl
                                  have hfz66_0 := blk_frozen BK103.out 0
                                  have hfz66_1 := blk_frozen BK103.out 1
                                  have hfz66_2 := blk_frozen BK103.out 2
                                  have hfz66_3 := blk_frozen BK103.out 3
                                  have hfz66_4 := blk_frozen BK103.out 4
                                  have hfz66_5 := blk_frozen BK103.out 5
                                  have hfz66_6 := blk_frozen BK103.out 6
                                  have hfz66_7 := blk_frozen BK103.out 7
                                  go_wp2_with (first | ((with_reducible refine gate_callee (f := 18) rfl ?_); refine goesL_ (some 81) rfl rfl Tryd.func18 (by kernel_rfl) rfl #[.int .u64 a0_6] rfl (by (try simp only [List.map_toArray, List.map_cons, List.map_nil]); first | done | rfl | (simp only [List.length_drop, List.length_take]; rfl)) ?_; (with_reducible refine (tautochronelaw12_digits.calls kj53 a0_6 t121 _ A63.out).mono ?_); rintro e w' ⟨rfl, ⟨nd, rfl⟩⟩; refine ⟨_, rfl, ?_⟩) | ((with_reducible refine gate_callee (f := 15) rfl ?_); refine goesL_ (some 93) rfl rfl Tryd.func15 (by kernel_rfl) rfl #[.agg #[.int .i64 a0_0, .int .i64 a0_1, .int .i64 a0_2, .int .i64 a0_3, .int .i64 a0_4, .int .i64 a0_5, .int .u64 a0_6, .int .i64 a0_7]] rfl (by (try simp only [List.map_toArray, List.map_cons, List.map_nil]); first | done | rfl | (simp only [List.length_drop, List.length_take]; rfl)) ?_; (with_reducible refine (code_Text.calls kj53 a0_0 a0_1 a0_2 a0_3 a0_4 a0_5 a0_6 a0_7 t122 _ A65.out (Go.Joins.tab_stays gTab HT.out (by repeat (first | (with_reducible first | exact HB.out | apply below_alloc | apply pw_below_drewN | apply below_drew1 | refine below_set ?_ GE103.out) | exact HB.out)) (Nat.le_refl _))).mono ?_); rintro e w67 ⟨rfl, hb⟩; refine ⟨_, rfl, ?_⟩; have n0_ := Aside0.mk (blk_below (g := gb103) (o := .cells #[.int .i64 a0_0, .int .i64 a0_1, .int .i64 a0_2, .int .i64 a0_3, .int .i64 a0_4, .int .i64 a0_5, .int .u64 a0_6, .int .i64 a0_7] 26 (0, 0)) (by (with_reducible repeat (first | refine blk_drewN ?_ _ | refine blk_drew ?_ | refine blk_alloc ?_ _)); exact BK103.out) hb); have n1_ := Aside0.mk (below_step (by repeat (first | (with_reducible first | exact HB.out | apply below_alloc | apply pw_below_drewN | apply below_drew1 | refine below_set ?_ GE103.out) | exact HB.out)) hb); clear BK103; clear HB; have BK103 := n0_; have HB := n1_; clear n0_ n1_; (try clear hb); (try clear hb2); (try clear hk); (try clear hi)))
                                  go_ret
                                  exact ⟨by first | rfl | (simp [errW_none, errW_some] <;> rfl) | (simp [*, errW_none, errW_some] <;> rfl), by repeat (first | (with_reducible first | exact HB.out | apply below_alloc | apply pw_below_drewN | apply below_drew1 | refine below_set ?_ GE103.out) | exact HB.out)⟩
                                · replace c61 := Bool.eq_false_iff.mpr c61
                                  subst c61
                                  have H1 : (if a0_0 = 6 then (tautochronelaw12_CodeText.j6 kj53 x4_5 true a0_0 a0_1 a0_2 a0_3 a0_4 a0_5 a0_6 a0_7) else (tautochronelaw12_CodeText.j6 kj53 x4_5 (a0_0 == 7) a0_0 a0_1 a0_2 a0_3 a0_4 a0_5 a0_6 a0_7)) = some r := by rw [if_neg (show ¬ (false = true) by decide)] at H; exact H
                                  clear H
                                  have H := H1
                                  clear H1
                                  have HC68 := Aside0.mk H
                                  clear H
                                  go_upto_if 83 with (fail)
                                  go_cut [83] (fun v83 wc => ∃ (kq : Nat) (x83_67 : Bool), v83 = .bool x83_67 ∧ Aside0 (tautochronelaw12_CodeText.j6 kq x4_5 x83_67 a0_0 a0_1 a0_2 a0_3 a0_4 a0_5 a0_6 a0_7 = some r) ∧ Aside0 (kq ≤ kj53) ∧ Aside0 (wc.heap[gb103]? = some (.cells #[.int .i64 a0_0, .int .i64 a0_1, .int .i64 a0_2, .int .i64 a0_3, .int .i64 a0_4, .int .i64 a0_5, .int .u64 a0_6, .int .i64 a0_7] 26 (0, 0))) ∧ Aside0 (Below w.heap.size w wc))
                                  case first =>
                                    have H := HC68.out
                                    clear HC68
                                    by_cases c69 : a0_0 = 6
                                    · rw [if_pos c69] at H
                                      have c69b0 : (a0_0 == 6) = true := beq_iff_eq.mpr c69
                                      have c69b1 : (a0_0 != 6) = false := bne_eq_false_iff_eq.mpr c69
                                      clear c69
                                      (first | rw [c69b0] | (simp only [i64_w, i32_w]; rw [c69b0]) | skip)
                                      have H' := Aside0.mk H
                                      clear H
                                      go_wp2
                                      go_meet
                                      case rel => exact ⟨_, (true), (by first | rfl | (simp; done) | (simp [*]; done)), H', ⟨by have := HJ3.out; have := HJ16.out; have := HJ27.out; have := HJ33.out; have := HK5.out; have := HJ53.out; first | omega | exact Nat.le_refl _⟩, ⟨by (with_reducible repeat (first | refine blk_drewN ?_ _ | refine blk_drew ?_ | refine blk_alloc ?_ _)); exact BK103.out⟩, ⟨by repeat (first | (with_reducible first | exact HB.out | apply below_alloc | apply pw_below_drewN | apply below_drew1 | refine below_set ?_ GE103.out) | exact HB.out)⟩⟩
                                    · rw [if_neg c69] at H
                                      have c69b0 : (a0_0 == 6) = false := beq_eq_false_iff_ne.mpr c69
                                      have c69b1 : (a0_0 != 6) = true := bne_iff_ne.mpr c69
                                      (first | rw [c69b0] | (simp only [i64_w, i32_w]; rw [c69b0]) | skip)
                                      have H' := Aside0.mk H
                                      clear H
                                      go_wp2
                                      go_meet
                                      case rel => exact ⟨_, ((a0_0 == 7)), (by first | rfl | (simp; done) | (simp [*]; done)), H', ⟨by have := HJ3.out; have := HJ16.out; have := HJ27.out; have := HJ33.out; have := HK5.out; have := HJ53.out; first | omega | exact Nat.le_refl _⟩, ⟨by (with_reducible repeat (first | refine blk_drewN ?_ _ | refine blk_drew ?_ | refine blk_alloc ?_ _)); exact BK103.out⟩, ⟨by repeat (first | (with_reducible first | exact HB.out | apply below_alloc | apply pw_below_drewN | apply below_drew1 | refine below_set ?_ GE103.out) | exact HB.out)⟩⟩
                                  case rest =>
                                    clear HC68
                                    try clear c1
                                    try clear p1
                                    try clear q1
                                    try clear hx1
                                    try clear c2
                                    try clear p2
                                    try clear c3
                                    try clear c4
                                    try clear c5
                                    try clear c6
                                    try clear p6
                                    try clear c7
                                    try clear c7b0
                                    try clear c8
                                    try clear c10
                                    try clear p10
                                    try clear q10
                                    try clear hx10
                                    try clear c11
                                    try clear p11
                                    try clear q11
                                    try clear hx11
                                    try clear c14
                                    try clear c14b0
                                    try clear c15
                                    try clear c15b0
                                    try clear c16
                                    try clear c17
                                    try clear c18
                                    try clear c23
                                    try clear c24
                                    try clear c24b0
                                    try clear c24b1
                                    try clear c24b2
                                    try clear c26
                                    try clear c26b0
                                    try clear c26b1
                                    try clear c26b2
                                    try clear c29
                                    try clear c29b0
                                    try clear c29b1
                                    try clear c30
                                    try clear c30b0
                                    try clear c35
                                    try clear c36
                                    try clear c36b0
                                    try clear c36b1
                                    try clear c36b2
                                    try clear c38
                                    try clear c38b0
                                    try clear c39
                                    try clear c39b0
                                    try clear c40
                                    try clear c40b0
                                    try clear c40b1
                                    try clear c40b2
                                    try clear c48
                                    try clear c48b0
                                    try clear c49
                                    try clear c49b0
                                    try clear c50
                                    try clear c50b0
                                    try clear c51
                                    try clear c51b0
                                    try clear c51b1
                                    try clear c51b2
                                    try clear c53
                                    try clear c53b0
                                    try clear c53b1
                                    try clear c53b2
                                    try clear c56
                                    try clear c56b0
                                    try clear c56b1
                                    try clear c57
                                    try clear c57b0
                                    try clear c57b1
                                    try clear c58
                                    try clear c58b0
                                    try clear c58b1
                                    try clear c59
                                    try clear c59b0
                                    try clear c59b1
                                    try clear c60
                                    try clear c60b0
                                    try clear c60b1
                                    try clear c61
                                    try clear c62
                                    try clear c62b0
                                    try clear c62b1
                                    try clear c62b2
                                    try clear c64
                                    try clear c64b0
                                    try clear c64b1
                                    try clear c64b2
                                    try clear p64
                                    try clear c69
                                    try clear c69b0
                                    try clear c69b1
                                    try clear hcz20_0 hcz20_1 hcz20_2 hcz20_3 hcz20_4 hcz20_5 hcz20_6 hcz20_7
                                    try clear hcz45_0 hcz45_1 hcz45_2 hcz45_3 hcz45_4 hcz45_5 hcz45_6 hcz45_7
                                    try clear hcz55_0 hcz55_1 hcz55_2 hcz55_3 hcz55_4 hcz55_5 hcz55_6 hcz55_7
                                    try clear hfz20_0 hfz20_1 hfz20_2 hfz20_3 hfz20_4 hfz20_5 hfz20_6 hfz20_7
                                    try clear hfz45_0 hfz45_1 hfz45_2 hfz45_3 hfz45_4 hfz45_5 hfz45_6 hfz45_7
                                    try clear hfz55_0 hfz55_1 hfz55_2 hfz55_3 hfz55_4 hfz55_5 hfz55_6 hfz55_7
                                    try clear hx109_0
                                    try clear hx115_0
                                    try clear hx119_0
                                    try clear p1
                                    try clear p10
                                    try clear p109
                                    try clear p11
                                    try clear p115
                                    try clear p119
                                    try clear p2
                                    try clear p6
                                    try clear q1
                                    try clear q10
                                    try clear q109
                                    try clear q11
                                    try clear q115
                                    try clear q119
                                    obtain ⟨kq, x83_67, rfl, HA, HJ67, BK103, HB⟩ := hcut
                                    cases kq with
                                    | zero => exact absurd HA.out (by simp [tautochronelaw12_CodeText.j6])
                                    | succ kj67 =>
                                      have H := HA.out
                                      clear HA
                                      simp only [tautochronelaw12_CodeText.j6] at H
                                      by_cases c70 : x83_67 = true
                                      · subst c70
                                        have H1 : (if x4_5.size + 2 ≤ 9223372036854775807 then ((tautochronelaw12_number.f kj67 a0_7).bind fun t123 => (if (x4_5 ++ (⟨#[32, 64]⟩ : ByteArray)).size + t123.size ≤ 9223372036854775807 then ((code_Text.f kj67 a0_0 a0_1 a0_2 a0_3 a0_4 a0_5 a0_6 a0_7).bind fun t124 => (some (t124.toList == ((x4_5 ++ (⟨#[32, 64]⟩ : ByteArray)) ++ t123).toList))) else (none))) else (none)) = some r := by rw [if_pos rfl] at H; exact H
                                        clear H
                                        have H := H1
                                        clear H1
                                        by_cases c71 : x4_5.size + 2 ≤ 9223372036854775807
                                        rotate_left
                                        · rw [if_neg c71] at H; exact absurd H (by simp)
                                        rw [if_pos c71] at H
                                        have c71b0 := eq_true c71
                                        have c71b1 : decide (x4_5.size + 2 ≤ 9223372036854775807) = true := decide_eq_true c71
                                        try have c71b2 : (9223372036854775807 < x4_5.size + 2) = False := eq_false (Nat.not_lt.2 c71)
                                        replace H := Option.bind_eq_some_iff.mp H
                                        obtain ⟨t123, A720, H⟩ := H
                                        replace H : (if (x4_5 ++ (⟨#[32, 64]⟩ : ByteArray)).size + t123.size ≤ 9223372036854775807 then ((code_Text.f kj67 a0_0 a0_1 a0_2 a0_3 a0_4 a0_5 a0_6 a0_7).bind fun t124 => (some (t124.toList == ((x4_5 ++ (⟨#[32, 64]⟩ : ByteArray)) ++ t123).toList))) else (none)) = some r := H
                                        have A72 := Aside0.mk A720
                                        clear A720
                                        by_cases c73 : (x4_5 ++ (⟨#[32, 64]⟩ : ByteArray)).size + t123.size ≤ 9223372036854775807
                                        rotate_left
                                        · rw [if_neg c73] at H; exact absurd H (by simp)
                                        rw [if_pos c73] at H
                                        have c73b0 := eq_true c73
                                        have c73b1 : decide ((x4_5 ++ (⟨#[32, 64]⟩ : ByteArray)).size + t123.size ≤ 9223372036854775807) = true := decide_eq_true c73
                                        have c73s : x4_5.size + 2 + t123.size ≤ 9223372036854775807 := by have h_ := c73; rw [ByteArray.size_append] at h_; exact h_
                                        have c73s0 := eq_true c73s
                                        have c73s1 := decide_eq_true c73s
                                        have c73s2 := eq_false (Nat.not_lt.2 c73s)
                                        try have c73b2 : (9223372036854775807 < (x4_5 ++ (⟨#[32, 64]⟩ : ByteArray)).size + t123.size) = False := eq_false (Nat.not_lt.2 c73)
                                        replace H := Option.bind_eq_some_iff.mp H
                                        obtain ⟨t124, A740, H⟩ := H
                                        replace H : (some (t124.toList == ((x4_5 ++ (⟨#[32, 64]⟩ : ByteArray)) ++ t123).toList)) = some r := H
                                        have A74 := Aside0.mk A740
                                        clear A740
                                        obtain rfl := Option.some.inj H
                                        have hcz75_0 : wc.cell? ⟨gb103, 0, none⟩ = some (.int .i64 a0_0) := (blk_cell BK103.out 0).trans rfl
                                        have hcz75_1 : wc.cell? ⟨gb103, 1, none⟩ = some (.int .i64 a0_1) := (blk_cell BK103.out 1).trans rfl
                                        have hcz75_2 : wc.cell? ⟨gb103, 2, none⟩ = some (.int .i64 a0_2) := (blk_cell BK103.out 2).trans rfl
                                        have hcz75_3 : wc.cell? ⟨gb103, 3, none⟩ = some (.int .i64 a0_3) := (blk_cell BK103.out 3).trans rfl
                                        have hcz75_4 : wc.cell? ⟨gb103, 4, none⟩ = some (.int .i64 a0_4) := (blk_cell BK103.out 4).trans rfl
                                        have hcz75_5 : wc.cell? ⟨gb103, 5, none⟩ = some (.int .i64 a0_5) := (blk_cell BK103.out 5).trans rfl
                                        have hcz75_6 : wc.cell? ⟨gb103, 6, none⟩ = some (.int .u64 a0_6) := (blk_cell BK103.out 6).trans rfl
                                        have hcz75_7 : wc.cell? ⟨gb103, 7, none⟩ = some (.int .i64 a0_7) := (blk_cell BK103.out 7).trans rfl
                                        have hfz75_0 := blk_frozen BK103.out 0
                                        have hfz75_1 := blk_frozen BK103.out 1
                                        have hfz75_2 := blk_frozen BK103.out 2
                                        have hfz75_3 := blk_frozen BK103.out 3
                                        have hfz75_4 := blk_frozen BK103.out 4
                                        have hfz75_5 := blk_frozen BK103.out 5
                                        have hfz75_6 := blk_frozen BK103.out 6
                                        have hfz75_7 := blk_frozen BK103.out 7
                                        go_wp2_with (first | ((with_reducible refine gate_callee (f := 16) rfl ?_); refine goesL_ (some 90) rfl rfl Tryd.func16 (by kernel_rfl) rfl #[.int .i64 a0_7] rfl (by (try simp only [List.map_toArray, List.map_cons, List.map_nil]); first | done | rfl | (simp only [List.length_drop, List.length_take]; rfl)) ?_; (with_reducible refine (tautochronelaw12_number.calls kj67 a0_7 t123 _ A72.out).mono ?_); rintro e w' ⟨rfl, ⟨nd, rfl⟩⟩; refine ⟨_, rfl, ?_⟩) | ((with_reducible refine gate_callee (f := 15) rfl ?_); refine goesL_ (some 93) rfl rfl Tryd.func15 (by kernel_rfl) rfl #[.agg #[.int .i64 a0_0, .int .i64 a0_1, .int .i64 a0_2, .int .i64 a0_3, .int .i64 a0_4, .int .i64 a0_5, .int .u64 a0_6, .int .i64 a0_7]] rfl (by (try simp only [List.map_toArray, List.map_cons, List.map_nil]); first | done | rfl | (simp only [List.length_drop, List.length_take]; rfl)) ?_; (with_reducible refine (code_Text.calls kj67 a0_0 a0_1 a0_2 a0_3 a0_4 a0_5 a0_6 a0_7 t124 _ A74.out (Go.Joins.tab_stays gTab HT.out (by repeat (first | (with_reducible first | exact HB.out | apply below_alloc | apply pw_below_drewN | apply below_drew1 | refine below_set ?_ GE103.out) | exact HB.out)) (Nat.le_refl _))).mono ?_); rintro e w76 ⟨rfl, hb⟩; refine ⟨_, rfl, ?_⟩; have n0_ := Aside0.mk (blk_below (g := gb103) (o := .cells #[.int .i64 a0_0, .int .i64 a0_1, .int .i64 a0_2, .int .i64 a0_3, .int .i64 a0_4, .int .i64 a0_5, .int .u64 a0_6, .int .i64 a0_7] 26 (0, 0)) (by (with_reducible repeat (first | refine blk_drewN ?_ _ | refine blk_drew ?_ | refine blk_alloc ?_ _)); exact BK103.out) hb); have n1_ := Aside0.mk (below_step (by repeat (first | (with_reducible first | exact HB.out | apply below_alloc | apply pw_below_drewN | apply below_drew1 | refine below_set ?_ GE103.out) | exact HB.out)) hb); clear BK103; clear HB; have BK103 := n0_; have HB := n1_; clear n0_ n1_; (try clear hb); (try clear hb2); (try clear hk); (try clear hi)))
                                        go_ret
                                        exact ⟨by first | rfl | (simp [errW_none, errW_some] <;> rfl) | (simp [*, errW_none, errW_some] <;> rfl), by repeat (first | (with_reducible first | exact HB.out | apply below_alloc | apply pw_below_drewN | apply below_drew1 | refine below_set ?_ GE103.out) | exact HB.out)⟩
                                      · replace c70 := Bool.eq_false_iff.mpr c70
                                        subst c70
                                        have H1 : ((code_Text.f kj67 a0_0 a0_1 a0_2 a0_3 a0_4 a0_5 a0_6 a0_7).bind fun t125 => (some (t125.toList == x4_5.toList))) = some r := by rw [if_neg (show ¬ (false = true) by decide)] at H; exact H
                                        clear H
                                        have H := H1
                                        clear H1
                                        replace H := Option.bind_eq_some_iff.mp H
                                        obtain ⟨t125, A770, H⟩ := H
                                        replace H : (some (t125.toList == x4_5.toList)) = some r := H
                                        have A77 := Aside0.mk A770
                                        clear A770
                                        obtain rfl := Option.some.inj H
                                        have hcz78_0 : wc.cell? ⟨gb103, 0, none⟩ = some (.int .i64 a0_0) := (blk_cell BK103.out 0).trans rfl
                                        have hcz78_1 : wc.cell? ⟨gb103, 1, none⟩ = some (.int .i64 a0_1) := (blk_cell BK103.out 1).trans rfl
                                        have hcz78_2 : wc.cell? ⟨gb103, 2, none⟩ = some (.int .i64 a0_2) := (blk_cell BK103.out 2).trans rfl
                                        have hcz78_3 : wc.cell? ⟨gb103, 3, none⟩ = some (.int .i64 a0_3) := (blk_cell BK103.out 3).trans rfl
                                        have hcz78_4 : wc.cell? ⟨gb103, 4, none⟩ = some (.int .i64 a0_4) := (blk_cell BK103.out 4).trans rfl
                                        have hcz78_5 : wc.cell? ⟨gb103, 5, none⟩ = some (.int .i64 a0_5) := (blk_cell BK103.out 5).trans rfl
                                        have hcz78_6 : wc.cell? ⟨gb103, 6, none⟩ = some (.int .u64 a0_6) := (blk_cell BK103.out 6).trans rfl
                                        have hcz78_7 : wc.cell? ⟨gb103, 7, none⟩ = some (.int .i64 a0_7) := (blk_cell BK103.out 7).trans rfl
                                        have hfz78_0 := blk_frozen BK103.out 0
                                        have hfz78_1 := blk_frozen BK103.out 1
                                        have hfz78_2 := blk_frozen BK103.out 2
                                        have hfz78_3 := blk_frozen BK103.out 3
                                        have hfz78_4 := blk_frozen BK103.out 4
                                        have hfz78_5 := blk_frozen BK103.out 5
                                        have hfz78_6 := blk_frozen BK103.out 6
                                        have hfz78_7 := blk_frozen BK103.out 7
                                        go_wp2_with (first | ((with_reducible refine gate_callee (f := 15) rfl ?_); refine goesL_ (some 93) rfl rfl Tryd.func15 (by kernel_rfl) rfl #[.agg #[.int .i64 a0_0, .int .i64 a0_1, .int .i64 a0_2, .int .i64 a0_3, .int .i64 a0_4, .int .i64 a0_5, .int .u64 a0_6, .int .i64 a0_7]] rfl (by (try simp only [List.map_toArray, List.map_cons, List.map_nil]); first | done | rfl | (simp only [List.length_drop, List.length_take]; rfl)) ?_; (with_reducible refine (code_Text.calls kj67 a0_0 a0_1 a0_2 a0_3 a0_4 a0_5 a0_6 a0_7 t125 _ A77.out (Go.Joins.tab_stays gTab HT.out (by repeat (first | (with_reducible first | exact HB.out | apply below_alloc | apply pw_below_drewN | apply below_drew1 | refine below_set ?_ GE103.out) | exact HB.out)) (Nat.le_refl _))).mono ?_); rintro e w79 ⟨rfl, hb⟩; refine ⟨_, rfl, ?_⟩; have n0_ := Aside0.mk (blk_below (g := gb103) (o := .cells #[.int .i64 a0_0, .int .i64 a0_1, .int .i64 a0_2, .int .i64 a0_3, .int .i64 a0_4, .int .i64 a0_5, .int .u64 a0_6, .int .i64 a0_7] 26 (0, 0)) (by (with_reducible repeat (first | refine blk_drewN ?_ _ | refine blk_drew ?_ | refine blk_alloc ?_ _)); exact BK103.out) hb); have n1_ := Aside0.mk (below_step (by repeat (first | (with_reducible first | exact HB.out | apply below_alloc | apply pw_below_drewN | apply below_drew1 | refine below_set ?_ GE103.out) | exact HB.out)) hb); clear BK103; clear HB; have BK103 := n0_; have HB := n1_; clear n0_ n1_; (try clear hb); (try clear hb2); (try clear hk); (try clear hi)))
                                        go_ret
                                        exact ⟨by first | rfl | (simp [errW_none, errW_some] <;> rfl) | (simp [*, errW_none, errW_some] <;> rfl), by repeat (first | (with_reducible first | exact HB.out | apply below_alloc | apply pw_below_drewN | apply below_drew1 | refine below_set ?_ GE103.out) | exact HB.out)⟩
  · replace c3 := Bool.eq_false_iff.mpr c3
    subst c3
    have H1 : (some false) = some r := by rw [if_neg (show ¬ (false = true) by decide)] at H; exact H
    clear H
    have H := H1
    clear H1
    obtain rfl := Option.some.inj H
    go_enter Tryd.func4, Tryd.ntmps4
    go_wp2_with (first | ((with_reducible refine gate_dst (N := 1) rfl ?_); refine box_event ?hg (N := 1) ?hd (cs := #[.int .i64 a0_0, .int .i64 a0_1, .int .i64 a0_2, .int .i64 a0_3, .int .i64 a0_4, .int .i64 a0_5, .int .u64 a0_6, .int .i64 a0_7]) (t := 26) ?hr ?_; (case hd => rfl); (case hg => rfl); (case hr => first | (go_simp; done) | (go_simp; rfl)); intro gb103 hg w80 hbox hb; have n0_ := Aside0.mk (below_step (by repeat (first | (with_reducible first | exact HB.out | apply below_alloc | apply pw_below_drewN | apply below_drew1) | exact HB.out)) hb); have n1_ := Aside0.mk (hbox); have n2_ := Aside0.mk ((by rw [hg]; exact (below_size (by repeat (first | (with_reducible first | exact HB.out | apply below_alloc | apply pw_below_drewN | apply below_drew1) | exact HB.out))) : w.heap.size ≤ gb103)); have n3_ := Aside0.mk ((by rw [hg]; exact (below_size (by repeat (first | (with_reducible first | exact HB.out | apply below_alloc | apply pw_below_drewN | apply below_drew1) | exact HB.out))) : w.heap.size ≤ gb103)); clear HB; have HB := n0_; have BK103 := n1_; have GW103 := n2_; have GE103 := n3_; clear n0_ n1_ n2_ n3_; clear hb hbox hg) | ((with_reducible refine gate_callee (f := 8) rfl ?_); refine goesL_ (some 7) rfl rfl Tryd.func8 (by kernel_rfl) rfl #[] rfl (by (try simp only [List.map_toArray, List.map_cons, List.map_nil]); first | done | rfl | (simp only [List.length_drop, List.length_take]; rfl)) ?_; (with_reducible refine (tautochronelaw12_awake.calls k  false _ A2.out).mono ?_); rintro e w81 ⟨rfl, hb⟩; refine ⟨_, rfl, ?_⟩; have n0_ := Aside0.mk (blk_below (g := gb103) (o := .cells #[.int .i64 a0_0, .int .i64 a0_1, .int .i64 a0_2, .int .i64 a0_3, .int .i64 a0_4, .int .i64 a0_5, .int .u64 a0_6, .int .i64 a0_7] 26 (0, 0)) (by (with_reducible repeat (first | refine blk_drewN ?_ _ | refine blk_drew ?_ | refine blk_alloc ?_ _)); exact BK103.out) hb); have n1_ := Aside0.mk (below_step (by repeat (first | (with_reducible first | exact HB.out | apply below_alloc | apply pw_below_drewN | apply below_drew1 | refine below_set ?_ GE103.out) | exact HB.out)) hb); clear BK103; clear HB; have BK103 := n0_; have HB := n1_; clear n0_ n1_; (try clear hb); (try clear hb2); (try clear hk); (try clear hi)))
    go_ret
    exact ⟨by first | rfl | (simp [errW_none, errW_some] <;> rfl) | (simp [*, errW_none, errW_some] <;> rfl), by repeat (first | (with_reducible first | exact HB.out | apply below_alloc | apply pw_below_drewN | apply below_drew1 | refine below_set ?_ GE103.out) | exact HB.out)⟩

end Go.Proofs.YtcgnbknbnbgcmaaDoor.PQ.V
