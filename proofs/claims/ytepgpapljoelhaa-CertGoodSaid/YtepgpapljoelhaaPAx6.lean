-- Written by a program of this session (wip/tools/extprint.py, pr.sh).
import Derived.Test.YtepgpapljoelhaaPAx0
import Derived.Test.YtepgpapljoelhaaPAx1
import Derived.Test.YtepgpapljoelhaaPAx2
import Derived.Test.YtepgpapljoelhaaGiv
namespace Go.Proofs.Ytepgpapljoelhaa.PA
noncomputable section
open Go.RowKit Go.Proofs.YtepgpapljoelhaaW.PrintWords Go.Proofs.YtepgpapljoelhaaW.PrintLast Go.Proofs.YtepgpapljoelhaaW.PrintMore
attribute [local go_sem] max2_int min2_int max_two min_two max_three min_three max_four min_four   -- for this text's walks alone
set_option linter.unusedVariables false
set_option linter.unusedSimpArgs false

/-! ### tautochronelaw18_want: function 11 -/
mutual
def tautochronelaw18_want.l0 : Nat → List (S37) → List Int → Int → Int → List Int → Int → Int → Option (Bool)
 | 0, _, _, _, _, _, _, _ => none
 | k + 1, x0, x1, x2, x3, x29, x30, x31 => if x31 < x30 then (if 0 ≤ x31 then (if x31 < (x29.length : Int) then (if (rd x29 x31) ≥ x2 then (some false) else (if (rd x29 x31) < (wrap64 (-x3)) then (some false) else (tautochronelaw18_want.l0 k x0 x1 x2 x3 x29 x30 (wrap64 (x31 + 1))))) else (none)) else (none)) else ((live_Of.f k x0).bind fun t197 => (tautochronelaw18_want.l1 k x0 x1 t197 x0 (x0.length : Int) 0))
def tautochronelaw18_want.l1 : Nat → List (S37) → List Int → List (List Int) → List (S37) → Int → Int → Option (Bool)
 | 0, _, _, _, _, _, _ => none
 | k + 1, x0, x1, x11, x47, x48, x49 => if x49 < x48 then (if 0 ≤ x49 then (if x49 < (x47.length : Int) then (if x49 < (x11.length : Int) then (tautochronelaw18_want.l2 k x0 x1 x11 x49 x47 x48 x49 (rd_L3 x11 x49) ((rd_L3 x11 x49).length : Int) 0 ((rd_T37 x47 x49).f0) ((rd_T37 x47 x49).f1) ((rd_T37 x47 x49).f2) ((rd_T37 x47 x49).f3) ((rd_T37 x47 x49).f4) ((rd_T37 x47 x49).f5) ((rd_T37 x47 x49).f6) ((rd_T37 x47 x49).f7)) else (none)) else (none)) else (none)) else (some true)
def tautochronelaw18_want.l2 : Nat → List (S37) → List Int → List (List Int) → Int → List (S37) → Int → Int → List Int → Int → Int → Int → Int → Int → Int → Int → Int → Int → Int → Option (Bool)
 | 0, _, _, _, _, _, _, _, _, _, _, _, _, _, _, _, _, _, _ => none
 | k + 1, x0, x1, x11, x12, x47, x48, x49, x57, x58, x59, x202000, x202001, x202002, x202003, x202004, x202005, x202006, x202007 => if x59 < x58 then (if 0 ≤ x59 then (if x59 < (x57.length : Int) then (if 0 ≤ x12 then (if x12 < (x11.length : Int) then (if x59 ≤ ((rd_L3 x11 x12).length : Int) then ((some ((rd_L3 x11 x12).take (x59 : Int).toNat : List Int)).bind fun y205 => (tautochronelaw18_want.l3 k x0 x1 x11 x12 (rd x57 x59) x47 x48 x49 x57 x58 x59 y205 (y205.length : Int) 0 x202000 x202001 x202002 x202003 x202004 x202005 x202006 x202007)) else (none)) else (none)) else (none)) else (none)) else (none)) else ((code_Defines.f x202000 x202001 x202002 x202003 x202004 x202005 x202006 x202007).bind fun bt212 => ((code_Next.f k x202000 x202001 x202002 x202003 x202004 x202005 x202006 x202007 x12 (x0.length : Int)).bind fun t214 => (tautochronelaw18_want.l4 k x0 x1 x11 bt212.1 bt212.2 x47 x48 x49 t214 (t214.length : Int) 0)))
def tautochronelaw18_want.l3 : Nat → List (S37) → List Int → List (List Int) → Int → Int → List (S37) → Int → Int → List Int → Int → Int → List Int → Int → Int → Int → Int → Int → Int → Int → Int → Int → Int → Option (Bool)
 | 0, _, _, _, _, _, _, _, _, _, _, _, _, _, _, _, _, _, _, _, _, _, _ => none
 | k + 1, x0, x1, x11, x12, x15, x47, x48, x49, x57, x58, x59, x69, x70, x71, x202000, x202001, x202002, x202003, x202004, x202005, x202006, x202007 => if x71 < x70 then (if 0 ≤ x71 then (if x71 < (x69.length : Int) then (if 0 ≤ x15 then (if x15 < (x1.length : Int) then (if 0 ≤ (rd x69 x71) then (if (rd x69 x71) < (x1.length : Int) then (if (rd x1 x15) = (rd x1 (rd x69 x71)) then (some false) else (tautochronelaw18_want.l3 k x0 x1 x11 x12 x15 x47 x48 x49 x57 x58 x59 x69 x70 (wrap64 (x71 + 1)) x202000 x202001 x202002 x202003 x202004 x202005 x202006 x202007)) else (none)) else (none)) else (none)) else (none)) else (none)) else (none)) else (tautochronelaw18_want.l2 k x0 x1 x11 x12 x47 x48 x49 x57 x58 (wrap64 (x59 + 1)) x202000 x202001 x202002 x202003 x202004 x202005 x202006 x202007)
def tautochronelaw18_want.l4 : Nat → List (S37) → List Int → List (List Int) → Int → Bool → List (S37) → Int → Int → List Int → Int → Int → Option (Bool)
 | 0, _, _, _, _, _, _, _, _, _, _, _ => none
 | k + 1, x0, x1, x11, x18, x19, x47, x48, x49, x95, x96, x97 => if x97 < x96 then (if 0 ≤ x97 then (if x97 < (x95.length : Int) then (if 0 ≤ (rd x95 x97) then (if (rd x95 x97) < (x11.length : Int) then (tautochronelaw18_want.l5 k x0 x1 x11 x18 x19 x47 x48 x49 x95 x96 x97 (rd_L3 x11 (rd x95 x97)) ((rd_L3 x11 (rd x95 x97)).length : Int) 0) else (none)) else (none)) else (none)) else (none)) else (tautochronelaw18_want.l1 k x0 x1 x11 x47 x48 (wrap64 (x49 + 1)))
def tautochronelaw18_want.l5 : Nat → List (S37) → List Int → List (List Int) → Int → Bool → List (S37) → Int → Int → List Int → Int → Int → List Int → Int → Int → Option (Bool)
 | 0, _, _, _, _, _, _, _, _, _, _, _, _, _, _ => none
 | k + 1, x0, x1, x11, x18, x19, x47, x48, x49, x95, x96, x97, x104, x105, x106 => if x106 < x105 then (if 0 ≤ x106 then (if x106 < (x104.length : Int) then (if x19 = true then (if (rd x104 x106) = x18 then (tautochronelaw18_want.l5 k x0 x1 x11 x18 x19 x47 x48 x49 x95 x96 x97 x104 x105 (wrap64 (x106 + 1))) else (if 0 ≤ (rd x104 x106) then (if (rd x104 x106) < (x1.length : Int) then (if 0 ≤ x18 then (if x18 < (x1.length : Int) then (if (rd x1 (rd x104 x106)) = (rd x1 x18) then (some false) else (tautochronelaw18_want.l5 k x0 x1 x11 x18 x19 x47 x48 x49 x95 x96 x97 x104 x105 (wrap64 (x106 + 1)))) else (none)) else (none)) else (none)) else (none))) else (tautochronelaw18_want.l5 k x0 x1 x11 x18 x19 x47 x48 x49 x95 x96 x97 x104 x105 (wrap64 (x106 + 1)))) else (none)) else (none)) else (tautochronelaw18_want.l4 k x0 x1 x11 x18 x19 x47 x48 x49 x95 x96 (wrap64 (x97 + 1)))
end
def tautochronelaw18_want.f (k : Nat) (l0 : List (S37)) (l1 : List Int) (a2 : Int) (a3 : Int) : Option (Bool) := (code_Values.f k l0).bind fun t195 => (if (l1.length : Int) = t195 then (tautochronelaw18_want.l0 k l0 l1 a2 a3 l1 (l1.length : Int) 0) else (some false))
theorem tautochronelaw18_want.mono_l : ∀ k, (∀ y0 y1 y2 y3 y4 y5 y6, LeO (tautochronelaw18_want.l0 k y0 y1 y2 y3 y4 y5 y6) (tautochronelaw18_want.l0 (k + 1) y0 y1 y2 y3 y4 y5 y6)) ∧ (∀ y0 y1 y2 y3 y4 y5, LeO (tautochronelaw18_want.l1 k y0 y1 y2 y3 y4 y5) (tautochronelaw18_want.l1 (k + 1) y0 y1 y2 y3 y4 y5)) ∧ (∀ y0 y1 y2 y3 y4 y5 y6 y7 y8 y9 y10 y11 y12 y13 y14 y15 y16 y17, LeO (tautochronelaw18_want.l2 k y0 y1 y2 y3 y4 y5 y6 y7 y8 y9 y10 y11 y12 y13 y14 y15 y16 y17) (tautochronelaw18_want.l2 (k + 1) y0 y1 y2 y3 y4 y5 y6 y7 y8 y9 y10 y11 y12 y13 y14 y15 y16 y17)) ∧ (∀ y0 y1 y2 y3 y4 y5 y6 y7 y8 y9 y10 y11 y12 y13 y14 y15 y16 y17 y18 y19 y20 y21, LeO (tautochronelaw18_want.l3 k y0 y1 y2 y3 y4 y5 y6 y7 y8 y9 y10 y11 y12 y13 y14 y15 y16 y17 y18 y19 y20 y21) (tautochronelaw18_want.l3 (k + 1) y0 y1 y2 y3 y4 y5 y6 y7 y8 y9 y10 y11 y12 y13 y14 y15 y16 y17 y18 y19 y20 y21)) ∧ (∀ y0 y1 y2 y3 y4 y5 y6 y7 y8 y9 y10, LeO (tautochronelaw18_want.l4 k y0 y1 y2 y3 y4 y5 y6 y7 y8 y9 y10) (tautochronelaw18_want.l4 (k + 1) y0 y1 y2 y3 y4 y5 y6 y7 y8 y9 y10)) ∧ (∀ y0 y1 y2 y3 y4 y5 y6 y7 y8 y9 y10 y11 y12 y13, LeO (tautochronelaw18_want.l5 k y0 y1 y2 y3 y4 y5 y6 y7 y8 y9 y10 y11 y12 y13) (tautochronelaw18_want.l5 (k + 1) y0 y1 y2 y3 y4 y5 y6 y7 y8 y9 y10 y11 y12 y13))
 | 0 => ⟨fun _ _ _ _ _ _ _ r h => by simp [tautochronelaw18_want.l0] at h, fun _ _ _ _ _ _ r h => by simp [tautochronelaw18_want.l1] at h, fun _ _ _ _ _ _ _ _ _ _ _ _ _ _ _ _ _ _ r h => by simp [tautochronelaw18_want.l2] at h, fun _ _ _ _ _ _ _ _ _ _ _ _ _ _ _ _ _ _ _ _ _ _ r h => by simp [tautochronelaw18_want.l3] at h, fun _ _ _ _ _ _ _ _ _ _ _ r h => by simp [tautochronelaw18_want.l4] at h, fun _ _ _ _ _ _ _ _ _ _ _ _ _ _ r h => by simp [tautochronelaw18_want.l5] at h⟩
 | k + 1 => by
  obtain ⟨ih0, ih1, ih2, ih3, ih4, ih5⟩ := tautochronelaw18_want.mono_l k
  refine ⟨?_, ?_, ?_, ?_, ?_, ?_⟩
  ·intro y0 y1 y2 y3 y4 y5 y6
   unfold tautochronelaw18_want.l0
   repeat' first
   | (with_reducible exact ih0 _ _ _ _ _ _ _)
   | (with_reducible exact ih1 _ _ _ _ _ _)
   | (with_reducible exact ih2 _ _ _ _ _ _ _ _ _ _ _ _ _ _ _ _ _ _)
   | (with_reducible exact ih3 _ _ _ _ _ _ _ _ _ _ _ _ _ _ _ _ _ _ _ _ _ _)
   | (with_reducible exact ih4 _ _ _ _ _ _ _ _ _ _ _)
   | (with_reducible exact ih5 _ _ _ _ _ _ _ _ _ _ _ _ _ _)
   | (with_reducible exact code_Next.mono _ _ _ _ _ _ _ _ _ _ _)
   | (with_reducible exact code_Values.mono _ _)
   | (with_reducible exact live_Of.mono _ _)
   | (with_reducible exact LeO.refl _)
   | (with_reducible exact LeO.none _)
   | (with_reducible refine LeO.ite ?_ ?_)
   | (with_reducible refine LeO.bind ?_ (fun _ => ?_))
   | exact ih0 _ _ _ _ _ _ _
   | exact ih1 _ _ _ _ _ _
   | exact ih2 _ _ _ _ _ _ _ _ _ _ _ _ _ _ _ _ _ _
   | exact ih3 _ _ _ _ _ _ _ _ _ _ _ _ _ _ _ _ _ _ _ _ _ _
   | exact ih4 _ _ _ _ _ _ _ _ _ _ _
   | exact ih5 _ _ _ _ _ _ _ _ _ _ _ _ _ _
   | exact code_Next.mono _ _ _ _ _ _ _ _ _ _ _
   | exact code_Values.mono _ _
   | exact live_Of.mono _ _
   | exact LeO.none _
   | refine LeO.ite ?_ ?_
   | refine LeO.bind ?_ (fun _ => ?_)
  ·intro y0 y1 y2 y3 y4 y5
   unfold tautochronelaw18_want.l1
   repeat' first
   | (with_reducible exact ih0 _ _ _ _ _ _ _)
   | (with_reducible exact ih1 _ _ _ _ _ _)
   | (with_reducible exact ih2 _ _ _ _ _ _ _ _ _ _ _ _ _ _ _ _ _ _)
   | (with_reducible exact ih3 _ _ _ _ _ _ _ _ _ _ _ _ _ _ _ _ _ _ _ _ _ _)
   | (with_reducible exact ih4 _ _ _ _ _ _ _ _ _ _ _)
   | (with_reducible exact ih5 _ _ _ _ _ _ _ _ _ _ _ _ _ _)
   | (with_reducible exact code_Next.mono _ _ _ _ _ _ _ _ _ _ _)
   | (with_reducible exact code_Values.mono _ _)
   | (with_reducible exact live_Of.mono _ _)
   | (with_reducible exact LeO.refl _)
   | (with_reducible exact LeO.none _)
   | (with_reducible refine LeO.ite ?_ ?_)
   | (with_reducible refine LeO.bind ?_ (fun _ => ?_))
   | exact ih0 _ _ _ _ _ _ _
   | exact ih1 _ _ _ _ _ _
   | exact ih2 _ _ _ _ _ _ _ _ _ _ _ _ _ _ _ _ _ _
   | exact ih3 _ _ _ _ _ _ _ _ _ _ _ _ _ _ _ _ _ _ _ _ _ _
   | exact ih4 _ _ _ _ _ _ _ _ _ _ _
   | exact ih5 _ _ _ _ _ _ _ _ _ _ _ _ _ _
   | exact code_Next.mono _ _ _ _ _ _ _ _ _ _ _
   | exact code_Values.mono _ _
   | exact live_Of.mono _ _
   | exact LeO.none _
   | refine LeO.ite ?_ ?_
   | refine LeO.bind ?_ (fun _ => ?_)
  ·intro y0 y1 y2 y3 y4 y5 y6 y7 y8 y9 y10 y11 y12 y13 y14 y15 y16 y17
   unfold tautochronelaw18_want.l2
   repeat' first
   | (with_reducible exact ih0 _ _ _ _ _ _ _)
   | (with_reducible exact ih1 _ _ _ _ _ _)
   | (with_reducible exact ih2 _ _ _ _ _ _ _ _ _ _ _ _ _ _ _ _ _ _)
   | (with_reducible exact ih3 _ _ _ _ _ _ _ _ _ _ _ _ _ _ _ _ _ _ _ _ _ _)
   | (with_reducible exact ih4 _ _ _ _ _ _ _ _ _ _ _)
   | (with_reducible exact ih5 _ _ _ _ _ _ _ _ _ _ _ _ _ _)
   | (with_reducible exact code_Next.mono _ _ _ _ _ _ _ _ _ _ _)
   | (with_reducible exact code_Values.mono _ _)
   | (with_reducible exact live_Of.mono _ _)
   | (with_reducible exact LeO.refl _)
   | (with_reducible exact LeO.none _)
   | (with_reducible refine LeO.ite ?_ ?_)
   | (with_reducible refine LeO.bind ?_ (fun _ => ?_))
   | exact ih0 _ _ _ _ _ _ _
   | exact ih1 _ _ _ _ _ _
   | exact ih2 _ _ _ _ _ _ _ _ _ _ _ _ _ _ _ _ _ _
   | exact ih3 _ _ _ _ _ _ _ _ _ _ _ _ _ _ _ _ _ _ _ _ _ _
   | exact ih4 _ _ _ _ _ _ _ _ _ _ _
   | exact ih5 _ _ _ _ _ _ _ _ _ _ _ _ _ _
   | exact code_Next.mono _ _ _ _ _ _ _ _ _ _ _
   | exact code_Values.mono _ _
   | exact live_Of.mono _ _
   | exact LeO.none _
   | refine LeO.ite ?_ ?_
   | refine LeO.bind ?_ (fun _ => ?_)
  ·intro y0 y1 y2 y3 y4 y5 y6 y7 y8 y9 y10 y11 y12 y13 y14 y15 y16 y17 y18 y19 y20 y21
   unfold tautochronelaw18_want.l3
   repeat' first
   | (with_reducible exact ih0 _ _ _ _ _ _ _)
   | (with_reducible exact ih1 _ _ _ _ _ _)
   | (with_reducible exact ih2 _ _ _ _ _ _ _ _ _ _ _ _ _ _ _ _ _ _)
   | (with_reducible exact ih3 _ _ _ _ _ _ _ _ _ _ _ _ _ _ _ _ _ _ _ _ _ _)
   | (with_reducible exact ih4 _ _ _ _ _ _ _ _ _ _ _)
   | (with_reducible exact ih5 _ _ _ _ _ _ _ _ _ _ _ _ _ _)
   | (with_reducible exact code_Next.mono _ _ _ _ _ _ _ _ _ _ _)
   | (with_reducible exact code_Values.mono _ _)
   | (with_reducible exact live_Of.mono _ _)
   | (with_reducible exact LeO.refl _)
   | (with_reducible exact LeO.none _)
   | (with_reducible refine LeO.ite ?_ ?_)
   | (with_reducible refine LeO.bind ?_ (fun _ => ?_))
   | exact ih0 _ _ _ _ _ _ _
   | exact ih1 _ _ _ _ _ _
   | exact ih2 _ _ _ _ _ _ _ _ _ _ _ _ _ _ _ _ _ _
   | exact ih3 _ _ _ _ _ _ _ _ _ _ _ _ _ _ _ _ _ _ _ _ _ _
   | exact ih4 _ _ _ _ _ _ _ _ _ _ _
   | exact ih5 _ _ _ _ _ _ _ _ _ _ _ _ _ _
   | exact code_Next.mono _ _ _ _ _ _ _ _ _ _ _
   | exact code_Values.mono _ _
   | exact live_Of.mono _ _
   | exact LeO.none _
   | refine LeO.ite ?_ ?_
   | refine LeO.bind ?_ (fun _ => ?_)
  ·intro y0 y1 y2 y3 y4 y5 y6 y7 y8 y9 y10
   unfold tautochronelaw18_want.l4
   repeat' first
   | (with_reducible exact ih0 _ _ _ _ _ _ _)
   | (with_reducible exact ih1 _ _ _ _ _ _)
   | (with_reducible exact ih2 _ _ _ _ _ _ _ _ _ _ _ _ _ _ _ _ _ _)
   | (with_reducible exact ih3 _ _ _ _ _ _ _ _ _ _ _ _ _ _ _ _ _ _ _ _ _ _)
   | (with_reducible exact ih4 _ _ _ _ _ _ _ _ _ _ _)
   | (with_reducible exact ih5 _ _ _ _ _ _ _ _ _ _ _ _ _ _)
   | (with_reducible exact code_Next.mono _ _ _ _ _ _ _ _ _ _ _)
   | (with_reducible exact code_Values.mono _ _)
   | (with_reducible exact live_Of.mono _ _)
   | (with_reducible exact LeO.refl _)
   | (with_reducible exact LeO.none _)
   | (with_reducible refine LeO.ite ?_ ?_)
   | (with_reducible refine LeO.bind ?_ (fun _ => ?_))
   | exact ih0 _ _ _ _ _ _ _
   | exact ih1 _ _ _ _ _ _
   | exact ih2 _ _ _ _ _ _ _ _ _ _ _ _ _ _ _ _ _ _
   | exact ih3 _ _ _ _ _ _ _ _ _ _ _ _ _ _ _ _ _ _ _ _ _ _
   | exact ih4 _ _ _ _ _ _ _ _ _ _ _
   | exact ih5 _ _ _ _ _ _ _ _ _ _ _ _ _ _
   | exact code_Next.mono _ _ _ _ _ _ _ _ _ _ _
   | exact code_Values.mono _ _
   | exact live_Of.mono _ _
   | exact LeO.none _
   | refine LeO.ite ?_ ?_
   | refine LeO.bind ?_ (fun _ => ?_)
  ·intro y0 y1 y2 y3 y4 y5 y6 y7 y8 y9 y10 y11 y12 y13
   unfold tautochronelaw18_want.l5
   repeat' first
   | (with_reducible exact ih0 _ _ _ _ _ _ _)
   | (with_reducible exact ih1 _ _ _ _ _ _)
   | (with_reducible exact ih2 _ _ _ _ _ _ _ _ _ _ _ _ _ _ _ _ _ _)
   | (with_reducible exact ih3 _ _ _ _ _ _ _ _ _ _ _ _ _ _ _ _ _ _ _ _ _ _)
   | (with_reducible exact ih4 _ _ _ _ _ _ _ _ _ _ _)
   | (with_reducible exact ih5 _ _ _ _ _ _ _ _ _ _ _ _ _ _)
   | (with_reducible exact code_Next.mono _ _ _ _ _ _ _ _ _ _ _)
   | (with_reducible exact code_Values.mono _ _)
   | (with_reducible exact live_Of.mono _ _)
   | (with_reducible exact LeO.refl _)
   | (with_reducible exact LeO.none _)
   | (with_reducible refine LeO.ite ?_ ?_)
   | (with_reducible refine LeO.bind ?_ (fun _ => ?_))
   | exact ih0 _ _ _ _ _ _ _
   | exact ih1 _ _ _ _ _ _
   | exact ih2 _ _ _ _ _ _ _ _ _ _ _ _ _ _ _ _ _ _
   | exact ih3 _ _ _ _ _ _ _ _ _ _ _ _ _ _ _ _ _ _ _ _ _ _
   | exact ih4 _ _ _ _ _ _ _ _ _ _ _
   | exact ih5 _ _ _ _ _ _ _ _ _ _ _ _ _ _
   | exact code_Next.mono _ _ _ _ _ _ _ _ _ _ _
   | exact code_Values.mono _ _
   | exact live_Of.mono _ _
   | exact LeO.none _
   | refine LeO.ite ?_ ?_
   | refine LeO.bind ?_ (fun _ => ?_)
theorem tautochronelaw18_want.mono : ∀ a0 a1 a2 a3 k, LeO (tautochronelaw18_want.f k a0 a1 a2 a3) (tautochronelaw18_want.f (k + 1) a0 a1 a2 a3) := by
 intro a0 a1 a2 a3 k
 obtain ⟨ih0, ih1, ih2, ih3, ih4, ih5⟩ := tautochronelaw18_want.mono_l k
 unfold tautochronelaw18_want.f
 repeat' first
   | (with_reducible exact ih0 _ _ _ _ _ _ _)
   | (with_reducible exact ih1 _ _ _ _ _ _)
   | (with_reducible exact ih2 _ _ _ _ _ _ _ _ _ _ _ _ _ _ _ _ _ _)
   | (with_reducible exact ih3 _ _ _ _ _ _ _ _ _ _ _ _ _ _ _ _ _ _ _ _ _ _)
   | (with_reducible exact ih4 _ _ _ _ _ _ _ _ _ _ _)
   | (with_reducible exact ih5 _ _ _ _ _ _ _ _ _ _ _ _ _ _)
   | (with_reducible exact code_Next.mono _ _ _ _ _ _ _ _ _ _ _)
   | (with_reducible exact code_Values.mono _ _)
   | (with_reducible exact live_Of.mono _ _)
   | (with_reducible exact LeO.refl _)
   | (with_reducible exact LeO.none _)
   | (with_reducible refine LeO.ite ?_ ?_)
   | (with_reducible refine LeO.bind ?_ (fun _ => ?_))
   | exact ih0 _ _ _ _ _ _ _
   | exact ih1 _ _ _ _ _ _
   | exact ih2 _ _ _ _ _ _ _ _ _ _ _ _ _ _ _ _ _ _
   | exact ih3 _ _ _ _ _ _ _ _ _ _ _ _ _ _ _ _ _ _ _ _ _ _
   | exact ih4 _ _ _ _ _ _ _ _ _ _ _
   | exact ih5 _ _ _ _ _ _ _ _ _ _ _ _ _ _
   | exact code_Next.mono _ _ _ _ _ _ _ _ _ _ _
   | exact code_Values.mono _ _
   | exact live_Of.mono _ _
   | exact LeO.none _
   | refine LeO.ite ?_ ?_
   | refine LeO.bind ?_ (fun _ => ?_)
set_option maxHeartbeats 8000000 in
set_option maxRecDepth 100000 in
theorem tautochronelaw18_want.calls (k : Nat) (A0 : Option Addr) (c0 : Nat) (l0 : List (S37)) (A1 : Option Addr) (c1 : Nat) (l1 : List Int) (a2 : Int) (a3 : Int) (r : Bool) (w : World) (hr0 : Kd.C k37 w A0 l0.length l0) (hc0 : l0.length ≤ c0) (hr1 : Kd.C (Kd.int .i64) w A1 l1.length l1) (hc1 : l1.length ≤ c1) (h : tautochronelaw18_want.f k l0 l1 a2 a3 = some r) :
  Calls Try.prog 11 #[.slice A0 l0.length c0, .slice A1 l1.length c1, .int .i64 a2, .int .i64 a3] w fun e w' => e = .returned (.bool r) ∧ Below w.heap.size w w' := by
 have hu37 := Try.underlying37
 have HR0 := Aside0.mk hr0
 have HC0 := Aside0.mk hc0
 clear hr0 hc0
 have HR1 := Aside0.mk hr1
 have HC1 := Aside0.mk hc1
 clear hr1 hc1
 have HB := Aside0.mk (Below.refl w.heap.size w)
 have H : ((code_Values.f k l0).bind fun t195 => (if (l1.length : Int) = t195 then (tautochronelaw18_want.l0 k l0 l1 a2 a3 l1 (l1.length : Int) 0) else (some false))) = some r := h
 clear h
 replace H := Option.bind_eq_some_iff.mp H
 obtain ⟨t195, A50, H⟩ := H
 replace H : (if (l1.length : Int) = t195 then (tautochronelaw18_want.l0 k l0 l1 a2 a3 l1 (l1.length : Int) 0) else (some false)) = some r := H
 have A5 := Aside0.mk A50
 clear A50
 by_cases c6 : (l1.length : Int) = t195
 ·rw [if_pos c6] at H
  have c6b0 : ((l1.length : Int) == t195) = true := beq_iff_eq.mpr c6
  have c6b1 : ((l1.length : Int) != t195) = false := bne_eq_false_iff_eq.mpr c6
  clear c6
  have H' := Aside0.mk H
  clear H
  go_enter Try.func11, Try.ntmps11
  go_wp2_with (first | (go_at_call 9; (with_reducible refine (code_Values.calls k _ _ l0 t195 _ ?side1 ?side2 A5.out).mono ?_); (case side1 => repeat (first | exact HR0.out | (with_reducible refine Kd.C_alloc ?_ _) | (with_reducible refine Kd.C_drewN ?_ _) | (with_reducible refine Kd.C_drew ?_))); (case side2 => exact HC0.out); rintro e w7 ⟨rfl, hb⟩; have n0_ := Aside0.mk (below_step (by repeat (first | (with_reducible first | exact HB.out | apply below_alloc | apply pw_below_drewN | apply below_drew1) | exact HB.out)) hb); clear HB; have HB := n0_; clear n0_; (try clear hb); (try clear hb2); (try clear hk); (try clear hi)))
  repeat (go_quiet (first | (go_at_call 9; (with_reducible refine (code_Values.calls k _ _ l0 t195 _ ?side1 ?side2 A5.out).mono ?_); (case side1 => repeat (first | exact HR0.out | (with_reducible refine Kd.C_alloc ?_ _) | (with_reducible refine Kd.C_drewN ?_ _) | (with_reducible refine Kd.C_drew ?_))); (case side2 => exact HC0.out); rintro e w7 ⟨rfl, hb⟩; have n0_ := Aside0.mk (below_step (by repeat (first | (with_reducible first | exact HB.out | apply below_alloc | apply pw_below_drewN | apply below_drew1) | exact HB.out)) hb); clear HB; have HB := n0_; clear n0_; (try clear hb); (try clear hb2); (try clear hk); (try clear hi))); try go_wp2_with (first | (go_at_call 9; (with_reducible refine (code_Values.calls k _ _ l0 t195 _ ?side1 ?side2 A5.out).mono ?_); (case side1 => repeat (first | exact HR0.out | (with_reducible refine Kd.C_alloc ?_ _) | (with_reducible refine Kd.C_drewN ?_ _) | (with_reducible refine Kd.C_drew ?_))); (case side2 => exact HC0.out); rintro e w7 ⟨rfl, hb⟩; have n0_ := Aside0.mk (below_step (by repeat (first | (with_reducible first | exact HB.out | apply below_alloc | apply pw_below_drewN | apply below_drew1) | exact HB.out)) hb); clear HB; have HB := n0_; clear n0_; (try clear hb); (try clear hb2); (try clear hk); (try clear hi))))
  go_loopg [31] k (fun kq v31 w' => ∃ (x31_1 : Int), v31 = .int .i64 x31_1 ∧ Aside0 (tautochronelaw18_want.l0 kq l0 l1 a2 a3 l1 (l1.length : Int) x31_1 = some r) ∧ Aside0 (kq ≤ k) ∧ Aside0 (Below w.heap.size w w'))
  case atStart => exact ⟨(0), (by first | rfl | (simp; done) | (simp [*]; done)), H', ⟨Nat.le_refl _⟩, ⟨by repeat (first | (with_reducible first | exact HB.out | apply below_alloc | apply pw_below_drewN | apply below_drew1) | exact HB.out)⟩⟩
  case round =>
   clear H'
   try clear c1
   try clear p2
   try clear c6
   try clear c6b0
   try clear c6b1
   obtain ⟨x31_1, rfl, HA, HK1, HB⟩ := hrel
   cases gk with
   | zero => exact absurd HA.out (by simp [tautochronelaw18_want.l0])
   | succ k1 =>
    have H := HA.out
    clear HA
    simp only [tautochronelaw18_want.l0] at H
    by_cases c8 : x31_1 < (l1.length : Int)
    ·rw [if_pos c8] at H
     have c8b0 : decide (x31_1 < (l1.length : Int)) = true := decide_eq_true c8
     clear c8
     by_cases c9 : 0 ≤ x31_1
     rotate_left
     ·rw [if_neg c9] at H; exact absurd H (by simp)
     rw [if_pos c9] at H
     have c9b0 : decide (0 ≤ x31_1) = true := decide_eq_true c9
     clear c9
     by_cases c10 : x31_1 < (l1.length : Int)
     rotate_left
     ·rw [if_neg c10] at H; exact absurd H (by simp)
     rw [if_pos c10] at H
     have c10b0 : decide (x31_1 < (l1.length : Int)) = true := decide_eq_true c10
     clear c10
     by_cases c11 : (rd l1 x31_1) ≥ a2
     ·rw [if_pos c11] at H
      have c11b0 : decide (a2 ≤ (rd l1 x31_1)) = true := decide_eq_true c11
      clear c11
      obtain rfl := Option.some.inj H
      have p196 : 0 ≤ (x31_1 : Int) := of_decide_eq_true (by first | (with_reducible assumption) | assumption)
      have q196 : x31_1 < (l1.length : Int) := of_decide_eq_true (by first | (with_reducible assumption) | assumption)
      obtain ⟨ad196, e196, hx196_0⟩ := Kd.at_int HR1.out x31_1 p196 q196
      cases e196
      try (replace hx196_0 := (HB.out.cell (World.block_lt_of_cell? w _ hx196_0)).trans hx196_0)
      replace p196 := eq_true p196
      replace q196 := eq_true q196
      go_wp2
      repeat (go_quiet (fail); try go_wp2)
      go_ret
      exact ⟨by first | rfl | (simp [errW_none, errW_some] <;> rfl) | (simp [*, errW_none, errW_some] <;> rfl), by repeat (first | (with_reducible first | exact HB.out | apply below_alloc | apply pw_below_drewN | apply below_drew1) | exact HB.out)⟩
     ·rw [if_neg c11] at H
      have c11b0 : decide (a2 ≤ (rd l1 x31_1)) = false := decide_eq_false c11
      clear c11
      by_cases c12 : (rd l1 x31_1) < (wrap64 (-a3))
      ·rw [if_pos c12] at H
       have c12b0 : decide ((rd l1 x31_1) < (wrap64 (-a3))) = true := decide_eq_true c12
       clear c12
       obtain rfl := Option.some.inj H
       have p196 : 0 ≤ (x31_1 : Int) := of_decide_eq_true (by first | (with_reducible assumption) | assumption)
       have q196 : x31_1 < (l1.length : Int) := of_decide_eq_true (by first | (with_reducible assumption) | assumption)
       obtain ⟨ad196, e196, hx196_0⟩ := Kd.at_int HR1.out x31_1 p196 q196
       cases e196
       try (replace hx196_0 := (HB.out.cell (World.block_lt_of_cell? w _ hx196_0)).trans hx196_0)
       replace p196 := eq_true p196
       replace q196 := eq_true q196
       go_wp2
       repeat (go_quiet (fail); try go_wp2)
       go_ret
       exact ⟨by first | rfl | (simp [errW_none, errW_some] <;> rfl) | (simp [*, errW_none, errW_some] <;> rfl), by repeat (first | (with_reducible first | exact HB.out | apply below_alloc | apply pw_below_drewN | apply below_drew1) | exact HB.out)⟩
      ·rw [if_neg c12] at H
       have c12b0 : decide ((rd l1 x31_1) < (wrap64 (-a3))) = false := decide_eq_false c12
       clear c12
       have H' := Aside0.mk H
       clear H
       have p196 : 0 ≤ (x31_1 : Int) := of_decide_eq_true (by first | (with_reducible assumption) | assumption)
       have q196 : x31_1 < (l1.length : Int) := of_decide_eq_true (by first | (with_reducible assumption) | assumption)
       obtain ⟨ad196, e196, hx196_0⟩ := Kd.at_int HR1.out x31_1 p196 q196
       cases e196
       try (replace hx196_0 := (HB.out.cell (World.block_lt_of_cell? w _ hx196_0)).trans hx196_0)
       replace p196 := eq_true p196
       replace q196 := eq_true q196
       go_wp2
       repeat (go_quiet (fail); try go_wp2)
       go_roundg k1
       case measure => have := HK1.out; omega
       case rel => exact ⟨(wrap64 (x31_1 + 1)), (by first | rfl | (simp; done) | (simp [*]; done)), H', ⟨by have := HK1.out; omega⟩, ⟨by repeat (first | (with_reducible first | exact HB.out | apply below_alloc | apply pw_below_drewN | apply below_drew1) | exact HB.out)⟩⟩
    ·rw [if_neg c8] at H
     have c8b0 : decide (x31_1 < (l1.length : Int)) = false := decide_eq_false c8
     clear c8
     replace H := Option.bind_eq_some_iff.mp H
     obtain ⟨t197, A130, H⟩ := H
     replace H : (tautochronelaw18_want.l1 k1 l0 l1 t197 l0 (l0.length : Int) 0) = some r := H
     have A13 := Aside0.mk A130
     clear A130
     have H' := Aside0.mk H
     clear H
     go_wp2_with (first | (go_at_call 15; (with_reducible refine (live_Of.calls k1 _ _ l0 t197 _ ?side1 ?side2 A13.out).mono ?_); (case side1 => repeat (first | exact (Kd.C_below HR0.out HB.out) | (with_reducible refine Kd.C_alloc ?_ _) | (with_reducible refine Kd.C_drewN ?_ _) | (with_reducible refine Kd.C_drew ?_))); (case side2 => exact HC0.out); rintro e w14 ⟨v198, rfl, ho0, hb⟩; have n0_ := Aside0.mk (Kd.S_lower ho0 (below_size (by repeat (first | (with_reducible first | exact HB.out | apply below_alloc | apply pw_below_drewN | apply below_drew1) | exact HB.out)))); have n1_ := Aside0.mk (below_step (by repeat (first | (with_reducible first | exact HB.out | apply below_alloc | apply pw_below_drewN | apply below_drew1) | exact HB.out)) hb); clear HB; have HO199 := n0_; have HB := n1_; clear n0_ n1_; (try clear hb); (try clear hb2); (try clear hk); (try clear hi); (try clear ho0)))
     repeat (go_quiet (first | (go_at_call 15; (with_reducible refine (live_Of.calls k1 _ _ l0 t197 _ ?side1 ?side2 A13.out).mono ?_); (case side1 => repeat (first | exact (Kd.C_below HR0.out HB.out) | (with_reducible refine Kd.C_alloc ?_ _) | (with_reducible refine Kd.C_drewN ?_ _) | (with_reducible refine Kd.C_drew ?_))); (case side2 => exact HC0.out); rintro e w14 ⟨v198, rfl, ho0, hb⟩; have n0_ := Aside0.mk (Kd.S_lower ho0 (below_size (by repeat (first | (with_reducible first | exact HB.out | apply below_alloc | apply pw_below_drewN | apply below_drew1) | exact HB.out)))); have n1_ := Aside0.mk (below_step (by repeat (first | (with_reducible first | exact HB.out | apply below_alloc | apply pw_below_drewN | apply below_drew1) | exact HB.out)) hb); clear HB; have HO199 := n0_; have HB := n1_; clear n0_ n1_; (try clear hb); (try clear hb2); (try clear hk); (try clear hi); (try clear ho0))); try go_wp2_with (first | (go_at_call 15; (with_reducible refine (live_Of.calls k1 _ _ l0 t197 _ ?side1 ?side2 A13.out).mono ?_); (case side1 => repeat (first | exact (Kd.C_below HR0.out HB.out) | (with_reducible refine Kd.C_alloc ?_ _) | (with_reducible refine Kd.C_drewN ?_ _) | (with_reducible refine Kd.C_drew ?_))); (case side2 => exact HC0.out); rintro e w14 ⟨v198, rfl, ho0, hb⟩; have n0_ := Aside0.mk (Kd.S_lower ho0 (below_size (by repeat (first | (with_reducible first | exact HB.out | apply below_alloc | apply pw_below_drewN | apply below_drew1) | exact HB.out)))); have n1_ := Aside0.mk (below_step (by repeat (first | (with_reducible first | exact HB.out | apply below_alloc | apply pw_below_drewN | apply below_drew1) | exact HB.out)) hb); clear HB; have HO199 := n0_; have HB := n1_; clear n0_ n1_; (try clear hb); (try clear hb2); (try clear hk); (try clear hi); (try clear ho0))))
     go_loopg [49] k1 (fun kq v49 w' => ∃ (x49_2 : Int), v49 = .int .i64 x49_2 ∧ Aside0 (tautochronelaw18_want.l1 kq l0 l1 t197 l0 (l0.length : Int) x49_2 = some r) ∧ Aside0 (kq ≤ k1) ∧ Aside0 (Kd.S (Kd.slice 3 (Kd.int .i64)) 28 w' w.heap.size (fun _ => True) v198 t197) ∧ Aside0 (Below w.heap.size w w'))
     case atStart => exact ⟨(0), (by first | rfl | (simp; done) | (simp [*]; done)), H', ⟨Nat.le_refl _⟩, ⟨by (with_reducible repeat (first | apply Kd.S_alloc | apply Kd.S_drewN | apply Kd.S_drew)); exact HO199.out⟩, ⟨by repeat (first | (with_reducible first | exact HB.out | apply below_alloc | apply pw_below_drewN | apply below_drew1) | exact HB.out)⟩⟩
     case round =>
      clear H'
      try clear c1
      try clear p1
      try clear q1
      try clear hx1
      try clear p2
      try clear c6
      try clear c6b0
      try clear c6b1
      try clear p6
      try clear c8
      try clear c8b0
      try clear c9
      try clear c9b0
      try clear c10
      try clear c10b0
      try clear c11
      try clear c11b0
      try clear c12
      try clear c12b0
      try clear hx196_0
      try clear p196
      try clear p2
      try clear q196
      obtain ⟨x49_2, rfl, HA, HK2, HO_11, HB⟩ := hrel
      cases gk with
      | zero => exact absurd HA.out (by simp [tautochronelaw18_want.l1])
      | succ k2 =>
       have H := HA.out
       clear HA
       simp only [tautochronelaw18_want.l1] at H
       by_cases c15 : x49_2 < (l0.length : Int)
       ·rw [if_pos c15] at H
        have c15b0 : decide (x49_2 < (l0.length : Int)) = true := decide_eq_true c15
        clear c15
        by_cases c16 : 0 ≤ x49_2
        rotate_left
        ·rw [if_neg c16] at H; exact absurd H (by simp)
        rw [if_pos c16] at H
        have c16b0 : decide (0 ≤ x49_2) = true := decide_eq_true c16
        clear c16
        by_cases c17 : x49_2 < (l0.length : Int)
        rotate_left
        ·rw [if_neg c17] at H; exact absurd H (by simp)
        rw [if_pos c17] at H
        have c17b0 : decide (x49_2 < (l0.length : Int)) = true := decide_eq_true c17
        clear c17
        by_cases c18 : x49_2 < (t197.length : Int)
        rotate_left
        ·rw [if_neg c18] at H; exact absurd H (by simp)
        rw [if_pos c18] at H
        have c18b0 : decide (x49_2 < (t197.length : Int)) = true := decide_eq_true c18
        clear c18
        have H' := Aside0.mk H
        clear H
        have p200 : 0 ≤ (x49_2 : Int) := of_decide_eq_true (by first | (with_reducible assumption) | assumption)
        have q200 : x49_2 < (l0.length : Int) := of_decide_eq_true (by first | (with_reducible assumption) | assumption)
        obtain ⟨ad200, e200, hx200_0, hx200_1, hx200_2, hx200_3, hx200_4, hx200_5, hx200_6, hx200_7⟩ := at_T37 HR0.out x49_2 p200 q200
        cases e200
        try (replace hx200_0 := (HB.out.cell (World.block_lt_of_cell? w _ hx200_0)).trans hx200_0)
        try (replace hx200_1 := (HB.out.cell (World.block_lt_of_cell? w _ hx200_1)).trans hx200_1)
        try (replace hx200_2 := (HB.out.cell (World.block_lt_of_cell? w _ hx200_2)).trans hx200_2)
        try (replace hx200_3 := (HB.out.cell (World.block_lt_of_cell? w _ hx200_3)).trans hx200_3)
        try (replace hx200_4 := (HB.out.cell (World.block_lt_of_cell? w _ hx200_4)).trans hx200_4)
        try (replace hx200_5 := (HB.out.cell (World.block_lt_of_cell? w _ hx200_5)).trans hx200_5)
        try (replace hx200_6 := (HB.out.cell (World.block_lt_of_cell? w _ hx200_6)).trans hx200_6)
        try (replace hx200_7 := (HB.out.cell (World.block_lt_of_cell? w _ hx200_7)).trans hx200_7)
        replace p200 := eq_true p200
        replace q200 := eq_true q200
        go_wp2_with (first | ((with_reducible refine gate_dst (N := 13) rfl ?_); refine box_event ?hg (N := 13) ?hd (cs := #[.int .i64 0, .int .i64 0, .int .i64 0, .int .i64 0, .int .i64 0, .int .i64 0, .int .u64 0, .int .i64 0]) (t := 37) ?hr ?_; (case hd => rfl); (case hg => rfl); (case hr => first | (go_simp; done) | (go_simp; rfl)); intro gb201 hg w19 hbox hb; have n0_ := Aside0.mk (Kd.S_below (by (with_reducible repeat (first | apply Kd.S_alloc | apply Kd.S_drewN | apply Kd.S_drew)); exact HO_11.out) hb); have n1_ := Aside0.mk (below_step (by repeat (first | (with_reducible first | exact HB.out | apply below_alloc | apply pw_below_drewN | apply below_drew1) | exact HB.out)) hb); have n2_ := Aside0.mk (hbox); have n3_ := Aside0.mk ((by rw [hg]; exact (below_size (by repeat (first | (with_reducible first | exact HB.out | apply below_alloc | apply pw_below_drewN | apply below_drew1) | exact HB.out))) : w.heap.size ≤ gb201)); have n4_ := Aside0.mk ((by rw [hg]; exact (below_size (by repeat (first | (with_reducible first | exact HB.out | apply below_alloc | apply pw_below_drewN | apply below_drew1) | exact HB.out))) : w.heap.size ≤ gb201)); clear HO_11; clear HB; have HO_11 := n0_; have HB := n1_; have BK201 := n2_; have GW201 := n3_; have GE201 := n4_; clear n0_ n1_ n2_ n3_ n4_; clear hb hbox hg; have hcz20_0 : w19.cell? ⟨gb201, 0, none⟩ = some (.int .i64 0) := (blk_cell BK201.out 0).trans rfl; have hcz20_1 : w19.cell? ⟨gb201, 1, none⟩ = some (.int .i64 0) := (blk_cell BK201.out 1).trans rfl; have hcz20_2 : w19.cell? ⟨gb201, 2, none⟩ = some (.int .i64 0) := (blk_cell BK201.out 2).trans rfl; have hcz20_3 : w19.cell? ⟨gb201, 3, none⟩ = some (.int .i64 0) := (blk_cell BK201.out 3).trans rfl; have hcz20_4 : w19.cell? ⟨gb201, 4, none⟩ = some (.int .i64 0) := (blk_cell BK201.out 4).trans rfl; have hcz20_5 : w19.cell? ⟨gb201, 5, none⟩ = some (.int .i64 0) := (blk_cell BK201.out 5).trans rfl; have hcz20_6 : w19.cell? ⟨gb201, 6, none⟩ = some (.int .u64 0) := (blk_cell BK201.out 6).trans rfl; have hcz20_7 : w19.cell? ⟨gb201, 7, none⟩ = some (.int .i64 0) := (blk_cell BK201.out 7).trans rfl; have hfz20_0 := blk_frozen BK201.out 0; have hfz20_1 := blk_frozen BK201.out 1; have hfz20_2 := blk_frozen BK201.out 2; have hfz20_3 := blk_frozen BK201.out 3; have hfz20_4 := blk_frozen BK201.out 4; have hfz20_5 := blk_frozen BK201.out 5; have hfz20_6 := blk_frozen BK201.out 6; have hfz20_7 := blk_frozen BK201.out 7) | ((with_reducible refine gate_store (t := 37) (p := 13) rfl ?_); (try (rw [drewN_self w19]; generalize hq_ : World.drewN w19 _ = w19; have n0_ := Aside0.mk (Kd.S_at hq_ HO_11.out); have n1_ := Aside0.mk (blk_at hq_ BK201.out); have n2_ := Aside0.mk (below_at hq_ HB.out); clear hq_ HO_11 BK201 HB; have HO_11 := n0_; have BK201 := n1_; have HB := n2_; clear n0_ n1_ n2_)); refine store_event (t := 37) (p := 13) (v := ?vo_w21) (w1 := ((((((((w19.setCell ⟨gb201, 0, none⟩ (.int .i64 ((rd_T37 l0 x49_2).f0))).setCell ⟨gb201, 1, none⟩ (.int .i64 ((rd_T37 l0 x49_2).f1))).setCell ⟨gb201, 2, none⟩ (.int .i64 ((rd_T37 l0 x49_2).f2))).setCell ⟨gb201, 3, none⟩ (.int .i64 ((rd_T37 l0 x49_2).f3))).setCell ⟨gb201, 4, none⟩ (.int .i64 ((rd_T37 l0 x49_2).f4))).setCell ⟨gb201, 5, none⟩ (.int .i64 ((rd_T37 l0 x49_2).f5))).setCell ⟨gb201, 6, none⟩ (.int .u64 ((rd_T37 l0 x49_2).f6))).setCell ⟨gb201, 7, none⟩ (.int .i64 ((rd_T37 l0 x49_2).f7)))) ?hg ?ho ?hn ?hr ?_; (case ho => rfl); (case hg => rfl); (case hn => rfl); (case hr => first | (go_simp; done) | (go_simp; rfl)); intro w21 hw; have n0_ : Aside0 (Kd.S (Kd.slice 3 (Kd.int .i64)) 28 w21 w.heap.size (fun _ => True) v198 t197) := ⟨(by rw [hw]; exact (by (with_reducible repeat (first | apply Kd.S_alloc | apply Kd.S_drewN | apply Kd.S_drew)); exact Kd.S_mono (Kd.S_far (p := ⟨gb201, 7, none⟩) (Kd.S_far (p := ⟨gb201, 6, none⟩) (Kd.S_far (p := ⟨gb201, 5, none⟩) (Kd.S_far (p := ⟨gb201, 4, none⟩) (Kd.S_far (p := ⟨gb201, 3, none⟩) (Kd.S_far (p := ⟨gb201, 2, none⟩) (Kd.S_far (p := ⟨gb201, 1, none⟩) (Kd.S_far (p := ⟨gb201, 0, none⟩) (Kd.S_types HO_11.out BK201.out (by decide)) (fun _ hk => hk.2) (.int .i64 ((rd_T37 l0 x49_2).f0))) (fun _ hk => hk.2) (.int .i64 ((rd_T37 l0 x49_2).f1))) (fun _ hk => hk.2) (.int .i64 ((rd_T37 l0 x49_2).f2))) (fun _ hk => hk.2) (.int .i64 ((rd_T37 l0 x49_2).f3))) (fun _ hk => hk.2) (.int .i64 ((rd_T37 l0 x49_2).f4))) (fun _ hk => hk.2) (.int .i64 ((rd_T37 l0 x49_2).f5))) (fun _ hk => hk.2) (.int .u64 ((rd_T37 l0 x49_2).f6))) (fun _ hk => hk.2) (.int .i64 ((rd_T37 l0 x49_2).f7))) (fun _ hk => trivial)))⟩; have n1_ : Aside0 (w21.heap[gb201]? = some (.cells #[.int .i64 ((rd_T37 l0 x49_2).f0), .int .i64 ((rd_T37 l0 x49_2).f1), .int .i64 ((rd_T37 l0 x49_2).f2), .int .i64 ((rd_T37 l0 x49_2).f3), .int .i64 ((rd_T37 l0 x49_2).f4), .int .i64 ((rd_T37 l0 x49_2).f5), .int .u64 ((rd_T37 l0 x49_2).f6), .int .i64 ((rd_T37 l0 x49_2).f7)] 37 (0, 0))) := ⟨(by rw [hw]; exact (by (with_reducible repeat (first | refine blk_drewN ?_ _ | refine blk_drew ?_ | refine blk_alloc ?_ _)); refine blk_put (cs := #[.int .i64 ((rd_T37 l0 x49_2).f0), .int .i64 ((rd_T37 l0 x49_2).f1), .int .i64 ((rd_T37 l0 x49_2).f2), .int .i64 ((rd_T37 l0 x49_2).f3), .int .i64 ((rd_T37 l0 x49_2).f4), .int .i64 ((rd_T37 l0 x49_2).f5), .int .u64 ((rd_T37 l0 x49_2).f6), .int .i64 0]) ?_ 7 _ rfl; refine blk_put (cs := #[.int .i64 ((rd_T37 l0 x49_2).f0), .int .i64 ((rd_T37 l0 x49_2).f1), .int .i64 ((rd_T37 l0 x49_2).f2), .int .i64 ((rd_T37 l0 x49_2).f3), .int .i64 ((rd_T37 l0 x49_2).f4), .int .i64 ((rd_T37 l0 x49_2).f5), .int .u64 0, .int .i64 0]) ?_ 6 _ rfl; refine blk_put (cs := #[.int .i64 ((rd_T37 l0 x49_2).f0), .int .i64 ((rd_T37 l0 x49_2).f1), .int .i64 ((rd_T37 l0 x49_2).f2), .int .i64 ((rd_T37 l0 x49_2).f3), .int .i64 ((rd_T37 l0 x49_2).f4), .int .i64 0, .int .u64 0, .int .i64 0]) ?_ 5 _ rfl; refine blk_put (cs := #[.int .i64 ((rd_T37 l0 x49_2).f0), .int .i64 ((rd_T37 l0 x49_2).f1), .int .i64 ((rd_T37 l0 x49_2).f2), .int .i64 ((rd_T37 l0 x49_2).f3), .int .i64 0, .int .i64 0, .int .u64 0, .int .i64 0]) ?_ 4 _ rfl; refine blk_put (cs := #[.int .i64 ((rd_T37 l0 x49_2).f0), .int .i64 ((rd_T37 l0 x49_2).f1), .int .i64 ((rd_T37 l0 x49_2).f2), .int .i64 0, .int .i64 0, .int .i64 0, .int .u64 0, .int .i64 0]) ?_ 3 _ rfl; refine blk_put (cs := #[.int .i64 ((rd_T37 l0 x49_2).f0), .int .i64 ((rd_T37 l0 x49_2).f1), .int .i64 0, .int .i64 0, .int .i64 0, .int .i64 0, .int .u64 0, .int .i64 0]) ?_ 2 _ rfl; refine blk_put (cs := #[.int .i64 ((rd_T37 l0 x49_2).f0), .int .i64 0, .int .i64 0, .int .i64 0, .int .i64 0, .int .i64 0, .int .u64 0, .int .i64 0]) ?_ 1 _ rfl; refine blk_put (cs := #[.int .i64 0, .int .i64 0, .int .i64 0, .int .i64 0, .int .i64 0, .int .i64 0, .int .u64 0, .int .i64 0]) ?_ 0 _ rfl; (with_reducible repeat (first | refine blk_drewN ?_ _ | refine blk_drew ?_ | refine blk_alloc ?_ _)); exact BK201.out))⟩; have n2_ : Aside0 (Below w.heap.size w w21) := ⟨(by rw [hw]; exact (by repeat (first | (with_reducible first | exact HB.out | apply below_alloc | apply pw_below_drewN | apply below_drew1 | refine below_set ?_ GE201.out) | exact HB.out)))⟩; clear hw; clear HO_11; clear BK201; clear HB; have HO_11 := n0_; have BK201 := n1_; have HB := n2_; clear n0_ n1_ n2_; obtain ⟨Ao22, co22, eo22⟩ := Kd.S_slice HO_11.out; subst eo22; have p202 : 0 ≤ (x49_2 : Int) := of_decide_eq_true (by first | (with_reducible assumption) | assumption); have q202 : x49_2 < (t197.length : Int) := of_decide_eq_true (by first | (with_reducible assumption) | assumption); obtain ⟨ad202, A202_0, c202_0, e202, hx202_0, hl202_0, hi202_0⟩ := at_L3 (Kd.S_reads' HO_11.out).2.2 x49_2 p202 q202; cases e202; obtain ⟨ce202, hce202, hMe202, hcc202⟩ := Kd.S_get HO_11.out [] x49_2 p202 (by first | exact q202 | exact of_decide_eq_true (by first | (with_reducible assumption) | assumption) | (have e_ := (Kd.S_reads' HO_11.out).1; omega)); obtain ⟨ve202_0, rfl, ge202_0⟩ := hMe202; have hv202_0 := hcc202 0 _ rfl; rw [Nat.add_zero, show ((Kd.slice 3 (Kd.int .i64))).sz = 1 from rfl, Nat.mul_one] at hv202_0; replace hv202_0 := Option.some.inj (hv202_0.symm.trans hx202_0); rw [hv202_0] at ge202_0; have HL202_0 := Aside0.mk (show Kd.R (Kd.int .i64) 3 _ _ _ _ (rd_L3 t197 x49_2) from ge202_0); clear hv202_0 ge202_0; clear hcc202 hce202; have HR202_0 := Aside0.mk hi202_0; have HC202_0 := Aside0.mk hl202_0; clear hi202_0 hl202_0; replace p202 := eq_true p202; replace q202 := eq_true q202))
        repeat (go_quiet (first | ((with_reducible refine gate_dst (N := 13) rfl ?_); refine box_event ?hg (N := 13) ?hd (cs := #[.int .i64 0, .int .i64 0, .int .i64 0, .int .i64 0, .int .i64 0, .int .i64 0, .int .u64 0, .int .i64 0]) (t := 37) ?hr ?_; (case hd => rfl); (case hg => rfl); (case hr => first | (go_simp; done) | (go_simp; rfl)); intro gb201 hg w19 hbox hb; have n0_ := Aside0.mk (Kd.S_below (by (with_reducible repeat (first | apply Kd.S_alloc | apply Kd.S_drewN | apply Kd.S_drew)); exact HO_11.out) hb); have n1_ := Aside0.mk (below_step (by repeat (first | (with_reducible first | exact HB.out | apply below_alloc | apply pw_below_drewN | apply below_drew1) | exact HB.out)) hb); have n2_ := Aside0.mk (hbox); have n3_ := Aside0.mk ((by rw [hg]; exact (below_size (by repeat (first | (with_reducible first | exact HB.out | apply below_alloc | apply pw_below_drewN | apply below_drew1) | exact HB.out))) : w.heap.size ≤ gb201)); have n4_ := Aside0.mk ((by rw [hg]; exact (below_size (by repeat (first | (with_reducible first | exact HB.out | apply below_alloc | apply pw_below_drewN | apply below_drew1) | exact HB.out))) : w.heap.size ≤ gb201)); clear HO_11; clear HB; have HO_11 := n0_; have HB := n1_; have BK201 := n2_; have GW201 := n3_; have GE201 := n4_; clear n0_ n1_ n2_ n3_ n4_; clear hb hbox hg; have hcz20_0 : w19.cell? ⟨gb201, 0, none⟩ = some (.int .i64 0) := (blk_cell BK201.out 0).trans rfl; have hcz20_1 : w19.cell? ⟨gb201, 1, none⟩ = some (.int .i64 0) := (blk_cell BK201.out 1).trans rfl; have hcz20_2 : w19.cell? ⟨gb201, 2, none⟩ = some (.int .i64 0) := (blk_cell BK201.out 2).trans rfl; have hcz20_3 : w19.cell? ⟨gb201, 3, none⟩ = some (.int .i64 0) := (blk_cell BK201.out 3).trans rfl; have hcz20_4 : w19.cell? ⟨gb201, 4, none⟩ = some (.int .i64 0) := (blk_cell BK201.out 4).trans rfl; have hcz20_5 : w19.cell? ⟨gb201, 5, none⟩ = some (.int .i64 0) := (blk_cell BK201.out 5).trans rfl; have hcz20_6 : w19.cell? ⟨gb201, 6, none⟩ = some (.int .u64 0) := (blk_cell BK201.out 6).trans rfl; have hcz20_7 : w19.cell? ⟨gb201, 7, none⟩ = some (.int .i64 0) := (blk_cell BK201.out 7).trans rfl; have hfz20_0 := blk_frozen BK201.out 0; have hfz20_1 := blk_frozen BK201.out 1; have hfz20_2 := blk_frozen BK201.out 2; have hfz20_3 := blk_frozen BK201.out 3; have hfz20_4 := blk_frozen BK201.out 4; have hfz20_5 := blk_frozen BK201.out 5; have hfz20_6 := blk_frozen BK201.out 6; have hfz20_7 := blk_frozen BK201.out 7) | ((with_reducible refine gate_store (t := 37) (p := 13) rfl ?_); (try (rw [drewN_self w19]; generalize hq_ : World.drewN w19 _ = w19; have n0_ := Aside0.mk (Kd.S_at hq_ HO_11.out); have n1_ := Aside0.mk (blk_at hq_ BK201.out); have n2_ := Aside0.mk (below_at hq_ HB.out); clear hq_ HO_11 BK201 HB; have HO_11 := n0_; have BK201 := n1_; have HB := n2_; clear n0_ n1_ n2_)); refine store_event (t := 37) (p := 13) (v := ?vo_w21) (w1 := ((((((((w19.setCell ⟨gb201, 0, none⟩ (.int .i64 ((rd_T37 l0 x49_2).f0))).setCell ⟨gb201, 1, none⟩ (.int .i64 ((rd_T37 l0 x49_2).f1))).setCell ⟨gb201, 2, none⟩ (.int .i64 ((rd_T37 l0 x49_2).f2))).setCell ⟨gb201, 3, none⟩ (.int .i64 ((rd_T37 l0 x49_2).f3))).setCell ⟨gb201, 4, none⟩ (.int .i64 ((rd_T37 l0 x49_2).f4))).setCell ⟨gb201, 5, none⟩ (.int .i64 ((rd_T37 l0 x49_2).f5))).setCell ⟨gb201, 6, none⟩ (.int .u64 ((rd_T37 l0 x49_2).f6))).setCell ⟨gb201, 7, none⟩ (.int .i64 ((rd_T37 l0 x49_2).f7)))) ?hg ?ho ?hn ?hr ?_; (case ho => rfl); (case hg => rfl); (case hn => rfl); (case hr => first | (go_simp; done) | (go_simp; rfl)); intro w21 hw; have n0_ : Aside0 (Kd.S (Kd.slice 3 (Kd.int .i64)) 28 w21 w.heap.size (fun _ => True) v198 t197) := ⟨(by rw [hw]; exact (by (with_reducible repeat (first | apply Kd.S_alloc | apply Kd.S_drewN | apply Kd.S_drew)); exact Kd.S_mono (Kd.S_far (p := ⟨gb201, 7, none⟩) (Kd.S_far (p := ⟨gb201, 6, none⟩) (Kd.S_far (p := ⟨gb201, 5, none⟩) (Kd.S_far (p := ⟨gb201, 4, none⟩) (Kd.S_far (p := ⟨gb201, 3, none⟩) (Kd.S_far (p := ⟨gb201, 2, none⟩) (Kd.S_far (p := ⟨gb201, 1, none⟩) (Kd.S_far (p := ⟨gb201, 0, none⟩) (Kd.S_types HO_11.out BK201.out (by decide)) (fun _ hk => hk.2) (.int .i64 ((rd_T37 l0 x49_2).f0))) (fun _ hk => hk.2) (.int .i64 ((rd_T37 l0 x49_2).f1))) (fun _ hk => hk.2) (.int .i64 ((rd_T37 l0 x49_2).f2))) (fun _ hk => hk.2) (.int .i64 ((rd_T37 l0 x49_2).f3))) (fun _ hk => hk.2) (.int .i64 ((rd_T37 l0 x49_2).f4))) (fun _ hk => hk.2) (.int .i64 ((rd_T37 l0 x49_2).f5))) (fun _ hk => hk.2) (.int .u64 ((rd_T37 l0 x49_2).f6))) (fun _ hk => hk.2) (.int .i64 ((rd_T37 l0 x49_2).f7))) (fun _ hk => trivial)))⟩; have n1_ : Aside0 (w21.heap[gb201]? = some (.cells #[.int .i64 ((rd_T37 l0 x49_2).f0), .int .i64 ((rd_T37 l0 x49_2).f1), .int .i64 ((rd_T37 l0 x49_2).f2), .int .i64 ((rd_T37 l0 x49_2).f3), .int .i64 ((rd_T37 l0 x49_2).f4), .int .i64 ((rd_T37 l0 x49_2).f5), .int .u64 ((rd_T37 l0 x49_2).f6), .int .i64 ((rd_T37 l0 x49_2).f7)] 37 (0, 0))) := ⟨(by rw [hw]; exact (by (with_reducible repeat (first | refine blk_drewN ?_ _ | refine blk_drew ?_ | refine blk_alloc ?_ _)); refine blk_put (cs := #[.int .i64 ((rd_T37 l0 x49_2).f0), .int .i64 ((rd_T37 l0 x49_2).f1), .int .i64 ((rd_T37 l0 x49_2).f2), .int .i64 ((rd_T37 l0 x49_2).f3), .int .i64 ((rd_T37 l0 x49_2).f4), .int .i64 ((rd_T37 l0 x49_2).f5), .int .u64 ((rd_T37 l0 x49_2).f6), .int .i64 0]) ?_ 7 _ rfl; refine blk_put (cs := #[.int .i64 ((rd_T37 l0 x49_2).f0), .int .i64 ((rd_T37 l0 x49_2).f1), .int .i64 ((rd_T37 l0 x49_2).f2), .int .i64 ((rd_T37 l0 x49_2).f3), .int .i64 ((rd_T37 l0 x49_2).f4), .int .i64 ((rd_T37 l0 x49_2).f5), .int .u64 0, .int .i64 0]) ?_ 6 _ rfl; refine blk_put (cs := #[.int .i64 ((rd_T37 l0 x49_2).f0), .int .i64 ((rd_T37 l0 x49_2).f1), .int .i64 ((rd_T37 l0 x49_2).f2), .int .i64 ((rd_T37 l0 x49_2).f3), .int .i64 ((rd_T37 l0 x49_2).f4), .int .i64 0, .int .u64 0, .int .i64 0]) ?_ 5 _ rfl; refine blk_put (cs := #[.int .i64 ((rd_T37 l0 x49_2).f0), .int .i64 ((rd_T37 l0 x49_2).f1), .int .i64 ((rd_T37 l0 x49_2).f2), .int .i64 ((rd_T37 l0 x49_2).f3), .int .i64 0, .int .i64 0, .int .u64 0, .int .i64 0]) ?_ 4 _ rfl; refine blk_put (cs := #[.int .i64 ((rd_T37 l0 x49_2).f0), .int .i64 ((rd_T37 l0 x49_2).f1), .int .i64 ((rd_T37 l0 x49_2).f2), .int .i64 0, .int .i64 0, .int .i64 0, .int .u64 0, .int .i64 0]) ?_ 3 _ rfl; refine blk_put (cs := #[.int .i64 ((rd_T37 l0 x49_2).f0), .int .i64 ((rd_T37 l0 x49_2).f1), .int .i64 0, .int .i64 0, .int .i64 0, .int .i64 0, .int .u64 0, .int .i64 0]) ?_ 2 _ rfl; refine blk_put (cs := #[.int .i64 ((rd_T37 l0 x49_2).f0), .int .i64 0, .int .i64 0, .int .i64 0, .int .i64 0, .int .i64 0, .int .u64 0, .int .i64 0]) ?_ 1 _ rfl; refine blk_put (cs := #[.int .i64 0, .int .i64 0, .int .i64 0, .int .i64 0, .int .i64 0, .int .i64 0, .int .u64 0, .int .i64 0]) ?_ 0 _ rfl; (with_reducible repeat (first | refine blk_drewN ?_ _ | refine blk_drew ?_ | refine blk_alloc ?_ _)); exact BK201.out))⟩; have n2_ : Aside0 (Below w.heap.size w w21) := ⟨(by rw [hw]; exact (by repeat (first | (with_reducible first | exact HB.out | apply below_alloc | apply pw_below_drewN | apply below_drew1 | refine below_set ?_ GE201.out) | exact HB.out)))⟩; clear hw; clear HO_11; clear BK201; clear HB; have HO_11 := n0_; have BK201 := n1_; have HB := n2_; clear n0_ n1_ n2_; obtain ⟨Ao22, co22, eo22⟩ := Kd.S_slice HO_11.out; subst eo22; have p202 : 0 ≤ (x49_2 : Int) := of_decide_eq_true (by first | (with_reducible assumption) | assumption); have q202 : x49_2 < (t197.length : Int) := of_decide_eq_true (by first | (with_reducible assumption) | assumption); obtain ⟨ad202, A202_0, c202_0, e202, hx202_0, hl202_0, hi202_0⟩ := at_L3 (Kd.S_reads' HO_11.out).2.2 x49_2 p202 q202; cases e202; obtain ⟨ce202, hce202, hMe202, hcc202⟩ := Kd.S_get HO_11.out [] x49_2 p202 (by first | exact q202 | exact of_decide_eq_true (by first | (with_reducible assumption) | assumption) | (have e_ := (Kd.S_reads' HO_11.out).1; omega)); obtain ⟨ve202_0, rfl, ge202_0⟩ := hMe202; have hv202_0 := hcc202 0 _ rfl; rw [Nat.add_zero, show ((Kd.slice 3 (Kd.int .i64))).sz = 1 from rfl, Nat.mul_one] at hv202_0; replace hv202_0 := Option.some.inj (hv202_0.symm.trans hx202_0); rw [hv202_0] at ge202_0; have HL202_0 := Aside0.mk (show Kd.R (Kd.int .i64) 3 _ _ _ _ (rd_L3 t197 x49_2) from ge202_0); clear hv202_0 ge202_0; clear hcc202 hce202; have HR202_0 := Aside0.mk hi202_0; have HC202_0 := Aside0.mk hl202_0; clear hi202_0 hl202_0; replace p202 := eq_true p202; replace q202 := eq_true q202)); try go_wp2_with (first | ((with_reducible refine gate_dst (N := 13) rfl ?_); refine box_event ?hg (N := 13) ?hd (cs := #[.int .i64 0, .int .i64 0, .int .i64 0, .int .i64 0, .int .i64 0, .int .i64 0, .int .u64 0, .int .i64 0]) (t := 37) ?hr ?_; (case hd => rfl); (case hg => rfl); (case hr => first | (go_simp; done) | (go_simp; rfl)); intro gb201 hg w19 hbox hb; have n0_ := Aside0.mk (Kd.S_below (by (with_reducible repeat (first | apply Kd.S_alloc | apply Kd.S_drewN | apply Kd.S_drew)); exact HO_11.out) hb); have n1_ := Aside0.mk (below_step (by repeat (first | (with_reducible first | exact HB.out | apply below_alloc | apply pw_below_drewN | apply below_drew1) | exact HB.out)) hb); have n2_ := Aside0.mk (hbox); have n3_ := Aside0.mk ((by rw [hg]; exact (below_size (by repeat (first | (with_reducible first | exact HB.out | apply below_alloc | apply pw_below_drewN | apply below_drew1) | exact HB.out))) : w.heap.size ≤ gb201)); have n4_ := Aside0.mk ((by rw [hg]; exact (below_size (by repeat (first | (with_reducible first | exact HB.out | apply below_alloc | apply pw_below_drewN | apply below_drew1) | exact HB.out))) : w.heap.size ≤ gb201)); clear HO_11; clear HB; have HO_11 := n0_; have HB := n1_; have BK201 := n2_; have GW201 := n3_; have GE201 := n4_; clear n0_ n1_ n2_ n3_ n4_; clear hb hbox hg; have hcz20_0 : w19.cell? ⟨gb201, 0, none⟩ = some (.int .i64 0) := (blk_cell BK201.out 0).trans rfl; have hcz20_1 : w19.cell? ⟨gb201, 1, none⟩ = some (.int .i64 0) := (blk_cell BK201.out 1).trans rfl; have hcz20_2 : w19.cell? ⟨gb201, 2, none⟩ = some (.int .i64 0) := (blk_cell BK201.out 2).trans rfl; have hcz20_3 : w19.cell? ⟨gb201, 3, none⟩ = some (.int .i64 0) := (blk_cell BK201.out 3).trans rfl; have hcz20_4 : w19.cell? ⟨gb201, 4, none⟩ = some (.int .i64 0) := (blk_cell BK201.out 4).trans rfl; have hcz20_5 : w19.cell? ⟨gb201, 5, none⟩ = some (.int .i64 0) := (blk_cell BK201.out 5).trans rfl; have hcz20_6 : w19.cell? ⟨gb201, 6, none⟩ = some (.int .u64 0) := (blk_cell BK201.out 6).trans rfl; have hcz20_7 : w19.cell? ⟨gb201, 7, none⟩ = some (.int .i64 0) := (blk_cell BK201.out 7).trans rfl; have hfz20_0 := blk_frozen BK201.out 0; have hfz20_1 := blk_frozen BK201.out 1; have hfz20_2 := blk_frozen BK201.out 2; have hfz20_3 := blk_frozen BK201.out 3; have hfz20_4 := blk_frozen BK201.out 4; have hfz20_5 := blk_frozen BK201.out 5; have hfz20_6 := blk_frozen BK201.out 6; have hfz20_7 := blk_frozen BK201.out 7) | ((with_reducible refine gate_store (t := 37) (p := 13) rfl ?_); (try (rw [drewN_self w19]; generalize hq_ : World.drewN w19 _ = w19; have n0_ := Aside0.mk (Kd.S_at hq_ HO_11.out); have n1_ := Aside0.mk (blk_at hq_ BK201.out); have n2_ := Aside0.mk (below_at hq_ HB.out); clear hq_ HO_11 BK201 HB; have HO_11 := n0_; have BK201 := n1_; have HB := n2_; clear n0_ n1_ n2_)); refine store_event (t := 37) (p := 13) (v := ?vo_w21) (w1 := ((((((((w19.setCell ⟨gb201, 0, none⟩ (.int .i64 ((rd_T37 l0 x49_2).f0))).setCell ⟨gb201, 1, none⟩ (.int .i64 ((rd_T37 l0 x49_2).f1))).setCell ⟨gb201, 2, none⟩ (.int .i64 ((rd_T37 l0 x49_2).f2))).setCell ⟨gb201, 3, none⟩ (.int .i64 ((rd_T37 l0 x49_2).f3))).setCell ⟨gb201, 4, none⟩ (.int .i64 ((rd_T37 l0 x49_2).f4))).setCell ⟨gb201, 5, none⟩ (.int .i64 ((rd_T37 l0 x49_2).f5))).setCell ⟨gb201, 6, none⟩ (.int .u64 ((rd_T37 l0 x49_2).f6))).setCell ⟨gb201, 7, none⟩ (.int .i64 ((rd_T37 l0 x49_2).f7)))) ?hg ?ho ?hn ?hr ?_; (case ho => rfl); (case hg => rfl); (case hn => rfl); (case hr => first | (go_simp; done) | (go_simp; rfl)); intro w21 hw; have n0_ : Aside0 (Kd.S (Kd.slice 3 (Kd.int .i64)) 28 w21 w.heap.size (fun _ => True) v198 t197) := ⟨(by rw [hw]; exact (by (with_reducible repeat (first | apply Kd.S_alloc | apply Kd.S_drewN | apply Kd.S_drew)); exact Kd.S_mono (Kd.S_far (p := ⟨gb201, 7, none⟩) (Kd.S_far (p := ⟨gb201, 6, none⟩) (Kd.S_far (p := ⟨gb201, 5, none⟩) (Kd.S_far (p := ⟨gb201, 4, none⟩) (Kd.S_far (p := ⟨gb201, 3, none⟩) (Kd.S_far (p := ⟨gb201, 2, none⟩) (Kd.S_far (p := ⟨gb201, 1, none⟩) (Kd.S_far (p := ⟨gb201, 0, none⟩) (Kd.S_types HO_11.out BK201.out (by decide)) (fun _ hk => hk.2) (.int .i64 ((rd_T37 l0 x49_2).f0))) (fun _ hk => hk.2) (.int .i64 ((rd_T37 l0 x49_2).f1))) (fun _ hk => hk.2) (.int .i64 ((rd_T37 l0 x49_2).f2))) (fun _ hk => hk.2) (.int .i64 ((rd_T37 l0 x49_2).f3))) (fun _ hk => hk.2) (.int .i64 ((rd_T37 l0 x49_2).f4))) (fun _ hk => hk.2) (.int .i64 ((rd_T37 l0 x49_2).f5))) (fun _ hk => hk.2) (.int .u64 ((rd_T37 l0 x49_2).f6))) (fun _ hk => hk.2) (.int .i64 ((rd_T37 l0 x49_2).f7))) (fun _ hk => trivial)))⟩; have n1_ : Aside0 (w21.heap[gb201]? = some (.cells #[.int .i64 ((rd_T37 l0 x49_2).f0), .int .i64 ((rd_T37 l0 x49_2).f1), .int .i64 ((rd_T37 l0 x49_2).f2), .int .i64 ((rd_T37 l0 x49_2).f3), .int .i64 ((rd_T37 l0 x49_2).f4), .int .i64 ((rd_T37 l0 x49_2).f5), .int .u64 ((rd_T37 l0 x49_2).f6), .int .i64 ((rd_T37 l0 x49_2).f7)] 37 (0, 0))) := ⟨(by rw [hw]; exact (by (with_reducible repeat (first | refine blk_drewN ?_ _ | refine blk_drew ?_ | refine blk_alloc ?_ _)); refine blk_put (cs := #[.int .i64 ((rd_T37 l0 x49_2).f0), .int .i64 ((rd_T37 l0 x49_2).f1), .int .i64 ((rd_T37 l0 x49_2).f2), .int .i64 ((rd_T37 l0 x49_2).f3), .int .i64 ((rd_T37 l0 x49_2).f4), .int .i64 ((rd_T37 l0 x49_2).f5), .int .u64 ((rd_T37 l0 x49_2).f6), .int .i64 0]) ?_ 7 _ rfl; refine blk_put (cs := #[.int .i64 ((rd_T37 l0 x49_2).f0), .int .i64 ((rd_T37 l0 x49_2).f1), .int .i64 ((rd_T37 l0 x49_2).f2), .int .i64 ((rd_T37 l0 x49_2).f3), .int .i64 ((rd_T37 l0 x49_2).f4), .int .i64 ((rd_T37 l0 x49_2).f5), .int .u64 0, .int .i64 0]) ?_ 6 _ rfl; refine blk_put (cs := #[.int .i64 ((rd_T37 l0 x49_2).f0), .int .i64 ((rd_T37 l0 x49_2).f1), .int .i64 ((rd_T37 l0 x49_2).f2), .int .i64 ((rd_T37 l0 x49_2).f3), .int .i64 ((rd_T37 l0 x49_2).f4), .int .i64 0, .int .u64 0, .int .i64 0]) ?_ 5 _ rfl; refine blk_put (cs := #[.int .i64 ((rd_T37 l0 x49_2).f0), .int .i64 ((rd_T37 l0 x49_2).f1), .int .i64 ((rd_T37 l0 x49_2).f2), .int .i64 ((rd_T37 l0 x49_2).f3), .int .i64 0, .int .i64 0, .int .u64 0, .int .i64 0]) ?_ 4 _ rfl; refine blk_put (cs := #[.int .i64 ((rd_T37 l0 x49_2).f0), .int .i64 ((rd_T37 l0 x49_2).f1), .int .i64 ((rd_T37 l0 x49_2).f2), .int .i64 0, .int .i64 0, .int .i64 0, .int .u64 0, .int .i64 0]) ?_ 3 _ rfl; refine blk_put (cs := #[.int .i64 ((rd_T37 l0 x49_2).f0), .int .i64 ((rd_T37 l0 x49_2).f1), .int .i64 0, .int .i64 0, .int .i64 0, .int .i64 0, .int .u64 0, .int .i64 0]) ?_ 2 _ rfl; refine blk_put (cs := #[.int .i64 ((rd_T37 l0 x49_2).f0), .int .i64 0, .int .i64 0, .int .i64 0, .int .i64 0, .int .i64 0, .int .u64 0, .int .i64 0]) ?_ 1 _ rfl; refine blk_put (cs := #[.int .i64 0, .int .i64 0, .int .i64 0, .int .i64 0, .int .i64 0, .int .i64 0, .int .u64 0, .int .i64 0]) ?_ 0 _ rfl; (with_reducible repeat (first | refine blk_drewN ?_ _ | refine blk_drew ?_ | refine blk_alloc ?_ _)); exact BK201.out))⟩; have n2_ : Aside0 (Below w.heap.size w w21) := ⟨(by rw [hw]; exact (by repeat (first | (with_reducible first | exact HB.out | apply below_alloc | apply pw_below_drewN | apply below_drew1 | refine below_set ?_ GE201.out) | exact HB.out)))⟩; clear hw; clear HO_11; clear BK201; clear HB; have HO_11 := n0_; have BK201 := n1_; have HB := n2_; clear n0_ n1_ n2_; obtain ⟨Ao22, co22, eo22⟩ := Kd.S_slice HO_11.out; subst eo22; have p202 : 0 ≤ (x49_2 : Int) := of_decide_eq_true (by first | (with_reducible assumption) | assumption); have q202 : x49_2 < (t197.length : Int) := of_decide_eq_true (by first | (with_reducible assumption) | assumption); obtain ⟨ad202, A202_0, c202_0, e202, hx202_0, hl202_0, hi202_0⟩ := at_L3 (Kd.S_reads' HO_11.out).2.2 x49_2 p202 q202; cases e202; obtain ⟨ce202, hce202, hMe202, hcc202⟩ := Kd.S_get HO_11.out [] x49_2 p202 (by first | exact q202 | exact of_decide_eq_true (by first | (with_reducible assumption) | assumption) | (have e_ := (Kd.S_reads' HO_11.out).1; omega)); obtain ⟨ve202_0, rfl, ge202_0⟩ := hMe202; have hv202_0 := hcc202 0 _ rfl; rw [Nat.add_zero, show ((Kd.slice 3 (Kd.int .i64))).sz = 1 from rfl, Nat.mul_one] at hv202_0; replace hv202_0 := Option.some.inj (hv202_0.symm.trans hx202_0); rw [hv202_0] at ge202_0; have HL202_0 := Aside0.mk (show Kd.R (Kd.int .i64) 3 _ _ _ _ (rd_L3 t197 x49_2) from ge202_0); clear hv202_0 ge202_0; clear hcc202 hce202; have HR202_0 := Aside0.mk hi202_0; have HC202_0 := Aside0.mk hl202_0; clear hi202_0 hl202_0; replace p202 := eq_true p202; replace q202 := eq_true q202)))
        go_loopg [59] k2 (fun kq v59 w' => ∃ (x59_3 : Int), v59 = .int .i64 x59_3 ∧ Aside0 (tautochronelaw18_want.l2 kq l0 l1 t197 x49_2 l0 (l0.length : Int) x49_2 (rd_L3 t197 x49_2) ((rd_L3 t197 x49_2).length : Int) x59_3 ((rd_T37 l0 x49_2).f0) ((rd_T37 l0 x49_2).f1) ((rd_T37 l0 x49_2).f2) ((rd_T37 l0 x49_2).f3) ((rd_T37 l0 x49_2).f4) ((rd_T37 l0 x49_2).f5) ((rd_T37 l0 x49_2).f6) ((rd_T37 l0 x49_2).f7) = some r) ∧ Aside0 (kq ≤ k2) ∧ Aside0 (Kd.S (Kd.slice 3 (Kd.int .i64)) 28 w' w.heap.size (fun _ => True) (.slice (some ad202) t197.length co22) t197) ∧ Aside0 (w'.heap[gb201]? = some (.cells #[.int .i64 ((rd_T37 l0 x49_2).f0), .int .i64 ((rd_T37 l0 x49_2).f1), .int .i64 ((rd_T37 l0 x49_2).f2), .int .i64 ((rd_T37 l0 x49_2).f3), .int .i64 ((rd_T37 l0 x49_2).f4), .int .i64 ((rd_T37 l0 x49_2).f5), .int .u64 ((rd_T37 l0 x49_2).f6), .int .i64 ((rd_T37 l0 x49_2).f7)] 37 (0, 0))) ∧ Aside0 (Kd.C (Kd.int .i64) w' A202_0 (rd_L3 t197 x49_2).length (rd_L3 t197 x49_2)) ∧ Aside0 (Below w.heap.size w w'))
        case atStart => exact ⟨(0), (by first | rfl | (simp; done) | (simp [*]; done)), H', ⟨Nat.le_refl _⟩, ⟨by (with_reducible repeat (first | apply Kd.S_alloc | apply Kd.S_drewN | apply Kd.S_drew)); exact HO_11.out⟩, ⟨by (with_reducible repeat (first | refine blk_drewN ?_ _ | refine blk_drew ?_ | refine blk_alloc ?_ _)); exact BK201.out⟩, ⟨by repeat (first | (with_reducible exact HR202_0.out) | (with_reducible refine Kd.C_alloc ?_ _) | (with_reducible refine Kd.C_drewN ?_ _) | (with_reducible refine Kd.C_drew ?_) | exact HR202_0.out)⟩, ⟨by repeat (first | (with_reducible first | exact HB.out | apply below_alloc | apply pw_below_drewN | apply below_drew1 | refine below_set ?_ GE201.out) | exact HB.out)⟩⟩
        case round =>
         clear H'
         try clear c1
         try clear p1
         try clear q1
         try clear hx1
         try clear c2
         try clear p2
         try clear q2
         try clear hx2
         try clear c6
         try clear c6b0
         try clear c6b1
         try clear p6
         try clear c8
         try clear c8b0
         try clear c9
         try clear c9b0
         try clear c10
         try clear c10b0
         try clear c11
         try clear c11b0
         try clear c12
         try clear c12b0
         try clear c15
         try clear c15b0
         try clear c16
         try clear c16b0
         try clear c17
         try clear c17b0
         try clear c18
         try clear c18b0
         try clear p19
         try clear q19
         try clear hx19
         try clear c20
         try clear p20
         try clear q20
         try clear hx20
         try clear hcz20_0 hcz20_1 hcz20_2 hcz20_3 hcz20_4 hcz20_5 hcz20_6 hcz20_7
         try clear hfz20_0 hfz20_1 hfz20_2 hfz20_3 hfz20_4 hfz20_5 hfz20_6 hfz20_7
         try clear hx196_0
         try clear hx200_0
         try clear hx200_1
         try clear hx200_2
         try clear hx200_3
         try clear hx200_4
         try clear hx200_5
         try clear hx200_6
         try clear hx200_7
         try clear hx202_0
         try clear p1
         try clear p196
         try clear p2
         try clear p200
         try clear p202
         try clear p6
         try clear q1
         try clear q196
         try clear q200
         try clear q202
         obtain ⟨x59_3, rfl, HA, HK3, HO_11, BK201, HR202_0, HB⟩ := hrel
         cases gk with
         | zero => exact absurd HA.out (by simp [tautochronelaw18_want.l2])
         | succ k3 =>
          have H := HA.out
          clear HA
          simp only [tautochronelaw18_want.l2] at H
          by_cases c23 : x59_3 < ((rd_L3 t197 x49_2).length : Int)
          ·rw [if_pos c23] at H
           have c23b0 : decide (x59_3 < ((rd_L3 t197 x49_2).length : Int)) = true := decide_eq_true c23
           clear c23
           by_cases c24 : 0 ≤ x59_3
           rotate_left
           ·rw [if_neg c24] at H; exact absurd H (by simp)
           rw [if_pos c24] at H
           have c24b0 : decide (0 ≤ x59_3) = true := decide_eq_true c24
           clear c24
           by_cases c25 : x59_3 < ((rd_L3 t197 x49_2).length : Int)
           rotate_left
           ·rw [if_neg c25] at H; exact absurd H (by simp)
           rw [if_pos c25] at H
           have c25b0 : decide (x59_3 < ((rd_L3 t197 x49_2).length : Int)) = true := decide_eq_true c25
           clear c25
           by_cases c26 : 0 ≤ x49_2
           rotate_left
           ·rw [if_neg c26] at H; exact absurd H (by simp)
           rw [if_pos c26] at H
           have c26b0 : decide (0 ≤ x49_2) = true := decide_eq_true c26
           clear c26
           by_cases c27 : x49_2 < (t197.length : Int)
           rotate_left
           ·rw [if_neg c27] at H; exact absurd H (by simp)
           rw [if_pos c27] at H
           have c27b0 : decide (x49_2 < (t197.length : Int)) = true := decide_eq_true c27
           clear c27
           have c28b0 := eq_true (of_decide_eq_true (by first | (with_reducible assumption) | assumption) : 0 ≤ x59_3)
           by_cases c29 : x59_3 ≤ ((rd_L3 t197 x49_2).length : Int)
           rotate_left
           ·rw [if_neg c29] at H; exact absurd H (by simp)
           rw [if_pos c29] at H
           have c29b0 := eq_true c29
           have c29b1 : decide (x59_3 ≤ ((rd_L3 t197 x49_2).length : Int)) = true := decide_eq_true c29
           clear c29
           obtain ⟨y205, hy205⟩ : ∃ y_ : List Int, y_ = ((rd_L3 t197 x49_2).take (x59_3 : Int).toNat) := ⟨_, rfl⟩
           replace H : (tautochronelaw18_want.l3 k3 l0 l1 t197 x49_2 (rd (rd_L3 t197 x49_2) x59_3) l0 (l0.length : Int) x49_2 (rd_L3 t197 x49_2) ((rd_L3 t197 x49_2).length : Int) x59_3 y205 (y205.length : Int) 0 ((rd_T37 l0 x49_2).f0) ((rd_T37 l0 x49_2).f1) ((rd_T37 l0 x49_2).f2) ((rd_T37 l0 x49_2).f3) ((rd_T37 l0 x49_2).f4) ((rd_T37 l0 x49_2).f5) ((rd_T37 l0 x49_2).f6) ((rd_T37 l0 x49_2).f7)) = some r := by first | (rw [hy205]; with_reducible exact H) | (have H2_ := (Option.bind_some _ _).symm.trans H; rw [hy205]; with_reducible exact H2_) | (have H2_ := (Option.bind_some _ _).symm.trans H; with_reducible exact H2_) | with_reducible exact H | (rw [hy205]; exact H) | exact H
           have Ny205 := Aside0.mk hy205
           clear hy205
           have H' := Aside0.mk H
           clear H
           have p203 : 0 ≤ (x59_3 : Int) := of_decide_eq_true (by first | (with_reducible assumption) | assumption)
           have q203 : x59_3 < ((rd_L3 t197 x49_2).length : Int) := of_decide_eq_true (by first | (with_reducible assumption) | assumption)
           obtain ⟨ad203, e203, hx203_0⟩ := Kd.at_int HR202_0.out x59_3 p203 q203
           cases e203
           try (replace hx203_0 := (HB.out.cell (World.block_lt_of_cell? w _ hx203_0)).trans hx203_0)
           replace p203 := eq_true p203
           replace q203 := eq_true q203
           have p204 : 0 ≤ (x49_2 : Int) := of_decide_eq_true (by first | (with_reducible assumption) | assumption)
           have q204 : x49_2 < (t197.length : Int) := of_decide_eq_true (by first | (with_reducible assumption) | assumption)
           obtain ⟨ad204, A204_0, c204_0, e204, hx204_0, hl204_0, hi204_0⟩ := at_L3 (Kd.S_reads' HO_11.out).2.2 x49_2 p204 q204
           obtain rfl : ad202 = ad204 := (by injection e204)
           obtain ⟨ce204, hce204, hMe204, hcc204⟩ := Kd.S_get HO_11.out [] x49_2 p204 (by first | exact q204 | exact of_decide_eq_true (by first | (with_reducible assumption) | assumption) | (have e_ := (Kd.S_reads' HO_11.out).1; omega))
           obtain ⟨ve204_0, rfl, ge204_0⟩ := hMe204
           have hv204_0 := hcc204 0 _ rfl
           rw [Nat.add_zero, show ((Kd.slice 3 (Kd.int .i64))).sz = 1 from rfl, Nat.mul_one] at hv204_0
           replace hv204_0 := Option.some.inj (hv204_0.symm.trans hx204_0)
           rw [hv204_0] at ge204_0
           have HL204_0 := Aside0.mk (show Kd.R (Kd.int .i64) 3 _ _ _ _ (rd_L3 t197 x49_2) from ge204_0)
           clear hv204_0 ge204_0
           clear hcc204 hce204
           have HR204_0 := Aside0.mk hi204_0
           have HC204_0 := Aside0.mk hl204_0
           clear hi204_0 hl204_0
           replace p204 := eq_true p204
           replace q204 := eq_true q204
           have q30 : (x59_3 : Int) ≤ (((rd_L3 t197 x49_2).length : Int) : Int) := of_decide_eq_true (by first | (with_reducible assumption) | assumption)
           obtain ⟨i030, hi030, _, hsz30, _⟩ := info_parts info3
           have hroom30 : (rd_L3 t197 x49_2).length ≤ c204_0 := HC204_0.out
           have hC30 : Kd.C (Kd.int .i64) _ A204_0 (rd_L3 t197 x49_2).length (rd_L3 t197 x49_2) := (by repeat (first | (with_reducible exact HR204_0.out) | (with_reducible refine Kd.C_alloc ?_ _) | (with_reducible refine Kd.C_drewN ?_ _) | (with_reducible refine Kd.C_drew ?_) | exact HR204_0.out))
           have hcut30 := cut_to (P := Try.prog) 28 3 .i64 Try.underlying28 hi030 A204_0 (rd_L3 t197 x49_2).length c204_0 x59_3 (of_decide_eq_true (by first | (with_reducible assumption) | assumption)) q30 hroom30
           have hr30 := Kd.C_take (m := (x59_3 : Int).toNat) hC30 (by omega)
           have hy30 : y205.length = (x59_3 : Int).toNat := (by rw [Ny205.out, List.length_take]; omega)
           rw [← Ny205.out] at hr30
           rw [← hy30] at hcut30
           have HR208 := Aside0.mk hr30
           have HC208 := Aside0.mk (show y205.length ≤ c204_0 from by omega)
           clear hr30 hC30 hroom30 hi030 hsz30
           have KY30 := Aside0.mk hy30
           clear hy30
           replace q30 := eq_true q30
           go_wp2
           repeat (go_quiet (fail); try go_wp2)
           go_loopg [71] k3 (fun kq v71 w' => ∃ (x71_4 : Int), v71 = .int .i64 x71_4 ∧ Aside0 (tautochronelaw18_want.l3 kq l0 l1 t197 x49_2 (rd (rd_L3 t197 x49_2) x59_3) l0 (l0.length : Int) x49_2 (rd_L3 t197 x49_2) ((rd_L3 t197 x49_2).length : Int) x59_3 y205 (y205.length : Int) x71_4 ((rd_T37 l0 x49_2).f0) ((rd_T37 l0 x49_2).f1) ((rd_T37 l0 x49_2).f2) ((rd_T37 l0 x49_2).f3) ((rd_T37 l0 x49_2).f4) ((rd_T37 l0 x49_2).f5) ((rd_T37 l0 x49_2).f6) ((rd_T37 l0 x49_2).f7) = some r) ∧ Aside0 (kq ≤ k3) ∧ Aside0 (Kd.S (Kd.slice 3 (Kd.int .i64)) 28 w' w.heap.size (fun _ => True) (.slice (some ad202) t197.length co22) t197) ∧ Aside0 (w'.heap[gb201]? = some (.cells #[.int .i64 ((rd_T37 l0 x49_2).f0), .int .i64 ((rd_T37 l0 x49_2).f1), .int .i64 ((rd_T37 l0 x49_2).f2), .int .i64 ((rd_T37 l0 x49_2).f3), .int .i64 ((rd_T37 l0 x49_2).f4), .int .i64 ((rd_T37 l0 x49_2).f5), .int .u64 ((rd_T37 l0 x49_2).f6), .int .i64 ((rd_T37 l0 x49_2).f7)] 37 (0, 0))) ∧ Aside0 (Kd.C (Kd.int .i64) w' (some ad203) (rd_L3 t197 x49_2).length (rd_L3 t197 x49_2)) ∧ Aside0 (Kd.C (Kd.int .i64) w' A204_0 (rd_L3 t197 x49_2).length (rd_L3 t197 x49_2)) ∧ Aside0 (Kd.C (Kd.int .i64) w' A204_0 y205.length y205) ∧ Aside0 (Below w.heap.size w w'))
           case atStart => exact ⟨(0), (by first | rfl | (simp; done) | (simp [*]; done)), H', ⟨Nat.le_refl _⟩, ⟨by (with_reducible repeat (first | apply Kd.S_alloc | apply Kd.S_drewN | apply Kd.S_drew)); exact HO_11.out⟩, ⟨by (with_reducible repeat (first | refine blk_drewN ?_ _ | refine blk_drew ?_ | refine blk_alloc ?_ _)); exact BK201.out⟩, ⟨by repeat (first | (with_reducible exact HR202_0.out) | (with_reducible refine Kd.C_alloc ?_ _) | (with_reducible refine Kd.C_drewN ?_ _) | (with_reducible refine Kd.C_drew ?_) | exact HR202_0.out)⟩, ⟨by repeat (first | (with_reducible exact HR204_0.out) | (with_reducible refine Kd.C_alloc ?_ _) | (with_reducible refine Kd.C_drewN ?_ _) | (with_reducible refine Kd.C_drew ?_) | exact HR204_0.out)⟩, ⟨by repeat (first | (with_reducible exact HR208.out) | (with_reducible refine Kd.C_alloc ?_ _) | (with_reducible refine Kd.C_drewN ?_ _) | (with_reducible refine Kd.C_drew ?_) | exact HR208.out)⟩, ⟨by repeat (first | (with_reducible first | exact HB.out | apply below_alloc | apply pw_below_drewN | apply below_drew1 | refine below_set ?_ GE201.out) | exact HB.out)⟩⟩
           case round =>
            clear H'
            try clear c1
            try clear p1
            try clear q1
            try clear hx1
            try clear c2
            try clear p2
            try clear q2
            try clear hx2
            try clear q3
            try clear c6
            try clear c6b0
            try clear c6b1
            try clear p6
            try clear c8
            try clear c8b0
            try clear c9
            try clear c9b0
            try clear c10
            try clear c10b0
            try clear c11
            try clear c11b0
            try clear c12
            try clear c12b0
            try clear c15
            try clear c15b0
            try clear c16
            try clear c16b0
            try clear c17
            try clear c17b0
            try clear c18
            try clear c18b0
            try clear p19
            try clear q19
            try clear hx19
            try clear c20
            try clear p20
            try clear q20
            try clear hx20
            try clear c23
            try clear c23b0
            try clear c24
            try clear c24b0
            try clear c25
            try clear c25b0
            try clear c26
            try clear c26b0
            try clear c27
            try clear c27b0
            try clear c28
            try clear c28b0
            try clear c29
            try clear c29b0
            try clear c29b1
            try clear q30
            try clear hcz20_0 hcz20_1 hcz20_2 hcz20_3 hcz20_4 hcz20_5 hcz20_6 hcz20_7
            try clear hfz20_0 hfz20_1 hfz20_2 hfz20_3 hfz20_4 hfz20_5 hfz20_6 hfz20_7
            try clear hx196_0
            try clear hx200_0
            try clear hx200_1
            try clear hx200_2
            try clear hx200_3
            try clear hx200_4
            try clear hx200_5
            try clear hx200_6
            try clear hx200_7
            try clear hx202_0
            try clear hx203_0
            try clear hx204_0
            try clear p1
            try clear p19
            try clear p196
            try clear p2
            try clear p20
            try clear p200
            try clear p202
            try clear p203
            try clear p204
            try clear p6
            try clear q1
            try clear q19
            try clear q196
            try clear q2
            try clear q20
            try clear q200
            try clear q202
            try clear q203
            try clear q204
            try clear q30
            obtain ⟨x71_4, rfl, HA, HK4, HO_11, BK201, HR202_0, HR204_0, HR208, HB⟩ := hrel
            cases gk with
            | zero => exact absurd HA.out (by simp [tautochronelaw18_want.l3])
            | succ k4 =>
             have H := HA.out
             clear HA
             simp only [tautochronelaw18_want.l3] at H
             by_cases c31 : x71_4 < (y205.length : Int)
             ·rw [if_pos c31] at H
              have c31b0 : decide (x71_4 < (y205.length : Int)) = true := decide_eq_true c31
              clear c31
              by_cases c32 : 0 ≤ x71_4
              rotate_left
              ·rw [if_neg c32] at H; exact absurd H (by simp)
              rw [if_pos c32] at H
              have c32b0 : decide (0 ≤ x71_4) = true := decide_eq_true c32
              clear c32
              by_cases c33 : x71_4 < (y205.length : Int)
              rotate_left
              ·rw [if_neg c33] at H; exact absurd H (by simp)
              rw [if_pos c33] at H
              have c33b0 : decide (x71_4 < (y205.length : Int)) = true := decide_eq_true c33
              clear c33
              by_cases c34 : 0 ≤ (rd (rd_L3 t197 x49_2) x59_3)
              rotate_left
              ·rw [if_neg c34] at H; exact absurd H (by simp)
              rw [if_pos c34] at H
              have c34b0 : decide (0 ≤ (rd (rd_L3 t197 x49_2) x59_3)) = true := decide_eq_true c34
              clear c34
              by_cases c35 : (rd (rd_L3 t197 x49_2) x59_3) < (l1.length : Int)
              rotate_left
              ·rw [if_neg c35] at H; exact absurd H (by simp)
              rw [if_pos c35] at H
              have c35b0 : decide ((rd (rd_L3 t197 x49_2) x59_3) < (l1.length : Int)) = true := decide_eq_true c35
              clear c35
              by_cases c36 : 0 ≤ (rd y205 x71_4)
              rotate_left
              ·rw [if_neg c36] at H; exact absurd H (by simp)
              rw [if_pos c36] at H
              have c36b0 : decide (0 ≤ (rd y205 x71_4)) = true := decide_eq_true c36
              clear c36
              by_cases c37 : (rd y205 x71_4) < (l1.length : Int)
              rotate_left
              ·rw [if_neg c37] at H; exact absurd H (by simp)
              rw [if_pos c37] at H
              have c37b0 : decide ((rd y205 x71_4) < (l1.length : Int)) = true := decide_eq_true c37
              clear c37
              by_cases c38 : (rd l1 (rd (rd_L3 t197 x49_2) x59_3)) = (rd l1 (rd y205 x71_4))
              ·rw [if_pos c38] at H
               have c38b0 : ((rd l1 (rd (rd_L3 t197 x49_2) x59_3)) == (rd l1 (rd y205 x71_4))) = true := beq_iff_eq.mpr c38
               have c38b1 : ((rd l1 (rd (rd_L3 t197 x49_2) x59_3)) != (rd l1 (rd y205 x71_4))) = false := bne_eq_false_iff_eq.mpr c38
               clear c38
               obtain rfl := Option.some.inj H
               have p209 : 0 ≤ (x71_4 : Int) := of_decide_eq_true (by first | (with_reducible assumption) | assumption)
               have q209 : x71_4 < (y205.length : Int) := of_decide_eq_true (by first | (with_reducible assumption) | assumption)
               obtain ⟨ad209, e209, hx209_0⟩ := Kd.at_int HR208.out x71_4 p209 q209
               cases e209
               try (replace hx209_0 := (HB.out.cell (World.block_lt_of_cell? w _ hx209_0)).trans hx209_0)
               replace p209 := eq_true p209
               replace q209 := eq_true q209
               have p210 : 0 ≤ ((rd (rd_L3 t197 x49_2) x59_3) : Int) := of_decide_eq_true (by first | (with_reducible assumption) | assumption)
               have q210 : (rd (rd_L3 t197 x49_2) x59_3) < (l1.length : Int) := of_decide_eq_true (by first | (with_reducible assumption) | assumption)
               obtain ⟨ad210, e210, hx210_0⟩ := Kd.at_int HR1.out (rd (rd_L3 t197 x49_2) x59_3) p210 q210
               cases e210
               try (replace hx210_0 := (HB.out.cell (World.block_lt_of_cell? w _ hx210_0)).trans hx210_0)
               replace p210 := eq_true p210
               replace q210 := eq_true q210
               have p211 : 0 ≤ ((rd y205 x71_4) : Int) := of_decide_eq_true (by first | (with_reducible assumption) | assumption)
               have q211 : (rd y205 x71_4) < (l1.length : Int) := of_decide_eq_true (by first | (with_reducible assumption) | assumption)
               obtain ⟨ad211, e211, hx211_0⟩ := Kd.at_int HR1.out (rd y205 x71_4) p211 q211
               obtain rfl : ad210 = ad211 := (by injection e211)
               try (replace hx211_0 := (HB.out.cell (World.block_lt_of_cell? w _ hx211_0)).trans hx211_0)
               replace p211 := eq_true p211
               replace q211 := eq_true q211
               go_wp2
               repeat (go_quiet (fail); try go_wp2)
               go_ret
               exact ⟨by first | rfl | (simp [errW_none, errW_some] <;> rfl) | (simp [*, errW_none, errW_some] <;> rfl), by repeat (first | (with_reducible first | exact HB.out | apply below_alloc | apply pw_below_drewN | apply below_drew1 | refine below_set ?_ GE201.out) | exact HB.out)⟩
              ·rw [if_neg c38] at H
               have c38b0 : ((rd l1 (rd (rd_L3 t197 x49_2) x59_3)) == (rd l1 (rd y205 x71_4))) = false := beq_eq_false_iff_ne.mpr c38
               have c38b1 : ((rd l1 (rd (rd_L3 t197 x49_2) x59_3)) != (rd l1 (rd y205 x71_4))) = true := bne_iff_ne.mpr c38
               have H' := Aside0.mk H
               clear H
               have p209 : 0 ≤ (x71_4 : Int) := of_decide_eq_true (by first | (with_reducible assumption) | assumption)
               have q209 : x71_4 < (y205.length : Int) := of_decide_eq_true (by first | (with_reducible assumption) | assumption)
               obtain ⟨ad209, e209, hx209_0⟩ := Kd.at_int HR208.out x71_4 p209 q209
               cases e209
               try (replace hx209_0 := (HB.out.cell (World.block_lt_of_cell? w _ hx209_0)).trans hx209_0)
               replace p209 := eq_true p209
               replace q209 := eq_true q209
               have p210 : 0 ≤ ((rd (rd_L3 t197 x49_2) x59_3) : Int) := of_decide_eq_true (by first | (with_reducible assumption) | assumption)
               have q210 : (rd (rd_L3 t197 x49_2) x59_3) < (l1.length : Int) := of_decide_eq_true (by first | (with_reducible assumption) | assumption)
               obtain ⟨ad210, e210, hx210_0⟩ := Kd.at_int HR1.out (rd (rd_L3 t197 x49_2) x59_3) p210 q210
               cases e210
               try (replace hx210_0 := (HB.out.cell (World.block_lt_of_cell? w _ hx210_0)).trans hx210_0)
               replace p210 := eq_true p210
               replace q210 := eq_true q210
               have p211 : 0 ≤ ((rd y205 x71_4) : Int) := of_decide_eq_true (by first | (with_reducible assumption) | assumption)
               have q211 : (rd y205 x71_4) < (l1.length : Int) := of_decide_eq_true (by first | (with_reducible assumption) | assumption)
               obtain ⟨ad211, e211, hx211_0⟩ := Kd.at_int HR1.out (rd y205 x71_4) p211 q211
               obtain rfl : ad210 = ad211 := (by injection e211)
               try (replace hx211_0 := (HB.out.cell (World.block_lt_of_cell? w _ hx211_0)).trans hx211_0)
               replace p211 := eq_true p211
               replace q211 := eq_true q211
               go_wp2
               repeat (go_quiet (fail); try go_wp2)
               go_roundg k4
               case measure => have := HK1.out; have := HK2.out; have := HK3.out; have := HK4.out; omega
               case rel => exact ⟨(wrap64 (x71_4 + 1)), (by first | rfl | (simp; done) | (simp [*]; done)), H', ⟨by have := HK1.out; have := HK2.out; have := HK3.out; have := HK4.out; omega⟩, ⟨by (with_reducible repeat (first | apply Kd.S_alloc | apply Kd.S_drewN | apply Kd.S_drew)); exact HO_11.out⟩, ⟨by (with_reducible repeat (first | refine blk_drewN ?_ _ | refine blk_drew ?_ | refine blk_alloc ?_ _)); exact BK201.out⟩, ⟨by repeat (first | (with_reducible exact HR202_0.out) | (with_reducible refine Kd.C_alloc ?_ _) | (with_reducible refine Kd.C_drewN ?_ _) | (with_reducible refine Kd.C_drew ?_) | exact HR202_0.out)⟩, ⟨by repeat (first | (with_reducible exact HR204_0.out) | (with_reducible refine Kd.C_alloc ?_ _) | (with_reducible refine Kd.C_drewN ?_ _) | (with_reducible refine Kd.C_drew ?_) | exact HR204_0.out)⟩, ⟨by repeat (first | (with_reducible exact HR208.out) | (with_reducible refine Kd.C_alloc ?_ _) | (with_reducible refine Kd.C_drewN ?_ _) | (with_reducible refine Kd.C_drew ?_) | exact HR208.out)⟩, ⟨by repeat (first | (with_reducible first | exact HB.out | apply below_alloc | apply pw_below_drewN | apply below_drew1 | refine below_set ?_ GE201.out) | exact HB.out)⟩⟩
             ·rw [if_neg c31] at H
              have c31b0 : decide (x71_4 < (y205.length : Int)) = false := decide_eq_false c31
              clear c31
              have H' := Aside0.mk H
              clear H
              go_wp2
              repeat (go_quiet (fail); try go_wp2)
              go_roundg k4
              case measure => have := HK1.out; have := HK2.out; have := HK3.out; have := HK4.out; omega
              case rel => exact ⟨(wrap64 (x59_3 + 1)), (by first | rfl | (simp; done) | (simp [*]; done)), H', ⟨by have := HK1.out; have := HK2.out; have := HK3.out; have := HK4.out; omega⟩, ⟨by (with_reducible repeat (first | apply Kd.S_alloc | apply Kd.S_drewN | apply Kd.S_drew)); exact HO_11.out⟩, ⟨by (with_reducible repeat (first | refine blk_drewN ?_ _ | refine blk_drew ?_ | refine blk_alloc ?_ _)); exact BK201.out⟩, ⟨by repeat (first | (with_reducible exact HR202_0.out) | (with_reducible refine Kd.C_alloc ?_ _) | (with_reducible refine Kd.C_drewN ?_ _) | (with_reducible refine Kd.C_drew ?_) | exact HR202_0.out)⟩, ⟨by repeat (first | (with_reducible first | exact HB.out | apply below_alloc | apply pw_below_drewN | apply below_drew1 | refine below_set ?_ GE201.out) | exact HB.out)⟩⟩
          ·rw [if_neg c23] at H
           have c23b0 : decide (x59_3 < ((rd_L3 t197 x49_2).length : Int)) = false := decide_eq_false c23
           clear c23
           replace H := Option.bind_eq_some_iff.mp H
           obtain ⟨⟨t212, t213⟩, A390, H⟩ := H
           replace H : ((code_Next.f k3 ((rd_T37 l0 x49_2).f0) ((rd_T37 l0 x49_2).f1) ((rd_T37 l0 x49_2).f2) ((rd_T37 l0 x49_2).f3) ((rd_T37 l0 x49_2).f4) ((rd_T37 l0 x49_2).f5) ((rd_T37 l0 x49_2).f6) ((rd_T37 l0 x49_2).f7) x49_2 (l0.length : Int)).bind fun t214 => (tautochronelaw18_want.l4 k3 l0 l1 t197 t212 t213 l0 (l0.length : Int) x49_2 t214 (t214.length : Int) 0)) = some r := H
           have A39 := Aside0.mk A390
           clear A390
           replace H := Option.bind_eq_some_iff.mp H
           obtain ⟨t214, A400, H⟩ := H
           replace H : (tautochronelaw18_want.l4 k3 l0 l1 t197 t212 t213 l0 (l0.length : Int) x49_2 t214 (t214.length : Int) 0) = some r := H
           have A40 := Aside0.mk A400
           clear A400
           have H' := Aside0.mk H
           clear H
           have hcz41_0 : wr.cell? ⟨gb201, 0, none⟩ = some (.int .i64 ((rd_T37 l0 x49_2).f0)) := (blk_cell BK201.out 0).trans rfl
           have hcz41_1 : wr.cell? ⟨gb201, 1, none⟩ = some (.int .i64 ((rd_T37 l0 x49_2).f1)) := (blk_cell BK201.out 1).trans rfl
           have hcz41_2 : wr.cell? ⟨gb201, 2, none⟩ = some (.int .i64 ((rd_T37 l0 x49_2).f2)) := (blk_cell BK201.out 2).trans rfl
           have hcz41_3 : wr.cell? ⟨gb201, 3, none⟩ = some (.int .i64 ((rd_T37 l0 x49_2).f3)) := (blk_cell BK201.out 3).trans rfl
           have hcz41_4 : wr.cell? ⟨gb201, 4, none⟩ = some (.int .i64 ((rd_T37 l0 x49_2).f4)) := (blk_cell BK201.out 4).trans rfl
           have hcz41_5 : wr.cell? ⟨gb201, 5, none⟩ = some (.int .i64 ((rd_T37 l0 x49_2).f5)) := (blk_cell BK201.out 5).trans rfl
           have hcz41_6 : wr.cell? ⟨gb201, 6, none⟩ = some (.int .u64 ((rd_T37 l0 x49_2).f6)) := (blk_cell BK201.out 6).trans rfl
           have hcz41_7 : wr.cell? ⟨gb201, 7, none⟩ = some (.int .i64 ((rd_T37 l0 x49_2).f7)) := (blk_cell BK201.out 7).trans rfl
           have hfz41_0 := blk_frozen BK201.out 0
           have hfz41_1 := blk_frozen BK201.out 1
           have hfz41_2 := blk_frozen BK201.out 2
           have hfz41_3 := blk_frozen BK201.out 3
           have hfz41_4 := blk_frozen BK201.out 4
           have hfz41_5 := blk_frozen BK201.out 5
           have hfz41_6 := blk_frozen BK201.out 6
           have hfz41_7 := blk_frozen BK201.out 7
           go_wp2_with (first | (go_at_call 13; (with_reducible refine (code_Defines.calls ((rd_T37 l0 x49_2).f0) ((rd_T37 l0 x49_2).f1) ((rd_T37 l0 x49_2).f2) ((rd_T37 l0 x49_2).f3) ((rd_T37 l0 x49_2).f4) ((rd_T37 l0 x49_2).f5) ((rd_T37 l0 x49_2).f6) ((rd_T37 l0 x49_2).f7) t212 t213 _ A39.out).mono ?_); rintro e w42 ⟨rfl, hb⟩; have n0_ := Aside0.mk (Kd.S_below (by (with_reducible repeat (first | apply Kd.S_alloc | apply Kd.S_drewN | apply Kd.S_drew)); exact HO_11.out) hb); have n1_ := Aside0.mk (blk_below (g := gb201) (o := .cells #[.int .i64 ((rd_T37 l0 x49_2).f0), .int .i64 ((rd_T37 l0 x49_2).f1), .int .i64 ((rd_T37 l0 x49_2).f2), .int .i64 ((rd_T37 l0 x49_2).f3), .int .i64 ((rd_T37 l0 x49_2).f4), .int .i64 ((rd_T37 l0 x49_2).f5), .int .u64 ((rd_T37 l0 x49_2).f6), .int .i64 ((rd_T37 l0 x49_2).f7)] 37 (0, 0)) (by (with_reducible repeat (first | refine blk_drewN ?_ _ | refine blk_drew ?_ | refine blk_alloc ?_ _)); exact BK201.out) hb); have n2_ := Aside0.mk (Kd.C_below (by repeat (first | (with_reducible exact HR202_0.out) | (with_reducible refine Kd.C_alloc ?_ _) | (with_reducible refine Kd.C_drewN ?_ _) | (with_reducible refine Kd.C_drew ?_) | exact HR202_0.out)) hb); have n3_ := Aside0.mk (below_step (by repeat (first | (with_reducible first | exact HB.out | apply below_alloc | apply pw_below_drewN | apply below_drew1 | refine below_set ?_ GE201.out) | exact HB.out)) hb); clear HO_11; clear BK201; clear HR202_0; clear HB; have HO_11 := n0_; have BK201 := n1_; have HR202_0 := n2_; have HB := n3_; clear n0_ n1_ n2_ n3_; (try clear hb); (try clear hb2); (try clear hk); (try clear hi); have hcz43_0 : w42.cell? ⟨gb201, 0, none⟩ = some (.int .i64 ((rd_T37 l0 x49_2).f0)) := (blk_cell BK201.out 0).trans rfl; have hcz43_1 : w42.cell? ⟨gb201, 1, none⟩ = some (.int .i64 ((rd_T37 l0 x49_2).f1)) := (blk_cell BK201.out 1).trans rfl; have hcz43_2 : w42.cell? ⟨gb201, 2, none⟩ = some (.int .i64 ((rd_T37 l0 x49_2).f2)) := (blk_cell BK201.out 2).trans rfl; have hcz43_3 : w42.cell? ⟨gb201, 3, none⟩ = some (.int .i64 ((rd_T37 l0 x49_2).f3)) := (blk_cell BK201.out 3).trans rfl; have hcz43_4 : w42.cell? ⟨gb201, 4, none⟩ = some (.int .i64 ((rd_T37 l0 x49_2).f4)) := (blk_cell BK201.out 4).trans rfl; have hcz43_5 : w42.cell? ⟨gb201, 5, none⟩ = some (.int .i64 ((rd_T37 l0 x49_2).f5)) := (blk_cell BK201.out 5).trans rfl; have hcz43_6 : w42.cell? ⟨gb201, 6, none⟩ = some (.int .u64 ((rd_T37 l0 x49_2).f6)) := (blk_cell BK201.out 6).trans rfl; have hcz43_7 : w42.cell? ⟨gb201, 7, none⟩ = some (.int .i64 ((rd_T37 l0 x49_2).f7)) := (blk_cell BK201.out 7).trans rfl; have hfz43_0 := blk_frozen BK201.out 0; have hfz43_1 := blk_frozen BK201.out 1; have hfz43_2 := blk_frozen BK201.out 2; have hfz43_3 := blk_frozen BK201.out 3; have hfz43_4 := blk_frozen BK201.out 4; have hfz43_5 := blk_frozen BK201.out 5; have hfz43_6 := blk_frozen BK201.out 6; have hfz43_7 := blk_frozen BK201.out 7) | (go_at_call 17; (with_reducible refine (code_Next.calls k3 ((rd_T37 l0 x49_2).f0) ((rd_T37 l0 x49_2).f1) ((rd_T37 l0 x49_2).f2) ((rd_T37 l0 x49_2).f3) ((rd_T37 l0 x49_2).f4) ((rd_T37 l0 x49_2).f5) ((rd_T37 l0 x49_2).f6) ((rd_T37 l0 x49_2).f7) x49_2 (l0.length : Int) t214 _ A40.out).mono ?_); rintro e w44 ⟨v215, rfl, ho0, hb⟩; have n0_ := Aside0.mk (Kd.S_elder' (by (with_reducible repeat (first | apply Kd.S_alloc | apply Kd.S_drewN | apply Kd.S_drew)); exact HO_11.out) (Kd.R_base ho0) hb); have n1_ := Aside0.mk (Kd.R_lower ho0 (below_size (by repeat (first | (with_reducible first | exact HB.out | apply below_alloc | apply pw_below_drewN | apply below_drew1 | refine below_set ?_ GE201.out) | exact HB.out)))); have n2_ := Aside0.mk (blk_below (g := gb201) (o := .cells #[.int .i64 ((rd_T37 l0 x49_2).f0), .int .i64 ((rd_T37 l0 x49_2).f1), .int .i64 ((rd_T37 l0 x49_2).f2), .int .i64 ((rd_T37 l0 x49_2).f3), .int .i64 ((rd_T37 l0 x49_2).f4), .int .i64 ((rd_T37 l0 x49_2).f5), .int .u64 ((rd_T37 l0 x49_2).f6), .int .i64 ((rd_T37 l0 x49_2).f7)] 37 (0, 0)) (by (with_reducible repeat (first | refine blk_drewN ?_ _ | refine blk_drew ?_ | refine blk_alloc ?_ _)); exact BK201.out) hb); have n3_ := Aside0.mk (Kd.C_below (by repeat (first | (with_reducible exact HR202_0.out) | (with_reducible refine Kd.C_alloc ?_ _) | (with_reducible refine Kd.C_drewN ?_ _) | (with_reducible refine Kd.C_drew ?_) | exact HR202_0.out)) hb); have n4_ := Aside0.mk (below_step (by repeat (first | (with_reducible first | exact HB.out | apply below_alloc | apply pw_below_drewN | apply below_drew1 | refine below_set ?_ GE201.out) | exact HB.out)) hb); clear HO_11; clear BK201; clear HR202_0; clear HB; have HO_11 := n0_; have HO216 := n1_; have BK201 := n2_; have HR202_0 := n3_; have HB := n4_; clear n0_ n1_ n2_ n3_ n4_; (try clear hb); (try clear hb2); (try clear hk); (try clear hi); (try clear ho0); obtain ⟨Ao45, co45, eo45⟩ := Kd.R_slice HO216.out; subst eo45))
           repeat (go_quiet (first | (go_at_call 13; (with_reducible refine (code_Defines.calls ((rd_T37 l0 x49_2).f0) ((rd_T37 l0 x49_2).f1) ((rd_T37 l0 x49_2).f2) ((rd_T37 l0 x49_2).f3) ((rd_T37 l0 x49_2).f4) ((rd_T37 l0 x49_2).f5) ((rd_T37 l0 x49_2).f6) ((rd_T37 l0 x49_2).f7) t212 t213 _ A39.out).mono ?_); rintro e w42 ⟨rfl, hb⟩; have n0_ := Aside0.mk (Kd.S_below (by (with_reducible repeat (first | apply Kd.S_alloc | apply Kd.S_drewN | apply Kd.S_drew)); exact HO_11.out) hb); have n1_ := Aside0.mk (blk_below (g := gb201) (o := .cells #[.int .i64 ((rd_T37 l0 x49_2).f0), .int .i64 ((rd_T37 l0 x49_2).f1), .int .i64 ((rd_T37 l0 x49_2).f2), .int .i64 ((rd_T37 l0 x49_2).f3), .int .i64 ((rd_T37 l0 x49_2).f4), .int .i64 ((rd_T37 l0 x49_2).f5), .int .u64 ((rd_T37 l0 x49_2).f6), .int .i64 ((rd_T37 l0 x49_2).f7)] 37 (0, 0)) (by (with_reducible repeat (first | refine blk_drewN ?_ _ | refine blk_drew ?_ | refine blk_alloc ?_ _)); exact BK201.out) hb); have n2_ := Aside0.mk (Kd.C_below (by repeat (first | (with_reducible exact HR202_0.out) | (with_reducible refine Kd.C_alloc ?_ _) | (with_reducible refine Kd.C_drewN ?_ _) | (with_reducible refine Kd.C_drew ?_) | exact HR202_0.out)) hb); have n3_ := Aside0.mk (below_step (by repeat (first | (with_reducible first | exact HB.out | apply below_alloc | apply pw_below_drewN | apply below_drew1 | refine below_set ?_ GE201.out) | exact HB.out)) hb); clear HO_11; clear BK201; clear HR202_0; clear HB; have HO_11 := n0_; have BK201 := n1_; have HR202_0 := n2_; have HB := n3_; clear n0_ n1_ n2_ n3_; (try clear hb); (try clear hb2); (try clear hk); (try clear hi); have hcz43_0 : w42.cell? ⟨gb201, 0, none⟩ = some (.int .i64 ((rd_T37 l0 x49_2).f0)) := (blk_cell BK201.out 0).trans rfl; have hcz43_1 : w42.cell? ⟨gb201, 1, none⟩ = some (.int .i64 ((rd_T37 l0 x49_2).f1)) := (blk_cell BK201.out 1).trans rfl; have hcz43_2 : w42.cell? ⟨gb201, 2, none⟩ = some (.int .i64 ((rd_T37 l0 x49_2).f2)) := (blk_cell BK201.out 2).trans rfl; have hcz43_3 : w42.cell? ⟨gb201, 3, none⟩ = some (.int .i64 ((rd_T37 l0 x49_2).f3)) := (blk_cell BK201.out 3).trans rfl; have hcz43_4 : w42.cell? ⟨gb201, 4, none⟩ = some (.int .i64 ((rd_T37 l0 x49_2).f4)) := (blk_cell BK201.out 4).trans rfl; have hcz43_5 : w42.cell? ⟨gb201, 5, none⟩ = some (.int .i64 ((rd_T37 l0 x49_2).f5)) := (blk_cell BK201.out 5).trans rfl; have hcz43_6 : w42.cell? ⟨gb201, 6, none⟩ = some (.int .u64 ((rd_T37 l0 x49_2).f6)) := (blk_cell BK201.out 6).trans rfl; have hcz43_7 : w42.cell? ⟨gb201, 7, none⟩ = some (.int .i64 ((rd_T37 l0 x49_2).f7)) := (blk_cell BK201.out 7).trans rfl; have hfz43_0 := blk_frozen BK201.out 0; have hfz43_1 := blk_frozen BK201.out 1; have hfz43_2 := blk_frozen BK201.out 2; have hfz43_3 := blk_frozen BK201.out 3; have hfz43_4 := blk_frozen BK201.out 4; have hfz43_5 := blk_frozen BK201.out 5; have hfz43_6 := blk_frozen BK201.out 6; have hfz43_7 := blk_frozen BK201.out 7) | (go_at_call 17; (with_reducible refine (code_Next.calls k3 ((rd_T37 l0 x49_2).f0) ((rd_T37 l0 x49_2).f1) ((rd_T37 l0 x49_2).f2) ((rd_T37 l0 x49_2).f3) ((rd_T37 l0 x49_2).f4) ((rd_T37 l0 x49_2).f5) ((rd_T37 l0 x49_2).f6) ((rd_T37 l0 x49_2).f7) x49_2 (l0.length : Int) t214 _ A40.out).mono ?_); rintro e w44 ⟨v215, rfl, ho0, hb⟩; have n0_ := Aside0.mk (Kd.S_elder' (by (with_reducible repeat (first | apply Kd.S_alloc | apply Kd.S_drewN | apply Kd.S_drew)); exact HO_11.out) (Kd.R_base ho0) hb); have n1_ := Aside0.mk (Kd.R_lower ho0 (below_size (by repeat (first | (with_reducible first | exact HB.out | apply below_alloc | apply pw_below_drewN | apply below_drew1 | refine below_set ?_ GE201.out) | exact HB.out)))); have n2_ := Aside0.mk (blk_below (g := gb201) (o := .cells #[.int .i64 ((rd_T37 l0 x49_2).f0), .int .i64 ((rd_T37 l0 x49_2).f1), .int .i64 ((rd_T37 l0 x49_2).f2), .int .i64 ((rd_T37 l0 x49_2).f3), .int .i64 ((rd_T37 l0 x49_2).f4), .int .i64 ((rd_T37 l0 x49_2).f5), .int .u64 ((rd_T37 l0 x49_2).f6), .int .i64 ((rd_T37 l0 x49_2).f7)] 37 (0, 0)) (by (with_reducible repeat (first | refine blk_drewN ?_ _ | refine blk_drew ?_ | refine blk_alloc ?_ _)); exact BK201.out) hb); have n3_ := Aside0.mk (Kd.C_below (by repeat (first | (with_reducible exact HR202_0.out) | (with_reducible refine Kd.C_alloc ?_ _) | (with_reducible refine Kd.C_drewN ?_ _) | (with_reducible refine Kd.C_drew ?_) | exact HR202_0.out)) hb); have n4_ := Aside0.mk (below_step (by repeat (first | (with_reducible first | exact HB.out | apply below_alloc | apply pw_below_drewN | apply below_drew1 | refine below_set ?_ GE201.out) | exact HB.out)) hb); clear HO_11; clear BK201; clear HR202_0; clear HB; have HO_11 := n0_; have HO216 := n1_; have BK201 := n2_; have HR202_0 := n3_; have HB := n4_; clear n0_ n1_ n2_ n3_ n4_; (try clear hb); (try clear hb2); (try clear hk); (try clear hi); (try clear ho0); obtain ⟨Ao45, co45, eo45⟩ := Kd.R_slice HO216.out; subst eo45)); try go_wp2_with (first | (go_at_call 13; (with_reducible refine (code_Defines.calls ((rd_T37 l0 x49_2).f0) ((rd_T37 l0 x49_2).f1) ((rd_T37 l0 x49_2).f2) ((rd_T37 l0 x49_2).f3) ((rd_T37 l0 x49_2).f4) ((rd_T37 l0 x49_2).f5) ((rd_T37 l0 x49_2).f6) ((rd_T37 l0 x49_2).f7) t212 t213 _ A39.out).mono ?_); rintro e w42 ⟨rfl, hb⟩; have n0_ := Aside0.mk (Kd.S_below (by (with_reducible repeat (first | apply Kd.S_alloc | apply Kd.S_drewN | apply Kd.S_drew)); exact HO_11.out) hb); have n1_ := Aside0.mk (blk_below (g := gb201) (o := .cells #[.int .i64 ((rd_T37 l0 x49_2).f0), .int .i64 ((rd_T37 l0 x49_2).f1), .int .i64 ((rd_T37 l0 x49_2).f2), .int .i64 ((rd_T37 l0 x49_2).f3), .int .i64 ((rd_T37 l0 x49_2).f4), .int .i64 ((rd_T37 l0 x49_2).f5), .int .u64 ((rd_T37 l0 x49_2).f6), .int .i64 ((rd_T37 l0 x49_2).f7)] 37 (0, 0)) (by (with_reducible repeat (first | refine blk_drewN ?_ _ | refine blk_drew ?_ | refine blk_alloc ?_ _)); exact BK201.out) hb); have n2_ := Aside0.mk (Kd.C_below (by repeat (first | (with_reducible exact HR202_0.out) | (with_reducible refine Kd.C_alloc ?_ _) | (with_reducible refine Kd.C_drewN ?_ _) | (with_reducible refine Kd.C_drew ?_) | exact HR202_0.out)) hb); have n3_ := Aside0.mk (below_step (by repeat (first | (with_reducible first | exact HB.out | apply below_alloc | apply pw_below_drewN | apply below_drew1 | refine below_set ?_ GE201.out) | exact HB.out)) hb); clear HO_11; clear BK201; clear HR202_0; clear HB; have HO_11 := n0_; have BK201 := n1_; have HR202_0 := n2_; have HB := n3_; clear n0_ n1_ n2_ n3_; (try clear hb); (try clear hb2); (try clear hk); (try clear hi); have hcz43_0 : w42.cell? ⟨gb201, 0, none⟩ = some (.int .i64 ((rd_T37 l0 x49_2).f0)) := (blk_cell BK201.out 0).trans rfl; have hcz43_1 : w42.cell? ⟨gb201, 1, none⟩ = some (.int .i64 ((rd_T37 l0 x49_2).f1)) := (blk_cell BK201.out 1).trans rfl; have hcz43_2 : w42.cell? ⟨gb201, 2, none⟩ = some (.int .i64 ((rd_T37 l0 x49_2).f2)) := (blk_cell BK201.out 2).trans rfl; have hcz43_3 : w42.cell? ⟨gb201, 3, none⟩ = some (.int .i64 ((rd_T37 l0 x49_2).f3)) := (blk_cell BK201.out 3).trans rfl; have hcz43_4 : w42.cell? ⟨gb201, 4, none⟩ = some (.int .i64 ((rd_T37 l0 x49_2).f4)) := (blk_cell BK201.out 4).trans rfl; have hcz43_5 : w42.cell? ⟨gb201, 5, none⟩ = some (.int .i64 ((rd_T37 l0 x49_2).f5)) := (blk_cell BK201.out 5).trans rfl; have hcz43_6 : w42.cell? ⟨gb201, 6, none⟩ = some (.int .u64 ((rd_T37 l0 x49_2).f6)) := (blk_cell BK201.out 6).trans rfl; have hcz43_7 : w42.cell? ⟨gb201, 7, none⟩ = some (.int .i64 ((rd_T37 l0 x49_2).f7)) := (blk_cell BK201.out 7).trans rfl; have hfz43_0 := blk_frozen BK201.out 0; have hfz43_1 := blk_frozen BK201.out 1; have hfz43_2 := blk_frozen BK201.out 2; have hfz43_3 := blk_frozen BK201.out 3; have hfz43_4 := blk_frozen BK201.out 4; have hfz43_5 := blk_frozen BK201.out 5; have hfz43_6 := blk_frozen BK201.out 6; have hfz43_7 := blk_frozen BK201.out 7) | (go_at_call 17; (with_reducible refine (code_Next.calls k3 ((rd_T37 l0 x49_2).f0) ((rd_T37 l0 x49_2).f1) ((rd_T37 l0 x49_2).f2) ((rd_T37 l0 x49_2).f3) ((rd_T37 l0 x49_2).f4) ((rd_T37 l0 x49_2).f5) ((rd_T37 l0 x49_2).f6) ((rd_T37 l0 x49_2).f7) x49_2 (l0.length : Int) t214 _ A40.out).mono ?_); rintro e w44 ⟨v215, rfl, ho0, hb⟩; have n0_ := Aside0.mk (Kd.S_elder' (by (with_reducible repeat (first | apply Kd.S_alloc | apply Kd.S_drewN | apply Kd.S_drew)); exact HO_11.out) (Kd.R_base ho0) hb); have n1_ := Aside0.mk (Kd.R_lower ho0 (below_size (by repeat (first | (with_reducible first | exact HB.out | apply below_alloc | apply pw_below_drewN | apply below_drew1 | refine below_set ?_ GE201.out) | exact HB.out)))); have n2_ := Aside0.mk (blk_below (g := gb201) (o := .cells #[.int .i64 ((rd_T37 l0 x49_2).f0), .int .i64 ((rd_T37 l0 x49_2).f1), .int .i64 ((rd_T37 l0 x49_2).f2), .int .i64 ((rd_T37 l0 x49_2).f3), .int .i64 ((rd_T37 l0 x49_2).f4), .int .i64 ((rd_T37 l0 x49_2).f5), .int .u64 ((rd_T37 l0 x49_2).f6), .int .i64 ((rd_T37 l0 x49_2).f7)] 37 (0, 0)) (by (with_reducible repeat (first | refine blk_drewN ?_ _ | refine blk_drew ?_ | refine blk_alloc ?_ _)); exact BK201.out) hb); have n3_ := Aside0.mk (Kd.C_below (by repeat (first | (with_reducible exact HR202_0.out) | (with_reducible refine Kd.C_alloc ?_ _) | (with_reducible refine Kd.C_drewN ?_ _) | (with_reducible refine Kd.C_drew ?_) | exact HR202_0.out)) hb); have n4_ := Aside0.mk (below_step (by repeat (first | (with_reducible first | exact HB.out | apply below_alloc | apply pw_below_drewN | apply below_drew1 | refine below_set ?_ GE201.out) | exact HB.out)) hb); clear HO_11; clear BK201; clear HR202_0; clear HB; have HO_11 := n0_; have HO216 := n1_; have BK201 := n2_; have HR202_0 := n3_; have HB := n4_; clear n0_ n1_ n2_ n3_ n4_; (try clear hb); (try clear hb2); (try clear hk); (try clear hi); (try clear ho0); obtain ⟨Ao45, co45, eo45⟩ := Kd.R_slice HO216.out; subst eo45)))
           go_loopg [97] k3 (fun kq v97 w' => ∃ (x97_4 : Int), v97 = .int .i64 x97_4 ∧ Aside0 (tautochronelaw18_want.l4 kq l0 l1 t197 t212 t213 l0 (l0.length : Int) x49_2 t214 (t214.length : Int) x97_4 = some r) ∧ Aside0 (kq ≤ k3) ∧ Aside0 (Kd.S (Kd.slice 3 (Kd.int .i64)) 28 w' w.heap.size (fun k_ => some k_ ≠ ((.slice Ao45 t214.length co45) : Value).ownBlock) (.slice (some ad202) t197.length co22) t197) ∧ Aside0 (Kd.R (Kd.int .i64) 3 w' w.heap.size (fun _ => True) (.slice Ao45 t214.length co45) t214) ∧ Aside0 (w'.heap[gb201]? = some (.cells #[.int .i64 ((rd_T37 l0 x49_2).f0), .int .i64 ((rd_T37 l0 x49_2).f1), .int .i64 ((rd_T37 l0 x49_2).f2), .int .i64 ((rd_T37 l0 x49_2).f3), .int .i64 ((rd_T37 l0 x49_2).f4), .int .i64 ((rd_T37 l0 x49_2).f5), .int .u64 ((rd_T37 l0 x49_2).f6), .int .i64 ((rd_T37 l0 x49_2).f7)] 37 (0, 0))) ∧ Aside0 (Kd.C (Kd.int .i64) w' A202_0 (rd_L3 t197 x49_2).length (rd_L3 t197 x49_2)) ∧ Aside0 (Below w.heap.size w w'))
           case atStart => exact ⟨(0), (by first | rfl | (simp; done) | (simp [*]; done)), H', ⟨Nat.le_refl _⟩, ⟨by (with_reducible repeat (first | apply Kd.S_alloc | apply Kd.S_drewN | apply Kd.S_drew)); exact Kd.S_mono HO_11.out (fun _ hk => hk.2)⟩, ⟨by (with_reducible repeat (first | apply Kd.R_alloc | apply Kd.R_drewN | apply Kd.R_drew)); exact HO216.out⟩, ⟨by (with_reducible repeat (first | refine blk_drewN ?_ _ | refine blk_drew ?_ | refine blk_alloc ?_ _)); exact BK201.out⟩, ⟨by repeat (first | (with_reducible exact HR202_0.out) | (with_reducible refine Kd.C_alloc ?_ _) | (with_reducible refine Kd.C_drewN ?_ _) | (with_reducible refine Kd.C_drew ?_) | exact HR202_0.out)⟩, ⟨by repeat (first | (with_reducible first | exact HB.out | apply below_alloc | apply pw_below_drewN | apply below_drew1 | refine below_set ?_ GE201.out) | exact HB.out)⟩⟩
           case round =>
            clear H'
            try clear c1
            try clear p1
            try clear q1
            try clear hx1
            try clear c2
            try clear p2
            try clear q2
            try clear hx2
            try clear c3
            try clear q3
            try clear c6
            try clear c6b0
            try clear c6b1
            try clear p6
            try clear c8
            try clear c8b0
            try clear c9
            try clear c9b0
            try clear c10
            try clear c10b0
            try clear c11
            try clear c11b0
            try clear c12
            try clear c12b0
            try clear c15
            try clear c15b0
            try clear c16
            try clear c16b0
            try clear c17
            try clear c17b0
            try clear c18
            try clear c18b0
            try clear p19
            try clear q19
            try clear hx19
            try clear c20
            try clear p20
            try clear q20
            try clear hx20
            try clear p21
            try clear q21
            try clear hx21
            try clear c23
            try clear c23b0
            try clear c24
            try clear c24b0
            try clear c25
            try clear c25b0
            try clear c26
            try clear c26b0
            try clear c27
            try clear c27b0
            try clear c28
            try clear c28b0
            try clear c29
            try clear c29b0
            try clear c29b1
            try clear q30
            try clear c31
            try clear c31b0
            try clear c32
            try clear c32b0
            try clear c33
            try clear c33b0
            try clear c34
            try clear c34b0
            try clear c35
            try clear c35b0
            try clear c36
            try clear c36b0
            try clear c37
            try clear c37b0
            try clear c38
            try clear c38b0
            try clear c38b1
            try clear hcz20_0 hcz20_1 hcz20_2 hcz20_3 hcz20_4 hcz20_5 hcz20_6 hcz20_7
            try clear hcz41_0 hcz41_1 hcz41_2 hcz41_3 hcz41_4 hcz41_5 hcz41_6 hcz41_7
            try clear hcz43_0 hcz43_1 hcz43_2 hcz43_3 hcz43_4 hcz43_5 hcz43_6 hcz43_7
            try clear hfz20_0 hfz20_1 hfz20_2 hfz20_3 hfz20_4 hfz20_5 hfz20_6 hfz20_7
            try clear hfz41_0 hfz41_1 hfz41_2 hfz41_3 hfz41_4 hfz41_5 hfz41_6 hfz41_7
            try clear hfz43_0 hfz43_1 hfz43_2 hfz43_3 hfz43_4 hfz43_5 hfz43_6 hfz43_7
            try clear hx196_0
            try clear hx200_0
            try clear hx200_1
            try clear hx200_2
            try clear hx200_3
            try clear hx200_4
            try clear hx200_5
            try clear hx200_6
            try clear hx200_7
            try clear hx202_0
            try clear hx203_0
            try clear hx204_0
            try clear hx209_0
            try clear hx210_0
            try clear hx211_0
            try clear p1
            try clear p19
            try clear p196
            try clear p2
            try clear p20
            try clear p200
            try clear p202
            try clear p203
            try clear p204
            try clear p209
            try clear p210
            try clear p211
            try clear p6
            try clear q1
            try clear q19
            try clear q196
            try clear q2
            try clear q20
            try clear q200
            try clear q202
            try clear q203
            try clear q204
            try clear q209
            try clear q210
            try clear q211
            try clear q3
            try clear q30
            obtain ⟨x97_4, rfl, HA, HK4, HO_11, HO_95, BK201, HR202_0, HB⟩ := hrel
            cases gk with
            | zero => exact absurd HA.out (by simp [tautochronelaw18_want.l4])
            | succ k4 =>
             have H := HA.out
             clear HA
             simp only [tautochronelaw18_want.l4] at H
             by_cases c46 : x97_4 < (t214.length : Int)
             ·rw [if_pos c46] at H
              have c46b0 : decide (x97_4 < (t214.length : Int)) = true := decide_eq_true c46
              clear c46
              by_cases c47 : 0 ≤ x97_4
              rotate_left
              ·rw [if_neg c47] at H; exact absurd H (by simp)
              rw [if_pos c47] at H
              have c47b0 : decide (0 ≤ x97_4) = true := decide_eq_true c47
              clear c47
              by_cases c48 : x97_4 < (t214.length : Int)
              rotate_left
              ·rw [if_neg c48] at H; exact absurd H (by simp)
              rw [if_pos c48] at H
              have c48b0 : decide (x97_4 < (t214.length : Int)) = true := decide_eq_true c48
              clear c48
              by_cases c49 : 0 ≤ (rd t214 x97_4)
              rotate_left
              ·rw [if_neg c49] at H; exact absurd H (by simp)
              rw [if_pos c49] at H
              have c49b0 : decide (0 ≤ (rd t214 x97_4)) = true := decide_eq_true c49
              clear c49
              by_cases c50 : (rd t214 x97_4) < (t197.length : Int)
              rotate_left
              ·rw [if_neg c50] at H; exact absurd H (by simp)
              rw [if_pos c50] at H
              have c50b0 : decide ((rd t214 x97_4) < (t197.length : Int)) = true := decide_eq_true c50
              clear c50
              have H' := Aside0.mk H
              clear H
              have p217 : 0 ≤ (x97_4 : Int) := of_decide_eq_true (by first | (with_reducible assumption) | assumption)
              have q217 : x97_4 < (t214.length : Int) := of_decide_eq_true (by first | (with_reducible assumption) | assumption)
              obtain ⟨ad217, e217, hx217_0⟩ := Kd.at_int (Kd.R_reads' HO_95.out).2.2 x97_4 p217 q217
              cases e217
              replace p217 := eq_true p217
              replace q217 := eq_true q217
              have p218 : 0 ≤ ((rd t214 x97_4) : Int) := of_decide_eq_true (by first | (with_reducible assumption) | assumption)
              have q218 : (rd t214 x97_4) < (t197.length : Int) := of_decide_eq_true (by first | (with_reducible assumption) | assumption)
              obtain ⟨ad218, A218_0, c218_0, e218, hx218_0, hl218_0, hi218_0⟩ := at_L3 (Kd.S_reads' HO_11.out).2.2 (rd t214 x97_4) p218 q218
              obtain rfl : ad202 = ad218 := (by injection e218)
              obtain ⟨ce218, hce218, hMe218, hcc218⟩ := Kd.S_get HO_11.out [] (rd t214 x97_4) p218 (by first | exact q218 | exact of_decide_eq_true (by first | (with_reducible assumption) | assumption) | (have e_ := (Kd.S_reads' HO_11.out).1; omega))
              obtain ⟨ve218_0, rfl, ge218_0⟩ := hMe218
              have hv218_0 := hcc218 0 _ rfl
              rw [Nat.add_zero, show ((Kd.slice 3 (Kd.int .i64))).sz = 1 from rfl, Nat.mul_one] at hv218_0
              replace hv218_0 := Option.some.inj (hv218_0.symm.trans hx218_0)
              rw [hv218_0] at ge218_0
              have HL218_0 := Aside0.mk (show Kd.R (Kd.int .i64) 3 _ _ _ _ (rd_L3 t197 (rd t214 x97_4)) from ge218_0)
              clear hv218_0 ge218_0
              clear hcc218 hce218
              have HR218_0 := Aside0.mk hi218_0
              have HC218_0 := Aside0.mk hl218_0
              clear hi218_0 hl218_0
              replace p218 := eq_true p218
              replace q218 := eq_true q218
              go_wp2
              repeat (go_quiet (fail); try go_wp2)
              go_loopg [106] k4 (fun kq v106 w' => ∃ (x106_5 : Int), v106 = .int .i64 x106_5 ∧ Aside0 (tautochronelaw18_want.l5 kq l0 l1 t197 t212 t213 l0 (l0.length : Int) x49_2 t214 (t214.length : Int) x97_4 (rd_L3 t197 (rd t214 x97_4)) ((rd_L3 t197 (rd t214 x97_4)).length : Int) x106_5 = some r) ∧ Aside0 (kq ≤ k4) ∧ Aside0 (Kd.S (Kd.slice 3 (Kd.int .i64)) 28 w' w.heap.size (fun k_ => some k_ ≠ ((.slice (some ad217) t214.length co45) : Value).ownBlock) (.slice (some ad202) t197.length co22) t197) ∧ Aside0 (Kd.R (Kd.int .i64) 3 w' w.heap.size (fun _ => True) (.slice (some ad217) t214.length co45) t214) ∧ Aside0 (w'.heap[gb201]? = some (.cells #[.int .i64 ((rd_T37 l0 x49_2).f0), .int .i64 ((rd_T37 l0 x49_2).f1), .int .i64 ((rd_T37 l0 x49_2).f2), .int .i64 ((rd_T37 l0 x49_2).f3), .int .i64 ((rd_T37 l0 x49_2).f4), .int .i64 ((rd_T37 l0 x49_2).f5), .int .u64 ((rd_T37 l0 x49_2).f6), .int .i64 ((rd_T37 l0 x49_2).f7)] 37 (0, 0))) ∧ Aside0 (Kd.C (Kd.int .i64) w' A202_0 (rd_L3 t197 x49_2).length (rd_L3 t197 x49_2)) ∧ Aside0 (Kd.C (Kd.int .i64) w' A218_0 (rd_L3 t197 (rd t214 x97_4)).length (rd_L3 t197 (rd t214 x97_4))) ∧ Aside0 (Below w.heap.size w w'))
              case atStart => exact ⟨(0), (by first | rfl | (simp; done) | (simp [*]; done)), H', ⟨Nat.le_refl _⟩, ⟨by (with_reducible repeat (first | apply Kd.S_alloc | apply Kd.S_drewN | apply Kd.S_drew)); exact HO_11.out⟩, ⟨by (with_reducible repeat (first | apply Kd.R_alloc | apply Kd.R_drewN | apply Kd.R_drew)); exact HO_95.out⟩, ⟨by (with_reducible repeat (first | refine blk_drewN ?_ _ | refine blk_drew ?_ | refine blk_alloc ?_ _)); exact BK201.out⟩, ⟨by repeat (first | (with_reducible exact HR202_0.out) | (with_reducible refine Kd.C_alloc ?_ _) | (with_reducible refine Kd.C_drewN ?_ _) | (with_reducible refine Kd.C_drew ?_) | exact HR202_0.out)⟩, ⟨by repeat (first | (with_reducible exact HR218_0.out) | (with_reducible refine Kd.C_alloc ?_ _) | (with_reducible refine Kd.C_drewN ?_ _) | (with_reducible refine Kd.C_drew ?_) | exact HR218_0.out)⟩, ⟨by repeat (first | (with_reducible first | exact HB.out | apply below_alloc | apply pw_below_drewN | apply below_drew1 | refine below_set ?_ GE201.out) | exact HB.out)⟩⟩
              case round =>
               clear H'
               try clear c1
               try clear p1
               try clear q1
               try clear hx1
               try clear c2
               try clear p2
               try clear q2
               try clear hx2
               try clear c3
               try clear q3
               try clear c4
               try clear c5
               try clear c6
               try clear c6b0
               try clear c6b1
               try clear p6
               try clear c8
               try clear c8b0
               try clear c9
               try clear c9b0
               try clear c10
               try clear c10b0
               try clear c11
               try clear c11b0
               try clear c12
               try clear c12b0
               try clear c15
               try clear c15b0
               try clear c16
               try clear c16b0
               try clear c17
               try clear c17b0
               try clear c18
               try clear c18b0
               try clear p19
               try clear q19
               try clear hx19
               try clear c20
               try clear p20
               try clear q20
               try clear hx20
               try clear c21
               try clear p21
               try clear q21
               try clear hx21
               try clear c23
               try clear c23b0
               try clear c24
               try clear c24b0
               try clear c25
               try clear c25b0
               try clear c26
               try clear c26b0
               try clear c27
               try clear c27b0
               try clear c28
               try clear c28b0
               try clear c29
               try clear c29b0
               try clear c29b1
               try clear q30
               try clear c31
               try clear c31b0
               try clear c32
               try clear c32b0
               try clear c33
               try clear c33b0
               try clear c34
               try clear c34b0
               try clear c35
               try clear c35b0
               try clear c36
               try clear c36b0
               try clear c37
               try clear c37b0
               try clear c38
               try clear c38b0
               try clear c38b1
               try clear c46
               try clear c46b0
               try clear c47
               try clear c47b0
               try clear c48
               try clear c48b0
               try clear c49
               try clear c49b0
               try clear c50
               try clear c50b0
               try clear hcz20_0 hcz20_1 hcz20_2 hcz20_3 hcz20_4 hcz20_5 hcz20_6 hcz20_7
               try clear hcz41_0 hcz41_1 hcz41_2 hcz41_3 hcz41_4 hcz41_5 hcz41_6 hcz41_7
               try clear hcz43_0 hcz43_1 hcz43_2 hcz43_3 hcz43_4 hcz43_5 hcz43_6 hcz43_7
               try clear hfz20_0 hfz20_1 hfz20_2 hfz20_3 hfz20_4 hfz20_5 hfz20_6 hfz20_7
               try clear hfz41_0 hfz41_1 hfz41_2 hfz41_3 hfz41_4 hfz41_5 hfz41_6 hfz41_7
               try clear hfz43_0 hfz43_1 hfz43_2 hfz43_3 hfz43_4 hfz43_5 hfz43_6 hfz43_7
               try clear hx196_0
               try clear hx200_0
               try clear hx200_1
               try clear hx200_2
               try clear hx200_3
               try clear hx200_4
               try clear hx200_5
               try clear hx200_6
               try clear hx200_7
               try clear hx202_0
               try clear hx203_0
               try clear hx204_0
               try clear hx209_0
               try clear hx210_0
               try clear hx211_0
               try clear hx217_0
               try clear hx218_0
               try clear p1
               try clear p19
               try clear p196
               try clear p2
               try clear p20
               try clear p200
               try clear p202
               try clear p203
               try clear p204
               try clear p209
               try clear p21
               try clear p210
               try clear p211
               try clear p217
               try clear p218
               try clear p6
               try clear q1
               try clear q19
               try clear q196
               try clear q2
               try clear q20
               try clear q200
               try clear q202
               try clear q203
               try clear q204
               try clear q209
               try clear q21
               try clear q210
               try clear q211
               try clear q217
               try clear q218
               try clear q3
               try clear q30
               obtain ⟨x106_5, rfl, HA, HK5, HO_11, HO_95, BK201, HR202_0, HR218_0, HB⟩ := hrel
               cases gk with
               | zero => exact absurd HA.out (by simp [tautochronelaw18_want.l5])
               | succ k5 =>
                have H := HA.out
                clear HA
                simp only [tautochronelaw18_want.l5] at H
                by_cases c51 : x106_5 < ((rd_L3 t197 (rd t214 x97_4)).length : Int)
                ·rw [if_pos c51] at H
                 have c51b0 : decide (x106_5 < ((rd_L3 t197 (rd t214 x97_4)).length : Int)) = true := decide_eq_true c51
                 clear c51
                 by_cases c52 : 0 ≤ x106_5
                 rotate_left
                 ·rw [if_neg c52] at H; exact absurd H (by simp)
                 rw [if_pos c52] at H
                 have c52b0 : decide (0 ≤ x106_5) = true := decide_eq_true c52
                 clear c52
                 by_cases c53 : x106_5 < ((rd_L3 t197 (rd t214 x97_4)).length : Int)
                 rotate_left
                 ·rw [if_neg c53] at H; exact absurd H (by simp)
                 rw [if_pos c53] at H
                 have c53b0 : decide (x106_5 < ((rd_L3 t197 (rd t214 x97_4)).length : Int)) = true := decide_eq_true c53
                 clear c53
                 by_cases c54 : t213 = true
                 ·subst c54
                  have H1 : (if (rd (rd_L3 t197 (rd t214 x97_4)) x106_5) = t212 then (tautochronelaw18_want.l5 k5 l0 l1 t197 t212 true l0 (l0.length : Int) x49_2 t214 (t214.length : Int) x97_4 (rd_L3 t197 (rd t214 x97_4)) ((rd_L3 t197 (rd t214 x97_4)).length : Int) (wrap64 (x106_5 + 1))) else (if 0 ≤ (rd (rd_L3 t197 (rd t214 x97_4)) x106_5) then (if (rd (rd_L3 t197 (rd t214 x97_4)) x106_5) < (l1.length : Int) then (if 0 ≤ t212 then (if t212 < (l1.length : Int) then (if (rd l1 (rd (rd_L3 t197 (rd t214 x97_4)) x106_5)) = (rd l1 t212) then (some false) else (tautochronelaw18_want.l5 k5 l0 l1 t197 t212 true l0 (l0.length : Int) x49_2 t214 (t214.length : Int) x97_4 (rd_L3 t197 (rd t214 x97_4)) ((rd_L3 t197 (rd t214 x97_4)).length : Int) (wrap64 (x106_5 + 1)))) else (none)) else (none)) else (none)) else (none))) = some r := by rw [if_pos rfl] at H; exact H
                  clear H
                  have H := H1
                  clear H1
                  by_cases c55 : (rd (rd_L3 t197 (rd t214 x97_4)) x106_5) = t212
                  ·rw [if_pos c55] at H
                   have c55b0 : ((rd (rd_L3 t197 (rd t214 x97_4)) x106_5) == t212) = true := beq_iff_eq.mpr c55
                   have c55b1 : ((rd (rd_L3 t197 (rd t214 x97_4)) x106_5) != t212) = false := bne_eq_false_iff_eq.mpr c55
                   clear c55
                   have H' := Aside0.mk H
                   clear H
                   have p219 : 0 ≤ (x106_5 : Int) := of_decide_eq_true (by first | (with_reducible assumption) | assumption)
                   have q219 : x106_5 < ((rd_L3 t197 (rd t214 x97_4)).length : Int) := of_decide_eq_true (by first | (with_reducible assumption) | assumption)
                   obtain ⟨ad219, e219, hx219_0⟩ := Kd.at_int HR218_0.out x106_5 p219 q219
                   cases e219
                   try (replace hx219_0 := (HB.out.cell (World.block_lt_of_cell? w _ hx219_0)).trans hx219_0)
                   replace p219 := eq_true p219
                   replace q219 := eq_true q219
                   go_wp2
                   repeat (go_quiet (fail); try go_wp2)
                   go_roundg k5
                   case measure => have := HK1.out; have := HK2.out; have := HK3.out; have := HK4.out; have := HK5.out; omega
                   case rel => exact ⟨(wrap64 (x106_5 + 1)), (by first | rfl | (simp; done) | (simp [*]; done)), H', ⟨by have := HK1.out; have := HK2.out; have := HK3.out; have := HK4.out; have := HK5.out; omega⟩, ⟨by (with_reducible repeat (first | apply Kd.S_alloc | apply Kd.S_drewN | apply Kd.S_drew)); exact HO_11.out⟩, ⟨by (with_reducible repeat (first | apply Kd.R_alloc | apply Kd.R_drewN | apply Kd.R_drew)); exact HO_95.out⟩, ⟨by (with_reducible repeat (first | refine blk_drewN ?_ _ | refine blk_drew ?_ | refine blk_alloc ?_ _)); exact BK201.out⟩, ⟨by repeat (first | (with_reducible exact HR202_0.out) | (with_reducible refine Kd.C_alloc ?_ _) | (with_reducible refine Kd.C_drewN ?_ _) | (with_reducible refine Kd.C_drew ?_) | exact HR202_0.out)⟩, ⟨by repeat (first | (with_reducible exact HR218_0.out) | (with_reducible refine Kd.C_alloc ?_ _) | (with_reducible refine Kd.C_drewN ?_ _) | (with_reducible refine Kd.C_drew ?_) | exact HR218_0.out)⟩, ⟨by repeat (first | (with_reducible first | exact HB.out | apply below_alloc | apply pw_below_drewN | apply below_drew1 | refine below_set ?_ GE201.out) | exact HB.out)⟩⟩
                  ·rw [if_neg c55] at H
                   have c55b0 : ((rd (rd_L3 t197 (rd t214 x97_4)) x106_5) == t212) = false := beq_eq_false_iff_ne.mpr c55
                   have c55b1 : ((rd (rd_L3 t197 (rd t214 x97_4)) x106_5) != t212) = true := bne_iff_ne.mpr c55
                   by_cases c56 : 0 ≤ (rd (rd_L3 t197 (rd t214 x97_4)) x106_5)
                   rotate_left
                   ·rw [if_neg c56] at H; exact absurd H (by simp)
                   rw [if_pos c56] at H
                   have c56b0 : decide (0 ≤ (rd (rd_L3 t197 (rd t214 x97_4)) x106_5)) = true := decide_eq_true c56
                   clear c56
                   by_cases c57 : (rd (rd_L3 t197 (rd t214 x97_4)) x106_5) < (l1.length : Int)
                   rotate_left
                   ·rw [if_neg c57] at H; exact absurd H (by simp)
                   rw [if_pos c57] at H
                   have c57b0 : decide ((rd (rd_L3 t197 (rd t214 x97_4)) x106_5) < (l1.length : Int)) = true := decide_eq_true c57
                   clear c57
                   by_cases c58 : 0 ≤ t212
                   rotate_left
                   ·rw [if_neg c58] at H; exact absurd H (by simp)
                   rw [if_pos c58] at H
                   have c58b0 : decide (0 ≤ t212) = true := decide_eq_true c58
                   clear c58
                   by_cases c59 : t212 < (l1.length : Int)
                   rotate_left
                   ·rw [if_neg c59] at H; exact absurd H (by simp)
                   rw [if_pos c59] at H
                   have c59b0 : decide (t212 < (l1.length : Int)) = true := decide_eq_true c59
                   clear c59
                   by_cases c60 : (rd l1 (rd (rd_L3 t197 (rd t214 x97_4)) x106_5)) = (rd l1 t212)
                   ·rw [if_pos c60] at H
                    have c60b0 : ((rd l1 (rd (rd_L3 t197 (rd t214 x97_4)) x106_5)) == (rd l1 t212)) = true := beq_iff_eq.mpr c60
                    have c60b1 : ((rd l1 (rd (rd_L3 t197 (rd t214 x97_4)) x106_5)) != (rd l1 t212)) = false := bne_eq_false_iff_eq.mpr c60
                    clear c60
                    obtain rfl := Option.some.inj H
                    have p219 : 0 ≤ (x106_5 : Int) := of_decide_eq_true (by first | (with_reducible assumption) | assumption)
                    have q219 : x106_5 < ((rd_L3 t197 (rd t214 x97_4)).length : Int) := of_decide_eq_true (by first | (with_reducible assumption) | assumption)
                    obtain ⟨ad219, e219, hx219_0⟩ := Kd.at_int HR218_0.out x106_5 p219 q219
                    cases e219
                    try (replace hx219_0 := (HB.out.cell (World.block_lt_of_cell? w _ hx219_0)).trans hx219_0)
                    replace p219 := eq_true p219
                    replace q219 := eq_true q219
                    have p220 : 0 ≤ ((rd (rd_L3 t197 (rd t214 x97_4)) x106_5) : Int) := of_decide_eq_true (by first | (with_reducible assumption) | assumption)
                    have q220 : (rd (rd_L3 t197 (rd t214 x97_4)) x106_5) < (l1.length : Int) := of_decide_eq_true (by first | (with_reducible assumption) | assumption)
                    obtain ⟨ad220, e220, hx220_0⟩ := Kd.at_int HR1.out (rd (rd_L3 t197 (rd t214 x97_4)) x106_5) p220 q220
                    cases e220
                    try (replace hx220_0 := (HB.out.cell (World.block_lt_of_cell? w _ hx220_0)).trans hx220_0)
                    replace p220 := eq_true p220
                    replace q220 := eq_true q220
                    have p221 : 0 ≤ (t212 : Int) := of_decide_eq_true (by first | (with_reducible assumption) | assumption)
                    have q221 : t212 < (l1.length : Int) := of_decide_eq_true (by first | (with_reducible assumption) | assumption)
                    obtain ⟨ad221, e221, hx221_0⟩ := Kd.at_int HR1.out t212 p221 q221
                    obtain rfl : ad220 = ad221 := (by injection e221)
                    try (replace hx221_0 := (HB.out.cell (World.block_lt_of_cell? w _ hx221_0)).trans hx221_0)
                    replace p221 := eq_true p221
                    replace q221 := eq_true q221
                    go_wp2
                    repeat (go_quiet (fail); try go_wp2)
                    go_ret
                    exact ⟨by first | rfl | (simp [errW_none, errW_some] <;> rfl) | (simp [*, errW_none, errW_some] <;> rfl), by repeat (first | (with_reducible first | exact HB.out | apply below_alloc | apply pw_below_drewN | apply below_drew1 | refine below_set ?_ GE201.out) | exact HB.out)⟩
                   ·rw [if_neg c60] at H
                    have c60b0 : ((rd l1 (rd (rd_L3 t197 (rd t214 x97_4)) x106_5)) == (rd l1 t212)) = false := beq_eq_false_iff_ne.mpr c60
                    have c60b1 : ((rd l1 (rd (rd_L3 t197 (rd t214 x97_4)) x106_5)) != (rd l1 t212)) = true := bne_iff_ne.mpr c60
                    have H' := Aside0.mk H
                    clear H
                    have p219 : 0 ≤ (x106_5 : Int) := of_decide_eq_true (by first | (with_reducible assumption) | assumption)
                    have q219 : x106_5 < ((rd_L3 t197 (rd t214 x97_4)).length : Int) := of_decide_eq_true (by first | (with_reducible assumption) | assumption)
                    obtain ⟨ad219, e219, hx219_0⟩ := Kd.at_int HR218_0.out x106_5 p219 q219
                    cases e219
                    try (replace hx219_0 := (HB.out.cell (World.block_lt_of_cell? w _ hx219_0)).trans hx219_0)
                    replace p219 := eq_true p219
                    replace q219 := eq_true q219
                    have p220 : 0 ≤ ((rd (rd_L3 t197 (rd t214 x97_4)) x106_5) : Int) := of_decide_eq_true (by first | (with_reducible assumption) | assumption)
                    have q220 : (rd (rd_L3 t197 (rd t214 x97_4)) x106_5) < (l1.length : Int) := of_decide_eq_true (by first | (with_reducible assumption) | assumption)
                    obtain ⟨ad220, e220, hx220_0⟩ := Kd.at_int HR1.out (rd (rd_L3 t197 (rd t214 x97_4)) x106_5) p220 q220
                    cases e220
                    try (replace hx220_0 := (HB.out.cell (World.block_lt_of_cell? w _ hx220_0)).trans hx220_0)
                    replace p220 := eq_true p220
                    replace q220 := eq_true q220
                    have p221 : 0 ≤ (t212 : Int) := of_decide_eq_true (by first | (with_reducible assumption) | assumption)
                    have q221 : t212 < (l1.length : Int) := of_decide_eq_true (by first | (with_reducible assumption) | assumption)
                    obtain ⟨ad221, e221, hx221_0⟩ := Kd.at_int HR1.out t212 p221 q221
                    obtain rfl : ad220 = ad221 := (by injection e221)
                    try (replace hx221_0 := (HB.out.cell (World.block_lt_of_cell? w _ hx221_0)).trans hx221_0)
                    replace p221 := eq_true p221
                    replace q221 := eq_true q221
                    go_wp2
                    repeat (go_quiet (fail); try go_wp2)
                    go_roundg k5
                    case measure => have := HK1.out; have := HK2.out; have := HK3.out; have := HK4.out; have := HK5.out; omega
                    case rel => exact ⟨(wrap64 (x106_5 + 1)), (by first | rfl | (simp; done) | (simp [*]; done)), H', ⟨by have := HK1.out; have := HK2.out; have := HK3.out; have := HK4.out; have := HK5.out; omega⟩, ⟨by (with_reducible repeat (first | apply Kd.S_alloc | apply Kd.S_drewN | apply Kd.S_drew)); exact HO_11.out⟩, ⟨by (with_reducible repeat (first | apply Kd.R_alloc | apply Kd.R_drewN | apply Kd.R_drew)); exact HO_95.out⟩, ⟨by (with_reducible repeat (first | refine blk_drewN ?_ _ | refine blk_drew ?_ | refine blk_alloc ?_ _)); exact BK201.out⟩, ⟨by repeat (first | (with_reducible exact HR202_0.out) | (with_reducible refine Kd.C_alloc ?_ _) | (with_reducible refine Kd.C_drewN ?_ _) | (with_reducible refine Kd.C_drew ?_) | exact HR202_0.out)⟩, ⟨by repeat (first | (with_reducible exact HR218_0.out) | (with_reducible refine Kd.C_alloc ?_ _) | (with_reducible refine Kd.C_drewN ?_ _) | (with_reducible refine Kd.C_drew ?_) | exact HR218_0.out)⟩, ⟨by repeat (first | (with_reducible first | exact HB.out | apply below_alloc | apply pw_below_drewN | apply below_drew1 | refine below_set ?_ GE201.out) | exact HB.out)⟩⟩
                 ·replace c54 := Bool.eq_false_iff.mpr c54
                  subst c54
                  have H1 : (tautochronelaw18_want.l5 k5 l0 l1 t197 t212 false l0 (l0.length : Int) x49_2 t214 (t214.length : Int) x97_4 (rd_L3 t197 (rd t214 x97_4)) ((rd_L3 t197 (rd t214 x97_4)).length : Int) (wrap64 (x106_5 + 1))) = some r := by rw [if_neg (show ¬ (false = true) by decide)] at H; exact H
                  clear H
                  have H := H1
                  clear H1
                  have H' := Aside0.mk H
                  clear H
                  have p219 : 0 ≤ (x106_5 : Int) := of_decide_eq_true (by first | (with_reducible assumption) | assumption)
                  have q219 : x106_5 < ((rd_L3 t197 (rd t214 x97_4)).length : Int) := of_decide_eq_true (by first | (with_reducible assumption) | assumption)
                  obtain ⟨ad219, e219, hx219_0⟩ := Kd.at_int HR218_0.out x106_5 p219 q219
                  cases e219
                  try (replace hx219_0 := (HB.out.cell (World.block_lt_of_cell? w _ hx219_0)).trans hx219_0)
                  replace p219 := eq_true p219
                  replace q219 := eq_true q219
                  go_wp2
                  repeat (go_quiet (fail); try go_wp2)
                  go_roundg k5
                  case measure => have := HK1.out; have := HK2.out; have := HK3.out; have := HK4.out; have := HK5.out; omega
                  case rel => exact ⟨(wrap64 (x106_5 + 1)), (by first | rfl | (simp; done) | (simp [*]; done)), H', ⟨by have := HK1.out; have := HK2.out; have := HK3.out; have := HK4.out; have := HK5.out; omega⟩, ⟨by (with_reducible repeat (first | apply Kd.S_alloc | apply Kd.S_drewN | apply Kd.S_drew)); exact HO_11.out⟩, ⟨by (with_reducible repeat (first | apply Kd.R_alloc | apply Kd.R_drewN | apply Kd.R_drew)); exact HO_95.out⟩, ⟨by (with_reducible repeat (first | refine blk_drewN ?_ _ | refine blk_drew ?_ | refine blk_alloc ?_ _)); exact BK201.out⟩, ⟨by repeat (first | (with_reducible exact HR202_0.out) | (with_reducible refine Kd.C_alloc ?_ _) | (with_reducible refine Kd.C_drewN ?_ _) | (with_reducible refine Kd.C_drew ?_) | exact HR202_0.out)⟩, ⟨by repeat (first | (with_reducible exact HR218_0.out) | (with_reducible refine Kd.C_alloc ?_ _) | (with_reducible refine Kd.C_drewN ?_ _) | (with_reducible refine Kd.C_drew ?_) | exact HR218_0.out)⟩, ⟨by repeat (first | (with_reducible first | exact HB.out | apply below_alloc | apply pw_below_drewN | apply below_drew1 | refine below_set ?_ GE201.out) | exact HB.out)⟩⟩
                ·rw [if_neg c51] at H
                 have c51b0 : decide (x106_5 < ((rd_L3 t197 (rd t214 x97_4)).length : Int)) = false := decide_eq_false c51
                 clear c51
                 have H' := Aside0.mk H
                 clear H
                 go_wp2
                 repeat (go_quiet (fail); try go_wp2)
                 go_roundg k5
                 case measure => have := HK1.out; have := HK2.out; have := HK3.out; have := HK4.out; have := HK5.out; omega
                 case rel => exact ⟨(wrap64 (x97_4 + 1)), (by first | rfl | (simp; done) | (simp [*]; done)), H', ⟨by have := HK1.out; have := HK2.out; have := HK3.out; have := HK4.out; have := HK5.out; omega⟩, ⟨by (with_reducible repeat (first | apply Kd.S_alloc | apply Kd.S_drewN | apply Kd.S_drew)); exact HO_11.out⟩, ⟨by (with_reducible repeat (first | apply Kd.R_alloc | apply Kd.R_drewN | apply Kd.R_drew)); exact HO_95.out⟩, ⟨by (with_reducible repeat (first | refine blk_drewN ?_ _ | refine blk_drew ?_ | refine blk_alloc ?_ _)); exact BK201.out⟩, ⟨by repeat (first | (with_reducible exact HR202_0.out) | (with_reducible refine Kd.C_alloc ?_ _) | (with_reducible refine Kd.C_drewN ?_ _) | (with_reducible refine Kd.C_drew ?_) | exact HR202_0.out)⟩, ⟨by repeat (first | (with_reducible first | exact HB.out | apply below_alloc | apply pw_below_drewN | apply below_drew1 | refine below_set ?_ GE201.out) | exact HB.out)⟩⟩
             ·rw [if_neg c46] at H
              have c46b0 : decide (x97_4 < (t214.length : Int)) = false := decide_eq_false c46
              clear c46
              have H' := Aside0.mk H
              clear H
              go_wp2
              repeat (go_quiet (fail); try go_wp2)
              go_roundg k4
              case measure => have := HK1.out; have := HK2.out; have := HK3.out; have := HK4.out; omega
              case rel => exact ⟨(wrap64 (x49_2 + 1)), (by first | rfl | (simp; done) | (simp [*]; done)), H', ⟨by have := HK1.out; have := HK2.out; have := HK3.out; have := HK4.out; omega⟩, ⟨by (with_reducible repeat (first | apply Kd.S_alloc | apply Kd.S_drewN | apply Kd.S_drew)); exact Kd.S_mono HO_11.out (fun _ hk => trivial)⟩, ⟨by repeat (first | (with_reducible first | exact HB.out | apply below_alloc | apply pw_below_drewN | apply below_drew1 | refine below_set ?_ GE201.out) | exact HB.out)⟩⟩
       ·rw [if_neg c15] at H
        have c15b0 : decide (x49_2 < (l0.length : Int)) = false := decide_eq_false c15
        clear c15
        obtain rfl := Option.some.inj H
        go_wp2
        repeat (go_quiet (fail); try go_wp2)
        go_ret
        exact ⟨by first | rfl | (simp [errW_none, errW_some] <;> rfl) | (simp [*, errW_none, errW_some] <;> rfl), by repeat (first | (with_reducible first | exact HB.out | apply below_alloc | apply pw_below_drewN | apply below_drew1) | exact HB.out)⟩
 ·rw [if_neg c6] at H
  have c6b0 : ((l1.length : Int) == t195) = false := beq_eq_false_iff_ne.mpr c6
  have c6b1 : ((l1.length : Int) != t195) = true := bne_iff_ne.mpr c6
  obtain rfl := Option.some.inj H
  go_enter Try.func11, Try.ntmps11
  go_wp2_with (first | (go_at_call 9; (with_reducible refine (code_Values.calls k _ _ l0 t195 _ ?side1 ?side2 A5.out).mono ?_); (case side1 => repeat (first | exact HR0.out | (with_reducible refine Kd.C_alloc ?_ _) | (with_reducible refine Kd.C_drewN ?_ _) | (with_reducible refine Kd.C_drew ?_))); (case side2 => exact HC0.out); rintro e w61 ⟨rfl, hb⟩; have n0_ := Aside0.mk (below_step (by repeat (first | (with_reducible first | exact HB.out | apply below_alloc | apply pw_below_drewN | apply below_drew1) | exact HB.out)) hb); clear HB; have HB := n0_; clear n0_; (try clear hb); (try clear hb2); (try clear hk); (try clear hi)))
  repeat (go_quiet (first | (go_at_call 9; (with_reducible refine (code_Values.calls k _ _ l0 t195 _ ?side1 ?side2 A5.out).mono ?_); (case side1 => repeat (first | exact HR0.out | (with_reducible refine Kd.C_alloc ?_ _) | (with_reducible refine Kd.C_drewN ?_ _) | (with_reducible refine Kd.C_drew ?_))); (case side2 => exact HC0.out); rintro e w61 ⟨rfl, hb⟩; have n0_ := Aside0.mk (below_step (by repeat (first | (with_reducible first | exact HB.out | apply below_alloc | apply pw_below_drewN | apply below_drew1) | exact HB.out)) hb); clear HB; have HB := n0_; clear n0_; (try clear hb); (try clear hb2); (try clear hk); (try clear hi))); try go_wp2_with (first | (go_at_call 9; (with_reducible refine (code_Values.calls k _ _ l0 t195 _ ?side1 ?side2 A5.out).mono ?_); (case side1 => repeat (first | exact HR0.out | (with_reducible refine Kd.C_alloc ?_ _) | (with_reducible refine Kd.C_drewN ?_ _) | (with_reducible refine Kd.C_drew ?_))); (case side2 => exact HC0.out); rintro e w61 ⟨rfl, hb⟩; have n0_ := Aside0.mk (below_step (by repeat (first | (with_reducible first | exact HB.out | apply below_alloc | apply pw_below_drewN | apply below_drew1) | exact HB.out)) hb); clear HB; have HB := n0_; clear n0_; (try clear hb); (try clear hb2); (try clear hk); (try clear hi))))
  go_ret
  exact ⟨by first | rfl | (simp [errW_none, errW_some] <;> rfl) | (simp [*, errW_none, errW_some] <;> rfl), by repeat (first | (with_reducible first | exact HB.out | apply below_alloc | apply pw_below_drewN | apply below_drew1) | exact HB.out)⟩

end
end Go.Proofs.Ytepgpapljoelhaa.PA
