-- Written by a program of this session (wip/tools/extprint.py, pr.sh).
import Derived.Test.YtcgnbknbnbgcmaaDoorPQx0
import Derived.Test.YtcgnbknbnbgcmaaDoorPQx4
import Derived.Test.YtcgnbknbnbgcmaaDoorPQx5
import Derived.Test.YtcgnbknbnbgcmaaDoorQVal
namespace Go.Proofs.YtcgnbknbnbgcmaaDoor.PQ
open Go.RowKit Go.Proofs.YtcgnbknbnbgcmaaDoorW.PrintWords Go.Proofs.YtcgnbknbnbgcmaaDoorW.PrintLast Go.Proofs.YtcgnbknbnbgcmaaDoorW.PrintMore
attribute [local go_sem] max2_int min2_int max_two min_two max_three min_three max_four min_four   -- for this text's walks alone
set_option linter.unusedVariables false
set_option linter.unusedSimpArgs false

/-! ### tautochronelaw12_CodeGood: function 5 -/
mutual
def tautochronelaw12_CodeGood.j0 : Nat → List (S26) → Bool → Option (Bool)
  | 0, _, _ => none
  | k + 1, x0, x3 => tautochronelaw12_CodeGood.l0 k x0 x3 0 x0 (x0.length : Int) 0
def tautochronelaw12_CodeGood.l0 : Nat → List (S26) → Bool → Int → List (S26) → Int → Int → Option (Bool)
  | 0, _, _, _, _, _, _ => none
  | k + 1, x0, x3, x4, x39, x40, x41 => if x41 < x40 then (if 0 ≤ x41 then (if x41 < (x39.length : Int) then (if ((rd_T26 x39 x41).f0) < 0 then (tautochronelaw12_CodeGood.j2 k x0 x3 x4 x39 x40 x41 true ((rd_T26 x39 x41).f0) ((rd_T26 x39 x41).f1) ((rd_T26 x39 x41).f2) ((rd_T26 x39 x41).f3) ((rd_T26 x39 x41).f4) ((rd_T26 x39 x41).f5) ((rd_T26 x39 x41).f6) ((rd_T26 x39 x41).f7)) else (if ((rd_T26 x39 x41).f0) > 13 then (tautochronelaw12_CodeGood.j2 k x0 x3 x4 x39 x40 x41 true ((rd_T26 x39 x41).f0) ((rd_T26 x39 x41).f1) ((rd_T26 x39 x41).f2) ((rd_T26 x39 x41).f3) ((rd_T26 x39 x41).f4) ((rd_T26 x39 x41).f5) ((rd_T26 x39 x41).f6) ((rd_T26 x39 x41).f7)) else (if ((rd_T26 x39 x41).f0) = 2 then (if ((rd_T26 x39 x41).f1) < 0 then (tautochronelaw12_CodeGood.j2 k x0 x3 x4 x39 x40 x41 true ((rd_T26 x39 x41).f0) ((rd_T26 x39 x41).f1) ((rd_T26 x39 x41).f2) ((rd_T26 x39 x41).f3) ((rd_T26 x39 x41).f4) ((rd_T26 x39 x41).f5) ((rd_T26 x39 x41).f6) ((rd_T26 x39 x41).f7)) else (if ((rd_T26 x39 x41).f1) > 9 then (tautochronelaw12_CodeGood.j2 k x0 x3 x4 x39 x40 x41 true ((rd_T26 x39 x41).f0) ((rd_T26 x39 x41).f1) ((rd_T26 x39 x41).f2) ((rd_T26 x39 x41).f3) ((rd_T26 x39 x41).f4) ((rd_T26 x39 x41).f5) ((rd_T26 x39 x41).f6) ((rd_T26 x39 x41).f7)) else (if ((rd_T26 x39 x41).f0) = 6 then (if ((rd_T26 x39 x41).f7) < 0 then (tautochronelaw12_CodeGood.j2 k x0 x3 x4 x39 x40 x41 true ((rd_T26 x39 x41).f0) ((rd_T26 x39 x41).f1) ((rd_T26 x39 x41).f2) ((rd_T26 x39 x41).f3) ((rd_T26 x39 x41).f4) ((rd_T26 x39 x41).f5) ((rd_T26 x39 x41).f6) ((rd_T26 x39 x41).f7)) else (if ((rd_T26 x39 x41).f7) ≥ (x0.length : Int) then (tautochronelaw12_CodeGood.j2 k x0 x3 x4 x39 x40 x41 true ((rd_T26 x39 x41).f0) ((rd_T26 x39 x41).f1) ((rd_T26 x39 x41).f2) ((rd_T26 x39 x41).f3) ((rd_T26 x39 x41).f4) ((rd_T26 x39 x41).f5) ((rd_T26 x39 x41).f6) ((rd_T26 x39 x41).f7)) else ((tautochronelaw12_sets.f ((rd_T26 x39 x41).f0) ((rd_T26 x39 x41).f1) ((rd_T26 x39 x41).f2) ((rd_T26 x39 x41).f3) ((rd_T26 x39 x41).f4) ((rd_T26 x39 x41).f5) ((rd_T26 x39 x41).f6) ((rd_T26 x39 x41).f7)).bind fun t246 => (if t246 = true then (if ((rd_T26 x39 x41).f2) < 0 then (tautochronelaw12_CodeGood.j2 k x0 x3 x4 x39 x40 x41 true ((rd_T26 x39 x41).f0) ((rd_T26 x39 x41).f1) ((rd_T26 x39 x41).f2) ((rd_T26 x39 x41).f3) ((rd_T26 x39 x41).f4) ((rd_T26 x39 x41).f5) ((rd_T26 x39 x41).f6) ((rd_T26 x39 x41).f7)) else (tautochronelaw12_CodeGood.j2 k x0 x3 x4 x39 x40 x41 (decide (((rd_T26 x39 x41).f2) > 65535)) ((rd_T26 x39 x41).f0) ((rd_T26 x39 x41).f1) ((rd_T26 x39 x41).f2) ((rd_T26 x39 x41).f3) ((rd_T26 x39 x41).f4) ((rd_T26 x39 x41).f5) ((rd_T26 x39 x41).f6) ((rd_T26 x39 x41).f7))) else (tautochronelaw12_CodeGood.j2 k x0 x3 x4 x39 x40 x41 false ((rd_T26 x39 x41).f0) ((rd_T26 x39 x41).f1) ((rd_T26 x39 x41).f2) ((rd_T26 x39 x41).f3) ((rd_T26 x39 x41).f4) ((rd_T26 x39 x41).f5) ((rd_T26 x39 x41).f6) ((rd_T26 x39 x41).f7)))))) else (if ((rd_T26 x39 x41).f0) = 7 then (if ((rd_T26 x39 x41).f7) < 0 then (tautochronelaw12_CodeGood.j2 k x0 x3 x4 x39 x40 x41 true ((rd_T26 x39 x41).f0) ((rd_T26 x39 x41).f1) ((rd_T26 x39 x41).f2) ((rd_T26 x39 x41).f3) ((rd_T26 x39 x41).f4) ((rd_T26 x39 x41).f5) ((rd_T26 x39 x41).f6) ((rd_T26 x39 x41).f7)) else (if ((rd_T26 x39 x41).f7) ≥ (x0.length : Int) then (tautochronelaw12_CodeGood.j2 k x0 x3 x4 x39 x40 x41 true ((rd_T26 x39 x41).f0) ((rd_T26 x39 x41).f1) ((rd_T26 x39 x41).f2) ((rd_T26 x39 x41).f3) ((rd_T26 x39 x41).f4) ((rd_T26 x39 x41).f5) ((rd_T26 x39 x41).f6) ((rd_T26 x39 x41).f7)) else ((tautochronelaw12_sets.f ((rd_T26 x39 x41).f0) ((rd_T26 x39 x41).f1) ((rd_T26 x39 x41).f2) ((rd_T26 x39 x41).f3) ((rd_T26 x39 x41).f4) ((rd_T26 x39 x41).f5) ((rd_T26 x39 x41).f6) ((rd_T26 x39 x41).f7)).bind fun t247 => (if t247 = true then (if ((rd_T26 x39 x41).f2) < 0 then (tautochronelaw12_CodeGood.j2 k x0 x3 x4 x39 x40 x41 true ((rd_T26 x39 x41).f0) ((rd_T26 x39 x41).f1) ((rd_T26 x39 x41).f2) ((rd_T26 x39 x41).f3) ((rd_T26 x39 x41).f4) ((rd_T26 x39 x41).f5) ((rd_T26 x39 x41).f6) ((rd_T26 x39 x41).f7)) else (tautochronelaw12_CodeGood.j2 k x0 x3 x4 x39 x40 x41 (decide (((rd_T26 x39 x41).f2) > 65535)) ((rd_T26 x39 x41).f0) ((rd_T26 x39 x41).f1) ((rd_T26 x39 x41).f2) ((rd_T26 x39 x41).f3) ((rd_T26 x39 x41).f4) ((rd_T26 x39 x41).f5) ((rd_T26 x39 x41).f6) ((rd_T26 x39 x41).f7))) else (tautochronelaw12_CodeGood.j2 k x0 x3 x4 x39 x40 x41 false ((rd_T26 x39 x41).f0) ((rd_T26 x39 x41).f1) ((rd_T26 x39 x41).f2) ((rd_T26 x39 x41).f3) ((rd_T26 x39 x41).f4) ((rd_T26 x39 x41).f5) ((rd_T26 x39 x41).f6) ((rd_T26 x39 x41).f7)))))) else ((tautochronelaw12_sets.f ((rd_T26 x39 x41).f0) ((rd_T26 x39 x41).f1) ((rd_T26 x39 x41).f2) ((rd_T26 x39 x41).f3) ((rd_T26 x39 x41).f4) ((rd_T26 x39 x41).f5) ((rd_T26 x39 x41).f6) ((rd_T26 x39 x41).f7)).bind fun t248 => (if t248 = true then (if ((rd_T26 x39 x41).f2) < 0 then (tautochronelaw12_CodeGood.j2 k x0 x3 x4 x39 x40 x41 true ((rd_T26 x39 x41).f0) ((rd_T26 x39 x41).f1) ((rd_T26 x39 x41).f2) ((rd_T26 x39 x41).f3) ((rd_T26 x39 x41).f4) ((rd_T26 x39 x41).f5) ((rd_T26 x39 x41).f6) ((rd_T26 x39 x41).f7)) else (tautochronelaw12_CodeGood.j2 k x0 x3 x4 x39 x40 x41 (decide (((rd_T26 x39 x41).f2) > 65535)) ((rd_T26 x39 x41).f0) ((rd_T26 x39 x41).f1) ((rd_T26 x39 x41).f2) ((rd_T26 x39 x41).f3) ((rd_T26 x39 x41).f4) ((rd_T26 x39 x41).f5) ((rd_T26 x39 x41).f6) ((rd_T26 x39 x41).f7))) else (tautochronelaw12_CodeGood.j2 k x0 x3 x4 x39 x40 x41 false ((rd_T26 x39 x41).f0) ((rd_T26 x39 x41).f1) ((rd_T26 x39 x41).f2) ((rd_T26 x39 x41).f3) ((rd_T26 x39 x41).f4) ((rd_T26 x39 x41).f5) ((rd_T26 x39 x41).f6) ((rd_T26 x39 x41).f7)))))))) else (if ((rd_T26 x39 x41).f0) = 6 then (if ((rd_T26 x39 x41).f7) < 0 then (tautochronelaw12_CodeGood.j2 k x0 x3 x4 x39 x40 x41 true ((rd_T26 x39 x41).f0) ((rd_T26 x39 x41).f1) ((rd_T26 x39 x41).f2) ((rd_T26 x39 x41).f3) ((rd_T26 x39 x41).f4) ((rd_T26 x39 x41).f5) ((rd_T26 x39 x41).f6) ((rd_T26 x39 x41).f7)) else (if ((rd_T26 x39 x41).f7) ≥ (x0.length : Int) then (tautochronelaw12_CodeGood.j2 k x0 x3 x4 x39 x40 x41 true ((rd_T26 x39 x41).f0) ((rd_T26 x39 x41).f1) ((rd_T26 x39 x41).f2) ((rd_T26 x39 x41).f3) ((rd_T26 x39 x41).f4) ((rd_T26 x39 x41).f5) ((rd_T26 x39 x41).f6) ((rd_T26 x39 x41).f7)) else ((tautochronelaw12_sets.f ((rd_T26 x39 x41).f0) ((rd_T26 x39 x41).f1) ((rd_T26 x39 x41).f2) ((rd_T26 x39 x41).f3) ((rd_T26 x39 x41).f4) ((rd_T26 x39 x41).f5) ((rd_T26 x39 x41).f6) ((rd_T26 x39 x41).f7)).bind fun t249 => (if t249 = true then (if ((rd_T26 x39 x41).f2) < 0 then (tautochronelaw12_CodeGood.j2 k x0 x3 x4 x39 x40 x41 true ((rd_T26 x39 x41).f0) ((rd_T26 x39 x41).f1) ((rd_T26 x39 x41).f2) ((rd_T26 x39 x41).f3) ((rd_T26 x39 x41).f4) ((rd_T26 x39 x41).f5) ((rd_T26 x39 x41).f6) ((rd_T26 x39 x41).f7)) else (tautochronelaw12_CodeGood.j2 k x0 x3 x4 x39 x40 x41 (decide (((rd_T26 x39 x41).f2) > 65535)) ((rd_T26 x39 x41).f0) ((rd_T26 x39 x41).f1) ((rd_T26 x39 x41).f2) ((rd_T26 x39 x41).f3) ((rd_T26 x39 x41).f4) ((rd_T26 x39 x41).f5) ((rd_T26 x39 x41).f6) ((rd_T26 x39 x41).f7))) else (tautochronelaw12_CodeGood.j2 k x0 x3 x4 x39 x40 x41 false ((rd_T26 x39 x41).f0) ((rd_T26 x39 x41).f1) ((rd_T26 x39 x41).f2) ((rd_T26 x39 x41).f3) ((rd_T26 x39 x41).f4) ((rd_T26 x39 x41).f5) ((rd_T26 x39 x41).f6) ((rd_T26 x39 x41).f7)))))) else (if ((rd_T26 x39 x41).f0) = 7 then (if ((rd_T26 x39 x41).f7) < 0 then (tautochronelaw12_CodeGood.j2 k x0 x3 x4 x39 x40 x41 true ((rd_T26 x39 x41).f0) ((rd_T26 x39 x41).f1) ((rd_T26 x39 x41).f2) ((rd_T26 x39 x41).f3) ((rd_T26 x39 x41).f4) ((rd_T26 x39 x41).f5) ((rd_T26 x39 x41).f6) ((rd_T26 x39 x41).f7)) else (if ((rd_T26 x39 x41).f7) ≥ (x0.length : Int) then (tautochronelaw12_CodeGood.j2 k x0 x3 x4 x39 x40 x41 true ((rd_T26 x39 x41).f0) ((rd_T26 x39 x41).f1) ((rd_T26 x39 x41).f2) ((rd_T26 x39 x41).f3) ((rd_T26 x39 x41).f4) ((rd_T26 x39 x41).f5) ((rd_T26 x39 x41).f6) ((rd_T26 x39 x41).f7)) else ((tautochronelaw12_sets.f ((rd_T26 x39 x41).f0) ((rd_T26 x39 x41).f1) ((rd_T26 x39 x41).f2) ((rd_T26 x39 x41).f3) ((rd_T26 x39 x41).f4) ((rd_T26 x39 x41).f5) ((rd_T26 x39 x41).f6) ((rd_T26 x39 x41).f7)).bind fun t250 => (if t250 = true then (if ((rd_T26 x39 x41).f2) < 0 then (tautochronelaw12_CodeGood.j2 k x0 x3 x4 x39 x40 x41 true ((rd_T26 x39 x41).f0) ((rd_T26 x39 x41).f1) ((rd_T26 x39 x41).f2) ((rd_T26 x39 x41).f3) ((rd_T26 x39 x41).f4) ((rd_T26 x39 x41).f5) ((rd_T26 x39 x41).f6) ((rd_T26 x39 x41).f7)) else (tautochronelaw12_CodeGood.j2 k x0 x3 x4 x39 x40 x41 (decide (((rd_T26 x39 x41).f2) > 65535)) ((rd_T26 x39 x41).f0) ((rd_T26 x39 x41).f1) ((rd_T26 x39 x41).f2) ((rd_T26 x39 x41).f3) ((rd_T26 x39 x41).f4) ((rd_T26 x39 x41).f5) ((rd_T26 x39 x41).f6) ((rd_T26 x39 x41).f7))) else (tautochronelaw12_CodeGood.j2 k x0 x3 x4 x39 x40 x41 false ((rd_T26 x39 x41).f0) ((rd_T26 x39 x41).f1) ((rd_T26 x39 x41).f2) ((rd_T26 x39 x41).f3) ((rd_T26 x39 x41).f4) ((rd_T26 x39 x41).f5) ((rd_T26 x39 x41).f6) ((rd_T26 x39 x41).f7)))))) else ((tautochronelaw12_sets.f ((rd_T26 x39 x41).f0) ((rd_T26 x39 x41).f1) ((rd_T26 x39 x41).f2) ((rd_T26 x39 x41).f3) ((rd_T26 x39 x41).f4) ((rd_T26 x39 x41).f5) ((rd_T26 x39 x41).f6) ((rd_T26 x39 x41).f7)).bind fun t251 => (if t251 = true then (if ((rd_T26 x39 x41).f2) < 0 then (tautochronelaw12_CodeGood.j2 k x0 x3 x4 x39 x40 x41 true ((rd_T26 x39 x41).f0) ((rd_T26 x39 x41).f1) ((rd_T26 x39 x41).f2) ((rd_T26 x39 x41).f3) ((rd_T26 x39 x41).f4) ((rd_T26 x39 x41).f5) ((rd_T26 x39 x41).f6) ((rd_T26 x39 x41).f7)) else (tautochronelaw12_CodeGood.j2 k x0 x3 x4 x39 x40 x41 (decide (((rd_T26 x39 x41).f2) > 65535)) ((rd_T26 x39 x41).f0) ((rd_T26 x39 x41).f1) ((rd_T26 x39 x41).f2) ((rd_T26 x39 x41).f3) ((rd_T26 x39 x41).f4) ((rd_T26 x39 x41).f5) ((rd_T26 x39 x41).f6) ((rd_T26 x39 x41).f7))) else (tautochronelaw12_CodeGood.j2 k x0 x3 x4 x39 x40 x41 false ((rd_T26 x39 x41).f0) ((rd_T26 x39 x41).f1) ((rd_T26 x39 x41).f2) ((rd_T26 x39 x41).f3) ((rd_T26 x39 x41).f4) ((rd_T26 x39 x41).f5) ((rd_T26 x39 x41).f6) ((rd_T26 x39 x41).f7))))))))) else (none)) else (none)) else ((code_Good.f k x0).bind fun t242 => (if (t242 == x3) = true then ((code_Values.f k x0).bind fun t243 => (some (t243 == x4))) else (some false)))
def tautochronelaw12_CodeGood.j2 : Nat → List (S26) → Bool → Int → List (S26) → Int → Int → Bool → Int → Int → Int → Int → Int → Int → Int → Int → Option (Bool)
  | 0, _, _, _, _, _, _, _, _, _, _, _, _, _, _, _ => none
  | k + 1, x0, x3, x4, x39, x40, x41, x103, x246000, x246001, x246002, x246003, x246004, x246005, x246006, x246007 => if x103 = true then (tautochronelaw12_CodeGood.j3 k x0 false x4 x39 x40 x41 x246000 x246001 x246002 x246003 x246004 x246005 x246006 x246007) else (tautochronelaw12_CodeGood.j3 k x0 x3 x4 x39 x40 x41 x246000 x246001 x246002 x246003 x246004 x246005 x246006 x246007)
def tautochronelaw12_CodeGood.j3 : Nat → List (S26) → Bool → Int → List (S26) → Int → Int → Int → Int → Int → Int → Int → Int → Int → Int → Option (Bool)
  | 0, _, _, _, _, _, _, _, _, _, _, _, _, _, _ => none
  | k + 1, x0, x3, x4, x39, x40, x41, x246000, x246001, x246002, x246003, x246004, x246005, x246006, x246007 => (tautochronelaw12_sets.f x246000 x246001 x246002 x246003 x246004 x246005 x246006 x246007).bind fun t252 => (if t252 = true then (if x246002 ≥ x4 then (tautochronelaw12_CodeGood.j4 k x0 x3 x4 x39 x40 x41 (decide (x246002 < 4611686018427387904)) x246000 x246001 x246002 x246003 x246004 x246005 x246006 x246007) else (tautochronelaw12_CodeGood.j4 k x0 x3 x4 x39 x40 x41 false x246000 x246001 x246002 x246003 x246004 x246005 x246006 x246007)) else (tautochronelaw12_CodeGood.j4 k x0 x3 x4 x39 x40 x41 false x246000 x246001 x246002 x246003 x246004 x246005 x246006 x246007))
def tautochronelaw12_CodeGood.j4 : Nat → List (S26) → Bool → Int → List (S26) → Int → Int → Bool → Int → Int → Int → Int → Int → Int → Int → Int → Option (Bool)
  | 0, _, _, _, _, _, _, _, _, _, _, _, _, _, _, _ => none
  | k + 1, x0, x3, x4, x39, x40, x41, x116, x246000, x246001, x246002, x246003, x246004, x246005, x246006, x246007 => if x116 = true then (tautochronelaw12_CodeGood.j5 k x0 x3 (wrap64 (x246002 + 1)) x39 x40 x41 x246000 x246001 x246002 x246003 x246004 x246005 x246006 x246007) else (tautochronelaw12_CodeGood.j5 k x0 x3 x4 x39 x40 x41 x246000 x246001 x246002 x246003 x246004 x246005 x246006 x246007)
def tautochronelaw12_CodeGood.j5 : Nat → List (S26) → Bool → Int → List (S26) → Int → Int → Int → Int → Int → Int → Int → Int → Int → Int → Option (Bool)
  | 0, _, _, _, _, _, _, _, _, _, _, _, _, _, _ => none
  | k + 1, x0, x3, x4, x39, x40, x41, x246000, x246001, x246002, x246003, x246004, x246005, x246006, x246007 => (tautochronelaw12_uses.f k x246000 x246001 x246002 x246003 x246004 x246005 x246006 x246007).bind fun t253 => (tautochronelaw12_CodeGood.l1 k x0 x3 x4 x39 x40 x41 t253 (t253.length : Int) 0 x246000 x246001 x246002 x246003 x246004 x246005 x246006 x246007)
def tautochronelaw12_CodeGood.l1 : Nat → List (S26) → Bool → Int → List (S26) → Int → Int → List Int → Int → Int → Int → Int → Int → Int → Int → Int → Int → Int → Option (Bool)
  | 0, _, _, _, _, _, _, _, _, _, _, _, _, _, _, _, _, _ => none
  | k + 1, x0, x3, x4, x39, x40, x41, x121, x122, x123, x246000, x246001, x246002, x246003, x246004, x246005, x246006, x246007 => if x123 < x122 then (if 0 ≤ x123 then (if x123 < (x121.length : Int) then (if (rd x121 x123) < 0 then (tautochronelaw12_CodeGood.j7 k x0 x3 x4 (rd x121 x123) x39 x40 x41 x121 x122 x123 true x246000 x246001 x246002 x246003 x246004 x246005 x246006 x246007) else (tautochronelaw12_CodeGood.j7 k x0 x3 x4 (rd x121 x123) x39 x40 x41 x121 x122 x123 (decide ((rd x121 x123) > 65535)) x246000 x246001 x246002 x246003 x246004 x246005 x246006 x246007)) else (none)) else (none)) else ((tautochronelaw12_sets.f x246000 x246001 x246002 x246003 x246004 x246005 x246006 x246007).bind fun t257 => (if t257 = true then (tautochronelaw12_CodeGood.j8 k x0 x3 x4 x39 x40 x41 (decide (x246002 ≥ 4611686018427387904)) x246000 x246001 x246002 x246003 x246004 x246005 x246006 x246007) else (tautochronelaw12_CodeGood.j8 k x0 x3 x4 x39 x40 x41 false x246000 x246001 x246002 x246003 x246004 x246005 x246006 x246007)))
def tautochronelaw12_CodeGood.j7 : Nat → List (S26) → Bool → Int → Int → List (S26) → Int → Int → List Int → Int → Int → Bool → Int → Int → Int → Int → Int → Int → Int → Int → Option (Bool)
  | 0, _, _, _, _, _, _, _, _, _, _, _, _, _, _, _, _, _, _, _ => none
  | k + 1, x0, x3, x4, x8, x39, x40, x41, x121, x122, x123, x132, x246000, x246001, x246002, x246003, x246004, x246005, x246006, x246007 => if x132 = true then (if x8 ≥ x4 then (if x8 < 4611686018427387904 then (tautochronelaw12_CodeGood.l1 k x0 false (wrap64 (x8 + 1)) x39 x40 x41 x121 x122 (wrap64 (x123 + 1)) x246000 x246001 x246002 x246003 x246004 x246005 x246006 x246007) else (tautochronelaw12_CodeGood.l1 k x0 false x4 x39 x40 x41 x121 x122 (wrap64 (x123 + 1)) x246000 x246001 x246002 x246003 x246004 x246005 x246006 x246007)) else (tautochronelaw12_CodeGood.l1 k x0 false x4 x39 x40 x41 x121 x122 (wrap64 (x123 + 1)) x246000 x246001 x246002 x246003 x246004 x246005 x246006 x246007)) else (if x8 ≥ x4 then (if x8 < 4611686018427387904 then (tautochronelaw12_CodeGood.l1 k x0 x3 (wrap64 (x8 + 1)) x39 x40 x41 x121 x122 (wrap64 (x123 + 1)) x246000 x246001 x246002 x246003 x246004 x246005 x246006 x246007) else (tautochronelaw12_CodeGood.l1 k x0 x3 x4 x39 x40 x41 x121 x122 (wrap64 (x123 + 1)) x246000 x246001 x246002 x246003 x246004 x246005 x246006 x246007)) else (tautochronelaw12_CodeGood.l1 k x0 x3 x4 x39 x40 x41 x121 x122 (wrap64 (x123 + 1)) x246000 x246001 x246002 x246003 x246004 x246005 x246006 x246007))
def tautochronelaw12_CodeGood.j8 : Nat → List (S26) → Bool → Int → List (S26) → Int → Int → Bool → Int → Int → Int → Int → Int → Int → Int → Int → Option (Bool)
  | 0, _, _, _, _, _, _, _, _, _, _, _, _, _, _, _ => none
  | k + 1, x0, x3, x4, x39, x40, x41, x149, x246000, x246001, x246002, x246003, x246004, x246005, x246006, x246007 => if x149 = true then (some true) else ((tautochronelaw12_uses.f k x246000 x246001 x246002 x246003 x246004 x246005 x246006 x246007).bind fun t258 => (tautochronelaw12_CodeGood.l2 k x0 x3 x4 x39 x40 x41 t258 (t258.length : Int) 0))
def tautochronelaw12_CodeGood.l2 : Nat → List (S26) → Bool → Int → List (S26) → Int → Int → List Int → Int → Int → Option (Bool)
  | 0, _, _, _, _, _, _, _, _, _ => none
  | k + 1, x0, x3, x4, x39, x40, x41, x151, x152, x153 => if x153 < x152 then (if 0 ≤ x153 then (if x153 < (x151.length : Int) then (if (rd x151 x153) ≥ 4611686018427387904 then (some true) else (tautochronelaw12_CodeGood.l2 k x0 x3 x4 x39 x40 x41 x151 x152 (wrap64 (x153 + 1)))) else (none)) else (none)) else (tautochronelaw12_CodeGood.l0 k x0 x3 x4 x39 x40 (wrap64 (x41 + 1)))
end
def tautochronelaw12_CodeGood.f (k : Nat) (l0 : List (S26)) : Option (Bool) := (tautochronelaw12_awake.f k).bind fun t239 => (if t239 = true then (if (l0.length : Int) > 100 then (some true) else (if (l0.length : Int) > 0 then (if 0 ≤ (wrap64 ((l0.length : Int) - 1)) then (if (wrap64 ((l0.length : Int) - 1)) < (l0.length : Int) then (if ((rd_T26 l0 (wrap64 ((l0.length : Int) - 1))).f0) = 13 then (tautochronelaw12_CodeGood.j0 k l0 true) else (tautochronelaw12_CodeGood.j0 k l0 (((rd_T26 l0 (wrap64 ((l0.length : Int) - 1))).f0) == 6))) else (none)) else (none)) else (tautochronelaw12_CodeGood.j0 k l0 false))) else (some false))
theorem tautochronelaw12_CodeGood.mono_l : ∀ k, (∀ y0 y1, LeO (tautochronelaw12_CodeGood.j0 k y0 y1) (tautochronelaw12_CodeGood.j0 (k + 1) y0 y1)) ∧ (∀ y0 y1 y2 y3 y4 y5, LeO (tautochronelaw12_CodeGood.l0 k y0 y1 y2 y3 y4 y5) (tautochronelaw12_CodeGood.l0 (k + 1) y0 y1 y2 y3 y4 y5)) ∧ (∀ y0 y1 y2 y3 y4 y5 y6 y7 y8 y9 y10 y11 y12 y13 y14, LeO (tautochronelaw12_CodeGood.j2 k y0 y1 y2 y3 y4 y5 y6 y7 y8 y9 y10 y11 y12 y13 y14) (tautochronelaw12_CodeGood.j2 (k + 1) y0 y1 y2 y3 y4 y5 y6 y7 y8 y9 y10 y11 y12 y13 y14)) ∧ (∀ y0 y1 y2 y3 y4 y5 y6 y7 y8 y9 y10 y11 y12 y13, LeO (tautochronelaw12_CodeGood.j3 k y0 y1 y2 y3 y4 y5 y6 y7 y8 y9 y10 y11 y12 y13) (tautochronelaw12_CodeGood.j3 (k + 1) y0 y1 y2 y3 y4 y5 y6 y7 y8 y9 y10 y11 y12 y13)) ∧ (∀ y0 y1 y2 y3 y4 y5 y6 y7 y8 y9 y10 y11 y12 y13 y14, LeO (tautochronelaw12_CodeGood.j4 k y0 y1 y2 y3 y4 y5 y6 y7 y8 y9 y10 y11 y12 y13 y14) (tautochronelaw12_CodeGood.j4 (k + 1) y0 y1 y2 y3 y4 y5 y6 y7 y8 y9 y10 y11 y12 y13 y14)) ∧ (∀ y0 y1 y2 y3 y4 y5 y6 y7 y8 y9 y10 y11 y12 y13, LeO (tautochronelaw12_CodeGood.j5 k y0 y1 y2 y3 y4 y5 y6 y7 y8 y9 y10 y11 y12 y13) (tautochronelaw12_CodeGood.j5 (k + 1) y0 y1 y2 y3 y4 y5 y6 y7 y8 y9 y10 y11 y12 y13)) ∧ (∀ y0 y1 y2 y3 y4 y5 y6 y7 y8 y9 y10 y11 y12 y13 y14 y15 y16, LeO (tautochronelaw12_CodeGood.l1 k y0 y1 y2 y3 y4 y5 y6 y7 y8 y9 y10 y11 y12 y13 y14 y15 y16) (tautochronelaw12_CodeGood.l1 (k + 1) y0 y1 y2 y3 y4 y5 y6 y7 y8 y9 y10 y11 y12 y13 y14 y15 y16)) ∧ (∀ y0 y1 y2 y3 y4 y5 y6 y7 y8 y9 y10 y11 y12 y13 y14 y15 y16 y17 y18, LeO (tautochronelaw12_CodeGood.j7 k y0 y1 y2 y3 y4 y5 y6 y7 y8 y9 y10 y11 y12 y13 y14 y15 y16 y17 y18) (tautochronelaw12_CodeGood.j7 (k + 1) y0 y1 y2 y3 y4 y5 y6 y7 y8 y9 y10 y11 y12 y13 y14 y15 y16 y17 y18)) ∧ (∀ y0 y1 y2 y3 y4 y5 y6 y7 y8 y9 y10 y11 y12 y13 y14, LeO (tautochronelaw12_CodeGood.j8 k y0 y1 y2 y3 y4 y5 y6 y7 y8 y9 y10 y11 y12 y13 y14) (tautochronelaw12_CodeGood.j8 (k + 1) y0 y1 y2 y3 y4 y5 y6 y7 y8 y9 y10 y11 y12 y13 y14)) ∧ (∀ y0 y1 y2 y3 y4 y5 y6 y7 y8, LeO (tautochronelaw12_CodeGood.l2 k y0 y1 y2 y3 y4 y5 y6 y7 y8) (tautochronelaw12_CodeGood.l2 (k + 1) y0 y1 y2 y3 y4 y5 y6 y7 y8))
  | 0 => ⟨fun _ _ r h => by simp [tautochronelaw12_CodeGood.j0] at h, fun _ _ _ _ _ _ r h => by simp [tautochronelaw12_CodeGood.l0] at h, fun _ _ _ _ _ _ _ _ _ _ _ _ _ _ _ r h => by simp [tautochronelaw12_CodeGood.j2] at h, fun _ _ _ _ _ _ _ _ _ _ _ _ _ _ r h => by simp [tautochronelaw12_CodeGood.j3] at h, fun _ _ _ _ _ _ _ _ _ _ _ _ _ _ _ r h => by simp [tautochronelaw12_CodeGood.j4] at h, fun _ _ _ _ _ _ _ _ _ _ _ _ _ _ r h => by simp [tautochronelaw12_CodeGood.j5] at h, fun _ _ _ _ _ _ _ _ _ _ _ _ _ _ _ _ _ r h => by simp [tautochronelaw12_CodeGood.l1] at h, fun _ _ _ _ _ _ _ _ _ _ _ _ _ _ _ _ _ _ _ r h => by simp [tautochronelaw12_CodeGood.j7] at h, fun _ _ _ _ _ _ _ _ _ _ _ _ _ _ _ r h => by simp [tautochronelaw12_CodeGood.j8] at h, fun _ _ _ _ _ _ _ _ _ r h => by simp [tautochronelaw12_CodeGood.l2] at h⟩
  | k + 1 => by
    obtain ⟨ih0, ih1, ih2, ih3, ih4, ih5, ih6, ih7, ih8, ih9⟩ := tautochronelaw12_CodeGood.mono_l k
    refine ⟨?_, ?_, ?_, ?_, ?_, ?_, ?_, ?_, ?_, ?_⟩
    · intro y0 y1
      unfold tautochronelaw12_CodeGood.j0
      repeat' first
      | (with_reducible exact ih0 _ _)
      | (with_reducible exact ih1 _ _ _ _ _ _)
      | (with_reducible exact ih2 _ _ _ _ _ _ _ _ _ _ _ _ _ _ _)
      | (with_reducible exact ih3 _ _ _ _ _ _ _ _ _ _ _ _ _ _)
      | (with_reducible exact ih4 _ _ _ _ _ _ _ _ _ _ _ _ _ _ _)
      | (with_reducible exact ih5 _ _ _ _ _ _ _ _ _ _ _ _ _ _)
      | (with_reducible exact ih6 _ _ _ _ _ _ _ _ _ _ _ _ _ _ _ _ _)
      | (with_reducible exact ih7 _ _ _ _ _ _ _ _ _ _ _ _ _ _ _ _ _ _ _)
      | (with_reducible exact ih8 _ _ _ _ _ _ _ _ _ _ _ _ _ _ _)
      | (with_reducible exact ih9 _ _ _ _ _ _ _ _ _)
      | (with_reducible exact code_Good.mono _ _)
      | (with_reducible exact code_Values.mono _ _)
      | (with_reducible exact tautochronelaw12_awake.mono _)
      | (with_reducible exact tautochronelaw12_uses.mono _ _ _ _ _ _ _ _ _)
      | (with_reducible exact LeO.refl _)
      | (with_reducible exact LeO.none _)
      | (with_reducible refine LeO.ite ?_ ?_)
      | (with_reducible refine LeO.bind ?_ (fun _ => ?_))
      | exact ih0 _ _
      | exact ih1 _ _ _ _ _ _
      | exact ih2 _ _ _ _ _ _ _ _ _ _ _ _ _ _ _
      | exact ih3 _ _ _ _ _ _ _ _ _ _ _ _ _ _
      | exact ih4 _ _ _ _ _ _ _ _ _ _ _ _ _ _ _
      | exact ih5 _ _ _ _ _ _ _ _ _ _ _ _ _ _
      | exact ih6 _ _ _ _ _ _ _ _ _ _ _ _ _ _ _ _ _
      | exact ih7 _ _ _ _ _ _ _ _ _ _ _ _ _ _ _ _ _ _ _
      | exact ih8 _ _ _ _ _ _ _ _ _ _ _ _ _ _ _
      | exact ih9 _ _ _ _ _ _ _ _ _
      | exact code_Good.mono _ _
      | exact code_Values.mono _ _
      | exact tautochronelaw12_awake.mono _
      | exact tautochronelaw12_uses.mono _ _ _ _ _ _ _ _ _
      | exact LeO.none _
      | refine LeO.ite ?_ ?_
      | refine LeO.bind ?_ (fun _ => ?_)
    · intro y0 y1 y2 y3 y4 y5
      unfold tautochronelaw12_CodeGood.l0
      repeat' first
      | (with_reducible exact ih0 _ _)
      | (with_reducible exact ih1 _ _ _ _ _ _)
      | (with_reducible exact ih2 _ _ _ _ _ _ _ _ _ _ _ _ _ _ _)
      | (with_reducible exact ih3 _ _ _ _ _ _ _ _ _ _ _ _ _ _)
      | (with_reducible exact ih4 _ _ _ _ _ _ _ _ _ _ _ _ _ _ _)
      | (with_reducible exact ih5 _ _ _ _ _ _ _ _ _ _ _ _ _ _)
      | (with_reducible exact ih6 _ _ _ _ _ _ _ _ _ _ _ _ _ _ _ _ _)
      | (with_reducible exact ih7 _ _ _ _ _ _ _ _ _ _ _ _ _ _ _ _ _ _ _)
      | (with_reducible exact ih8 _ _ _ _ _ _ _ _ _ _ _ _ _ _ _)
      | (with_reducible exact ih9 _ _ _ _ _ _ _ _ _)
      | (with_reducible exact code_Good.mono _ _)
      | (with_reducible exact code_Values.mono _ _)
      | (with_reducible exact tautochronelaw12_awake.mono _)
      | (with_reducible exact tautochronelaw12_uses.mono _ _ _ _ _ _ _ _ _)
      | (with_reducible exact LeO.refl _)
      | (with_reducible exact LeO.none _)
      | (with_reducible refine LeO.ite ?_ ?_)
      | (with_reducible refine LeO.bind ?_ (fun _ => ?_))
      | exact ih0 _ _
      | exact ih1 _ _ _ _ _ _
      | exact ih2 _ _ _ _ _ _ _ _ _ _ _ _ _ _ _
      | exact ih3 _ _ _ _ _ _ _ _ _ _ _ _ _ _
      | exact ih4 _ _ _ _ _ _ _ _ _ _ _ _ _ _ _
      | exact ih5 _ _ _ _ _ _ _ _ _ _ _ _ _ _
      | exact ih6 _ _ _ _ _ _ _ _ _ _ _ _ _ _ _ _ _
      | exact ih7 _ _ _ _ _ _ _ _ _ _ _ _ _ _ _ _ _ _ _
      | exact ih8 _ _ _ _ _ _ _ _ _ _ _ _ _ _ _
      | exact ih9 _ _ _ _ _ _ _ _ _
      | exact code_Good.mono _ _
      | exact code_Values.mono _ _
      | exact tautochronelaw12_awake.mono _
      | exact tautochronelaw12_uses.mono _ _ _ _ _ _ _ _ _
      | exact LeO.none _
      | refine LeO.ite ?_ ?_
      | refine LeO.bind ?_ (fun _ => ?_)
    · intro y0 y1 y2 y3 y4 y5 y6 y7 y8 y9 y10 y11 y12 y13 y14
      unfold tautochronelaw12_CodeGood.j2
      repeat' first
      | (with_reducible exact ih0 _ _)
      | (with_reducible exact ih1 _ _ _ _ _ _)
      | (with_reducible exact ih2 _ _ _ _ _ _ _ _ _ _ _ _ _ _ _)
      | (with_reducible exact ih3 _ _ _ _ _ _ _ _ _ _ _ _ _ _)
      | (with_reducible exact ih4 _ _ _ _ _ _ _ _ _ _ _ _ _ _ _)
      | (with_reducible exact ih5 _ _ _ _ _ _ _ _ _ _ _ _ _ _)
      | (with_reducible exact ih6 _ _ _ _ _ _ _ _ _ _ _ _ _ _ _ _ _)
      | (with_reducible exact ih7 _ _ _ _ _ _ _ _ _ _ _ _ _ _ _ _ _ _ _)
      | (with_reducible exact ih8 _ _ _ _ _ _ _ _ _ _ _ _ _ _ _)
      | (with_reducible exact ih9 _ _ _ _ _ _ _ _ _)
      | (with_reducible exact code_Good.mono _ _)
      | (with_reducible exact code_Values.mono _ _)
      | (with_reducible exact tautochronelaw12_awake.mono _)
      | (with_reducible exact tautochronelaw12_uses.mono _ _ _ _ _ _ _ _ _)
      | (with_reducible exact LeO.refl _)
      | (with_reducible exact LeO.none _)
      | (with_reducible refine LeO.ite ?_ ?_)
      | (with_reducible refine LeO.bind ?_ (fun _ => ?_))
      | exact ih0 _ _
      | exact ih1 _ _ _ _ _ _
      | exact ih2 _ _ _ _ _ _ _ _ _ _ _ _ _ _ _
      | exact ih3 _ _ _ _ _ _ _ _ _ _ _ _ _ _
      | exact ih4 _ _ _ _ _ _ _ _ _ _ _ _ _ _ _
      | exact ih5 _ _ _ _ _ _ _ _ _ _ _ _ _ _
      | exact ih6 _ _ _ _ _ _ _ _ _ _ _ _ _ _ _ _ _
      | exact ih7 _ _ _ _ _ _ _ _ _ _ _ _ _ _ _ _ _ _ _
      | exact ih8 _ _ _ _ _ _ _ _ _ _ _ _ _ _ _
      | exact ih9 _ _ _ _ _ _ _ _ _
      | exact code_Good.mono _ _
      | exact code_Values.mono _ _
      | exact tautochronelaw12_awake.mono _
      | exact tautochronelaw12_uses.mono _ _ _ _ _ _ _ _ _
      | exact LeO.none _
      | refine LeO.ite ?_ ?_
      | refine LeO.bind ?_ (fun _ => ?_)
    · intro y0 y1 y2 y3 y4 y5 y6 y7 y8 y9 y10 y11 y12 y13
      unfold tautochronelaw12_CodeGood.j3
      repeat' first
      | (with_reducible exact ih0 _ _)
      | (with_reducible exact ih1 _ _ _ _ _ _)
      | (with_reducible exact ih2 _ _ _ _ _ _ _ _ _ _ _ _ _ _ _)
      | (with_reducible exact ih3 _ _ _ _ _ _ _ _ _ _ _ _ _ _)
      | (with_reducible exact ih4 _ _ _ _ _ _ _ _ _ _ _ _ _ _ _)
      | (with_reducible exact ih5 _ _ _ _ _ _ _ _ _ _ _ _ _ _)
      | (with_reducible exact ih6 _ _ _ _ _ _ _ _ _ _ _ _ _ _ _ _ _)
      | (with_reducible exact ih7 _ _ _ _ _ _ _ _ _ _ _ _ _ _ _ _ _ _ _)
      | (with_reducible exact ih8 _ _ _ _ _ _ _ _ _ _ _ _ _ _ _)
      | (with_reducible exact ih9 _ _ _ _ _ _ _ _ _)
      | (with_reducible exact code_Good.mono _ _)
      | (with_reducible exact code_Values.mono _ _)
      | (with_reducible exact tautochronelaw12_awake.mono _)
      | (with_reducible exact tautochronelaw12_uses.mono _ _ _ _ _ _ _ _ _)
      | (with_reducible exact LeO.refl _)
      | (with_reducible exact LeO.none _)
      | (with_reducible refine LeO.ite ?_ ?_)
      | (with_reducible refine LeO.bind ?_ (fun _ => ?_))
      | exact ih0 _ _
      | exact ih1 _ _ _ _ _ _
      | exact ih2 _ _ _ _ _ _ _ _ _ _ _ _ _ _ _
      | exact ih3 _ _ _ _ _ _ _ _ _ _ _ _ _ _
      | exact ih4 _ _ _ _ _ _ _ _ _ _ _ _ _ _ _
      | exact ih5 _ _ _ _ _ _ _ _ _ _ _ _ _ _
      | exact ih6 _ _ _ _ _ _ _ _ _ _ _ _ _ _ _ _ _
      | exact ih7 _ _ _ _ _ _ _ _ _ _ _ _ _ _ _ _ _ _ _
      | exact ih8 _ _ _ _ _ _ _ _ _ _ _ _ _ _ _
      | exact ih9 _ _ _ _ _ _ _ _ _
      | exact code_Good.mono _ _
      | exact code_Values.mono _ _
      | exact tautochronelaw12_awake.mono _
      | exact tautochronelaw12_uses.mono _ _ _ _ _ _ _ _ _
      | exact LeO.none _
      | refine LeO.ite ?_ ?_
      | refine LeO.bind ?_ (fun _ => ?_)
    · intro y0 y1 y2 y3 y4 y5 y6 y7 y8 y9 y10 y11 y12 y13 y14
      unfold tautochronelaw12_CodeGood.j4
      repeat' first
      | (with_reducible exact ih0 _ _)
      | (with_reducible exact ih1 _ _ _ _ _ _)
      | (with_reducible exact ih2 _ _ _ _ _ _ _ _ _ _ _ _ _ _ _)
      | (with_reducible exact ih3 _ _ _ _ _ _ _ _ _ _ _ _ _ _)
      | (with_reducible exact ih4 _ _ _ _ _ _ _ _ _ _ _ _ _ _ _)
      | (with_reducible exact ih5 _ _ _ _ _ _ _ _ _ _ _ _ _ _)
      | (with_reducible exact ih6 _ _ _ _ _ _ _ _ _ _ _ _ _ _ _ _ _)
      | (with_reducible exact ih7 _ _ _ _ _ _ _ _ _ _ _ _ _ _ _ _ _ _ _)
      | (with_reducible exact ih8 _ _ _ _ _ _ _ _ _ _ _ _ _ _ _)
      | (with_reducible exact ih9 _ _ _ _ _ _ _ _ _)
      | (with_reducible exact code_Good.mono _ _)
      | (with_reducible exact code_Values.mono _ _)
      | (with_reducible exact tautochronelaw12_awake.mono _)
      | (with_reducible exact tautochronelaw12_uses.mono _ _ _ _ _ _ _ _ _)
      | (with_reducible exact LeO.refl _)
      | (with_reducible exact LeO.none _)
      | (with_reducible refine LeO.ite ?_ ?_)
      | (with_reducible refine LeO.bind ?_ (fun _ => ?_))
      | exact ih0 _ _
      | exact ih1 _ _ _ _ _ _
      | exact ih2 _ _ _ _ _ _ _ _ _ _ _ _ _ _ _
      | exact ih3 _ _ _ _ _ _ _ _ _ _ _ _ _ _
      | exact ih4 _ _ _ _ _ _ _ _ _ _ _ _ _ _ _
      | exact ih5 _ _ _ _ _ _ _ _ _ _ _ _ _ _
      | exact ih6 _ _ _ _ _ _ _ _ _ _ _ _ _ _ _ _ _
      | exact ih7 _ _ _ _ _ _ _ _ _ _ _ _ _ _ _ _ _ _ _
      | exact ih8 _ _ _ _ _ _ _ _ _ _ _ _ _ _ _
      | exact ih9 _ _ _ _ _ _ _ _ _
      | exact code_Good.mono _ _
      | exact code_Values.mono _ _
      | exact tautochronelaw12_awake.mono _
      | exact tautochronelaw12_uses.mono _ _ _ _ _ _ _ _ _
      | exact LeO.none _
      | refine LeO.ite ?_ ?_
      | refine LeO.bind ?_ (fun _ => ?_)
    · intro y0 y1 y2 y3 y4 y5 y6 y7 y8 y9 y10 y11 y12 y13
      unfold tautochronelaw12_CodeGood.j5
      repeat' first
      | (with_reducible exact ih0 _ _)
      | (with_reducible exact ih1 _ _ _ _ _ _)
      | (with_reducible exact ih2 _ _ _ _ _ _ _ _ _ _ _ _ _ _ _)
      | (with_reducible exact ih3 _ _ _ _ _ _ _ _ _ _ _ _ _ _)
      | (with_reducible exact ih4 _ _ _ _ _ _ _ _ _ _ _ _ _ _ _)
      | (with_reducible exact ih5 _ _ _ _ _ _ _ _ _ _ _ _ _ _)
      | (with_reducible exact ih6 _ _ _ _ _ _ _ _ _ _ _ _ _ _ _ _ _)
      | (with_reducible exact ih7 _ _ _ _ _ _ _ _ _ _ _ _ _ _ _ _ _ _ _)
      | (with_reducible exact ih8 _ _ _ _ _ _ _ _ _ _ _ _ _ _ _)
      | (with_reducible exact ih9 _ _ _ _ _ _ _ _ _)
      | (with_reducible exact code_Good.mono _ _)
      | (with_reducible exact code_Values.mono _ _)
      | (with_reducible exact tautochronelaw12_awake.mono _)
      | (with_reducible exact tautochronelaw12_uses.mono _ _ _ _ _ _ _ _ _)
      | (with_reducible exact LeO.refl _)
      | (with_reducible exact LeO.none _)
      | (with_reducible refine LeO.ite ?_ ?_)
      | (with_reducible refine LeO.bind ?_ (fun _ => ?_))
      | exact ih0 _ _
      | exact ih1 _ _ _ _ _ _
      | exact ih2 _ _ _ _ _ _ _ _ _ _ _ _ _ _ _
      | exact ih3 _ _ _ _ _ _ _ _ _ _ _ _ _ _
      | exact ih4 _ _ _ _ _ _ _ _ _ _ _ _ _ _ _
      | exact ih5 _ _ _ _ _ _ _ _ _ _ _ _ _ _
      | exact ih6 _ _ _ _ _ _ _ _ _ _ _ _ _ _ _ _ _
      | exact ih7 _ _ _ _ _ _ _ _ _ _ _ _ _ _ _ _ _ _ _
      | exact ih8 _ _ _ _ _ _ _ _ _ _ _ _ _ _ _
      | exact ih9 _ _ _ _ _ _ _ _ _
      | exact code_Good.mono _ _
      | exact code_Values.mono _ _
      | exact tautochronelaw12_awake.mono _
      | exact tautochronelaw12_uses.mono _ _ _ _ _ _ _ _ _
      | exact LeO.none _
      | refine LeO.ite ?_ ?_
      | refine LeO.bind ?_ (fun _ => ?_)
    · intro y0 y1 y2 y3 y4 y5 y6 y7 y8 y9 y10 y11 y12 y13 y14 y15 y16
      unfold tautochronelaw12_CodeGood.l1
      repeat' first
      | (with_reducible exact ih0 _ _)
      | (with_reducible exact ih1 _ _ _ _ _ _)
      | (with_reducible exact ih2 _ _ _ _ _ _ _ _ _ _ _ _ _ _ _)
      | (with_reducible exact ih3 _ _ _ _ _ _ _ _ _ _ _ _ _ _)
      | (with_reducible exact ih4 _ _ _ _ _ _ _ _ _ _ _ _ _ _ _)
      | (with_reducible exact ih5 _ _ _ _ _ _ _ _ _ _ _ _ _ _)
      | (with_reducible exact ih6 _ _ _ _ _ _ _ _ _ _ _ _ _ _ _ _ _)
      | (with_reducible exact ih7 _ _ _ _ _ _ _ _ _ _ _ _ _ _ _ _ _ _ _)
      | (with_reducible exact ih8 _ _ _ _ _ _ _ _ _ _ _ _ _ _ _)
      | (with_reducible exact ih9 _ _ _ _ _ _ _ _ _)
      | (with_reducible exact code_Good.mono _ _)
      | (with_reducible exact code_Values.mono _ _)
      | (with_reducible exact tautochronelaw12_awake.mono _)
      | (with_reducible exact tautochronelaw12_uses.mono _ _ _ _ _ _ _ _ _)
      | (with_reducible exact LeO.refl _)
      | (with_reducible exact LeO.none _)
      | (with_reducible refine LeO.ite ?_ ?_)
      | (with_reducible refine LeO.bind ?_ (fun _ => ?_))
      | exact ih0 _ _
      | exact ih1 _ _ _ _ _ _
      | exact ih2 _ _ _ _ _ _ _ _ _ _ _ _ _ _ _
      | exact ih3 _ _ _ _ _ _ _ _ _ _ _ _ _ _
      | exact ih4 _ _ _ _ _ _ _ _ _ _ _ _ _ _ _
      | exact ih5 _ _ _ _ _ _ _ _ _ _ _ _ _ _
      | exact ih6 _ _ _ _ _ _ _ _ _ _ _ _ _ _ _ _ _
      | exact ih7 _ _ _ _ _ _ _ _ _ _ _ _ _ _ _ _ _ _ _
      | exact ih8 _ _ _ _ _ _ _ _ _ _ _ _ _ _ _
      | exact ih9 _ _ _ _ _ _ _ _ _
      | exact code_Good.mono _ _
      | exact code_Values.mono _ _
      | exact tautochronelaw12_awake.mono _
      | exact tautochronelaw12_uses.mono _ _ _ _ _ _ _ _ _
      | exact LeO.none _
      | refine LeO.ite ?_ ?_
      | refine LeO.bind ?_ (fun _ => ?_)
    · intro y0 y1 y2 y3 y4 y5 y6 y7 y8 y9 y10 y11 y12 y13 y14 y15 y16 y17 y18
      unfold tautochronelaw12_CodeGood.j7
      repeat' first
      | (with_reducible exact ih0 _ _)
      | (with_reducible exact ih1 _ _ _ _ _ _)
      | (with_reducible exact ih2 _ _ _ _ _ _ _ _ _ _ _ _ _ _ _)
      | (with_reducible exact ih3 _ _ _ _ _ _ _ _ _ _ _ _ _ _)
      | (with_reducible exact ih4 _ _ _ _ _ _ _ _ _ _ _ _ _ _ _)
      | (with_reducible exact ih5 _ _ _ _ _ _ _ _ _ _ _ _ _ _)
      | (with_reducible exact ih6 _ _ _ _ _ _ _ _ _ _ _ _ _ _ _ _ _)
      | (with_reducible exact ih7 _ _ _ _ _ _ _ _ _ _ _ _ _ _ _ _ _ _ _)
      | (with_reducible exact ih8 _ _ _ _ _ _ _ _ _ _ _ _ _ _ _)
      | (with_reducible exact ih9 _ _ _ _ _ _ _ _ _)
      | (with_reducible exact code_Good.mono _ _)
      | (with_reducible exact code_Values.mono _ _)
      | (with_reducible exact tautochronelaw12_awake.mono _)
      | (with_reducible exact tautochronelaw12_uses.mono _ _ _ _ _ _ _ _ _)
      | (with_reducible exact LeO.refl _)
      | (with_reducible exact LeO.none _)
      | (with_reducible refine LeO.ite ?_ ?_)
      | (with_reducible refine LeO.bind ?_ (fun _ => ?_))
      | exact ih0 _ _
      | exact ih1 _ _ _ _ _ _
      | exact ih2 _ _ _ _ _ _ _ _ _ _ _ _ _ _ _
      | exact ih3 _ _ _ _ _ _ _ _ _ _ _ _ _ _
      | exact ih4 _ _ _ _ _ _ _ _ _ _ _ _ _ _ _
      | exact ih5 _ _ _ _ _ _ _ _ _ _ _ _ _ _
      | exact ih6 _ _ _ _ _ _ _ _ _ _ _ _ _ _ _ _ _
      | exact ih7 _ _ _ _ _ _ _ _ _ _ _ _ _ _ _ _ _ _ _
      | exact ih8 _ _ _ _ _ _ _ _ _ _ _ _ _ _ _
      | exact ih9 _ _ _ _ _ _ _ _ _
      | exact code_Good.mono _ _
      | exact code_Values.mono _ _
      | exact tautochronelaw12_awake.mono _
      | exact tautochronelaw12_uses.mono _ _ _ _ _ _ _ _ _
      | exact LeO.none _
      | refine LeO.ite ?_ ?_
      | refine LeO.bind ?_ (fun _ => ?_)
    · intro y0 y1 y2 y3 y4 y5 y6 y7 y8 y9 y10 y11 y12 y13 y14
      unfold tautochronelaw12_CodeGood.j8
      repeat' first
      | (with_reducible exact ih0 _ _)
      | (with_reducible exact ih1 _ _ _ _ _ _)
      | (with_reducible exact ih2 _ _ _ _ _ _ _ _ _ _ _ _ _ _ _)
      | (with_reducible exact ih3 _ _ _ _ _ _ _ _ _ _ _ _ _ _)
      | (with_reducible exact ih4 _ _ _ _ _ _ _ _ _ _ _ _ _ _ _)
      | (with_reducible exact ih5 _ _ _ _ _ _ _ _ _ _ _ _ _ _)
      | (with_reducible exact ih6 _ _ _ _ _ _ _ _ _ _ _ _ _ _ _ _ _)
      | (with_reducible exact ih7 _ _ _ _ _ _ _ _ _ _ _ _ _ _ _ _ _ _ _)
      | (with_reducible exact ih8 _ _ _ _ _ _ _ _ _ _ _ _ _ _ _)
      | (with_reducible exact ih9 _ _ _ _ _ _ _ _ _)
      | (with_reducible exact code_Good.mono _ _)
      | (with_reducible exact code_Values.mono _ _)
      | (with_reducible exact tautochronelaw12_awake.mono _)
      | (with_reducible exact tautochronelaw12_uses.mono _ _ _ _ _ _ _ _ _)
      | (with_reducible exact LeO.refl _)
      | (with_reducible exact LeO.none _)
      | (with_reducible refine LeO.ite ?_ ?_)
      | (with_reducible refine LeO.bind ?_ (fun _ => ?_))
      | exact ih0 _ _
      | exact ih1 _ _ _ _ _ _
      | exact ih2 _ _ _ _ _ _ _ _ _ _ _ _ _ _ _
      | exact ih3 _ _ _ _ _ _ _ _ _ _ _ _ _ _
      | exact ih4 _ _ _ _ _ _ _ _ _ _ _ _ _ _ _
      | exact ih5 _ _ _ _ _ _ _ _ _ _ _ _ _ _
      | exact ih6 _ _ _ _ _ _ _ _ _ _ _ _ _ _ _ _ _
      | exact ih7 _ _ _ _ _ _ _ _ _ _ _ _ _ _ _ _ _ _ _
      | exact ih8 _ _ _ _ _ _ _ _ _ _ _ _ _ _ _
      | exact ih9 _ _ _ _ _ _ _ _ _
      | exact code_Good.mono _ _
      | exact code_Values.mono _ _
      | exact tautochronelaw12_awake.mono _
      | exact tautochronelaw12_uses.mono _ _ _ _ _ _ _ _ _
      | exact LeO.none _
      | refine LeO.ite ?_ ?_
      | refine LeO.bind ?_ (fun _ => ?_)
    · intro y0 y1 y2 y3 y4 y5 y6 y7 y8
      unfold tautochronelaw12_CodeGood.l2
      repeat' first
      | (with_reducible exact ih0 _ _)
      | (with_reducible exact ih1 _ _ _ _ _ _)
      | (with_reducible exact ih2 _ _ _ _ _ _ _ _ _ _ _ _ _ _ _)
      | (with_reducible exact ih3 _ _ _ _ _ _ _ _ _ _ _ _ _ _)
      | (with_reducible exact ih4 _ _ _ _ _ _ _ _ _ _ _ _ _ _ _)
      | (with_reducible exact ih5 _ _ _ _ _ _ _ _ _ _ _ _ _ _)
      | (with_reducible exact ih6 _ _ _ _ _ _ _ _ _ _ _ _ _ _ _ _ _)
      | (with_reducible exact ih7 _ _ _ _ _ _ _ _ _ _ _ _ _ _ _ _ _ _ _)
      | (with_reducible exact ih8 _ _ _ _ _ _ _ _ _ _ _ _ _ _ _)
      | (with_reducible exact ih9 _ _ _ _ _ _ _ _ _)
      | (with_reducible exact code_Good.mono _ _)
      | (with_reducible exact code_Values.mono _ _)
      | (with_reducible exact tautochronelaw12_awake.mono _)
      | (with_reducible exact tautochronelaw12_uses.mono _ _ _ _ _ _ _ _ _)
      | (with_reducible exact LeO.refl _)
      | (with_reducible exact LeO.none _)
      | (with_reducible refine LeO.ite ?_ ?_)
      | (with_reducible refine LeO.bind ?_ (fun _ => ?_))
      | exact ih0 _ _
      | exact ih1 _ _ _ _ _ _
      | exact ih2 _ _ _ _ _ _ _ _ _ _ _ _ _ _ _
      | exact ih3 _ _ _ _ _ _ _ _ _ _ _ _ _ _
      | exact ih4 _ _ _ _ _ _ _ _ _ _ _ _ _ _ _
      | exact ih5 _ _ _ _ _ _ _ _ _ _ _ _ _ _
      | exact ih6 _ _ _ _ _ _ _ _ _ _ _ _ _ _ _ _ _
      | exact ih7 _ _ _ _ _ _ _ _ _ _ _ _ _ _ _ _ _ _ _
      | exact ih8 _ _ _ _ _ _ _ _ _ _ _ _ _ _ _
      | exact ih9 _ _ _ _ _ _ _ _ _
      | exact code_Good.mono _ _
      | exact code_Values.mono _ _
      | exact tautochronelaw12_awake.mono _
      | exact tautochronelaw12_uses.mono _ _ _ _ _ _ _ _ _
      | exact LeO.none _
      | refine LeO.ite ?_ ?_
      | refine LeO.bind ?_ (fun _ => ?_)
theorem tautochronelaw12_CodeGood.mono : ∀ a0 k, LeO (tautochronelaw12_CodeGood.f k a0) (tautochronelaw12_CodeGood.f (k + 1) a0) := by
  intro a0 k
  obtain ⟨ih0, ih1, ih2, ih3, ih4, ih5, ih6, ih7, ih8, ih9⟩ := tautochronelaw12_CodeGood.mono_l k
  unfold tautochronelaw12_CodeGood.f
  repeat' first
      | (with_reducible exact ih0 _ _)
      | (with_reducible exact ih1 _ _ _ _ _ _)
      | (with_reducible exact ih2 _ _ _ _ _ _ _ _ _ _ _ _ _ _ _)
      | (with_reducible exact ih3 _ _ _ _ _ _ _ _ _ _ _ _ _ _)
      | (with_reducible exact ih4 _ _ _ _ _ _ _ _ _ _ _ _ _ _ _)
      | (with_reducible exact ih5 _ _ _ _ _ _ _ _ _ _ _ _ _ _)
      | (with_reducible exact ih6 _ _ _ _ _ _ _ _ _ _ _ _ _ _ _ _ _)
      | (with_reducible exact ih7 _ _ _ _ _ _ _ _ _ _ _ _ _ _ _ _ _ _ _)
      | (with_reducible exact ih8 _ _ _ _ _ _ _ _ _ _ _ _ _ _ _)
      | (with_reducible exact ih9 _ _ _ _ _ _ _ _ _)
      | (with_reducible exact code_Good.mono _ _)
      | (with_reducible exact code_Values.mono _ _)
      | (with_reducible exact tautochronelaw12_awake.mono _)
      | (with_reducible exact tautochronelaw12_uses.mono _ _ _ _ _ _ _ _ _)
      | (with_reducible exact LeO.refl _)
      | (with_reducible exact LeO.none _)
      | (with_reducible refine LeO.ite ?_ ?_)
      | (with_reducible refine LeO.bind ?_ (fun _ => ?_))
      | exact ih0 _ _
      | exact ih1 _ _ _ _ _ _
      | exact ih2 _ _ _ _ _ _ _ _ _ _ _ _ _ _ _
      | exact ih3 _ _ _ _ _ _ _ _ _ _ _ _ _ _
      | exact ih4 _ _ _ _ _ _ _ _ _ _ _ _ _ _ _
      | exact ih5 _ _ _ _ _ _ _ _ _ _ _ _ _ _
      | exact ih6 _ _ _ _ _ _ _ _ _ _ _ _ _ _ _ _ _
      | exact ih7 _ _ _ _ _ _ _ _ _ _ _ _ _ _ _ _ _ _ _
      | exact ih8 _ _ _ _ _ _ _ _ _ _ _ _ _ _ _
      | exact ih9 _ _ _ _ _ _ _ _ _
      | exact code_Good.mono _ _
      | exact code_Values.mono _ _
      | exact tautochronelaw12_awake.mono _
      | exact tautochronelaw12_uses.mono _ _ _ _ _ _ _ _ _
      | exact LeO.none _
      | refine LeO.ite ?_ ?_
      | refine LeO.bind ?_ (fun _ => ?_)
end Go.Proofs.YtcgnbknbnbgcmaaDoor.PQ
