/-
  DERIVED. GIVEN WITH THE SEED: THE CARDS: each row of YthboknkpgbfmoaaDoorRows.lean that lists a variable, with what it lists TIED to the program's text (the seventh form; the later family's looks); each row that meets fmt, with fmt's text TOLD by the authors' own Lean function (tested against real Go, not proved from fmt's source: count such statements apart). THE CARD IS WHAT COUNTS. Prove the row's statement (the work); the ties are given (YthboknkpgbfmoaaDoorTie.lean); close each card by the builder's one call (the guide's Derived/Test/ToyasCard.lean, 'card_holds'). Laid BY PROGRAM, IN A SANDBOX (cutbox-door.mjs). By AI agents, Wed Nov 11 2026. No macro, syntax, notation, axiom, sorry.
-/
import Derived.Test.YthboknkpgbfmoaaDoorRows
import GoSem.ClaimSeven
namespace Go.Proofs.YthboknkpgbfmoaaDoor
namespace Rows

/-- THE TIED CARD OF 'tautochronelaw04.TreeExpr'. -/
def treeExprCard : Claim7 := { stood := { row := treeExprRow, standIns := [], harness := (true, "d91cb76fa4389ce77fb97f0d172a3ff3564f09ba95d38176bb591b53fc79483f"), looks := false }, kinds := [], alts := [], laidByText := true, laidKinds := [.data, .data, .data], laidTests := true, laidLooks := .later }
def TreeExprCardSaid : Prop := Claim7.holds Tryd.pinned (.plain (OpenSpec.ofChange treeExprSpec)) treeExprCard

/-- THE TIED CARD OF 'tautochronelaw04.TreeTight'. -/
def treeTightCard : Claim7 := { stood := { row := treeTightRow, standIns := [], harness := (true, "d91cb76fa4389ce77fb97f0d172a3ff3564f09ba95d38176bb591b53fc79483f"), looks := false }, kinds := [], alts := [], laidByText := true, laidKinds := [.data, .data, .data], laidTests := true, laidLooks := .later }
def TreeTightCardSaid : Prop := Claim7.holds Tryd.pinned (.plain (OpenSpec.ofChange treeTightSpec)) treeTightCard

/-- THE SECOND FORM's CARD OF 'tautochronelaw04.TreeExpr'. -/
def treeExprUptoCard : Claim7 := { stood := { row := treeExprUptoRow, standIns := [], harness := (true, "d91cb76fa4389ce77fb97f0d172a3ff3564f09ba95d38176bb591b53fc79483f"), looks := false }, kinds := [], alts := [], laidByText := true, laidKinds := [.data, .data, .data], laidTests := true, laidLooks := .later }
def TreeExprUptoCardSaid : Prop := Claim7.holds Tryd.pinned (.plain (OpenSpec.upto treeExprSpec)) treeExprUptoCard

/-- THE SECOND FORM's CARD OF 'tautochronelaw04.TreeTight'. -/
def treeTightUptoCard : Claim7 := { stood := { row := treeTightUptoRow, standIns := [], harness := (true, "d91cb76fa4389ce77fb97f0d172a3ff3564f09ba95d38176bb591b53fc79483f"), looks := false }, kinds := [], alts := [], laidByText := true, laidKinds := [.data, .data, .data], laidTests := true, laidLooks := .later }
def TreeTightUptoCardSaid : Prop := Claim7.holds Tryd.pinned (.plain (OpenSpec.upto treeTightSpec)) treeTightUptoCard
end Rows
end Go.Proofs.YthboknkpgbfmoaaDoor
