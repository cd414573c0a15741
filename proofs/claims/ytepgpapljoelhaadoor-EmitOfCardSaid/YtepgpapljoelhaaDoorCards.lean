/-
  DERIVED. GIVEN WITH THE SEED: THE CARDS: each row of YtepgpapljoelhaaDoorRows.lean that lists a variable, with what it lists TIED to the program's text (the seventh form; the later family's looks); each row that meets fmt, with fmt's text TOLD by the authors' own Lean function (tested against real Go, not proved from fmt's source: count such statements apart). THE CARD IS WHAT COUNTS. Prove the row's statement (the work); the ties are given (YtepgpapljoelhaaDoorTie.lean); close each card by the builder's one call (the guide's Derived/Test/ToyasCard.lean, 'card_holds'). Laid BY PROGRAM, IN A SANDBOX (cutbox-door.mjs). By AI agents, Wed Nov 11 2026. No macro, syntax, notation, axiom, sorry.
-/
import Derived.Test.YtepgpapljoelhaaDoorRows
import GoSem.ClaimSeven
namespace Go.Proofs.YtepgpapljoelhaaDoor
namespace Rows

/-- THE TIED CARD OF 'tautochronelaw19.EmitOf'. -/
def emitOfCard : Claim7 := { stood := { row := emitOfRow, standIns := [], harness := (true, "10ba4019df3149e07e87e647db9cebef3a41c2e52db87547ed42e1a8cba0df23"), looks := false }, kinds := [], alts := [], laidByText := true, laidKinds := [.data, .data, .data], laidTests := true, laidLooks := .later }
def EmitOfCardSaid : Prop := Claim7.holds Tryd.pinned (.plain (OpenSpec.ofChange emitOfSpec)) emitOfCard

/-- THE TIED CARD OF 'tautochronelaw04.TreeText'. -/
def treeTextCard : Claim7 := { stood := { row := treeTextRow, standIns := [], harness := (true, "10ba4019df3149e07e87e647db9cebef3a41c2e52db87547ed42e1a8cba0df23"), looks := false }, kinds := [], alts := [], laidByText := true, laidKinds := [.data, .data, .data], laidTests := true, laidLooks := .later }
def TreeTextCardSaid : Prop := Claim7.holds Tryd.pinned (.plain (OpenSpec.ofChange treeTextSpec)) treeTextCard

/-- THE TIED CARD OF 'tautochronelaw04.TreeLines'. -/
def treeLinesCard : Claim7 := { stood := { row := treeLinesRow, standIns := [], harness := (true, "10ba4019df3149e07e87e647db9cebef3a41c2e52db87547ed42e1a8cba0df23"), looks := false }, kinds := [], alts := [], laidByText := true, laidKinds := [.data, .data, .data], laidTests := true, laidLooks := .later }
def TreeLinesCardSaid : Prop := Claim7.holds Tryd.pinned (.plain (OpenSpec.ofChange treeLinesSpec)) treeLinesCard

/-- THE TIED CARD OF 'tautochronelaw19.EmitSpilled'. -/
def emitSpilledCard : Claim7 := { stood := { row := emitSpilledRow, standIns := [], harness := (true, "10ba4019df3149e07e87e647db9cebef3a41c2e52db87547ed42e1a8cba0df23"), looks := false }, kinds := [], alts := [], laidByText := true, laidKinds := [.data, .data, .data], laidTests := true, laidLooks := .later }
def EmitSpilledCardSaid : Prop := Claim7.holds Tryd.pinned (.plain (OpenSpec.ofChange emitSpilledSpec)) emitSpilledCard

/-- THE TIED CARD OF 'tautochronelaw19.EmitRegisters'. -/
def emitRegistersCard : Claim7 := { stood := { row := emitRegistersRow, standIns := [], harness := (true, "10ba4019df3149e07e87e647db9cebef3a41c2e52db87547ed42e1a8cba0df23"), looks := false }, kinds := [], alts := [], laidByText := true, laidKinds := [.data, .data, .data], laidTests := true, laidLooks := .later }
def EmitRegistersCardSaid : Prop := Claim7.holds Tryd.pinned (.plain (OpenSpec.ofChange emitRegistersSpec)) emitRegistersCard

/-- THE SECOND FORM's CARD OF 'tautochronelaw19.EmitOf'. -/
def emitOfUptoCard : Claim7 := { stood := { row := emitOfUptoRow, standIns := [], harness := (true, "10ba4019df3149e07e87e647db9cebef3a41c2e52db87547ed42e1a8cba0df23"), looks := false }, kinds := [], alts := [], laidByText := true, laidKinds := [.data, .data, .data], laidTests := true, laidLooks := .later }
def EmitOfUptoCardSaid : Prop := Claim7.holds Tryd.pinned (.plain (OpenSpec.upto emitOfSpec)) emitOfUptoCard

/-- THE SECOND FORM's CARD OF 'tautochronelaw04.TreeText'. -/
def treeTextUptoCard : Claim7 := { stood := { row := treeTextUptoRow, standIns := [], harness := (true, "10ba4019df3149e07e87e647db9cebef3a41c2e52db87547ed42e1a8cba0df23"), looks := false }, kinds := [], alts := [], laidByText := true, laidKinds := [.data, .data, .data], laidTests := true, laidLooks := .later }
def TreeTextUptoCardSaid : Prop := Claim7.holds Tryd.pinned (.plain (OpenSpec.upto treeTextSpec)) treeTextUptoCard

/-- THE SECOND FORM's CARD OF 'tautochronelaw04.TreeLines'. -/
def treeLinesUptoCard : Claim7 := { stood := { row := treeLinesUptoRow, standIns := [], harness := (true, "10ba4019df3149e07e87e647db9cebef3a41c2e52db87547ed42e1a8cba0df23"), looks := false }, kinds := [], alts := [], laidByText := true, laidKinds := [.data, .data, .data], laidTests := true, laidLooks := .later }
def TreeLinesUptoCardSaid : Prop := Claim7.holds Tryd.pinned (.plain (OpenSpec.upto treeLinesSpec)) treeLinesUptoCard

/-- THE SECOND FORM's CARD OF 'tautochronelaw19.EmitSpilled'. -/
def emitSpilledUptoCard : Claim7 := { stood := { row := emitSpilledUptoRow, standIns := [], harness := (true, "10ba4019df3149e07e87e647db9cebef3a41c2e52db87547ed42e1a8cba0df23"), looks := false }, kinds := [], alts := [], laidByText := true, laidKinds := [.data, .data, .data], laidTests := true, laidLooks := .later }
def EmitSpilledUptoCardSaid : Prop := Claim7.holds Tryd.pinned (.plain (OpenSpec.upto emitSpilledSpec)) emitSpilledUptoCard

/-- THE SECOND FORM's CARD OF 'tautochronelaw19.EmitRegisters'. -/
def emitRegistersUptoCard : Claim7 := { stood := { row := emitRegistersUptoRow, standIns := [], harness := (true, "10ba4019df3149e07e87e647db9cebef3a41c2e52db87547ed42e1a8cba0df23"), looks := false }, kinds := [], alts := [], laidByText := true, laidKinds := [.data, .data, .data], laidTests := true, laidLooks := .later }
def EmitRegistersUptoCardSaid : Prop := Claim7.holds Tryd.pinned (.plain (OpenSpec.upto emitRegistersSpec)) emitRegistersUptoCard
end Rows
end Go.Proofs.YtepgpapljoelhaaDoor
