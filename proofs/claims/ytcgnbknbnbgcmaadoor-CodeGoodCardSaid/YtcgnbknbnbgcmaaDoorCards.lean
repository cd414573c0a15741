/-
  DERIVED. GIVEN WITH THE SEED: THE CARDS: each row of YtcgnbknbnbgcmaaDoorRows.lean that lists a variable, with what it lists TIED to the program's text (the seventh form; the later family's looks); each row that meets fmt, with fmt's text TOLD by the authors' own Lean function (tested against real Go, not proved from fmt's source: count such statements apart). THE CARD IS WHAT COUNTS. Prove the row's statement (the work); the ties are given (YtcgnbknbnbgcmaaDoorTie.lean); close each card by the builder's one call (the guide's Derived/Test/ToyasCard.lean, 'card_holds'). Laid BY PROGRAM, IN A SANDBOX (cutbox-door.mjs). By AI agents, Wed Nov 11 2026. No macro, syntax, notation, axiom, sorry.
-/
import Derived.Test.YtcgnbknbnbgcmaaDoorRows
import GoSem.ClaimSeven
namespace Go.Proofs.YtcgnbknbnbgcmaaDoor
namespace Rows

/-- THE TIED CARD OF 'tautochronelaw12.CodeUses'. -/
def codeUsesCard : Claim7 := { stood := { row := codeUsesRow, standIns := [], harness := (true, "d924ac59879a67e5f409e09ef3e68a99067b942b569c24bfdcf916160c99458b"), looks := false }, kinds := [], alts := [], laidByText := true, laidKinds := [.data, .data, .data], laidTests := true, laidLooks := .later }
def CodeUsesCardSaid : Prop := Claim7.holds Tryd.pinned (.plain (OpenSpec.ofChange codeUsesSpec)) codeUsesCard

/-- THE TIED CARD OF 'tautochronelaw12.CodeText'. -/
def codeTextCard : Claim7 := { stood := { row := codeTextRow, standIns := [], harness := (true, "d924ac59879a67e5f409e09ef3e68a99067b942b569c24bfdcf916160c99458b"), looks := false }, kinds := [], alts := [], laidByText := true, laidKinds := [.data, .data, .data], laidTests := true, laidLooks := .later }
def CodeTextCardSaid : Prop := Claim7.holds Tryd.pinned (.plain (OpenSpec.ofChange codeTextSpec)) codeTextCard

/-- THE TIED CARD OF 'tautochronelaw12.CodeGood'. -/
def codeGoodCard : Claim7 := { stood := { row := codeGoodRow, standIns := [], harness := (true, "d924ac59879a67e5f409e09ef3e68a99067b942b569c24bfdcf916160c99458b"), looks := false }, kinds := [], alts := [], laidByText := true, laidKinds := [.data, .data, .data], laidTests := true, laidLooks := .later }
def CodeGoodCardSaid : Prop := Claim7.holds Tryd.pinned (.plain (OpenSpec.ofChange codeGoodSpec)) codeGoodCard

/-- THE TIED CARD OF 'tautochronelaw12.CodeNext'. -/
def codeNextCard : Claim7 := { stood := { row := codeNextRow, standIns := [], harness := (true, "d924ac59879a67e5f409e09ef3e68a99067b942b569c24bfdcf916160c99458b"), looks := false }, kinds := [], alts := [], laidByText := true, laidKinds := [.data, .data, .data], laidTests := true, laidLooks := .later }
def CodeNextCardSaid : Prop := Claim7.holds Tryd.pinned (.plain (OpenSpec.ofChange codeNextSpec)) codeNextCard

/-- THE TIED CARD OF 'tautochronelaw12.CodeEnds'. -/
def codeEndsCard : Claim7 := { stood := { row := codeEndsRow, standIns := [], harness := (true, "d924ac59879a67e5f409e09ef3e68a99067b942b569c24bfdcf916160c99458b"), looks := false }, kinds := [], alts := [], laidByText := true, laidKinds := [.data, .data, .data], laidTests := true, laidLooks := .later }
def CodeEndsCardSaid : Prop := Claim7.holds Tryd.pinned (.plain (OpenSpec.ofChange codeEndsSpec)) codeEndsCard

/-- THE SECOND FORM's CARD OF 'tautochronelaw12.CodeUses'. -/
def codeUsesUptoCard : Claim7 := { stood := { row := codeUsesUptoRow, standIns := [], harness := (true, "d924ac59879a67e5f409e09ef3e68a99067b942b569c24bfdcf916160c99458b"), looks := false }, kinds := [], alts := [], laidByText := true, laidKinds := [.data, .data, .data], laidTests := true, laidLooks := .later }
def CodeUsesUptoCardSaid : Prop := Claim7.holds Tryd.pinned (.plain (OpenSpec.upto codeUsesSpec)) codeUsesUptoCard

/-- THE SECOND FORM's CARD OF 'tautochronelaw12.CodeText'. -/
def codeTextUptoCard : Claim7 := { stood := { row := codeTextUptoRow, standIns := [], harness := (true, "d924ac59879a67e5f409e09ef3e68a99067b942b569c24bfdcf916160c99458b"), looks := false }, kinds := [], alts := [], laidByText := true, laidKinds := [.data, .data, .data], laidTests := true, laidLooks := .later }
def CodeTextUptoCardSaid : Prop := Claim7.holds Tryd.pinned (.plain (OpenSpec.upto codeTextSpec)) codeTextUptoCard

/-- THE SECOND FORM's CARD OF 'tautochronelaw12.CodeGood'. -/
def codeGoodUptoCard : Claim7 := { stood := { row := codeGoodUptoRow, standIns := [], harness := (true, "d924ac59879a67e5f409e09ef3e68a99067b942b569c24bfdcf916160c99458b"), looks := false }, kinds := [], alts := [], laidByText := true, laidKinds := [.data, .data, .data], laidTests := true, laidLooks := .later }
def CodeGoodUptoCardSaid : Prop := Claim7.holds Tryd.pinned (.plain (OpenSpec.upto codeGoodSpec)) codeGoodUptoCard

/-- THE SECOND FORM's CARD OF 'tautochronelaw12.CodeNext'. -/
def codeNextUptoCard : Claim7 := { stood := { row := codeNextUptoRow, standIns := [], harness := (true, "d924ac59879a67e5f409e09ef3e68a99067b942b569c24bfdcf916160c99458b"), looks := false }, kinds := [], alts := [], laidByText := true, laidKinds := [.data, .data, .data], laidTests := true, laidLooks := .later }
def CodeNextUptoCardSaid : Prop := Claim7.holds Tryd.pinned (.plain (OpenSpec.upto codeNextSpec)) codeNextUptoCard

/-- THE SECOND FORM's CARD OF 'tautochronelaw12.CodeEnds'. -/
def codeEndsUptoCard : Claim7 := { stood := { row := codeEndsUptoRow, standIns := [], harness := (true, "d924ac59879a67e5f409e09ef3e68a99067b942b569c24bfdcf916160c99458b"), looks := false }, kinds := [], alts := [], laidByText := true, laidKinds := [.data, .data, .data], laidTests := true, laidLooks := .later }
def CodeEndsUptoCardSaid : Prop := Claim7.holds Tryd.pinned (.plain (OpenSpec.upto codeEndsSpec)) codeEndsUptoCard
end Rows
end Go.Proofs.YtcgnbknbnbgcmaaDoor
