/-
  DERIVED. GIVEN WITH THE SEED: THE CARDS: each row of YtcdgjgoplogiiaaDoorRows.lean that lists a variable, with what it lists TIED to the program's text (the seventh form; the later family's looks); each row that meets fmt, with fmt's text TOLD by the authors' own Lean function (tested against real Go, not proved from fmt's source: count such statements apart). THE CARD IS WHAT COUNTS. Prove the row's statement (the work); the ties are given (YtcdgjgoplogiiaaDoorTie.lean); close each card by the builder's one call (the guide's Derived/Test/ToyasCard.lean, 'card_holds'). Laid BY PROGRAM, IN A SANDBOX (cutbox-door.mjs). By AI agents, Wed Nov 11 2026. No macro, syntax, notation, axiom, sorry.
-/
import Derived.Test.YtcdgjgoplogiiaaDoorRows
import GoSem.ClaimSeven
namespace Go.Proofs.YtcdgjgoplogiiaaDoor
namespace Rows

/-- THE TIED CARD OF 'tautochronelaw04.TreeLines'. -/
def treeLinesCard : Claim7 := { stood := { row := treeLinesRow, standIns := [], harness := (true, "0e4fb5dbce0c42eff6bfc5aa4a4bbd7674d31862f68878371365e5b985480f18"), looks := true }, kinds := [], alts := [], laidByText := true, laidKinds := [.data, .data, .data], laidTests := true, laidLooks := .later }
def TreeLinesCardSaid : Prop := Claim7.holds Tryd.pinned (.plain (OpenSpec.ofChange treeLinesSpec)) treeLinesCard

/-- THE TIED CARD OF 'tautochronelaw05.ParseBinds'. -/
def parseBindsCard : Claim7 := { stood := { row := parseBindsRow, standIns := [], harness := (true, "0e4fb5dbce0c42eff6bfc5aa4a4bbd7674d31862f68878371365e5b985480f18"), looks := true }, kinds := [], alts := [], laidByText := true, laidKinds := [.handle], laidTests := true, laidLooks := .later }
def ParseBindsCardSaid : Prop := Claim7.holds Tryd.pinned (.plain (OpenSpec.ofChange parseBindsSpec)) parseBindsCard

/-- THE TIED CARD OF 'tautochronelaw05.ParseLimits'. -/
def parseLimitsCard : Claim7 := { stood := { row := parseLimitsRow, standIns := [], harness := (true, "0e4fb5dbce0c42eff6bfc5aa4a4bbd7674d31862f68878371365e5b985480f18"), looks := true }, kinds := [], alts := [], laidByText := true, laidKinds := [.handle], laidTests := true, laidLooks := .later }
def ParseLimitsCardSaid : Prop := Claim7.holds Tryd.pinned (.plain (OpenSpec.ofChange parseLimitsSpec)) parseLimitsCard

/-- THE TIED CARD OF 'tautochronelaw08.HoldThreads'. -/
def holdThreadsCard : Claim7 := { stood := { row := holdThreadsRow, standIns := [], harness := (true, "0e4fb5dbce0c42eff6bfc5aa4a4bbd7674d31862f68878371365e5b985480f18"), looks := true }, kinds := [], alts := [], laidByText := true, laidKinds := [.handle], laidTests := true, laidLooks := .later }
def HoldThreadsCardSaid : Prop := Claim7.holds Tryd.pinned (.plain (OpenSpec.ofChange holdThreadsSpec)) holdThreadsCard

/-- THE TIED CARD OF 'tautochronelaw08.HoldNested'. -/
def holdNestedCard : Claim7 := { stood := { row := holdNestedRow, standIns := [], harness := (true, "0e4fb5dbce0c42eff6bfc5aa4a4bbd7674d31862f68878371365e5b985480f18"), looks := true }, kinds := [], alts := [], laidByText := true, laidKinds := [.handle], laidTests := true, laidLooks := .later }
def HoldNestedCardSaid : Prop := Claim7.holds Tryd.pinned (.plain (OpenSpec.ofChange holdNestedSpec)) holdNestedCard

/-- THE SECOND FORM's CARD OF 'tautochronelaw04.TreeLines'. -/
def treeLinesUptoCard : Claim7 := { stood := { row := treeLinesUptoRow, standIns := [], harness := (true, "0e4fb5dbce0c42eff6bfc5aa4a4bbd7674d31862f68878371365e5b985480f18"), looks := true }, kinds := [], alts := [], laidByText := true, laidKinds := [.data, .data, .data], laidTests := true, laidLooks := .later }
def TreeLinesUptoCardSaid : Prop := Claim7.holds Tryd.pinned (.plain (OpenSpec.upto treeLinesSpec)) treeLinesUptoCard

/-- THE SECOND FORM's CARD OF 'tautochronelaw05.ParseBinds'. -/
def parseBindsUptoCard : Claim7 := { stood := { row := parseBindsUptoRow, standIns := [], harness := (true, "0e4fb5dbce0c42eff6bfc5aa4a4bbd7674d31862f68878371365e5b985480f18"), looks := true }, kinds := [], alts := [], laidByText := true, laidKinds := [.handle], laidTests := true, laidLooks := .later }
def ParseBindsUptoCardSaid : Prop := Claim7.holds Tryd.pinned (.plain (OpenSpec.upto parseBindsSpec)) parseBindsUptoCard

/-- THE SECOND FORM's CARD OF 'tautochronelaw05.ParseLimits'. -/
def parseLimitsUptoCard : Claim7 := { stood := { row := parseLimitsUptoRow, standIns := [], harness := (true, "0e4fb5dbce0c42eff6bfc5aa4a4bbd7674d31862f68878371365e5b985480f18"), looks := true }, kinds := [], alts := [], laidByText := true, laidKinds := [.handle], laidTests := true, laidLooks := .later }
def ParseLimitsUptoCardSaid : Prop := Claim7.holds Tryd.pinned (.plain (OpenSpec.upto parseLimitsSpec)) parseLimitsUptoCard

/-- THE SECOND FORM's CARD OF 'tautochronelaw08.HoldThreads'. -/
def holdThreadsUptoCard : Claim7 := { stood := { row := holdThreadsUptoRow, standIns := [], harness := (true, "0e4fb5dbce0c42eff6bfc5aa4a4bbd7674d31862f68878371365e5b985480f18"), looks := true }, kinds := [], alts := [], laidByText := true, laidKinds := [.handle], laidTests := true, laidLooks := .later }
def HoldThreadsUptoCardSaid : Prop := Claim7.holds Tryd.pinned (.plain (OpenSpec.upto holdThreadsSpec)) holdThreadsUptoCard

/-- THE SECOND FORM's CARD OF 'tautochronelaw08.HoldNested'. -/
def holdNestedUptoCard : Claim7 := { stood := { row := holdNestedUptoRow, standIns := [], harness := (true, "0e4fb5dbce0c42eff6bfc5aa4a4bbd7674d31862f68878371365e5b985480f18"), looks := true }, kinds := [], alts := [], laidByText := true, laidKinds := [.handle], laidTests := true, laidLooks := .later }
def HoldNestedUptoCardSaid : Prop := Claim7.holds Tryd.pinned (.plain (OpenSpec.upto holdNestedSpec)) holdNestedUptoCard
end Rows
end Go.Proofs.YtcdgjgoplogiiaaDoor
