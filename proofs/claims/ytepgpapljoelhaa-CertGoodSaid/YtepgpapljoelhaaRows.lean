/-
  No cell of these rows narrows 'for every input' (looked for: loops, veiled, ifaces, maps, wideKeys, modest, calm, conditions, laid).
  DERIVED. THE GIVEN ROWS OF THIS SEAT. 4 by the template 'for every input the law returns true; each argument reads behind the call as it read before'; 0 by the template 'total and deterministic' (their statements: YtepgpapljoelhaaTotals.lean).
  GIVEN WITH THE SEED: the statements are not yours to turn. If you find one false, say at which input.
  Laid BY PROGRAM, IN A SANDBOX (cutbox-rows.mjs): the forced cells as the released guide's own fill.sh prints them over the translation 18560e068021e27c… (all of the seat's roots in one cut). By AI agents, Wed Nov 11 2026. No macro, syntax, notation, axiom, sorry.
-/
import Derived.Test.YtepgpapljoelhaaChecked
import GoSem.Claim
import GoSem.ClaimJoined
import GoSem.ClaimMapViews
import Derived.JoinedTies
import Derived.KernelRfl
namespace Go.Proofs.Ytepgpapljoelhaa
/- THE CELL 'sum', in the pinned program and in every row, IS THE sha256 OF THE DUMP (.gsa) THAT YtepgpapljoelhaaProg.lean LOADS. Nothing in Lean hashes anything: it is a label: what it is worth is what the hold of that sum in a sandbox is worth. -/
noncomputable def Try.pinned : Pinned := { name := "ytepgpapljoelhaa", sum := "18560e068021e27cbc71ccaac034aff4df70da1d10d17c483dc96df6c5790ae6", checked := Try.checked }
namespace Rows
def none {H : Type} : Left H := { results := [], args := [] }

/-- 'tautochronelaw18.CertGood': WHATEVER THE INPUT: true; the input reads as it did. -/
def certGoodSpec : ChangeSpec := { name := "certGood", fn := fun _ => fun
  | [d1, d2, d3, d4] => { results := [.lit (.bool true)], args := [d1, d2, d3, d4] }
  | _ => none }
def certGoodRow : OpenClaim := { program := "ytepgpapljoelhaa", sum := "18560e068021e27cbc71ccaac034aff4df70da1d10d17c483dc96df6c5790ae6", func := "tautochrone/tautochronelaw18.CertGood", spec := "certGood", unfollowed := true, recurses := true, apart := false }
def CertGoodSaid : Prop := certGoodRow.holds Try.pinned (OpenSpec.ofChange certGoodSpec)

/-- ITS FALSE NEIGHBOUR: 'it returns false'. Refute it at one input. -/
def certGoodWrong : ChangeSpec := { name := "certGood", fn := fun _ => fun
  | [d1, d2, d3, d4] => { results := [.lit (.bool false)], args := [d1, d2, d3, d4] }
  | _ => none }
def CertGoodWrongFalsely : Prop := certGoodRow.holds Try.pinned (OpenSpec.ofChange certGoodWrong)

/-- 'tautochronelaw18.CertOwn': WHATEVER THE INPUT: true; the input reads as it did. -/
def certOwnSpec : ChangeSpec := { name := "certOwn", fn := fun _ => fun
  | [d] => { results := [.lit (.bool true)], args := [d] }
  | _ => none }
def certOwnRow : OpenClaim := { program := "ytepgpapljoelhaa", sum := "18560e068021e27cbc71ccaac034aff4df70da1d10d17c483dc96df6c5790ae6", func := "tautochrone/tautochronelaw18.CertOwn", spec := "certOwn", unfollowed := true, recurses := true, apart := false }
def CertOwnSaid : Prop := certOwnRow.holds Try.pinned (OpenSpec.ofChange certOwnSpec)

/-- ITS FALSE NEIGHBOUR: 'it returns false'. Refute it at one input. -/
def certOwnWrong : ChangeSpec := { name := "certOwn", fn := fun _ => fun
  | [d] => { results := [.lit (.bool false)], args := [d] }
  | _ => none }
def CertOwnWrongFalsely : Prop := certOwnRow.holds Try.pinned (OpenSpec.ofChange certOwnWrong)

/-- 'tautochronelaw18.CertMore': WHATEVER THE INPUT: true; the input reads as it did. -/
def certMoreSpec : ChangeSpec := { name := "certMore", fn := fun _ => fun
  | [d1, d2, d3, d4, d5] => { results := [.lit (.bool true)], args := [d1, d2, d3, d4, d5] }
  | _ => none }
def certMoreRow : OpenClaim := { program := "ytepgpapljoelhaa", sum := "18560e068021e27cbc71ccaac034aff4df70da1d10d17c483dc96df6c5790ae6", func := "tautochrone/tautochronelaw18.CertMore", spec := "certMore", unfollowed := true, recurses := true, apart := false }
def CertMoreSaid : Prop := certMoreRow.holds Try.pinned (OpenSpec.ofChange certMoreSpec)

/-- ITS FALSE NEIGHBOUR: 'it returns false'. Refute it at one input. -/
def certMoreWrong : ChangeSpec := { name := "certMore", fn := fun _ => fun
  | [d1, d2, d3, d4, d5] => { results := [.lit (.bool false)], args := [d1, d2, d3, d4, d5] }
  | _ => none }
def CertMoreWrongFalsely : Prop := certMoreRow.holds Try.pinned (OpenSpec.ofChange certMoreWrong)

/-- 'tautochronelaw18.CertSwap': WHATEVER THE INPUT: true; the input reads as it did. -/
def certSwapSpec : ChangeSpec := { name := "certSwap", fn := fun _ => fun
  | [d1, d2, d3, d4] => { results := [.lit (.bool true)], args := [d1, d2, d3, d4] }
  | _ => none }
def certSwapRow : OpenClaim := { program := "ytepgpapljoelhaa", sum := "18560e068021e27cbc71ccaac034aff4df70da1d10d17c483dc96df6c5790ae6", func := "tautochrone/tautochronelaw18.CertSwap", spec := "certSwap", unfollowed := true, recurses := true, apart := false }
def CertSwapSaid : Prop := certSwapRow.holds Try.pinned (OpenSpec.ofChange certSwapSpec)

/-- ITS FALSE NEIGHBOUR: 'it returns false'. Refute it at one input. -/
def certSwapWrong : ChangeSpec := { name := "certSwap", fn := fun _ => fun
  | [d1, d2, d3, d4] => { results := [.lit (.bool false)], args := [d1, d2, d3, d4] }
  | _ => none }
def CertSwapWrongFalsely : Prop := certSwapRow.holds Try.pinned (OpenSpec.ofChange certSwapWrong)

/- THE SECOND FORM. 'bulk': how many values and letters a reading holds, each counted each time it is reached (what is shared counts as often as it is met; a slice's spare places count too). A statement '..UptoSaid' is the law's where the arguments, and the package variables that the reading takes, are together of bulk at most 1048576: NARROWER than '..Said'. Prove '..Said' where nothing that the law and all that it calls make is longer than what came in: it says more and counts as full. Else prove '..UptoSaid'. A law counts once. -/
mutual
def uptoBulk {H : Type} : DataW H → Nat
  | .lit (.string bytes) => bytes.length + 1
  | .lit _ => 1
  | .nil => 1
  | .ptr d => uptoBulk d + 1
  | .slice elems spare => uptoBulkAll elems + uptoBulkAll spare + 1
  | .agg parts => uptoBulkAll parts + 1
  | .iface _ d => uptoBulk d + 1
  | .map entries => uptoBulkEntries entries + 1
  | .held _ => 1
def uptoBulkAll {H : Type} : List (DataW H) → Nat
  | [] => 0
  | d :: r => uptoBulk d + uptoBulkAll r
def uptoBulkEntries {H : Type} : List (Lit × DataW H) → Nat
  | [] => 0
  | x :: r => uptoBulkEntry x + uptoBulkEntries r
def uptoBulkEntry {H : Type} : Lit × DataW H → Nat
  | (.string bytes, d) => bytes.length + uptoBulk d + 1
  | (_, d) => uptoBulk d + 1
 end
def uptoSmall : (H : Type) → List (DataW H) → Bool := fun _ ds => decide (uptoBulkAll ds ≤ 1048576)
def OpenSpec.upto (s : _root_.Go.ChangeSpec) : _root_.Go.OpenSpec := { _root_.Go.OpenSpec.ofChange s with cond := some uptoSmall }

/-- 'tautochronelaw18.CertGood', WHERE WHAT IT READS IS OF BULK AT MOST 1048576: true; the input reads as it did. -/
def certGoodUptoRow : OpenClaim := { program := "ytepgpapljoelhaa", sum := "18560e068021e27cbc71ccaac034aff4df70da1d10d17c483dc96df6c5790ae6", func := "tautochrone/tautochronelaw18.CertGood", spec := "certGood", unfollowed := true, recurses := true, apart := false, narrowed := true }
def CertGoodUptoSaid : Prop := certGoodUptoRow.holds Try.pinned (OpenSpec.upto certGoodSpec)

/-- 'tautochronelaw18.CertOwn', WHERE WHAT IT READS IS OF BULK AT MOST 1048576: true; the input reads as it did. -/
def certOwnUptoRow : OpenClaim := { program := "ytepgpapljoelhaa", sum := "18560e068021e27cbc71ccaac034aff4df70da1d10d17c483dc96df6c5790ae6", func := "tautochrone/tautochronelaw18.CertOwn", spec := "certOwn", unfollowed := true, recurses := true, apart := false, narrowed := true }
def CertOwnUptoSaid : Prop := certOwnUptoRow.holds Try.pinned (OpenSpec.upto certOwnSpec)

/-- 'tautochronelaw18.CertMore', WHERE WHAT IT READS IS OF BULK AT MOST 1048576: true; the input reads as it did. -/
def certMoreUptoRow : OpenClaim := { program := "ytepgpapljoelhaa", sum := "18560e068021e27cbc71ccaac034aff4df70da1d10d17c483dc96df6c5790ae6", func := "tautochrone/tautochronelaw18.CertMore", spec := "certMore", unfollowed := true, recurses := true, apart := false, narrowed := true }
def CertMoreUptoSaid : Prop := certMoreUptoRow.holds Try.pinned (OpenSpec.upto certMoreSpec)

/-- 'tautochronelaw18.CertSwap', WHERE WHAT IT READS IS OF BULK AT MOST 1048576: true; the input reads as it did. -/
def certSwapUptoRow : OpenClaim := { program := "ytepgpapljoelhaa", sum := "18560e068021e27cbc71ccaac034aff4df70da1d10d17c483dc96df6c5790ae6", func := "tautochrone/tautochronelaw18.CertSwap", spec := "certSwap", unfollowed := true, recurses := true, apart := false, narrowed := true }
def CertSwapUptoSaid : Prop := certSwapUptoRow.holds Try.pinned (OpenSpec.upto certSwapSpec)

end Rows
end Go.Proofs.Ytepgpapljoelhaa
