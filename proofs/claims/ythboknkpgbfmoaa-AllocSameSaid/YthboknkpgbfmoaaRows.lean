/-
  No cell of these rows narrows 'for every input' (looked for: loops, veiled, ifaces, maps, wideKeys, modest, calm, conditions, laid).
  DERIVED. THE GIVEN ROWS OF THIS SEAT. 9 by the template 'for every input the law returns true; each argument reads behind the call as it read before'; 0 by the template 'total and deterministic' (their statements: YthboknkpgbfmoaaTotals.lean).
  GIVEN WITH THE SEED: the statements are not yours to turn. If you find one false, say at which input.
  Laid BY PROGRAM, IN A SANDBOX (cutbox-rows.mjs): the forced cells as the released guide's own fill.sh prints them over the translation a8e53de1eb9b1aae… (all of the seat's roots in one cut). By AI agents, Wed Nov 11 2026. No macro, syntax, notation, axiom, sorry.
-/
import Derived.Test.YthboknkpgbfmoaaChecked
import GoSem.Claim
import GoSem.ClaimJoined
import GoSem.ClaimMapViews
import Derived.JoinedTies
import Derived.KernelRfl
namespace Go.Proofs.Ythboknkpgbfmoaa
/- THE CELL 'sum', in the pinned program and in every row, IS THE sha256 OF THE DUMP (.gsa) THAT YthboknkpgbfmoaaProg.lean LOADS. Nothing in Lean hashes anything: it is a label: what it is worth is what the hold of that sum in a sandbox is worth. -/
noncomputable def Try.pinned : Pinned := { name := "ythboknkpgbfmoaa", sum := "a8e53de1eb9b1aae0c95d69d3203c07f427c22600042231ecaec93d182d18333", checked := Try.checked }
namespace Rows
def none {H : Type} : Left H := { results := [], args := [] }

/-- 'tautochronelaw10.PlaceNone': WHATEVER THE INPUT: true; the input reads as it did. -/
def placeNoneSpec : ChangeSpec := { name := "placeNone", fn := fun _ => fun
  | [d1, d2] => { results := [.lit (.bool true)], args := [d1, d2] }
  | _ => none }
def placeNoneRow : OpenClaim := { program := "ythboknkpgbfmoaa", sum := "a8e53de1eb9b1aae0c95d69d3203c07f427c22600042231ecaec93d182d18333", func := "tautochrone/tautochronelaw10.PlaceNone", spec := "placeNone", apart := false }
def PlaceNoneSaid : Prop := placeNoneRow.holds Try.pinned (OpenSpec.ofChange placeNoneSpec)

/-- ITS FALSE NEIGHBOUR: 'it returns false'. Refute it at one input. -/
def placeNoneWrong : ChangeSpec := { name := "placeNone", fn := fun _ => fun
  | [d1, d2] => { results := [.lit (.bool false)], args := [d1, d2] }
  | _ => none }
def PlaceNoneWrongFalsely : Prop := placeNoneRow.holds Try.pinned (OpenSpec.ofChange placeNoneWrong)

/-- 'tautochronelaw10.PlaceMore': WHATEVER THE INPUT: true; the input reads as it did. -/
def placeMoreSpec : ChangeSpec := { name := "placeMore", fn := fun _ => fun
  | [d1, d2] => { results := [.lit (.bool true)], args := [d1, d2] }
  | _ => none }
def placeMoreRow : OpenClaim := { program := "ythboknkpgbfmoaa", sum := "a8e53de1eb9b1aae0c95d69d3203c07f427c22600042231ecaec93d182d18333", func := "tautochrone/tautochronelaw10.PlaceMore", spec := "placeMore", apart := false }
def PlaceMoreSaid : Prop := placeMoreRow.holds Try.pinned (OpenSpec.ofChange placeMoreSpec)

/-- ITS FALSE NEIGHBOUR: 'it returns false'. Refute it at one input. -/
def placeMoreWrong : ChangeSpec := { name := "placeMore", fn := fun _ => fun
  | [d1, d2] => { results := [.lit (.bool false)], args := [d1, d2] }
  | _ => none }
def PlaceMoreWrongFalsely : Prop := placeMoreRow.holds Try.pinned (OpenSpec.ofChange placeMoreWrong)

/-- 'tautochronelaw10.PlaceApart': WHATEVER THE INPUT: true; the input reads as it did. -/
def placeApartSpec : ChangeSpec := { name := "placeApart", fn := fun _ => fun
  | [d1, d2, d3] => { results := [.lit (.bool true)], args := [d1, d2, d3] }
  | _ => none }
def placeApartRow : OpenClaim := { program := "ythboknkpgbfmoaa", sum := "a8e53de1eb9b1aae0c95d69d3203c07f427c22600042231ecaec93d182d18333", func := "tautochrone/tautochronelaw10.PlaceApart", spec := "placeApart", apart := false }
def PlaceApartSaid : Prop := placeApartRow.holds Try.pinned (OpenSpec.ofChange placeApartSpec)

/-- ITS FALSE NEIGHBOUR: 'it returns false'. Refute it at one input. -/
def placeApartWrong : ChangeSpec := { name := "placeApart", fn := fun _ => fun
  | [d1, d2, d3] => { results := [.lit (.bool false)], args := [d1, d2, d3] }
  | _ => none }
def PlaceApartWrongFalsely : Prop := placeApartRow.holds Try.pinned (OpenSpec.ofChange placeApartWrong)

/-- 'tautochronelaw10.PlaceLabels': WHATEVER THE INPUT: true; the input reads as it did. -/
def placeLabelsSpec : ChangeSpec := { name := "placeLabels", fn := fun _ => fun
  | [d1, d2] => { results := [.lit (.bool true)], args := [d1, d2] }
  | _ => none }
def placeLabelsRow : OpenClaim := { program := "ythboknkpgbfmoaa", sum := "a8e53de1eb9b1aae0c95d69d3203c07f427c22600042231ecaec93d182d18333", func := "tautochrone/tautochronelaw10.PlaceLabels", spec := "placeLabels", apart := false }
def PlaceLabelsSaid : Prop := placeLabelsRow.holds Try.pinned (OpenSpec.ofChange placeLabelsSpec)

/-- ITS FALSE NEIGHBOUR: 'it returns false'. Refute it at one input. -/
def placeLabelsWrong : ChangeSpec := { name := "placeLabels", fn := fun _ => fun
  | [d1, d2] => { results := [.lit (.bool false)], args := [d1, d2] }
  | _ => none }
def PlaceLabelsWrongFalsely : Prop := placeLabelsRow.holds Try.pinned (OpenSpec.ofChange placeLabelsWrong)

/-- 'tautochronelaw17.AllocOf': WHATEVER THE INPUT: true; the input reads as it did. -/
def allocOfSpec : ChangeSpec := { name := "allocOf", fn := fun _ => fun
  | [d] => { results := [.lit (.bool true)], args := [d] }
  | _ => none }
def allocOfRow : OpenClaim := { program := "ythboknkpgbfmoaa", sum := "a8e53de1eb9b1aae0c95d69d3203c07f427c22600042231ecaec93d182d18333", func := "tautochrone/tautochronelaw17.AllocOf", spec := "allocOf", unfollowed := true, recurses := true, apart := false }
def AllocOfSaid : Prop := allocOfRow.holds Try.pinned (OpenSpec.ofChange allocOfSpec)

/-- ITS FALSE NEIGHBOUR: 'it returns false'. Refute it at one input. -/
def allocOfWrong : ChangeSpec := { name := "allocOf", fn := fun _ => fun
  | [d] => { results := [.lit (.bool false)], args := [d] }
  | _ => none }
def AllocOfWrongFalsely : Prop := allocOfRow.holds Try.pinned (OpenSpec.ofChange allocOfWrong)

/-- 'tautochronelaw17.AllocApart': WHATEVER THE INPUT: true; the input reads as it did. -/
def allocApartSpec : ChangeSpec := { name := "allocApart", fn := fun _ => fun
  | [d] => { results := [.lit (.bool true)], args := [d] }
  | _ => none }
def allocApartRow : OpenClaim := { program := "ythboknkpgbfmoaa", sum := "a8e53de1eb9b1aae0c95d69d3203c07f427c22600042231ecaec93d182d18333", func := "tautochrone/tautochronelaw17.AllocApart", spec := "allocApart", unfollowed := true, recurses := true, apart := false }
def AllocApartSaid : Prop := allocApartRow.holds Try.pinned (OpenSpec.ofChange allocApartSpec)

/-- ITS FALSE NEIGHBOUR: 'it returns false'. Refute it at one input. -/
def allocApartWrong : ChangeSpec := { name := "allocApart", fn := fun _ => fun
  | [d] => { results := [.lit (.bool false)], args := [d] }
  | _ => none }
def AllocApartWrongFalsely : Prop := allocApartRow.holds Try.pinned (OpenSpec.ofChange allocApartWrong)

/-- 'tautochronelaw17.AllocFew': WHATEVER THE INPUT: true; the input reads as it did. -/
def allocFewSpec : ChangeSpec := { name := "allocFew", fn := fun _ => fun
  | [d1, d2] => { results := [.lit (.bool true)], args := [d1, d2] }
  | _ => none }
def allocFewRow : OpenClaim := { program := "ythboknkpgbfmoaa", sum := "a8e53de1eb9b1aae0c95d69d3203c07f427c22600042231ecaec93d182d18333", func := "tautochrone/tautochronelaw17.AllocFew", spec := "allocFew", unfollowed := true, recurses := true, apart := false }
def AllocFewSaid : Prop := allocFewRow.holds Try.pinned (OpenSpec.ofChange allocFewSpec)

/-- ITS FALSE NEIGHBOUR: 'it returns false'. Refute it at one input. -/
def allocFewWrong : ChangeSpec := { name := "allocFew", fn := fun _ => fun
  | [d1, d2] => { results := [.lit (.bool false)], args := [d1, d2] }
  | _ => none }
def AllocFewWrongFalsely : Prop := allocFewRow.holds Try.pinned (OpenSpec.ofChange allocFewWrong)

/-- 'tautochronelaw17.AllocSame': WHATEVER THE INPUT: true; the input reads as it did. -/
def allocSameSpec : ChangeSpec := { name := "allocSame", fn := fun _ => fun
  | [d] => { results := [.lit (.bool true)], args := [d] }
  | _ => none }
def allocSameRow : OpenClaim := { program := "ythboknkpgbfmoaa", sum := "a8e53de1eb9b1aae0c95d69d3203c07f427c22600042231ecaec93d182d18333", func := "tautochrone/tautochronelaw17.AllocSame", spec := "allocSame", unfollowed := true, recurses := true, apart := false }
def AllocSameSaid : Prop := allocSameRow.holds Try.pinned (OpenSpec.ofChange allocSameSpec)

/-- ITS FALSE NEIGHBOUR: 'it returns false'. Refute it at one input. -/
def allocSameWrong : ChangeSpec := { name := "allocSame", fn := fun _ => fun
  | [d] => { results := [.lit (.bool false)], args := [d] }
  | _ => none }
def AllocSameWrongFalsely : Prop := allocSameRow.holds Try.pinned (OpenSpec.ofChange allocSameWrong)

/-- 'tautochronelaw17.AllocNone': WHATEVER THE INPUT: true; the input reads as it did. -/
def allocNoneSpec : ChangeSpec := { name := "allocNone", fn := fun _ => fun
  | [d] => { results := [.lit (.bool true)], args := [d] }
  | _ => none }
def allocNoneRow : OpenClaim := { program := "ythboknkpgbfmoaa", sum := "a8e53de1eb9b1aae0c95d69d3203c07f427c22600042231ecaec93d182d18333", func := "tautochrone/tautochronelaw17.AllocNone", spec := "allocNone", unfollowed := true, recurses := true, apart := false }
def AllocNoneSaid : Prop := allocNoneRow.holds Try.pinned (OpenSpec.ofChange allocNoneSpec)

/-- ITS FALSE NEIGHBOUR: 'it returns false'. Refute it at one input. -/
def allocNoneWrong : ChangeSpec := { name := "allocNone", fn := fun _ => fun
  | [d] => { results := [.lit (.bool false)], args := [d] }
  | _ => none }
def AllocNoneWrongFalsely : Prop := allocNoneRow.holds Try.pinned (OpenSpec.ofChange allocNoneWrong)

/- THE SECOND FORM. 'bulk': how many values and letters a reading holds, each counted each time it is reached (what is shared counts as often as it is met; a slice's spare places count too). A statement '..UptoSaid' is the law's where the arguments, and the package variables that the reading takes, are together of bulk at most 1048576: NARROWER than '..Said'. Prove '..Said' where nothing that the law and all that it calls make is longer than what came in: it says more and counts as full. Else prove '..UptoSaid'. A law counts once. -/
mutual
def uptoBulk {H : Type} : DataW H → Nat
  | .lit (.string bytes) => bytes.length + 1
  | .lit _ => 1
  | .nil => 1
  | .ptr d => uptoBulk d + 1
  | .slice elems spare => uptoBulkAll elems + uptoBulkAll spare + 1
  | .agg parts => uptoBulkAll parts + 1
  | .iface _ d => uptoBulk d + 1
  | .map entries => uptoBulkEntries entries + 1
  | .held _ => 1
def uptoBulkAll {H : Type} : List (DataW H) → Nat
  | [] => 0
  | d :: r => uptoBulk d + uptoBulkAll r
def uptoBulkEntries {H : Type} : List (Lit × DataW H) → Nat
  | [] => 0
  | x :: r => uptoBulkEntry x + uptoBulkEntries r
def uptoBulkEntry {H : Type} : Lit × DataW H → Nat
  | (.string bytes, d) => bytes.length + uptoBulk d + 1
  | (_, d) => uptoBulk d + 1
 end
def uptoSmall : (H : Type) → List (DataW H) → Bool := fun _ ds => decide (uptoBulkAll ds ≤ 1048576)
def OpenSpec.upto (s : _root_.Go.ChangeSpec) : _root_.Go.OpenSpec := { _root_.Go.OpenSpec.ofChange s with cond := some uptoSmall }

/-- 'tautochronelaw10.PlaceNone', WHERE WHAT IT READS IS OF BULK AT MOST 1048576: true; the input reads as it did. -/
def placeNoneUptoRow : OpenClaim := { program := "ythboknkpgbfmoaa", sum := "a8e53de1eb9b1aae0c95d69d3203c07f427c22600042231ecaec93d182d18333", func := "tautochrone/tautochronelaw10.PlaceNone", spec := "placeNone", apart := false, narrowed := true }
def PlaceNoneUptoSaid : Prop := placeNoneUptoRow.holds Try.pinned (OpenSpec.upto placeNoneSpec)

/-- 'tautochronelaw10.PlaceMore', WHERE WHAT IT READS IS OF BULK AT MOST 1048576: true; the input reads as it did. -/
def placeMoreUptoRow : OpenClaim := { program := "ythboknkpgbfmoaa", sum := "a8e53de1eb9b1aae0c95d69d3203c07f427c22600042231ecaec93d182d18333", func := "tautochrone/tautochronelaw10.PlaceMore", spec := "placeMore", apart := false, narrowed := true }
def PlaceMoreUptoSaid : Prop := placeMoreUptoRow.holds Try.pinned (OpenSpec.upto placeMoreSpec)

/-- 'tautochronelaw10.PlaceApart', WHERE WHAT IT READS IS OF BULK AT MOST 1048576: true; the input reads as it did. -/
def placeApartUptoRow : OpenClaim := { program := "ythboknkpgbfmoaa", sum := "a8e53de1eb9b1aae0c95d69d3203c07f427c22600042231ecaec93d182d18333", func := "tautochrone/tautochronelaw10.PlaceApart", spec := "placeApart", apart := false, narrowed := true }
def PlaceApartUptoSaid : Prop := placeApartUptoRow.holds Try.pinned (OpenSpec.upto placeApartSpec)

/-- 'tautochronelaw10.PlaceLabels', WHERE WHAT IT READS IS OF BULK AT MOST 1048576: true; the input reads as it did. -/
def placeLabelsUptoRow : OpenClaim := { program := "ythboknkpgbfmoaa", sum := "a8e53de1eb9b1aae0c95d69d3203c07f427c22600042231ecaec93d182d18333", func := "tautochrone/tautochronelaw10.PlaceLabels", spec := "placeLabels", apart := false, narrowed := true }
def PlaceLabelsUptoSaid : Prop := placeLabelsUptoRow.holds Try.pinned (OpenSpec.upto placeLabelsSpec)

/-- 'tautochronelaw17.AllocOf', WHERE WHAT IT READS IS OF BULK AT MOST 1048576: true; the input reads as it did. -/
def allocOfUptoRow : OpenClaim := { program := "ythboknkpgbfmoaa", sum := "a8e53de1eb9b1aae0c95d69d3203c07f427c22600042231ecaec93d182d18333", func := "tautochrone/tautochronelaw17.AllocOf", spec := "allocOf", unfollowed := true, recurses := true, apart := false, narrowed := true }
def AllocOfUptoSaid : Prop := allocOfUptoRow.holds Try.pinned (OpenSpec.upto allocOfSpec)

/-- 'tautochronelaw17.AllocApart', WHERE WHAT IT READS IS OF BULK AT MOST 1048576: true; the input reads as it did. -/
def allocApartUptoRow : OpenClaim := { program := "ythboknkpgbfmoaa", sum := "a8e53de1eb9b1aae0c95d69d3203c07f427c22600042231ecaec93d182d18333", func := "tautochrone/tautochronelaw17.AllocApart", spec := "allocApart", unfollowed := true, recurses := true, apart := false, narrowed := true }
def AllocApartUptoSaid : Prop := allocApartUptoRow.holds Try.pinned (OpenSpec.upto allocApartSpec)

/-- 'tautochronelaw17.AllocFew', WHERE WHAT IT READS IS OF BULK AT MOST 1048576: true; the input reads as it did. -/
def allocFewUptoRow : OpenClaim := { program := "ythboknkpgbfmoaa", sum := "a8e53de1eb9b1aae0c95d69d3203c07f427c22600042231ecaec93d182d18333", func := "tautochrone/tautochronelaw17.AllocFew", spec := "allocFew", unfollowed := true, recurses := true, apart := false, narrowed := true }
def AllocFewUptoSaid : Prop := allocFewUptoRow.holds Try.pinned (OpenSpec.upto allocFewSpec)

/-- 'tautochronelaw17.AllocSame', WHERE WHAT IT READS IS OF BULK AT MOST 1048576: true; the input reads as it did. -/
def allocSameUptoRow : OpenClaim := { program := "ythboknkpgbfmoaa", sum := "a8e53de1eb9b1aae0c95d69d3203c07f427c22600042231ecaec93d182d18333", func := "tautochrone/tautochronelaw17.AllocSame", spec := "allocSame", unfollowed := true, recurses := true, apart := false, narrowed := true }
def AllocSameUptoSaid : Prop := allocSameUptoRow.holds Try.pinned (OpenSpec.upto allocSameSpec)

/-- 'tautochronelaw17.AllocNone', WHERE WHAT IT READS IS OF BULK AT MOST 1048576: true; the input reads as it did. -/
def allocNoneUptoRow : OpenClaim := { program := "ythboknkpgbfmoaa", sum := "a8e53de1eb9b1aae0c95d69d3203c07f427c22600042231ecaec93d182d18333", func := "tautochrone/tautochronelaw17.AllocNone", spec := "allocNone", unfollowed := true, recurses := true, apart := false, narrowed := true }
def AllocNoneUptoSaid : Prop := allocNoneUptoRow.holds Try.pinned (OpenSpec.upto allocNoneSpec)

end Rows
end Go.Proofs.Ythboknkpgbfmoaa
