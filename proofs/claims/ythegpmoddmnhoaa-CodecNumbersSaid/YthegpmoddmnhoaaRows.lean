/-
  No cell of these rows narrows 'for every input' (looked for: loops, veiled, ifaces, maps, wideKeys, modest, calm, conditions, laid).
  DERIVED. THE GIVEN ROWS OF THIS SEAT. 7 by the template 'for every input the law returns true; each argument reads behind the call as it read before'; 0 by the template 'total and deterministic' (their statements: YthegpmoddmnhoaaTotals.lean).
  GIVEN WITH THE SEED: the statements are not yours to turn. If you find one false, say at which input.
  Laid BY PROGRAM, IN A SANDBOX (cutbox-rows.mjs): the forced cells as the released guide's own fill.sh prints them over the translation 595007cbacabb9c0… (all of the seat's roots in one cut). By AI agents, Wed Nov 11 2026. No macro, syntax, notation, axiom, sorry.
-/
import Derived.Test.YthegpmoddmnhoaaChecked
import GoSem.Claim
import GoSem.ClaimJoined
import GoSem.ClaimMapViews
import Derived.JoinedTies
import Derived.KernelRfl
namespace Go.Proofs.Ythegpmoddmnhoaa
/- THE CELL 'sum', in the pinned program and in every row, IS THE sha256 OF THE DUMP (.gsa) THAT YthegpmoddmnhoaaProg.lean LOADS. Nothing in Lean hashes anything: it is a label: what it is worth is what the hold of that sum in a sandbox is worth. -/
noncomputable def Try.pinned : Pinned := { name := "ythegpmoddmnhoaa", sum := "595007cbacabb9c03c1425e2a7f71be5e16e7087e81e1a5fa1186569c6bf4b53", checked := Try.checked }
namespace Rows
def none {H : Type} : Left H := { results := [], args := [] }

/-- 'waypointlaw07.CodecEncodes': WHATEVER THE INPUT: true; the input reads as it did. -/
def codecEncodesSpec : ChangeSpec := { name := "codecEncodes", fn := fun _ => fun
  | [d] => { results := [.lit (.bool true)], args := [d] }
  | _ => none }
def codecEncodesRow : OpenClaim := { program := "ythegpmoddmnhoaa", sum := "595007cbacabb9c03c1425e2a7f71be5e16e7087e81e1a5fa1186569c6bf4b53", func := "waypoint/waypointlaw07.CodecEncodes", spec := "codecEncodes", unfollowed := true, recurses := true, apart := false }
def CodecEncodesSaid : Prop := codecEncodesRow.holds Try.pinned (OpenSpec.ofChange codecEncodesSpec)

/-- ITS FALSE NEIGHBOUR: 'it returns false'. Refute it at one input. -/
def codecEncodesWrong : ChangeSpec := { name := "codecEncodes", fn := fun _ => fun
  | [d] => { results := [.lit (.bool false)], args := [d] }
  | _ => none }
def CodecEncodesWrongFalsely : Prop := codecEncodesRow.holds Try.pinned (OpenSpec.ofChange codecEncodesWrong)

/-- 'waypointlaw07.CodecDecodes': WHATEVER THE INPUT: true; the input reads as it did. -/
def codecDecodesSpec : ChangeSpec := { name := "codecDecodes", fn := fun _ => fun
  | [d] => { results := [.lit (.bool true)], args := [d] }
  | _ => none }
def codecDecodesRow : OpenClaim := { program := "ythegpmoddmnhoaa", sum := "595007cbacabb9c03c1425e2a7f71be5e16e7087e81e1a5fa1186569c6bf4b53", func := "waypoint/waypointlaw07.CodecDecodes", spec := "codecDecodes", unfollowed := true, recurses := true, apart := false }
def CodecDecodesSaid : Prop := codecDecodesRow.holds Try.pinned (OpenSpec.ofChange codecDecodesSpec)

/-- ITS FALSE NEIGHBOUR: 'it returns false'. Refute it at one input. -/
def codecDecodesWrong : ChangeSpec := { name := "codecDecodes", fn := fun _ => fun
  | [d] => { results := [.lit (.bool false)], args := [d] }
  | _ => none }
def CodecDecodesWrongFalsely : Prop := codecDecodesRow.holds Try.pinned (OpenSpec.ofChange codecDecodesWrong)

/-- 'waypointlaw07.CodecRoundTrip': WHATEVER THE INPUT: true; the input reads as it did. -/
def codecRoundTripSpec : ChangeSpec := { name := "codecRoundTrip", fn := fun _ => fun
  | [d1, d2] => { results := [.lit (.bool true)], args := [d1, d2] }
  | _ => none }
def codecRoundTripRow : OpenClaim := { program := "ythegpmoddmnhoaa", sum := "595007cbacabb9c03c1425e2a7f71be5e16e7087e81e1a5fa1186569c6bf4b53", func := "waypoint/waypointlaw07.CodecRoundTrip", spec := "codecRoundTrip", unfollowed := true, recurses := true, apart := false }
def CodecRoundTripSaid : Prop := codecRoundTripRow.holds Try.pinned (OpenSpec.ofChange codecRoundTripSpec)

/-- ITS FALSE NEIGHBOUR: 'it returns false'. Refute it at one input. -/
def codecRoundTripWrong : ChangeSpec := { name := "codecRoundTrip", fn := fun _ => fun
  | [d1, d2] => { results := [.lit (.bool false)], args := [d1, d2] }
  | _ => none }
def CodecRoundTripWrongFalsely : Prop := codecRoundTripRow.holds Try.pinned (OpenSpec.ofChange codecRoundTripWrong)

/-- 'waypointlaw07.CodecParts': WHATEVER THE INPUT: true; the input reads as it did. -/
def codecPartsSpec : ChangeSpec := { name := "codecParts", fn := fun _ => fun
  | [d1, d2, d3] => { results := [.lit (.bool true)], args := [d1, d2, d3] }
  | _ => none }
def codecPartsRow : OpenClaim := { program := "ythegpmoddmnhoaa", sum := "595007cbacabb9c03c1425e2a7f71be5e16e7087e81e1a5fa1186569c6bf4b53", func := "waypoint/waypointlaw07.CodecParts", spec := "codecParts", unfollowed := true, recurses := true, apart := false }
def CodecPartsSaid : Prop := codecPartsRow.holds Try.pinned (OpenSpec.ofChange codecPartsSpec)

/-- ITS FALSE NEIGHBOUR: 'it returns false'. Refute it at one input. -/
def codecPartsWrong : ChangeSpec := { name := "codecParts", fn := fun _ => fun
  | [d1, d2, d3] => { results := [.lit (.bool false)], args := [d1, d2, d3] }
  | _ => none }
def CodecPartsWrongFalsely : Prop := codecPartsRow.holds Try.pinned (OpenSpec.ofChange codecPartsWrong)

/-- 'waypointlaw07.CodecValues': WHATEVER THE INPUT: true; the input reads as it did. -/
def codecValuesSpec : ChangeSpec := { name := "codecValues", fn := fun _ => fun
  | [d1, d2] => { results := [.lit (.bool true)], args := [d1, d2] }
  | _ => none }
def codecValuesRow : OpenClaim := { program := "ythegpmoddmnhoaa", sum := "595007cbacabb9c03c1425e2a7f71be5e16e7087e81e1a5fa1186569c6bf4b53", func := "waypoint/waypointlaw07.CodecValues", spec := "codecValues", unfollowed := true, recurses := true, apart := false }
def CodecValuesSaid : Prop := codecValuesRow.holds Try.pinned (OpenSpec.ofChange codecValuesSpec)

/-- ITS FALSE NEIGHBOUR: 'it returns false'. Refute it at one input. -/
def codecValuesWrong : ChangeSpec := { name := "codecValues", fn := fun _ => fun
  | [d1, d2] => { results := [.lit (.bool false)], args := [d1, d2] }
  | _ => none }
def CodecValuesWrongFalsely : Prop := codecValuesRow.holds Try.pinned (OpenSpec.ofChange codecValuesWrong)

/-- 'waypointlaw07.CodecNumbers': WHATEVER THE INPUT: true; the input reads as it did. -/
def codecNumbersSpec : ChangeSpec := { name := "codecNumbers", fn := fun _ => fun
  | [d1, d2, d3] => { results := [.lit (.bool true)], args := [d1, d2, d3] }
  | _ => none }
def codecNumbersRow : OpenClaim := { program := "ythegpmoddmnhoaa", sum := "595007cbacabb9c03c1425e2a7f71be5e16e7087e81e1a5fa1186569c6bf4b53", func := "waypoint/waypointlaw07.CodecNumbers", spec := "codecNumbers", unfollowed := true, recurses := true, apart := false }
def CodecNumbersSaid : Prop := codecNumbersRow.holds Try.pinned (OpenSpec.ofChange codecNumbersSpec)

/-- ITS FALSE NEIGHBOUR: 'it returns false'. Refute it at one input. -/
def codecNumbersWrong : ChangeSpec := { name := "codecNumbers", fn := fun _ => fun
  | [d1, d2, d3] => { results := [.lit (.bool false)], args := [d1, d2, d3] }
  | _ => none }
def CodecNumbersWrongFalsely : Prop := codecNumbersRow.holds Try.pinned (OpenSpec.ofChange codecNumbersWrong)

/-- 'waypointlaw07.CodecUint': WHATEVER THE INPUT: true; the input reads as it did. -/
def codecUintSpec : ChangeSpec := { name := "codecUint", fn := fun _ => fun
  | [d] => { results := [.lit (.bool true)], args := [d] }
  | _ => none }
def codecUintRow : OpenClaim := { program := "ythegpmoddmnhoaa", sum := "595007cbacabb9c03c1425e2a7f71be5e16e7087e81e1a5fa1186569c6bf4b53", func := "waypoint/waypointlaw07.CodecUint", spec := "codecUint", unfollowed := true, recurses := true, apart := false }
def CodecUintSaid : Prop := codecUintRow.holds Try.pinned (OpenSpec.ofChange codecUintSpec)

/-- ITS FALSE NEIGHBOUR: 'it returns false'. Refute it at one input. -/
def codecUintWrong : ChangeSpec := { name := "codecUint", fn := fun _ => fun
  | [d] => { results := [.lit (.bool false)], args := [d] }
  | _ => none }
def CodecUintWrongFalsely : Prop := codecUintRow.holds Try.pinned (OpenSpec.ofChange codecUintWrong)

/- THE SECOND FORM. 'bulk': how many values and letters a reading holds, each counted each time it is reached (what is shared counts as often as it is met; a slice's spare places count too). A statement '..UptoSaid' is the law's where the arguments, and the package variables that the reading takes, are together of bulk at most 1048576: NARROWER than '..Said'. Prove '..Said' where nothing that the law and all that it calls make is longer than what came in: it says more and counts as full. Else prove '..UptoSaid'. A law counts once. -/
mutual
def uptoBulk {H : Type} : DataW H → Nat
  | .lit (.string bytes) => bytes.length + 1
  | .lit _ => 1
  | .nil => 1
  | .ptr d => uptoBulk d + 1
  | .slice elems spare => uptoBulkAll elems + uptoBulkAll spare + 1
  | .agg parts => uptoBulkAll parts + 1
  | .iface _ d => uptoBulk d + 1
  | .map entries => uptoBulkEntries entries + 1
  | .held _ => 1
def uptoBulkAll {H : Type} : List (DataW H) → Nat
  | [] => 0
  | d :: r => uptoBulk d + uptoBulkAll r
def uptoBulkEntries {H : Type} : List (Lit × DataW H) → Nat
  | [] => 0
  | x :: r => uptoBulkEntry x + uptoBulkEntries r
def uptoBulkEntry {H : Type} : Lit × DataW H → Nat
  | (.string bytes, d) => bytes.length + uptoBulk d + 1
  | (_, d) => uptoBulk d + 1
 end
def uptoSmall : (H : Type) → List (DataW H) → Bool := fun _ ds => decide (uptoBulkAll ds ≤ 1048576)
def OpenSpec.upto (s : _root_.Go.ChangeSpec) : _root_.Go.OpenSpec := { _root_.Go.OpenSpec.ofChange s with cond := some uptoSmall }

/-- 'waypointlaw07.CodecEncodes', WHERE WHAT IT READS IS OF BULK AT MOST 1048576: true; the input reads as it did. -/
def codecEncodesUptoRow : OpenClaim := { program := "ythegpmoddmnhoaa", sum := "595007cbacabb9c03c1425e2a7f71be5e16e7087e81e1a5fa1186569c6bf4b53", func := "waypoint/waypointlaw07.CodecEncodes", spec := "codecEncodes", unfollowed := true, recurses := true, apart := false, narrowed := true }
def CodecEncodesUptoSaid : Prop := codecEncodesUptoRow.holds Try.pinned (OpenSpec.upto codecEncodesSpec)

/-- 'waypointlaw07.CodecDecodes', WHERE WHAT IT READS IS OF BULK AT MOST 1048576: true; the input reads as it did. -/
def codecDecodesUptoRow : OpenClaim := { program := "ythegpmoddmnhoaa", sum := "595007cbacabb9c03c1425e2a7f71be5e16e7087e81e1a5fa1186569c6bf4b53", func := "waypoint/waypointlaw07.CodecDecodes", spec := "codecDecodes", unfollowed := true, recurses := true, apart := false, narrowed := true }
def CodecDecodesUptoSaid : Prop := codecDecodesUptoRow.holds Try.pinned (OpenSpec.upto codecDecodesSpec)

/-- 'waypointlaw07.CodecRoundTrip', WHERE WHAT IT READS IS OF BULK AT MOST 1048576: true; the input reads as it did. -/
def codecRoundTripUptoRow : OpenClaim := { program := "ythegpmoddmnhoaa", sum := "595007cbacabb9c03c1425e2a7f71be5e16e7087e81e1a5fa1186569c6bf4b53", func := "waypoint/waypointlaw07.CodecRoundTrip", spec := "codecRoundTrip", unfollowed := true, recurses := true, apart := false, narrowed := true }
def CodecRoundTripUptoSaid : Prop := codecRoundTripUptoRow.holds Try.pinned (OpenSpec.upto codecRoundTripSpec)

/-- 'waypointlaw07.CodecParts', WHERE WHAT IT READS IS OF BULK AT MOST 1048576: true; the input reads as it did. -/
def codecPartsUptoRow : OpenClaim := { program := "ythegpmoddmnhoaa", sum := "595007cbacabb9c03c1425e2a7f71be5e16e7087e81e1a5fa1186569c6bf4b53", func := "waypoint/waypointlaw07.CodecParts", spec := "codecParts", unfollowed := true, recurses := true, apart := false, narrowed := true }
def CodecPartsUptoSaid : Prop := codecPartsUptoRow.holds Try.pinned (OpenSpec.upto codecPartsSpec)

/-- 'waypointlaw07.CodecValues', WHERE WHAT IT READS IS OF BULK AT MOST 1048576: true; the input reads as it did. -/
def codecValuesUptoRow : OpenClaim := { program := "ythegpmoddmnhoaa", sum := "595007cbacabb9c03c1425e2a7f71be5e16e7087e81e1a5fa1186569c6bf4b53", func := "waypoint/waypointlaw07.CodecValues", spec := "codecValues", unfollowed := true, recurses := true, apart := false, narrowed := true }
def CodecValuesUptoSaid : Prop := codecValuesUptoRow.holds Try.pinned (OpenSpec.upto codecValuesSpec)

/-- 'waypointlaw07.CodecNumbers', WHERE WHAT IT READS IS OF BULK AT MOST 1048576: true; the input reads as it did. -/
def codecNumbersUptoRow : OpenClaim := { program := "ythegpmoddmnhoaa", sum := "595007cbacabb9c03c1425e2a7f71be5e16e7087e81e1a5fa1186569c6bf4b53", func := "waypoint/waypointlaw07.CodecNumbers", spec := "codecNumbers", unfollowed := true, recurses := true, apart := false, narrowed := true }
def CodecNumbersUptoSaid : Prop := codecNumbersUptoRow.holds Try.pinned (OpenSpec.upto codecNumbersSpec)

/-- 'waypointlaw07.CodecUint', WHERE WHAT IT READS IS OF BULK AT MOST 1048576: true; the input reads as it did. -/
def codecUintUptoRow : OpenClaim := { program := "ythegpmoddmnhoaa", sum := "595007cbacabb9c03c1425e2a7f71be5e16e7087e81e1a5fa1186569c6bf4b53", func := "waypoint/waypointlaw07.CodecUint", spec := "codecUint", unfollowed := true, recurses := true, apart := false, narrowed := true }
def CodecUintUptoSaid : Prop := codecUintUptoRow.holds Try.pinned (OpenSpec.upto codecUintSpec)

end Rows
end Go.Proofs.Ythegpmoddmnhoaa
