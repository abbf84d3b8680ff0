/-
  No cell of these rows narrows 'for every input' (looked for: loops, veiled, ifaces, maps, wideKeys, modest, calm, conditions, laid).
  DERIVED. THE GIVEN ROWS OF THIS SEAT. 7 by the template 'for every input the law returns true; each argument reads behind the call as it read before'; 0 by the template 'total and deterministic' (their statements: YtpcbgmnldpbamaaTotals.lean).
  GIVEN WITH THE SEED: the statements are not yours to turn. If you find one false, say at which input.
  Laid BY PROGRAM, IN A SANDBOX (cutbox-rows.mjs): the forced cells as the released guide's own fill.sh prints them over the translation 14e50decd7bc0c43… (all of the seat's roots in one cut). By AI agents, Wed Nov 11 2026. No macro, syntax, notation, axiom, sorry.
-/
import Derived.Test.YtpcbgmnldpbamaaChecked
import GoSem.Claim
import GoSem.ClaimJoined
import GoSem.ClaimMapViews
import Derived.JoinedTies
import Derived.KernelRfl
namespace Go.Proofs.Ytpcbgmnldpbamaa
/- THE CELL 'sum', in the pinned program and in every row, IS THE sha256 OF THE DUMP (.gsa) THAT YtpcbgmnldpbamaaProg.lean LOADS. Nothing in Lean hashes anything: it is a label: what it is worth is what the hold of that sum in a sandbox is worth. -/
noncomputable def Try.pinned : Pinned := { name := "ytpcbgmnldpbamaa", sum := "14e50decd7bc0c43b08b090e1e2e48251c9efd4cbb34f380c7853524143cba3d", checked := Try.checked }
namespace Rows
def none {H : Type} : Left H := { results := [], args := [] }

/-- 'waypointlaw32.LsaValid': WHATEVER THE INPUT: true; the input reads as it did. -/
def lsaValidSpec : ChangeSpec := { name := "lsaValid", fn := fun _ => fun
  | [d] => { results := [.lit (.bool true)], args := [d] }
  | _ => none }
def lsaValidRow : OpenClaim := { program := "ytpcbgmnldpbamaa", sum := "14e50decd7bc0c43b08b090e1e2e48251c9efd4cbb34f380c7853524143cba3d", func := "waypoint/waypointlaw32.LsaValid", spec := "lsaValid", inPlace := ["internal/bytealg.Compare"], unfollowed := true, recurses := true, apart := false }
def LsaValidSaid : Prop := lsaValidRow.holds Try.pinned (OpenSpec.ofChange lsaValidSpec)

/-- ITS FALSE NEIGHBOUR: 'it returns false'. Refute it at one input. -/
def lsaValidWrong : ChangeSpec := { name := "lsaValid", fn := fun _ => fun
  | [d] => { results := [.lit (.bool false)], args := [d] }
  | _ => none }
def LsaValidWrongFalsely : Prop := lsaValidRow.holds Try.pinned (OpenSpec.ofChange lsaValidWrong)

/-- 'waypointlaw32.LsaDecodes': WHATEVER THE INPUT: true; the input reads as it did. -/
def lsaDecodesSpec : ChangeSpec := { name := "lsaDecodes", fn := fun _ => fun
  | [d] => { results := [.lit (.bool true)], args := [d] }
  | _ => none }
def lsaDecodesRow : OpenClaim := { program := "ytpcbgmnldpbamaa", sum := "14e50decd7bc0c43b08b090e1e2e48251c9efd4cbb34f380c7853524143cba3d", func := "waypoint/waypointlaw32.LsaDecodes", spec := "lsaDecodes", inPlace := ["internal/bytealg.Compare"], unfollowed := true, recurses := true, apart := false }
def LsaDecodesSaid : Prop := lsaDecodesRow.holds Try.pinned (OpenSpec.ofChange lsaDecodesSpec)

/-- ITS FALSE NEIGHBOUR: 'it returns false'. Refute it at one input. -/
def lsaDecodesWrong : ChangeSpec := { name := "lsaDecodes", fn := fun _ => fun
  | [d] => { results := [.lit (.bool false)], args := [d] }
  | _ => none }
def LsaDecodesWrongFalsely : Prop := lsaDecodesRow.holds Try.pinned (OpenSpec.ofChange lsaDecodesWrong)

/-- 'waypointlaw32.LsaRoundTrip': WHATEVER THE INPUT: true; the input reads as it did. -/
def lsaRoundTripSpec : ChangeSpec := { name := "lsaRoundTrip", fn := fun _ => fun
  | [d1, d2] => { results := [.lit (.bool true)], args := [d1, d2] }
  | _ => none }
def lsaRoundTripRow : OpenClaim := { program := "ytpcbgmnldpbamaa", sum := "14e50decd7bc0c43b08b090e1e2e48251c9efd4cbb34f380c7853524143cba3d", func := "waypoint/waypointlaw32.LsaRoundTrip", spec := "lsaRoundTrip", inPlace := ["internal/bytealg.Compare"], unfollowed := true, recurses := true, apart := false }
def LsaRoundTripSaid : Prop := lsaRoundTripRow.holds Try.pinned (OpenSpec.ofChange lsaRoundTripSpec)

/-- ITS FALSE NEIGHBOUR: 'it returns false'. Refute it at one input. -/
def lsaRoundTripWrong : ChangeSpec := { name := "lsaRoundTrip", fn := fun _ => fun
  | [d1, d2] => { results := [.lit (.bool false)], args := [d1, d2] }
  | _ => none }
def LsaRoundTripWrongFalsely : Prop := lsaRoundTripRow.holds Try.pinned (OpenSpec.ofChange lsaRoundTripWrong)

/-- 'waypointlaw32.LsaSpoiled': WHATEVER THE INPUT: true; the input reads as it did. -/
def lsaSpoiledSpec : ChangeSpec := { name := "lsaSpoiled", fn := fun _ => fun
  | [d1, d2, d3] => { results := [.lit (.bool true)], args := [d1, d2, d3] }
  | _ => none }
def lsaSpoiledRow : OpenClaim := { program := "ytpcbgmnldpbamaa", sum := "14e50decd7bc0c43b08b090e1e2e48251c9efd4cbb34f380c7853524143cba3d", func := "waypoint/waypointlaw32.LsaSpoiled", spec := "lsaSpoiled", inPlace := ["internal/bytealg.Compare"], unfollowed := true, recurses := true, apart := false }
def LsaSpoiledSaid : Prop := lsaSpoiledRow.holds Try.pinned (OpenSpec.ofChange lsaSpoiledSpec)

/-- ITS FALSE NEIGHBOUR: 'it returns false'. Refute it at one input. -/
def lsaSpoiledWrong : ChangeSpec := { name := "lsaSpoiled", fn := fun _ => fun
  | [d1, d2, d3] => { results := [.lit (.bool false)], args := [d1, d2, d3] }
  | _ => none }
def LsaSpoiledWrongFalsely : Prop := lsaSpoiledRow.holds Try.pinned (OpenSpec.ofChange lsaSpoiledWrong)

/-- 'waypointlaw32.LsaPurges': WHATEVER THE INPUT: true; the input reads as it did. -/
def lsaPurgesSpec : ChangeSpec := { name := "lsaPurges", fn := fun _ => fun
  | [d1, d2] => { results := [.lit (.bool true)], args := [d1, d2] }
  | _ => none }
def lsaPurgesRow : OpenClaim := { program := "ytpcbgmnldpbamaa", sum := "14e50decd7bc0c43b08b090e1e2e48251c9efd4cbb34f380c7853524143cba3d", func := "waypoint/waypointlaw32.LsaPurges", spec := "lsaPurges", inPlace := ["internal/bytealg.Compare"], unfollowed := true, recurses := true, apart := false }
def LsaPurgesSaid : Prop := lsaPurgesRow.holds Try.pinned (OpenSpec.ofChange lsaPurgesSpec)

/-- ITS FALSE NEIGHBOUR: 'it returns false'. Refute it at one input. -/
def lsaPurgesWrong : ChangeSpec := { name := "lsaPurges", fn := fun _ => fun
  | [d1, d2] => { results := [.lit (.bool false)], args := [d1, d2] }
  | _ => none }
def LsaPurgesWrongFalsely : Prop := lsaPurgesRow.holds Try.pinned (OpenSpec.ofChange lsaPurgesWrong)

/-- 'waypointlaw32.LsaNewer': WHATEVER THE INPUT: true; the input reads as it did. -/
def lsaNewerSpec : ChangeSpec := { name := "lsaNewer", fn := fun _ => fun
  | [d1, d2] => { results := [.lit (.bool true)], args := [d1, d2] }
  | _ => none }
def lsaNewerRow : OpenClaim := { program := "ytpcbgmnldpbamaa", sum := "14e50decd7bc0c43b08b090e1e2e48251c9efd4cbb34f380c7853524143cba3d", func := "waypoint/waypointlaw32.LsaNewer", spec := "lsaNewer", inPlace := ["internal/bytealg.Compare"], unfollowed := true, recurses := true, apart := false }
def LsaNewerSaid : Prop := lsaNewerRow.holds Try.pinned (OpenSpec.ofChange lsaNewerSpec)

/-- ITS FALSE NEIGHBOUR: 'it returns false'. Refute it at one input. -/
def lsaNewerWrong : ChangeSpec := { name := "lsaNewer", fn := fun _ => fun
  | [d1, d2] => { results := [.lit (.bool false)], args := [d1, d2] }
  | _ => none }
def LsaNewerWrongFalsely : Prop := lsaNewerRow.holds Try.pinned (OpenSpec.ofChange lsaNewerWrong)

/-- 'waypointlaw32.LsaOrder': WHATEVER THE INPUT: true; the input reads as it did. -/
def lsaOrderSpec : ChangeSpec := { name := "lsaOrder", fn := fun _ => fun
  | [d1, d2, d3] => { results := [.lit (.bool true)], args := [d1, d2, d3] }
  | _ => none }
def lsaOrderRow : OpenClaim := { program := "ytpcbgmnldpbamaa", sum := "14e50decd7bc0c43b08b090e1e2e48251c9efd4cbb34f380c7853524143cba3d", func := "waypoint/waypointlaw32.LsaOrder", spec := "lsaOrder", inPlace := ["internal/bytealg.Compare"], unfollowed := true, recurses := true, apart := false }
def LsaOrderSaid : Prop := lsaOrderRow.holds Try.pinned (OpenSpec.ofChange lsaOrderSpec)

/-- ITS FALSE NEIGHBOUR: 'it returns false'. Refute it at one input. -/
def lsaOrderWrong : ChangeSpec := { name := "lsaOrder", fn := fun _ => fun
  | [d1, d2, d3] => { results := [.lit (.bool false)], args := [d1, d2, d3] }
  | _ => none }
def LsaOrderWrongFalsely : Prop := lsaOrderRow.holds Try.pinned (OpenSpec.ofChange lsaOrderWrong)

/- THE SECOND FORM. 'bulk': how many values and letters a reading holds, each counted each time it is reached (what is shared counts as often as it is met; a slice's spare places count too). A statement '..UptoSaid' is the law's where the arguments, and the package variables that the reading takes, are together of bulk at most 1048576: NARROWER than '..Said'. Prove '..Said' where nothing that the law and all that it calls make is longer than what came in: it says more and counts as full. Else prove '..UptoSaid'. A law counts once. -/
mutual
def uptoBulk {H : Type} : DataW H → Nat
  | .lit (.string bytes) => bytes.length + 1
  | .lit _ => 1
  | .nil => 1
  | .ptr d => uptoBulk d + 1
  | .slice elems spare => uptoBulkAll elems + uptoBulkAll spare + 1
  | .agg parts => uptoBulkAll parts + 1
  | .iface _ d => uptoBulk d + 1
  | .map entries => uptoBulkEntries entries + 1
  | .held _ => 1
def uptoBulkAll {H : Type} : List (DataW H) → Nat
  | [] => 0
  | d :: r => uptoBulk d + uptoBulkAll r
def uptoBulkEntries {H : Type} : List (Lit × DataW H) → Nat
  | [] => 0
  | x :: r => uptoBulkEntry x + uptoBulkEntries r
def uptoBulkEntry {H : Type} : Lit × DataW H → Nat
  | (.string bytes, d) => bytes.length + uptoBulk d + 1
  | (_, d) => uptoBulk d + 1
 end
def uptoSmall : (H : Type) → List (DataW H) → Bool := fun _ ds => decide (uptoBulkAll ds ≤ 1048576)
def OpenSpec.upto (s : _root_.Go.ChangeSpec) : _root_.Go.OpenSpec := { _root_.Go.OpenSpec.ofChange s with cond := some uptoSmall }

/-- 'waypointlaw32.LsaValid', WHERE WHAT IT READS IS OF BULK AT MOST 1048576: true; the input reads as it did. -/
def lsaValidUptoRow : OpenClaim := { program := "ytpcbgmnldpbamaa", sum := "14e50decd7bc0c43b08b090e1e2e48251c9efd4cbb34f380c7853524143cba3d", func := "waypoint/waypointlaw32.LsaValid", spec := "lsaValid", inPlace := ["internal/bytealg.Compare"], unfollowed := true, recurses := true, apart := false, narrowed := true }
def LsaValidUptoSaid : Prop := lsaValidUptoRow.holds Try.pinned (OpenSpec.upto lsaValidSpec)

/-- 'waypointlaw32.LsaDecodes', WHERE WHAT IT READS IS OF BULK AT MOST 1048576: true; the input reads as it did. -/
def lsaDecodesUptoRow : OpenClaim := { program := "ytpcbgmnldpbamaa", sum := "14e50decd7bc0c43b08b090e1e2e48251c9efd4cbb34f380c7853524143cba3d", func := "waypoint/waypointlaw32.LsaDecodes", spec := "lsaDecodes", inPlace := ["internal/bytealg.Compare"], unfollowed := true, recurses := true, apart := false, narrowed := true }
def LsaDecodesUptoSaid : Prop := lsaDecodesUptoRow.holds Try.pinned (OpenSpec.upto lsaDecodesSpec)

/-- 'waypointlaw32.LsaRoundTrip', WHERE WHAT IT READS IS OF BULK AT MOST 1048576: true; the input reads as it did. -/
def lsaRoundTripUptoRow : OpenClaim := { program := "ytpcbgmnldpbamaa", sum := "14e50decd7bc0c43b08b090e1e2e48251c9efd4cbb34f380c7853524143cba3d", func := "waypoint/waypointlaw32.LsaRoundTrip", spec := "lsaRoundTrip", inPlace := ["internal/bytealg.Compare"], unfollowed := true, recurses := true, apart := false, narrowed := true }
def LsaRoundTripUptoSaid : Prop := lsaRoundTripUptoRow.holds Try.pinned (OpenSpec.upto lsaRoundTripSpec)

/-- 'waypointlaw32.LsaSpoiled', WHERE WHAT IT READS IS OF BULK AT MOST 1048576: true; the input reads as it did. -/
def lsaSpoiledUptoRow : OpenClaim := { program := "ytpcbgmnldpbamaa", sum := "14e50decd7bc0c43b08b090e1e2e48251c9efd4cbb34f380c7853524143cba3d", func := "waypoint/waypointlaw32.LsaSpoiled", spec := "lsaSpoiled", inPlace := ["internal/bytealg.Compare"], unfollowed := true, recurses := true, apart := false, narrowed := true }
def LsaSpoiledUptoSaid : Prop := lsaSpoiledUptoRow.holds Try.pinned (OpenSpec.upto lsaSpoiledSpec)

/-- 'waypointlaw32.LsaPurges', WHERE WHAT IT READS IS OF BULK AT MOST 1048576: true; the input reads as it did. -/
def lsaPurgesUptoRow : OpenClaim := { program := "ytpcbgmnldpbamaa", sum := "14e50decd7bc0c43b08b090e1e2e48251c9efd4cbb34f380c7853524143cba3d", func := "waypoint/waypointlaw32.LsaPurges", spec := "lsaPurges", inPlace := ["internal/bytealg.Compare"], unfollowed := true, recurses := true, apart := false, narrowed := true }
def LsaPurgesUptoSaid : Prop := lsaPurgesUptoRow.holds Try.pinned (OpenSpec.upto lsaPurgesSpec)

/-- 'waypointlaw32.LsaNewer', WHERE WHAT IT READS IS OF BULK AT MOST 1048576: true; the input reads as it did. -/
def lsaNewerUptoRow : OpenClaim := { program := "ytpcbgmnldpbamaa", sum := "14e50decd7bc0c43b08b090e1e2e48251c9efd4cbb34f380c7853524143cba3d", func := "waypoint/waypointlaw32.LsaNewer", spec := "lsaNewer", inPlace := ["internal/bytealg.Compare"], unfollowed := true, recurses := true, apart := false, narrowed := true }
def LsaNewerUptoSaid : Prop := lsaNewerUptoRow.holds Try.pinned (OpenSpec.upto lsaNewerSpec)

/-- 'waypointlaw32.LsaOrder', WHERE WHAT IT READS IS OF BULK AT MOST 1048576: true; the input reads as it did. -/
def lsaOrderUptoRow : OpenClaim := { program := "ytpcbgmnldpbamaa", sum := "14e50decd7bc0c43b08b090e1e2e48251c9efd4cbb34f380c7853524143cba3d", func := "waypoint/waypointlaw32.LsaOrder", spec := "lsaOrder", inPlace := ["internal/bytealg.Compare"], unfollowed := true, recurses := true, apart := false, narrowed := true }
def LsaOrderUptoSaid : Prop := lsaOrderUptoRow.holds Try.pinned (OpenSpec.upto lsaOrderSpec)

end Rows
end Go.Proofs.Ytpcbgmnldpbamaa
