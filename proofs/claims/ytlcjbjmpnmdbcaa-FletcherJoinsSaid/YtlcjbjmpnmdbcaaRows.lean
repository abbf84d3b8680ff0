/-
  No cell of these rows narrows 'for every input' (looked for: loops, veiled, ifaces, maps, wideKeys, modest, calm, conditions, laid).
  DERIVED. THE GIVEN ROWS OF THIS SEAT. 6 by the template 'for every input the law returns true; each argument reads behind the call as it read before'; 0 by the template 'total and deterministic' (their statements: YtlcjbjmpnmdbcaaTotals.lean).
  GIVEN WITH THE SEED: the statements are not yours to turn. If you find one false, say at which input.
  Laid BY PROGRAM, IN A SANDBOX (cutbox-rows.mjs): the forced cells as the released guide's own fill.sh prints them over the translation e41b6819108a588e… (all of the seat's roots in one cut). By AI agents, Wed Nov 11 2026. No macro, syntax, notation, axiom, sorry.
-/
import Derived.Test.YtlcjbjmpnmdbcaaChecked
import GoSem.Claim
import GoSem.ClaimJoined
import GoSem.ClaimMapViews
import Derived.JoinedTies
import Derived.KernelRfl
namespace Go.Proofs.Ytlcjbjmpnmdbcaa
/- THE CELL 'sum', in the pinned program and in every row, IS THE sha256 OF THE DUMP (.gsa) THAT YtlcjbjmpnmdbcaaProg.lean LOADS. Nothing in Lean hashes anything: it is a label: what it is worth is what the hold of that sum in a sandbox is worth. -/
noncomputable def Try.pinned : Pinned := { name := "ytlcjbjmpnmdbcaa", sum := "e41b6819108a588e9c9e618ec856dca596691ccd3ed428da8b7bbfd3d9ea6914", checked := Try.checked }
namespace Rows
def none {H : Type} : Left H := { results := [], args := [] }

/-- 'waypointlaw08.FletcherSums': WHATEVER THE INPUT: true; the input reads as it did. -/
def fletcherSumsSpec : ChangeSpec := { name := "fletcherSums", fn := fun _ => fun
  | [d] => { results := [.lit (.bool true)], args := [d] }
  | _ => none }
def fletcherSumsRow : OpenClaim := { program := "ytlcjbjmpnmdbcaa", sum := "e41b6819108a588e9c9e618ec856dca596691ccd3ed428da8b7bbfd3d9ea6914", func := "waypoint/waypointlaw08.FletcherSums", spec := "fletcherSums", apart := false }
def FletcherSumsSaid : Prop := fletcherSumsRow.holds Try.pinned (OpenSpec.ofChange fletcherSumsSpec)

/-- ITS FALSE NEIGHBOUR: 'it returns false'. Refute it at one input. -/
def fletcherSumsWrong : ChangeSpec := { name := "fletcherSums", fn := fun _ => fun
  | [d] => { results := [.lit (.bool false)], args := [d] }
  | _ => none }
def FletcherSumsWrongFalsely : Prop := fletcherSumsRow.holds Try.pinned (OpenSpec.ofChange fletcherSumsWrong)

/-- 'waypointlaw08.FletcherUpdates': WHATEVER THE INPUT: true; the input reads as it did. -/
def fletcherUpdatesSpec : ChangeSpec := { name := "fletcherUpdates", fn := fun _ => fun
  | [d1, d2, d3] => { results := [.lit (.bool true)], args := [d1, d2, d3] }
  | _ => none }
def fletcherUpdatesRow : OpenClaim := { program := "ytlcjbjmpnmdbcaa", sum := "e41b6819108a588e9c9e618ec856dca596691ccd3ed428da8b7bbfd3d9ea6914", func := "waypoint/waypointlaw08.FletcherUpdates", spec := "fletcherUpdates", apart := false }
def FletcherUpdatesSaid : Prop := fletcherUpdatesRow.holds Try.pinned (OpenSpec.ofChange fletcherUpdatesSpec)

/-- ITS FALSE NEIGHBOUR: 'it returns false'. Refute it at one input. -/
def fletcherUpdatesWrong : ChangeSpec := { name := "fletcherUpdates", fn := fun _ => fun
  | [d1, d2, d3] => { results := [.lit (.bool false)], args := [d1, d2, d3] }
  | _ => none }
def FletcherUpdatesWrongFalsely : Prop := fletcherUpdatesRow.holds Try.pinned (OpenSpec.ofChange fletcherUpdatesWrong)

/-- 'waypointlaw08.FletcherChanged': WHATEVER THE INPUT: true; the input reads as it did. -/
def fletcherChangedSpec : ChangeSpec := { name := "fletcherChanged", fn := fun _ => fun
  | [d1, d2, d3] => { results := [.lit (.bool true)], args := [d1, d2, d3] }
  | _ => none }
def fletcherChangedRow : OpenClaim := { program := "ytlcjbjmpnmdbcaa", sum := "e41b6819108a588e9c9e618ec856dca596691ccd3ed428da8b7bbfd3d9ea6914", func := "waypoint/waypointlaw08.FletcherChanged", spec := "fletcherChanged", apart := false }
def FletcherChangedSaid : Prop := fletcherChangedRow.holds Try.pinned (OpenSpec.ofChange fletcherChangedSpec)

/-- ITS FALSE NEIGHBOUR: 'it returns false'. Refute it at one input. -/
def fletcherChangedWrong : ChangeSpec := { name := "fletcherChanged", fn := fun _ => fun
  | [d1, d2, d3] => { results := [.lit (.bool false)], args := [d1, d2, d3] }
  | _ => none }
def FletcherChangedWrongFalsely : Prop := fletcherChangedRow.holds Try.pinned (OpenSpec.ofChange fletcherChangedWrong)

/-- 'waypointlaw08.FletcherExchanged': WHATEVER THE INPUT: true; the input reads as it did. -/
def fletcherExchangedSpec : ChangeSpec := { name := "fletcherExchanged", fn := fun _ => fun
  | [d1, d2] => { results := [.lit (.bool true)], args := [d1, d2] }
  | _ => none }
def fletcherExchangedRow : OpenClaim := { program := "ytlcjbjmpnmdbcaa", sum := "e41b6819108a588e9c9e618ec856dca596691ccd3ed428da8b7bbfd3d9ea6914", func := "waypoint/waypointlaw08.FletcherExchanged", spec := "fletcherExchanged", apart := false }
def FletcherExchangedSaid : Prop := fletcherExchangedRow.holds Try.pinned (OpenSpec.ofChange fletcherExchangedSpec)

/-- ITS FALSE NEIGHBOUR: 'it returns false'. Refute it at one input. -/
def fletcherExchangedWrong : ChangeSpec := { name := "fletcherExchanged", fn := fun _ => fun
  | [d1, d2] => { results := [.lit (.bool false)], args := [d1, d2] }
  | _ => none }
def FletcherExchangedWrongFalsely : Prop := fletcherExchangedRow.holds Try.pinned (OpenSpec.ofChange fletcherExchangedWrong)

/-- 'waypointlaw08.FletcherParts': WHATEVER THE INPUT: true; the input reads as it did. -/
def fletcherPartsSpec : ChangeSpec := { name := "fletcherParts", fn := fun _ => fun
  | [d1, d2, d3] => { results := [.lit (.bool true)], args := [d1, d2, d3] }
  | _ => none }
def fletcherPartsRow : OpenClaim := { program := "ytlcjbjmpnmdbcaa", sum := "e41b6819108a588e9c9e618ec856dca596691ccd3ed428da8b7bbfd3d9ea6914", func := "waypoint/waypointlaw08.FletcherParts", spec := "fletcherParts", apart := false }
def FletcherPartsSaid : Prop := fletcherPartsRow.holds Try.pinned (OpenSpec.ofChange fletcherPartsSpec)

/-- ITS FALSE NEIGHBOUR: 'it returns false'. Refute it at one input. -/
def fletcherPartsWrong : ChangeSpec := { name := "fletcherParts", fn := fun _ => fun
  | [d1, d2, d3] => { results := [.lit (.bool false)], args := [d1, d2, d3] }
  | _ => none }
def FletcherPartsWrongFalsely : Prop := fletcherPartsRow.holds Try.pinned (OpenSpec.ofChange fletcherPartsWrong)

/-- 'waypointlaw08.FletcherJoins': WHATEVER THE INPUT: true; the input reads as it did. -/
def fletcherJoinsSpec : ChangeSpec := { name := "fletcherJoins", fn := fun _ => fun
  | [d1, d2, d3] => { results := [.lit (.bool true)], args := [d1, d2, d3] }
  | _ => none }
def fletcherJoinsRow : OpenClaim := { program := "ytlcjbjmpnmdbcaa", sum := "e41b6819108a588e9c9e618ec856dca596691ccd3ed428da8b7bbfd3d9ea6914", func := "waypoint/waypointlaw08.FletcherJoins", spec := "fletcherJoins", apart := false }
def FletcherJoinsSaid : Prop := fletcherJoinsRow.holds Try.pinned (OpenSpec.ofChange fletcherJoinsSpec)

/-- ITS FALSE NEIGHBOUR: 'it returns false'. Refute it at one input. -/
def fletcherJoinsWrong : ChangeSpec := { name := "fletcherJoins", fn := fun _ => fun
  | [d1, d2, d3] => { results := [.lit (.bool false)], args := [d1, d2, d3] }
  | _ => none }
def FletcherJoinsWrongFalsely : Prop := fletcherJoinsRow.holds Try.pinned (OpenSpec.ofChange fletcherJoinsWrong)

/- THE SECOND FORM. 'bulk': how many values and letters a reading holds, each counted each time it is reached (what is shared counts as often as it is met; a slice's spare places count too). A statement '..UptoSaid' is the law's where the arguments, and the package variables that the reading takes, are together of bulk at most 1048576: NARROWER than '..Said'. Prove '..Said' where nothing that the law and all that it calls make is longer than what came in: it says more and counts as full. Else prove '..UptoSaid'. A law counts once. -/
mutual
def uptoBulk {H : Type} : DataW H → Nat
  | .lit (.string bytes) => bytes.length + 1
  | .lit _ => 1
  | .nil => 1
  | .ptr d => uptoBulk d + 1
  | .slice elems spare => uptoBulkAll elems + uptoBulkAll spare + 1
  | .agg parts => uptoBulkAll parts + 1
  | .iface _ d => uptoBulk d + 1
  | .map entries => uptoBulkEntries entries + 1
  | .held _ => 1
def uptoBulkAll {H : Type} : List (DataW H) → Nat
  | [] => 0
  | d :: r => uptoBulk d + uptoBulkAll r
def uptoBulkEntries {H : Type} : List (Lit × DataW H) → Nat
  | [] => 0
  | x :: r => uptoBulkEntry x + uptoBulkEntries r
def uptoBulkEntry {H : Type} : Lit × DataW H → Nat
  | (.string bytes, d) => bytes.length + uptoBulk d + 1
  | (_, d) => uptoBulk d + 1
 end
def uptoSmall : (H : Type) → List (DataW H) → Bool := fun _ ds => decide (uptoBulkAll ds ≤ 1048576)
def OpenSpec.upto (s : _root_.Go.ChangeSpec) : _root_.Go.OpenSpec := { _root_.Go.OpenSpec.ofChange s with cond := some uptoSmall }

/-- 'waypointlaw08.FletcherSums', WHERE WHAT IT READS IS OF BULK AT MOST 1048576: true; the input reads as it did. -/
def fletcherSumsUptoRow : OpenClaim := { program := "ytlcjbjmpnmdbcaa", sum := "e41b6819108a588e9c9e618ec856dca596691ccd3ed428da8b7bbfd3d9ea6914", func := "waypoint/waypointlaw08.FletcherSums", spec := "fletcherSums", apart := false, narrowed := true }
def FletcherSumsUptoSaid : Prop := fletcherSumsUptoRow.holds Try.pinned (OpenSpec.upto fletcherSumsSpec)

/-- 'waypointlaw08.FletcherUpdates', WHERE WHAT IT READS IS OF BULK AT MOST 1048576: true; the input reads as it did. -/
def fletcherUpdatesUptoRow : OpenClaim := { program := "ytlcjbjmpnmdbcaa", sum := "e41b6819108a588e9c9e618ec856dca596691ccd3ed428da8b7bbfd3d9ea6914", func := "waypoint/waypointlaw08.FletcherUpdates", spec := "fletcherUpdates", apart := false, narrowed := true }
def FletcherUpdatesUptoSaid : Prop := fletcherUpdatesUptoRow.holds Try.pinned (OpenSpec.upto fletcherUpdatesSpec)

/-- 'waypointlaw08.FletcherChanged', WHERE WHAT IT READS IS OF BULK AT MOST 1048576: true; the input reads as it did. -/
def fletcherChangedUptoRow : OpenClaim := { program := "ytlcjbjmpnmdbcaa", sum := "e41b6819108a588e9c9e618ec856dca596691ccd3ed428da8b7bbfd3d9ea6914", func := "waypoint/waypointlaw08.FletcherChanged", spec := "fletcherChanged", apart := false, narrowed := true }
def FletcherChangedUptoSaid : Prop := fletcherChangedUptoRow.holds Try.pinned (OpenSpec.upto fletcherChangedSpec)

/-- 'waypointlaw08.FletcherExchanged', WHERE WHAT IT READS IS OF BULK AT MOST 1048576: true; the input reads as it did. -/
def fletcherExchangedUptoRow : OpenClaim := { program := "ytlcjbjmpnmdbcaa", sum := "e41b6819108a588e9c9e618ec856dca596691ccd3ed428da8b7bbfd3d9ea6914", func := "waypoint/waypointlaw08.FletcherExchanged", spec := "fletcherExchanged", apart := false, narrowed := true }
def FletcherExchangedUptoSaid : Prop := fletcherExchangedUptoRow.holds Try.pinned (OpenSpec.upto fletcherExchangedSpec)

/-- 'waypointlaw08.FletcherParts', WHERE WHAT IT READS IS OF BULK AT MOST 1048576: true; the input reads as it did. -/
def fletcherPartsUptoRow : OpenClaim := { program := "ytlcjbjmpnmdbcaa", sum := "e41b6819108a588e9c9e618ec856dca596691ccd3ed428da8b7bbfd3d9ea6914", func := "waypoint/waypointlaw08.FletcherParts", spec := "fletcherParts", apart := false, narrowed := true }
def FletcherPartsUptoSaid : Prop := fletcherPartsUptoRow.holds Try.pinned (OpenSpec.upto fletcherPartsSpec)

/-- 'waypointlaw08.FletcherJoins', WHERE WHAT IT READS IS OF BULK AT MOST 1048576: true; the input reads as it did. -/
def fletcherJoinsUptoRow : OpenClaim := { program := "ytlcjbjmpnmdbcaa", sum := "e41b6819108a588e9c9e618ec856dca596691ccd3ed428da8b7bbfd3d9ea6914", func := "waypoint/waypointlaw08.FletcherJoins", spec := "fletcherJoins", apart := false, narrowed := true }
def FletcherJoinsUptoSaid : Prop := fletcherJoinsUptoRow.holds Try.pinned (OpenSpec.upto fletcherJoinsSpec)

end Rows
end Go.Proofs.Ytlcjbjmpnmdbcaa
