/-
  No cell of these rows narrows 'for every input' (looked for: loops, veiled, ifaces, maps, wideKeys, modest, calm, conditions, laid).
  DERIVED. THE GIVEN ROWS OF THIS SEAT. 3 by the template 'for every input the law returns true; each argument reads behind the call as it read before'; 0 by the template 'total and deterministic' (their statements: YtgbcnglagnlmhaaTotals.lean).
  GIVEN WITH THE SEED: the statements are not yours to turn. If you find one false, say at which input.
  Laid BY PROGRAM, IN A SANDBOX (cutbox-rows.mjs): the forced cells as the released guide's own fill.sh prints them over the translation 6dda03ef67940782… (all of the seat's roots in one cut). By AI agents, Wed Nov 11 2026. No macro, syntax, notation, axiom, sorry.
-/
import Derived.Test.YtgbcnglagnlmhaaChecked
import GoSem.Claim
import GoSem.ClaimJoined
import GoSem.ClaimMapViews
import Derived.JoinedTies
import Derived.KernelRfl
namespace Go.Proofs.Ytgbcnglagnlmhaa
/- THE CELL 'sum', in the pinned program and in every row, IS THE sha256 OF THE DUMP (.gsa) THAT YtgbcnglagnlmhaaProg.lean LOADS. Nothing in Lean hashes anything: it is a label: what it is worth is what the hold of that sum in a sandbox is worth. -/
noncomputable def Try.pinned : Pinned := { name := "ytgbcnglagnlmhaa", sum := "6dda03ef679407826410c3c51894cb71a19eb1a2024ce9839659be188cdc1a7d", checked := Try.checked }
namespace Rows
def none {H : Type} : Left H := { results := [], args := [] }

/-- 'waypointlaw35.FloodRepeats': WHATEVER THE INPUT: true; the input reads as it did. -/
def floodRepeatsSpec : ChangeSpec := { name := "floodRepeats", fn := fun _ => fun
  | [d1, d2] => { results := [.lit (.bool true)], args := [d1, d2] }
  | _ => none }
def floodRepeatsRow : OpenClaim := { program := "ytgbcnglagnlmhaa", sum := "6dda03ef679407826410c3c51894cb71a19eb1a2024ce9839659be188cdc1a7d", func := "waypoint/waypointlaw35.FloodRepeats", spec := "floodRepeats", inPlace := ["internal/bytealg.Compare"], unfollowed := true, recurses := true, apart := false }
def FloodRepeatsSaid : Prop := floodRepeatsRow.holds Try.pinned (OpenSpec.ofChange floodRepeatsSpec)

/-- ITS FALSE NEIGHBOUR: 'it returns false'. Refute it at one input. -/
def floodRepeatsWrong : ChangeSpec := { name := "floodRepeats", fn := fun _ => fun
  | [d1, d2] => { results := [.lit (.bool false)], args := [d1, d2] }
  | _ => none }
def FloodRepeatsWrongFalsely : Prop := floodRepeatsRow.holds Try.pinned (OpenSpec.ofChange floodRepeatsWrong)

/-- 'waypointlaw35.FloodScript': WHATEVER THE INPUT: true; the input reads as it did. -/
def floodScriptSpec : ChangeSpec := { name := "floodScript", fn := fun _ => fun
  | [d1, d2] => { results := [.lit (.bool true)], args := [d1, d2] }
  | _ => none }
def floodScriptRow : OpenClaim := { program := "ytgbcnglagnlmhaa", sum := "6dda03ef679407826410c3c51894cb71a19eb1a2024ce9839659be188cdc1a7d", func := "waypoint/waypointlaw35.FloodScript", spec := "floodScript", inPlace := ["internal/bytealg.Compare"], unfollowed := true, recurses := true, apart := false }
def FloodScriptSaid : Prop := floodScriptRow.holds Try.pinned (OpenSpec.ofChange floodScriptSpec)

/-- ITS FALSE NEIGHBOUR: 'it returns false'. Refute it at one input. -/
def floodScriptWrong : ChangeSpec := { name := "floodScript", fn := fun _ => fun
  | [d1, d2] => { results := [.lit (.bool false)], args := [d1, d2] }
  | _ => none }
def FloodScriptWrongFalsely : Prop := floodScriptRow.holds Try.pinned (OpenSpec.ofChange floodScriptWrong)

/-- 'waypointlaw35.FloodNew': WHATEVER THE INPUT: true; the input reads as it did. -/
def floodNewSpec : ChangeSpec := { name := "floodNew", fn := fun _ => fun
  | [d1, d2] => { results := [.lit (.bool true)], args := [d1, d2] }
  | _ => none }
def floodNewRow : OpenClaim := { program := "ytgbcnglagnlmhaa", sum := "6dda03ef679407826410c3c51894cb71a19eb1a2024ce9839659be188cdc1a7d", func := "waypoint/waypointlaw35.FloodNew", spec := "floodNew", inPlace := ["internal/bytealg.Compare"], unfollowed := true, recurses := true, apart := false }
def FloodNewSaid : Prop := floodNewRow.holds Try.pinned (OpenSpec.ofChange floodNewSpec)

/-- ITS FALSE NEIGHBOUR: 'it returns false'. Refute it at one input. -/
def floodNewWrong : ChangeSpec := { name := "floodNew", fn := fun _ => fun
  | [d1, d2] => { results := [.lit (.bool false)], args := [d1, d2] }
  | _ => none }
def FloodNewWrongFalsely : Prop := floodNewRow.holds Try.pinned (OpenSpec.ofChange floodNewWrong)

/- THE SECOND FORM. 'bulk': how many values and letters a reading holds, each counted each time it is reached (what is shared counts as often as it is met; a slice's spare places count too). A statement '..UptoSaid' is the law's where the arguments, and the package variables that the reading takes, are together of bulk at most 1048576: NARROWER than '..Said'. Prove '..Said' where nothing that the law and all that it calls make is longer than what came in: it says more and counts as full. Else prove '..UptoSaid'. A law counts once. -/
mutual
def uptoBulk {H : Type} : DataW H → Nat
  | .lit (.string bytes) => bytes.length + 1
  | .lit _ => 1
  | .nil => 1
  | .ptr d => uptoBulk d + 1
  | .slice elems spare => uptoBulkAll elems + uptoBulkAll spare + 1
  | .agg parts => uptoBulkAll parts + 1
  | .iface _ d => uptoBulk d + 1
  | .map entries => uptoBulkEntries entries + 1
  | .held _ => 1
def uptoBulkAll {H : Type} : List (DataW H) → Nat
  | [] => 0
  | d :: r => uptoBulk d + uptoBulkAll r
def uptoBulkEntries {H : Type} : List (Lit × DataW H) → Nat
  | [] => 0
  | x :: r => uptoBulkEntry x + uptoBulkEntries r
def uptoBulkEntry {H : Type} : Lit × DataW H → Nat
  | (.string bytes, d) => bytes.length + uptoBulk d + 1
  | (_, d) => uptoBulk d + 1
 end
def uptoSmall : (H : Type) → List (DataW H) → Bool := fun _ ds => decide (uptoBulkAll ds ≤ 1048576)
def OpenSpec.upto (s : _root_.Go.ChangeSpec) : _root_.Go.OpenSpec := { _root_.Go.OpenSpec.ofChange s with cond := some uptoSmall }

/-- 'waypointlaw35.FloodRepeats', WHERE WHAT IT READS IS OF BULK AT MOST 1048576: true; the input reads as it did. -/
def floodRepeatsUptoRow : OpenClaim := { program := "ytgbcnglagnlmhaa", sum := "6dda03ef679407826410c3c51894cb71a19eb1a2024ce9839659be188cdc1a7d", func := "waypoint/waypointlaw35.FloodRepeats", spec := "floodRepeats", inPlace := ["internal/bytealg.Compare"], unfollowed := true, recurses := true, apart := false, narrowed := true }
def FloodRepeatsUptoSaid : Prop := floodRepeatsUptoRow.holds Try.pinned (OpenSpec.upto floodRepeatsSpec)

/-- 'waypointlaw35.FloodScript', WHERE WHAT IT READS IS OF BULK AT MOST 1048576: true; the input reads as it did. -/
def floodScriptUptoRow : OpenClaim := { program := "ytgbcnglagnlmhaa", sum := "6dda03ef679407826410c3c51894cb71a19eb1a2024ce9839659be188cdc1a7d", func := "waypoint/waypointlaw35.FloodScript", spec := "floodScript", inPlace := ["internal/bytealg.Compare"], unfollowed := true, recurses := true, apart := false, narrowed := true }
def FloodScriptUptoSaid : Prop := floodScriptUptoRow.holds Try.pinned (OpenSpec.upto floodScriptSpec)

/-- 'waypointlaw35.FloodNew', WHERE WHAT IT READS IS OF BULK AT MOST 1048576: true; the input reads as it did. -/
def floodNewUptoRow : OpenClaim := { program := "ytgbcnglagnlmhaa", sum := "6dda03ef679407826410c3c51894cb71a19eb1a2024ce9839659be188cdc1a7d", func := "waypoint/waypointlaw35.FloodNew", spec := "floodNew", inPlace := ["internal/bytealg.Compare"], unfollowed := true, recurses := true, apart := false, narrowed := true }
def FloodNewUptoSaid : Prop := floodNewUptoRow.holds Try.pinned (OpenSpec.upto floodNewSpec)

end Rows
end Go.Proofs.Ytgbcnglagnlmhaa
