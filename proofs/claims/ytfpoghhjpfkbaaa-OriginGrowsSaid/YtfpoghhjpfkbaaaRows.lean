/-
  No cell of these rows narrows 'for every input' (looked for: loops, veiled, ifaces, maps, wideKeys, modest, calm, conditions, laid).
  DERIVED. THE GIVEN ROWS OF THIS SEAT. 5 by the template 'for every input the law returns true; each argument reads behind the call as it read before'; 0 by the template 'total and deterministic' (their statements: YtfpoghhjpfkbaaaTotals.lean).
  GIVEN WITH THE SEED: the statements are not yours to turn. If you find one false, say at which input.
  Laid BY PROGRAM, IN A SANDBOX (cutbox-rows.mjs): the forced cells as the released guide's own fill.sh prints them over the translation 5743a609b74fa679… (all of the seat's roots in one cut). By AI agents, Wed Nov 11 2026. No macro, syntax, notation, axiom, sorry.
-/
import Derived.Test.YtfpoghhjpfkbaaaChecked
import GoSem.Claim
import GoSem.ClaimJoined
import GoSem.ClaimMapViews
import Derived.JoinedTies
import Derived.KernelRfl
namespace Go.Proofs.Ytfpoghhjpfkbaaa
/- THE CELL 'sum', in the pinned program and in every row, IS THE sha256 OF THE DUMP (.gsa) THAT YtfpoghhjpfkbaaaProg.lean LOADS. Nothing in Lean hashes anything: it is a label: what it is worth is what the hold of that sum in a sandbox is worth. -/
noncomputable def Try.pinned : Pinned := { name := "ytfpoghhjpfkbaaa", sum := "5743a609b74fa679334079376fa50bcb56611855bf1647e1b2d602689a3dc95a", checked := Try.checked }
namespace Rows
def none {H : Type} : Left H := { results := [], args := [] }

/-- 'waypointlaw36.OriginScript': WHATEVER THE INPUT: true; the input reads as it did. -/
def originScriptSpec : ChangeSpec := { name := "originScript", fn := fun _ => fun
  | [d1, d2] => { results := [.lit (.bool true)], args := [d1, d2] }
  | _ => none }
def originScriptRow : OpenClaim := { program := "ytfpoghhjpfkbaaa", sum := "5743a609b74fa679334079376fa50bcb56611855bf1647e1b2d602689a3dc95a", func := "waypoint/waypointlaw36.OriginScript", spec := "originScript", inPlace := ["internal/bytealg.Compare"], unfollowed := true, recurses := true, apart := false }
def OriginScriptSaid : Prop := originScriptRow.holds Try.pinned (OpenSpec.ofChange originScriptSpec)

/-- ITS FALSE NEIGHBOUR: 'it returns false'. Refute it at one input. -/
def originScriptWrong : ChangeSpec := { name := "originScript", fn := fun _ => fun
  | [d1, d2] => { results := [.lit (.bool false)], args := [d1, d2] }
  | _ => none }
def OriginScriptWrongFalsely : Prop := originScriptRow.holds Try.pinned (OpenSpec.ofChange originScriptWrong)

/-- 'waypointlaw36.OriginGrows': WHATEVER THE INPUT: true; the input reads as it did. -/
def originGrowsSpec : ChangeSpec := { name := "originGrows", fn := fun _ => fun
  | [d1, d2] => { results := [.lit (.bool true)], args := [d1, d2] }
  | _ => none }
def originGrowsRow : OpenClaim := { program := "ytfpoghhjpfkbaaa", sum := "5743a609b74fa679334079376fa50bcb56611855bf1647e1b2d602689a3dc95a", func := "waypoint/waypointlaw36.OriginGrows", spec := "originGrows", inPlace := ["internal/bytealg.Compare"], unfollowed := true, recurses := true, apart := false }
def OriginGrowsSaid : Prop := originGrowsRow.holds Try.pinned (OpenSpec.ofChange originGrowsSpec)

/-- ITS FALSE NEIGHBOUR: 'it returns false'. Refute it at one input. -/
def originGrowsWrong : ChangeSpec := { name := "originGrows", fn := fun _ => fun
  | [d1, d2] => { results := [.lit (.bool false)], args := [d1, d2] }
  | _ => none }
def OriginGrowsWrongFalsely : Prop := originGrowsRow.holds Try.pinned (OpenSpec.ofChange originGrowsWrong)

/-- 'waypointlaw36.OriginWins': WHATEVER THE INPUT: true; the input reads as it did. -/
def originWinsSpec : ChangeSpec := { name := "originWins", fn := fun _ => fun
  | [d1, d2] => { results := [.lit (.bool true)], args := [d1, d2] }
  | _ => none }
def originWinsRow : OpenClaim := { program := "ytfpoghhjpfkbaaa", sum := "5743a609b74fa679334079376fa50bcb56611855bf1647e1b2d602689a3dc95a", func := "waypoint/waypointlaw36.OriginWins", spec := "originWins", inPlace := ["internal/bytealg.Compare"], unfollowed := true, recurses := true, apart := false }
def OriginWinsSaid : Prop := originWinsRow.holds Try.pinned (OpenSpec.ofChange originWinsSpec)

/-- ITS FALSE NEIGHBOUR: 'it returns false'. Refute it at one input. -/
def originWinsWrong : ChangeSpec := { name := "originWins", fn := fun _ => fun
  | [d1, d2] => { results := [.lit (.bool false)], args := [d1, d2] }
  | _ => none }
def OriginWinsWrongFalsely : Prop := originWinsRow.holds Try.pinned (OpenSpec.ofChange originWinsWrong)

/-- 'waypointlaw36.OriginRenews': WHATEVER THE INPUT: true; the input reads as it did. -/
def originRenewsSpec : ChangeSpec := { name := "originRenews", fn := fun _ => fun
  | [d] => { results := [.lit (.bool true)], args := [d] }
  | _ => none }
def originRenewsRow : OpenClaim := { program := "ytfpoghhjpfkbaaa", sum := "5743a609b74fa679334079376fa50bcb56611855bf1647e1b2d602689a3dc95a", func := "waypoint/waypointlaw36.OriginRenews", spec := "originRenews", inPlace := ["internal/bytealg.Compare"], unfollowed := true, recurses := true, apart := false }
def OriginRenewsSaid : Prop := originRenewsRow.holds Try.pinned (OpenSpec.ofChange originRenewsSpec)

/-- ITS FALSE NEIGHBOUR: 'it returns false'. Refute it at one input. -/
def originRenewsWrong : ChangeSpec := { name := "originRenews", fn := fun _ => fun
  | [d] => { results := [.lit (.bool false)], args := [d] }
  | _ => none }
def OriginRenewsWrongFalsely : Prop := originRenewsRow.holds Try.pinned (OpenSpec.ofChange originRenewsWrong)

/-- 'waypointlaw36.OriginNil': WHATEVER THE INPUT: true; the input reads as it did. -/
def originNilSpec : ChangeSpec := { name := "originNil", fn := fun _ => fun
  | [d1, d2] => { results := [.lit (.bool true)], args := [d1, d2] }
  | _ => none }
def originNilRow : OpenClaim := { program := "ytfpoghhjpfkbaaa", sum := "5743a609b74fa679334079376fa50bcb56611855bf1647e1b2d602689a3dc95a", func := "waypoint/waypointlaw36.OriginNil", spec := "originNil", inPlace := ["internal/bytealg.Compare"], unfollowed := true, recurses := true, apart := false }
def OriginNilSaid : Prop := originNilRow.holds Try.pinned (OpenSpec.ofChange originNilSpec)

/-- ITS FALSE NEIGHBOUR: 'it returns false'. Refute it at one input. -/
def originNilWrong : ChangeSpec := { name := "originNil", fn := fun _ => fun
  | [d1, d2] => { results := [.lit (.bool false)], args := [d1, d2] }
  | _ => none }
def OriginNilWrongFalsely : Prop := originNilRow.holds Try.pinned (OpenSpec.ofChange originNilWrong)

/- THE SECOND FORM. 'bulk': how many values and letters a reading holds, each counted each time it is reached (what is shared counts as often as it is met; a slice's spare places count too). A statement '..UptoSaid' is the law's where the arguments, and the package variables that the reading takes, are together of bulk at most 1048576: NARROWER than '..Said'. Prove '..Said' where nothing that the law and all that it calls make is longer than what came in: it says more and counts as full. Else prove '..UptoSaid'. A law counts once. -/
mutual
def uptoBulk {H : Type} : DataW H → Nat
  | .lit (.string bytes) => bytes.length + 1
  | .lit _ => 1
  | .nil => 1
  | .ptr d => uptoBulk d + 1
  | .slice elems spare => uptoBulkAll elems + uptoBulkAll spare + 1
  | .agg parts => uptoBulkAll parts + 1
  | .iface _ d => uptoBulk d + 1
  | .map entries => uptoBulkEntries entries + 1
  | .held _ => 1
def uptoBulkAll {H : Type} : List (DataW H) → Nat
  | [] => 0
  | d :: r => uptoBulk d + uptoBulkAll r
def uptoBulkEntries {H : Type} : List (Lit × DataW H) → Nat
  | [] => 0
  | x :: r => uptoBulkEntry x + uptoBulkEntries r
def uptoBulkEntry {H : Type} : Lit × DataW H → Nat
  | (.string bytes, d) => bytes.length + uptoBulk d + 1
  | (_, d) => uptoBulk d + 1
 end
def uptoSmall : (H : Type) → List (DataW H) → Bool := fun _ ds => decide (uptoBulkAll ds ≤ 1048576)
def OpenSpec.upto (s : _root_.Go.ChangeSpec) : _root_.Go.OpenSpec := { _root_.Go.OpenSpec.ofChange s with cond := some uptoSmall }

/-- 'waypointlaw36.OriginScript', WHERE WHAT IT READS IS OF BULK AT MOST 1048576: true; the input reads as it did. -/
def originScriptUptoRow : OpenClaim := { program := "ytfpoghhjpfkbaaa", sum := "5743a609b74fa679334079376fa50bcb56611855bf1647e1b2d602689a3dc95a", func := "waypoint/waypointlaw36.OriginScript", spec := "originScript", inPlace := ["internal/bytealg.Compare"], unfollowed := true, recurses := true, apart := false, narrowed := true }
def OriginScriptUptoSaid : Prop := originScriptUptoRow.holds Try.pinned (OpenSpec.upto originScriptSpec)

/-- 'waypointlaw36.OriginGrows', WHERE WHAT IT READS IS OF BULK AT MOST 1048576: true; the input reads as it did. -/
def originGrowsUptoRow : OpenClaim := { program := "ytfpoghhjpfkbaaa", sum := "5743a609b74fa679334079376fa50bcb56611855bf1647e1b2d602689a3dc95a", func := "waypoint/waypointlaw36.OriginGrows", spec := "originGrows", inPlace := ["internal/bytealg.Compare"], unfollowed := true, recurses := true, apart := false, narrowed := true }
def OriginGrowsUptoSaid : Prop := originGrowsUptoRow.holds Try.pinned (OpenSpec.upto originGrowsSpec)

/-- 'waypointlaw36.OriginWins', WHERE WHAT IT READS IS OF BULK AT MOST 1048576: true; the input reads as it did. -/
def originWinsUptoRow : OpenClaim := { program := "ytfpoghhjpfkbaaa", sum := "5743a609b74fa679334079376fa50bcb56611855bf1647e1b2d602689a3dc95a", func := "waypoint/waypointlaw36.OriginWins", spec := "originWins", inPlace := ["internal/bytealg.Compare"], unfollowed := true, recurses := true, apart := false, narrowed := true }
def OriginWinsUptoSaid : Prop := originWinsUptoRow.holds Try.pinned (OpenSpec.upto originWinsSpec)

/-- 'waypointlaw36.OriginRenews', WHERE WHAT IT READS IS OF BULK AT MOST 1048576: true; the input reads as it did. -/
def originRenewsUptoRow : OpenClaim := { program := "ytfpoghhjpfkbaaa", sum := "5743a609b74fa679334079376fa50bcb56611855bf1647e1b2d602689a3dc95a", func := "waypoint/waypointlaw36.OriginRenews", spec := "originRenews", inPlace := ["internal/bytealg.Compare"], unfollowed := true, recurses := true, apart := false, narrowed := true }
def OriginRenewsUptoSaid : Prop := originRenewsUptoRow.holds Try.pinned (OpenSpec.upto originRenewsSpec)

/-- 'waypointlaw36.OriginNil', WHERE WHAT IT READS IS OF BULK AT MOST 1048576: true; the input reads as it did. -/
def originNilUptoRow : OpenClaim := { program := "ytfpoghhjpfkbaaa", sum := "5743a609b74fa679334079376fa50bcb56611855bf1647e1b2d602689a3dc95a", func := "waypoint/waypointlaw36.OriginNil", spec := "originNil", inPlace := ["internal/bytealg.Compare"], unfollowed := true, recurses := true, apart := false, narrowed := true }
def OriginNilUptoSaid : Prop := originNilUptoRow.holds Try.pinned (OpenSpec.upto originNilSpec)

end Rows
end Go.Proofs.Ytfpoghhjpfkbaaa
