/-
  No cell of these rows narrows 'for every input' (looked for: loops, veiled, ifaces, maps, wideKeys, modest, calm, conditions, laid).
  DERIVED. THE GIVEN ROWS OF THIS SEAT. 7 by the template 'for every input the law returns true; each argument reads behind the call as it read before'; 0 by the template 'total and deterministic' (their statements: YtkmpmgojgidcgaaTotals.lean).
  GIVEN WITH THE SEED: the statements are not yours to turn. If you find one false, say at which input.
  Laid BY PROGRAM, IN A SANDBOX (cutbox-rows.mjs): the forced cells as the released guide's own fill.sh prints them over the translation 6a3fa1a1e60448c1… (all of the seat's roots in one cut). By AI agents, Wed Nov 11 2026. No macro, syntax, notation, axiom, sorry.
-/
import Derived.Test.YtkmpmgojgidcgaaChecked
import GoSem.Claim
import GoSem.ClaimJoined
import GoSem.ClaimMapViews
import Derived.JoinedTies
import Derived.KernelRfl
namespace Go.Proofs.Ytkmpmgojgidcgaa
/- THE CELL 'sum', in the pinned program and in every row, IS THE sha256 OF THE DUMP (.gsa) THAT YtkmpmgojgidcgaaProg.lean LOADS. Nothing in Lean hashes anything: it is a label: what it is worth is what the hold of that sum in a sandbox is worth. -/
noncomputable def Try.pinned : Pinned := { name := "ytkmpmgojgidcgaa", sum := "6a3fa1a1e60448c10b2f1282633419c8e4e58d2a894f12fd654d0fe7959bc7d1", checked := Try.checked }
namespace Rows
def none {H : Type} : Left H := { results := [], args := [] }

/-- 'waypointlaw33.LsdbNewest': WHATEVER THE INPUT: true; the input reads as it did. -/
def lsdbNewestSpec : ChangeSpec := { name := "lsdbNewest", fn := fun _ => fun
  | [d] => { results := [.lit (.bool true)], args := [d] }
  | _ => none }
def lsdbNewestRow : OpenClaim := { program := "ytkmpmgojgidcgaa", sum := "6a3fa1a1e60448c10b2f1282633419c8e4e58d2a894f12fd654d0fe7959bc7d1", func := "waypoint/waypointlaw33.LsdbNewest", spec := "lsdbNewest", inPlace := ["internal/bytealg.Compare"], unfollowed := true, recurses := true, apart := false }
def LsdbNewestSaid : Prop := lsdbNewestRow.holds Try.pinned (OpenSpec.ofChange lsdbNewestSpec)

/-- ITS FALSE NEIGHBOUR: 'it returns false'. Refute it at one input. -/
def lsdbNewestWrong : ChangeSpec := { name := "lsdbNewest", fn := fun _ => fun
  | [d] => { results := [.lit (.bool false)], args := [d] }
  | _ => none }
def LsdbNewestWrongFalsely : Prop := lsdbNewestRow.holds Try.pinned (OpenSpec.ofChange lsdbNewestWrong)

/-- 'waypointlaw33.LsdbScript': WHATEVER THE INPUT: true; the input reads as it did. -/
def lsdbScriptSpec : ChangeSpec := { name := "lsdbScript", fn := fun _ => fun
  | [d] => { results := [.lit (.bool true)], args := [d] }
  | _ => none }
def lsdbScriptRow : OpenClaim := { program := "ytkmpmgojgidcgaa", sum := "6a3fa1a1e60448c10b2f1282633419c8e4e58d2a894f12fd654d0fe7959bc7d1", func := "waypoint/waypointlaw33.LsdbScript", spec := "lsdbScript", inPlace := ["internal/bytealg.Compare"], unfollowed := true, recurses := true, apart := false }
def LsdbScriptSaid : Prop := lsdbScriptRow.holds Try.pinned (OpenSpec.ofChange lsdbScriptSpec)

/-- ITS FALSE NEIGHBOUR: 'it returns false'. Refute it at one input. -/
def lsdbScriptWrong : ChangeSpec := { name := "lsdbScript", fn := fun _ => fun
  | [d] => { results := [.lit (.bool false)], args := [d] }
  | _ => none }
def LsdbScriptWrongFalsely : Prop := lsdbScriptRow.holds Try.pinned (OpenSpec.ofChange lsdbScriptWrong)

/-- 'waypointlaw33.LsdbOrder': WHATEVER THE INPUT: true; the input reads as it did. -/
def lsdbOrderSpec : ChangeSpec := { name := "lsdbOrder", fn := fun _ => fun
  | [d1, d2] => { results := [.lit (.bool true)], args := [d1, d2] }
  | _ => none }
def lsdbOrderRow : OpenClaim := { program := "ytkmpmgojgidcgaa", sum := "6a3fa1a1e60448c10b2f1282633419c8e4e58d2a894f12fd654d0fe7959bc7d1", func := "waypoint/waypointlaw33.LsdbOrder", spec := "lsdbOrder", inPlace := ["internal/bytealg.Compare"], unfollowed := true, recurses := true, apart := false }
def LsdbOrderSaid : Prop := lsdbOrderRow.holds Try.pinned (OpenSpec.ofChange lsdbOrderSpec)

/-- ITS FALSE NEIGHBOUR: 'it returns false'. Refute it at one input. -/
def lsdbOrderWrong : ChangeSpec := { name := "lsdbOrder", fn := fun _ => fun
  | [d1, d2] => { results := [.lit (.bool false)], args := [d1, d2] }
  | _ => none }
def LsdbOrderWrongFalsely : Prop := lsdbOrderRow.holds Try.pinned (OpenSpec.ofChange lsdbOrderWrong)

/-- 'waypointlaw33.LsdbEqual': WHATEVER THE INPUT: true; the input reads as it did. -/
def lsdbEqualSpec : ChangeSpec := { name := "lsdbEqual", fn := fun _ => fun
  | [d1, d2] => { results := [.lit (.bool true)], args := [d1, d2] }
  | _ => none }
def lsdbEqualRow : OpenClaim := { program := "ytkmpmgojgidcgaa", sum := "6a3fa1a1e60448c10b2f1282633419c8e4e58d2a894f12fd654d0fe7959bc7d1", func := "waypoint/waypointlaw33.LsdbEqual", spec := "lsdbEqual", inPlace := ["internal/bytealg.Compare"], unfollowed := true, recurses := true, apart := false }
def LsdbEqualSaid : Prop := lsdbEqualRow.holds Try.pinned (OpenSpec.ofChange lsdbEqualSpec)

/-- ITS FALSE NEIGHBOUR: 'it returns false'. Refute it at one input. -/
def lsdbEqualWrong : ChangeSpec := { name := "lsdbEqual", fn := fun _ => fun
  | [d1, d2] => { results := [.lit (.bool false)], args := [d1, d2] }
  | _ => none }
def LsdbEqualWrongFalsely : Prop := lsdbEqualRow.holds Try.pinned (OpenSpec.ofChange lsdbEqualWrong)

/-- 'waypointlaw33.LsdbView': WHATEVER THE INPUT: true; the input reads as it did. -/
def lsdbViewSpec : ChangeSpec := { name := "lsdbView", fn := fun _ => fun
  | [d1, d2] => { results := [.lit (.bool true)], args := [d1, d2] }
  | _ => none }
def lsdbViewRow : OpenClaim := { program := "ytkmpmgojgidcgaa", sum := "6a3fa1a1e60448c10b2f1282633419c8e4e58d2a894f12fd654d0fe7959bc7d1", func := "waypoint/waypointlaw33.LsdbView", spec := "lsdbView", inPlace := ["internal/bytealg.Compare"], unfollowed := true, recurses := true, apart := false }
def LsdbViewSaid : Prop := lsdbViewRow.holds Try.pinned (OpenSpec.ofChange lsdbViewSpec)

/-- ITS FALSE NEIGHBOUR: 'it returns false'. Refute it at one input. -/
def lsdbViewWrong : ChangeSpec := { name := "lsdbView", fn := fun _ => fun
  | [d1, d2] => { results := [.lit (.bool false)], args := [d1, d2] }
  | _ => none }
def LsdbViewWrongFalsely : Prop := lsdbViewRow.holds Try.pinned (OpenSpec.ofChange lsdbViewWrong)

/-- 'waypointlaw33.LsdbBothEnds': WHATEVER THE INPUT: true; the input reads as it did. -/
def lsdbBothEndsSpec : ChangeSpec := { name := "lsdbBothEnds", fn := fun _ => fun
  | [d1, d2] => { results := [.lit (.bool true)], args := [d1, d2] }
  | _ => none }
def lsdbBothEndsRow : OpenClaim := { program := "ytkmpmgojgidcgaa", sum := "6a3fa1a1e60448c10b2f1282633419c8e4e58d2a894f12fd654d0fe7959bc7d1", func := "waypoint/waypointlaw33.LsdbBothEnds", spec := "lsdbBothEnds", inPlace := ["internal/bytealg.Compare"], unfollowed := true, recurses := true, apart := false }
def LsdbBothEndsSaid : Prop := lsdbBothEndsRow.holds Try.pinned (OpenSpec.ofChange lsdbBothEndsSpec)

/-- ITS FALSE NEIGHBOUR: 'it returns false'. Refute it at one input. -/
def lsdbBothEndsWrong : ChangeSpec := { name := "lsdbBothEnds", fn := fun _ => fun
  | [d1, d2] => { results := [.lit (.bool false)], args := [d1, d2] }
  | _ => none }
def LsdbBothEndsWrongFalsely : Prop := lsdbBothEndsRow.holds Try.pinned (OpenSpec.ofChange lsdbBothEndsWrong)

/-- 'waypointlaw33.LsdbNil': WHATEVER THE INPUT: true; the input reads as it did. -/
def lsdbNilSpec : ChangeSpec := { name := "lsdbNil", fn := fun _ => fun
  | [d1, d2] => { results := [.lit (.bool true)], args := [d1, d2] }
  | _ => none }
def lsdbNilRow : OpenClaim := { program := "ytkmpmgojgidcgaa", sum := "6a3fa1a1e60448c10b2f1282633419c8e4e58d2a894f12fd654d0fe7959bc7d1", func := "waypoint/waypointlaw33.LsdbNil", spec := "lsdbNil", inPlace := ["internal/bytealg.Compare"], unfollowed := true, recurses := true, apart := false }
def LsdbNilSaid : Prop := lsdbNilRow.holds Try.pinned (OpenSpec.ofChange lsdbNilSpec)

/-- ITS FALSE NEIGHBOUR: 'it returns false'. Refute it at one input. -/
def lsdbNilWrong : ChangeSpec := { name := "lsdbNil", fn := fun _ => fun
  | [d1, d2] => { results := [.lit (.bool false)], args := [d1, d2] }
  | _ => none }
def LsdbNilWrongFalsely : Prop := lsdbNilRow.holds Try.pinned (OpenSpec.ofChange lsdbNilWrong)

/- THE SECOND FORM. 'bulk': how many values and letters a reading holds, each counted each time it is reached (what is shared counts as often as it is met; a slice's spare places count too). A statement '..UptoSaid' is the law's where the arguments, and the package variables that the reading takes, are together of bulk at most 1048576: NARROWER than '..Said'. Prove '..Said' where nothing that the law and all that it calls make is longer than what came in: it says more and counts as full. Else prove '..UptoSaid'. A law counts once. -/
mutual
def uptoBulk {H : Type} : DataW H → Nat
  | .lit (.string bytes) => bytes.length + 1
  | .lit _ => 1
  | .nil => 1
  | .ptr d => uptoBulk d + 1
  | .slice elems spare => uptoBulkAll elems + uptoBulkAll spare + 1
  | .agg parts => uptoBulkAll parts + 1
  | .iface _ d => uptoBulk d + 1
  | .map entries => uptoBulkEntries entries + 1
  | .held _ => 1
def uptoBulkAll {H : Type} : List (DataW H) → Nat
  | [] => 0
  | d :: r => uptoBulk d + uptoBulkAll r
def uptoBulkEntries {H : Type} : List (Lit × DataW H) → Nat
  | [] => 0
  | x :: r => uptoBulkEntry x + uptoBulkEntries r
def uptoBulkEntry {H : Type} : Lit × DataW H → Nat
  | (.string bytes, d) => bytes.length + uptoBulk d + 1
  | (_, d) => uptoBulk d + 1
 end
def uptoSmall : (H : Type) → List (DataW H) → Bool := fun _ ds => decide (uptoBulkAll ds ≤ 1048576)
def OpenSpec.upto (s : _root_.Go.ChangeSpec) : _root_.Go.OpenSpec := { _root_.Go.OpenSpec.ofChange s with cond := some uptoSmall }

/-- 'waypointlaw33.LsdbNewest', WHERE WHAT IT READS IS OF BULK AT MOST 1048576: true; the input reads as it did. -/
def lsdbNewestUptoRow : OpenClaim := { program := "ytkmpmgojgidcgaa", sum := "6a3fa1a1e60448c10b2f1282633419c8e4e58d2a894f12fd654d0fe7959bc7d1", func := "waypoint/waypointlaw33.LsdbNewest", spec := "lsdbNewest", inPlace := ["internal/bytealg.Compare"], unfollowed := true, recurses := true, apart := false, narrowed := true }
def LsdbNewestUptoSaid : Prop := lsdbNewestUptoRow.holds Try.pinned (OpenSpec.upto lsdbNewestSpec)

/-- 'waypointlaw33.LsdbScript', WHERE WHAT IT READS IS OF BULK AT MOST 1048576: true; the input reads as it did. -/
def lsdbScriptUptoRow : OpenClaim := { program := "ytkmpmgojgidcgaa", sum := "6a3fa1a1e60448c10b2f1282633419c8e4e58d2a894f12fd654d0fe7959bc7d1", func := "waypoint/waypointlaw33.LsdbScript", spec := "lsdbScript", inPlace := ["internal/bytealg.Compare"], unfollowed := true, recurses := true, apart := false, narrowed := true }
def LsdbScriptUptoSaid : Prop := lsdbScriptUptoRow.holds Try.pinned (OpenSpec.upto lsdbScriptSpec)

/-- 'waypointlaw33.LsdbOrder', WHERE WHAT IT READS IS OF BULK AT MOST 1048576: true; the input reads as it did. -/
def lsdbOrderUptoRow : OpenClaim := { program := "ytkmpmgojgidcgaa", sum := "6a3fa1a1e60448c10b2f1282633419c8e4e58d2a894f12fd654d0fe7959bc7d1", func := "waypoint/waypointlaw33.LsdbOrder", spec := "lsdbOrder", inPlace := ["internal/bytealg.Compare"], unfollowed := true, recurses := true, apart := false, narrowed := true }
def LsdbOrderUptoSaid : Prop := lsdbOrderUptoRow.holds Try.pinned (OpenSpec.upto lsdbOrderSpec)

/-- 'waypointlaw33.LsdbEqual', WHERE WHAT IT READS IS OF BULK AT MOST 1048576: true; the input reads as it did. -/
def lsdbEqualUptoRow : OpenClaim := { program := "ytkmpmgojgidcgaa", sum := "6a3fa1a1e60448c10b2f1282633419c8e4e58d2a894f12fd654d0fe7959bc7d1", func := "waypoint/waypointlaw33.LsdbEqual", spec := "lsdbEqual", inPlace := ["internal/bytealg.Compare"], unfollowed := true, recurses := true, apart := false, narrowed := true }
def LsdbEqualUptoSaid : Prop := lsdbEqualUptoRow.holds Try.pinned (OpenSpec.upto lsdbEqualSpec)

/-- 'waypointlaw33.LsdbView', WHERE WHAT IT READS IS OF BULK AT MOST 1048576: true; the input reads as it did. -/
def lsdbViewUptoRow : OpenClaim := { program := "ytkmpmgojgidcgaa", sum := "6a3fa1a1e60448c10b2f1282633419c8e4e58d2a894f12fd654d0fe7959bc7d1", func := "waypoint/waypointlaw33.LsdbView", spec := "lsdbView", inPlace := ["internal/bytealg.Compare"], unfollowed := true, recurses := true, apart := false, narrowed := true }
def LsdbViewUptoSaid : Prop := lsdbViewUptoRow.holds Try.pinned (OpenSpec.upto lsdbViewSpec)

/-- 'waypointlaw33.LsdbBothEnds', WHERE WHAT IT READS IS OF BULK AT MOST 1048576: true; the input reads as it did. -/
def lsdbBothEndsUptoRow : OpenClaim := { program := "ytkmpmgojgidcgaa", sum := "6a3fa1a1e60448c10b2f1282633419c8e4e58d2a894f12fd654d0fe7959bc7d1", func := "waypoint/waypointlaw33.LsdbBothEnds", spec := "lsdbBothEnds", inPlace := ["internal/bytealg.Compare"], unfollowed := true, recurses := true, apart := false, narrowed := true }
def LsdbBothEndsUptoSaid : Prop := lsdbBothEndsUptoRow.holds Try.pinned (OpenSpec.upto lsdbBothEndsSpec)

/-- 'waypointlaw33.LsdbNil', WHERE WHAT IT READS IS OF BULK AT MOST 1048576: true; the input reads as it did. -/
def lsdbNilUptoRow : OpenClaim := { program := "ytkmpmgojgidcgaa", sum := "6a3fa1a1e60448c10b2f1282633419c8e4e58d2a894f12fd654d0fe7959bc7d1", func := "waypoint/waypointlaw33.LsdbNil", spec := "lsdbNil", inPlace := ["internal/bytealg.Compare"], unfollowed := true, recurses := true, apart := false, narrowed := true }
def LsdbNilUptoSaid : Prop := lsdbNilUptoRow.holds Try.pinned (OpenSpec.upto lsdbNilSpec)

end Rows
end Go.Proofs.Ytkmpmgojgidcgaa
