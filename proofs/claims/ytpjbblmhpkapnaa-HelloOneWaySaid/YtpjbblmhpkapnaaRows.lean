/-
  No cell of these rows narrows 'for every input' (looked for: loops, veiled, ifaces, maps, wideKeys, modest, calm, conditions, laid).
  DERIVED. THE GIVEN ROWS OF THIS SEAT. 7 by the template 'for every input the law returns true; each argument reads behind the call as it read before'; 0 by the template 'total and deterministic' (their statements: YtpjbblmhpkapnaaTotals.lean).
  GIVEN WITH THE SEED: the statements are not yours to turn. If you find one false, say at which input.
  Laid BY PROGRAM, IN A SANDBOX (cutbox-rows.mjs): the forced cells as the released guide's own fill.sh prints them over the translation 8f427fd147775090… (all of the seat's roots in one cut). By AI agents, Wed Nov 11 2026. No macro, syntax, notation, axiom, sorry.
-/
import Derived.Test.YtpjbblmhpkapnaaChecked
import GoSem.Claim
import GoSem.ClaimJoined
import GoSem.ClaimMapViews
import Derived.JoinedTies
import Derived.KernelRfl
namespace Go.Proofs.Ytpjbblmhpkapnaa
/- THE CELL 'sum', in the pinned program and in every row, IS THE sha256 OF THE DUMP (.gsa) THAT YtpjbblmhpkapnaaProg.lean LOADS. Nothing in Lean hashes anything: it is a label: what it is worth is what the hold of that sum in a sandbox is worth. -/
noncomputable def Try.pinned : Pinned := { name := "ytpjbblmhpkapnaa", sum := "8f427fd147775090773512197d9cc3b06ceeee18eac2df2d8e3f5cd17f9acb12", checked := Try.checked }
namespace Rows
def none {H : Type} : Left H := { results := [], args := [] }

/-- 'waypointlaw34.HelloReceives': WHATEVER THE INPUT: true; the input reads as it did. -/
def helloReceivesSpec : ChangeSpec := { name := "helloReceives", fn := fun _ => fun
  | [d1, d2, d3] => { results := [.lit (.bool true)], args := [d1, d2, d3] }
  | _ => none }
def helloReceivesRow : OpenClaim := { program := "ytpjbblmhpkapnaa", sum := "8f427fd147775090773512197d9cc3b06ceeee18eac2df2d8e3f5cd17f9acb12", func := "waypoint/waypointlaw34.HelloReceives", spec := "helloReceives", apart := false }
def HelloReceivesSaid : Prop := helloReceivesRow.holds Try.pinned (OpenSpec.ofChange helloReceivesSpec)

/-- ITS FALSE NEIGHBOUR: 'it returns false'. Refute it at one input. -/
def helloReceivesWrong : ChangeSpec := { name := "helloReceives", fn := fun _ => fun
  | [d1, d2, d3] => { results := [.lit (.bool false)], args := [d1, d2, d3] }
  | _ => none }
def HelloReceivesWrongFalsely : Prop := helloReceivesRow.holds Try.pinned (OpenSpec.ofChange helloReceivesWrong)

/-- 'waypointlaw34.HelloTicks': WHATEVER THE INPUT: true; the input reads as it did. -/
def helloTicksSpec : ChangeSpec := { name := "helloTicks", fn := fun _ => fun
  | [d1, d2] => { results := [.lit (.bool true)], args := [d1, d2] }
  | _ => none }
def helloTicksRow : OpenClaim := { program := "ytpjbblmhpkapnaa", sum := "8f427fd147775090773512197d9cc3b06ceeee18eac2df2d8e3f5cd17f9acb12", func := "waypoint/waypointlaw34.HelloTicks", spec := "helloTicks", apart := false }
def HelloTicksSaid : Prop := helloTicksRow.holds Try.pinned (OpenSpec.ofChange helloTicksSpec)

/-- ITS FALSE NEIGHBOUR: 'it returns false'. Refute it at one input. -/
def helloTicksWrong : ChangeSpec := { name := "helloTicks", fn := fun _ => fun
  | [d1, d2] => { results := [.lit (.bool false)], args := [d1, d2] }
  | _ => none }
def HelloTicksWrongFalsely : Prop := helloTicksRow.holds Try.pinned (OpenSpec.ofChange helloTicksWrong)

/-- 'waypointlaw34.HelloScript': WHATEVER THE INPUT: true; the input reads as it did. -/
def helloScriptSpec : ChangeSpec := { name := "helloScript", fn := fun _ => fun
  | [d] => { results := [.lit (.bool true)], args := [d] }
  | _ => none }
def helloScriptRow : OpenClaim := { program := "ytpjbblmhpkapnaa", sum := "8f427fd147775090773512197d9cc3b06ceeee18eac2df2d8e3f5cd17f9acb12", func := "waypoint/waypointlaw34.HelloScript", spec := "helloScript", apart := false }
def HelloScriptSaid : Prop := helloScriptRow.holds Try.pinned (OpenSpec.ofChange helloScriptSpec)

/-- ITS FALSE NEIGHBOUR: 'it returns false'. Refute it at one input. -/
def helloScriptWrong : ChangeSpec := { name := "helloScript", fn := fun _ => fun
  | [d] => { results := [.lit (.bool false)], args := [d] }
  | _ => none }
def HelloScriptWrongFalsely : Prop := helloScriptRow.holds Try.pinned (OpenSpec.ofChange helloScriptWrong)

/-- 'waypointlaw34.HelloAdds': WHATEVER THE INPUT: true; the input reads as it did. -/
def helloAddsSpec : ChangeSpec := { name := "helloAdds", fn := fun _ => fun
  | [d1, d2, d3] => { results := [.lit (.bool true)], args := [d1, d2, d3] }
  | _ => none }
def helloAddsRow : OpenClaim := { program := "ytpjbblmhpkapnaa", sum := "8f427fd147775090773512197d9cc3b06ceeee18eac2df2d8e3f5cd17f9acb12", func := "waypoint/waypointlaw34.HelloAdds", spec := "helloAdds", apart := false }
def HelloAddsSaid : Prop := helloAddsRow.holds Try.pinned (OpenSpec.ofChange helloAddsSpec)

/-- ITS FALSE NEIGHBOUR: 'it returns false'. Refute it at one input. -/
def helloAddsWrong : ChangeSpec := { name := "helloAdds", fn := fun _ => fun
  | [d1, d2, d3] => { results := [.lit (.bool false)], args := [d1, d2, d3] }
  | _ => none }
def HelloAddsWrongFalsely : Prop := helloAddsRow.holds Try.pinned (OpenSpec.ofChange helloAddsWrong)

/-- 'waypointlaw34.HelloValid': WHATEVER THE INPUT: true; the input reads as it did. -/
def helloValidSpec : ChangeSpec := { name := "helloValid", fn := fun _ => fun
  | [d1, d2] => { results := [.lit (.bool true)], args := [d1, d2] }
  | _ => none }
def helloValidRow : OpenClaim := { program := "ytpjbblmhpkapnaa", sum := "8f427fd147775090773512197d9cc3b06ceeee18eac2df2d8e3f5cd17f9acb12", func := "waypoint/waypointlaw34.HelloValid", spec := "helloValid", apart := false }
def HelloValidSaid : Prop := helloValidRow.holds Try.pinned (OpenSpec.ofChange helloValidSpec)

/-- ITS FALSE NEIGHBOUR: 'it returns false'. Refute it at one input. -/
def helloValidWrong : ChangeSpec := { name := "helloValid", fn := fun _ => fun
  | [d1, d2] => { results := [.lit (.bool false)], args := [d1, d2] }
  | _ => none }
def HelloValidWrongFalsely : Prop := helloValidRow.holds Try.pinned (OpenSpec.ofChange helloValidWrong)

/-- 'waypointlaw34.HelloHandshake': WHATEVER THE INPUT: true; the input reads as it did. -/
def helloHandshakeSpec : ChangeSpec := { name := "helloHandshake", fn := fun _ => fun
  | [d1, d2] => { results := [.lit (.bool true)], args := [d1, d2] }
  | _ => none }
def helloHandshakeRow : OpenClaim := { program := "ytpjbblmhpkapnaa", sum := "8f427fd147775090773512197d9cc3b06ceeee18eac2df2d8e3f5cd17f9acb12", func := "waypoint/waypointlaw34.HelloHandshake", spec := "helloHandshake", apart := false }
def HelloHandshakeSaid : Prop := helloHandshakeRow.holds Try.pinned (OpenSpec.ofChange helloHandshakeSpec)

/-- ITS FALSE NEIGHBOUR: 'it returns false'. Refute it at one input. -/
def helloHandshakeWrong : ChangeSpec := { name := "helloHandshake", fn := fun _ => fun
  | [d1, d2] => { results := [.lit (.bool false)], args := [d1, d2] }
  | _ => none }
def HelloHandshakeWrongFalsely : Prop := helloHandshakeRow.holds Try.pinned (OpenSpec.ofChange helloHandshakeWrong)

/-- 'waypointlaw34.HelloOneWay': WHATEVER THE INPUT: true; the input reads as it did. -/
def helloOneWaySpec : ChangeSpec := { name := "helloOneWay", fn := fun _ => fun
  | [d1, d2, d3] => { results := [.lit (.bool true)], args := [d1, d2, d3] }
  | _ => none }
def helloOneWayRow : OpenClaim := { program := "ytpjbblmhpkapnaa", sum := "8f427fd147775090773512197d9cc3b06ceeee18eac2df2d8e3f5cd17f9acb12", func := "waypoint/waypointlaw34.HelloOneWay", spec := "helloOneWay", apart := false }
def HelloOneWaySaid : Prop := helloOneWayRow.holds Try.pinned (OpenSpec.ofChange helloOneWaySpec)

/-- ITS FALSE NEIGHBOUR: 'it returns false'. Refute it at one input. -/
def helloOneWayWrong : ChangeSpec := { name := "helloOneWay", fn := fun _ => fun
  | [d1, d2, d3] => { results := [.lit (.bool false)], args := [d1, d2, d3] }
  | _ => none }
def HelloOneWayWrongFalsely : Prop := helloOneWayRow.holds Try.pinned (OpenSpec.ofChange helloOneWayWrong)

/- THE SECOND FORM. 'bulk': how many values and letters a reading holds, each counted each time it is reached (what is shared counts as often as it is met; a slice's spare places count too). A statement '..UptoSaid' is the law's where the arguments, and the package variables that the reading takes, are together of bulk at most 1048576: NARROWER than '..Said'. Prove '..Said' where nothing that the law and all that it calls make is longer than what came in: it says more and counts as full. Else prove '..UptoSaid'. A law counts once. -/
mutual
def uptoBulk {H : Type} : DataW H → Nat
  | .lit (.string bytes) => bytes.length + 1
  | .lit _ => 1
  | .nil => 1
  | .ptr d => uptoBulk d + 1
  | .slice elems spare => uptoBulkAll elems + uptoBulkAll spare + 1
  | .agg parts => uptoBulkAll parts + 1
  | .iface _ d => uptoBulk d + 1
  | .map entries => uptoBulkEntries entries + 1
  | .held _ => 1
def uptoBulkAll {H : Type} : List (DataW H) → Nat
  | [] => 0
  | d :: r => uptoBulk d + uptoBulkAll r
def uptoBulkEntries {H : Type} : List (Lit × DataW H) → Nat
  | [] => 0
  | x :: r => uptoBulkEntry x + uptoBulkEntries r
def uptoBulkEntry {H : Type} : Lit × DataW H → Nat
  | (.string bytes, d) => bytes.length + uptoBulk d + 1
  | (_, d) => uptoBulk d + 1
 end
def uptoSmall : (H : Type) → List (DataW H) → Bool := fun _ ds => decide (uptoBulkAll ds ≤ 1048576)
def OpenSpec.upto (s : _root_.Go.ChangeSpec) : _root_.Go.OpenSpec := { _root_.Go.OpenSpec.ofChange s with cond := some uptoSmall }

/-- 'waypointlaw34.HelloReceives', WHERE WHAT IT READS IS OF BULK AT MOST 1048576: true; the input reads as it did. -/
def helloReceivesUptoRow : OpenClaim := { program := "ytpjbblmhpkapnaa", sum := "8f427fd147775090773512197d9cc3b06ceeee18eac2df2d8e3f5cd17f9acb12", func := "waypoint/waypointlaw34.HelloReceives", spec := "helloReceives", apart := false, narrowed := true }
def HelloReceivesUptoSaid : Prop := helloReceivesUptoRow.holds Try.pinned (OpenSpec.upto helloReceivesSpec)

/-- 'waypointlaw34.HelloTicks', WHERE WHAT IT READS IS OF BULK AT MOST 1048576: true; the input reads as it did. -/
def helloTicksUptoRow : OpenClaim := { program := "ytpjbblmhpkapnaa", sum := "8f427fd147775090773512197d9cc3b06ceeee18eac2df2d8e3f5cd17f9acb12", func := "waypoint/waypointlaw34.HelloTicks", spec := "helloTicks", apart := false, narrowed := true }
def HelloTicksUptoSaid : Prop := helloTicksUptoRow.holds Try.pinned (OpenSpec.upto helloTicksSpec)

/-- 'waypointlaw34.HelloScript', WHERE WHAT IT READS IS OF BULK AT MOST 1048576: true; the input reads as it did. -/
def helloScriptUptoRow : OpenClaim := { program := "ytpjbblmhpkapnaa", sum := "8f427fd147775090773512197d9cc3b06ceeee18eac2df2d8e3f5cd17f9acb12", func := "waypoint/waypointlaw34.HelloScript", spec := "helloScript", apart := false, narrowed := true }
def HelloScriptUptoSaid : Prop := helloScriptUptoRow.holds Try.pinned (OpenSpec.upto helloScriptSpec)

/-- 'waypointlaw34.HelloAdds', WHERE WHAT IT READS IS OF BULK AT MOST 1048576: true; the input reads as it did. -/
def helloAddsUptoRow : OpenClaim := { program := "ytpjbblmhpkapnaa", sum := "8f427fd147775090773512197d9cc3b06ceeee18eac2df2d8e3f5cd17f9acb12", func := "waypoint/waypointlaw34.HelloAdds", spec := "helloAdds", apart := false, narrowed := true }
def HelloAddsUptoSaid : Prop := helloAddsUptoRow.holds Try.pinned (OpenSpec.upto helloAddsSpec)

/-- 'waypointlaw34.HelloValid', WHERE WHAT IT READS IS OF BULK AT MOST 1048576: true; the input reads as it did. -/
def helloValidUptoRow : OpenClaim := { program := "ytpjbblmhpkapnaa", sum := "8f427fd147775090773512197d9cc3b06ceeee18eac2df2d8e3f5cd17f9acb12", func := "waypoint/waypointlaw34.HelloValid", spec := "helloValid", apart := false, narrowed := true }
def HelloValidUptoSaid : Prop := helloValidUptoRow.holds Try.pinned (OpenSpec.upto helloValidSpec)

/-- 'waypointlaw34.HelloHandshake', WHERE WHAT IT READS IS OF BULK AT MOST 1048576: true; the input reads as it did. -/
def helloHandshakeUptoRow : OpenClaim := { program := "ytpjbblmhpkapnaa", sum := "8f427fd147775090773512197d9cc3b06ceeee18eac2df2d8e3f5cd17f9acb12", func := "waypoint/waypointlaw34.HelloHandshake", spec := "helloHandshake", apart := false, narrowed := true }
def HelloHandshakeUptoSaid : Prop := helloHandshakeUptoRow.holds Try.pinned (OpenSpec.upto helloHandshakeSpec)

/-- 'waypointlaw34.HelloOneWay', WHERE WHAT IT READS IS OF BULK AT MOST 1048576: true; the input reads as it did. -/
def helloOneWayUptoRow : OpenClaim := { program := "ytpjbblmhpkapnaa", sum := "8f427fd147775090773512197d9cc3b06ceeee18eac2df2d8e3f5cd17f9acb12", func := "waypoint/waypointlaw34.HelloOneWay", spec := "helloOneWay", apart := false, narrowed := true }
def HelloOneWayUptoSaid : Prop := helloOneWayUptoRow.holds Try.pinned (OpenSpec.upto helloOneWaySpec)

end Rows
end Go.Proofs.Ytpjbblmhpkapnaa
