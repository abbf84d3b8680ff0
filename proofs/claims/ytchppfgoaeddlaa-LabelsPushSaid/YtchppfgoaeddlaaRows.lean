/-
  No cell of these rows narrows 'for every input' (looked for: loops, veiled, ifaces, maps, wideKeys, modest, calm, conditions, laid).
  DERIVED. THE GIVEN ROWS OF THIS SEAT. 7 by the template 'for every input the law returns true; each argument reads behind the call as it read before'; 0 by the template 'total and deterministic' (their statements: YtchppfgoaeddlaaTotals.lean).
  GIVEN WITH THE SEED: the statements are not yours to turn. If you find one false, say at which input.
  Laid BY PROGRAM, IN A SANDBOX (cutbox-rows.mjs): the forced cells as the released guide's own fill.sh prints them over the translation 87e84d7a42c353d4… (all of the seat's roots in one cut). By AI agents, Wed Nov 11 2026. No macro, syntax, notation, axiom, sorry.
-/
import Derived.Test.YtchppfgoaeddlaaChecked
import GoSem.Claim
import GoSem.ClaimJoined
import GoSem.ClaimMapViews
import Derived.JoinedTies
import Derived.KernelRfl
namespace Go.Proofs.Ytchppfgoaeddlaa
/- THE CELL 'sum', in the pinned program and in every row, IS THE sha256 OF THE DUMP (.gsa) THAT YtchppfgoaeddlaaProg.lean LOADS. Nothing in Lean hashes anything: it is a label: what it is worth is what the hold of that sum in a sandbox is worth. -/
noncomputable def Try.pinned : Pinned := { name := "ytchppfgoaeddlaa", sum := "87e84d7a42c353d464ba83c6201106c9bce9bcc51df8501b0eae5473c755ad65", checked := Try.checked }
namespace Rows
def none {H : Type} : Left H := { results := [], args := [] }

/-- 'waypointlaw19.LabelsPack': WHATEVER THE INPUT: true; the input reads as it did. -/
def labelsPackSpec : ChangeSpec := { name := "labelsPack", fn := fun _ => fun
  | [d1, d2, d3] => { results := [.lit (.bool true)], args := [d1, d2, d3] }
  | _ => none }
def labelsPackRow : OpenClaim := { program := "ytchppfgoaeddlaa", sum := "87e84d7a42c353d464ba83c6201106c9bce9bcc51df8501b0eae5473c755ad65", func := "waypoint/waypointlaw19.LabelsPack", spec := "labelsPack", apart := false }
def LabelsPackSaid : Prop := labelsPackRow.holds Try.pinned (OpenSpec.ofChange labelsPackSpec)

/-- ITS FALSE NEIGHBOUR: 'it returns false'. Refute it at one input. -/
def labelsPackWrong : ChangeSpec := { name := "labelsPack", fn := fun _ => fun
  | [d1, d2, d3] => { results := [.lit (.bool false)], args := [d1, d2, d3] }
  | _ => none }
def LabelsPackWrongFalsely : Prop := labelsPackRow.holds Try.pinned (OpenSpec.ofChange labelsPackWrong)

/-- 'waypointlaw19.LabelsEncode': WHATEVER THE INPUT: true; the input reads as it did. -/
def labelsEncodeSpec : ChangeSpec := { name := "labelsEncode", fn := fun _ => fun
  | [d] => { results := [.lit (.bool true)], args := [d] }
  | _ => none }
def labelsEncodeRow : OpenClaim := { program := "ytchppfgoaeddlaa", sum := "87e84d7a42c353d464ba83c6201106c9bce9bcc51df8501b0eae5473c755ad65", func := "waypoint/waypointlaw19.LabelsEncode", spec := "labelsEncode", apart := false }
def LabelsEncodeSaid : Prop := labelsEncodeRow.holds Try.pinned (OpenSpec.ofChange labelsEncodeSpec)

/-- ITS FALSE NEIGHBOUR: 'it returns false'. Refute it at one input. -/
def labelsEncodeWrong : ChangeSpec := { name := "labelsEncode", fn := fun _ => fun
  | [d] => { results := [.lit (.bool false)], args := [d] }
  | _ => none }
def LabelsEncodeWrongFalsely : Prop := labelsEncodeRow.holds Try.pinned (OpenSpec.ofChange labelsEncodeWrong)

/-- 'waypointlaw19.LabelsDecode': WHATEVER THE INPUT: true; the input reads as it did. -/
def labelsDecodeSpec : ChangeSpec := { name := "labelsDecode", fn := fun _ => fun
  | [d] => { results := [.lit (.bool true)], args := [d] }
  | _ => none }
def labelsDecodeRow : OpenClaim := { program := "ytchppfgoaeddlaa", sum := "87e84d7a42c353d464ba83c6201106c9bce9bcc51df8501b0eae5473c755ad65", func := "waypoint/waypointlaw19.LabelsDecode", spec := "labelsDecode", apart := false }
def LabelsDecodeSaid : Prop := labelsDecodeRow.holds Try.pinned (OpenSpec.ofChange labelsDecodeSpec)

/-- ITS FALSE NEIGHBOUR: 'it returns false'. Refute it at one input. -/
def labelsDecodeWrong : ChangeSpec := { name := "labelsDecode", fn := fun _ => fun
  | [d] => { results := [.lit (.bool false)], args := [d] }
  | _ => none }
def LabelsDecodeWrongFalsely : Prop := labelsDecodeRow.holds Try.pinned (OpenSpec.ofChange labelsDecodeWrong)

/-- 'waypointlaw19.LabelsUnpack': WHATEVER THE INPUT: true; the input reads as it did. -/
def labelsUnpackSpec : ChangeSpec := { name := "labelsUnpack", fn := fun _ => fun
  | [d] => { results := [.lit (.bool true)], args := [d] }
  | _ => none }
def labelsUnpackRow : OpenClaim := { program := "ytchppfgoaeddlaa", sum := "87e84d7a42c353d464ba83c6201106c9bce9bcc51df8501b0eae5473c755ad65", func := "waypoint/waypointlaw19.LabelsUnpack", spec := "labelsUnpack", apart := false }
def LabelsUnpackSaid : Prop := labelsUnpackRow.holds Try.pinned (OpenSpec.ofChange labelsUnpackSpec)

/-- ITS FALSE NEIGHBOUR: 'it returns false'. Refute it at one input. -/
def labelsUnpackWrong : ChangeSpec := { name := "labelsUnpack", fn := fun _ => fun
  | [d] => { results := [.lit (.bool false)], args := [d] }
  | _ => none }
def LabelsUnpackWrongFalsely : Prop := labelsUnpackRow.holds Try.pinned (OpenSpec.ofChange labelsUnpackWrong)

/-- 'waypointlaw19.LabelsRoundTrip': WHATEVER THE INPUT: true; the input reads as it did. -/
def labelsRoundTripSpec : ChangeSpec := { name := "labelsRoundTrip", fn := fun _ => fun
  | [d1, d2, d3] => { results := [.lit (.bool true)], args := [d1, d2, d3] }
  | _ => none }
def labelsRoundTripRow : OpenClaim := { program := "ytchppfgoaeddlaa", sum := "87e84d7a42c353d464ba83c6201106c9bce9bcc51df8501b0eae5473c755ad65", func := "waypoint/waypointlaw19.LabelsRoundTrip", spec := "labelsRoundTrip", apart := false }
def LabelsRoundTripSaid : Prop := labelsRoundTripRow.holds Try.pinned (OpenSpec.ofChange labelsRoundTripSpec)

/-- ITS FALSE NEIGHBOUR: 'it returns false'. Refute it at one input. -/
def labelsRoundTripWrong : ChangeSpec := { name := "labelsRoundTrip", fn := fun _ => fun
  | [d1, d2, d3] => { results := [.lit (.bool false)], args := [d1, d2, d3] }
  | _ => none }
def LabelsRoundTripWrongFalsely : Prop := labelsRoundTripRow.holds Try.pinned (OpenSpec.ofChange labelsRoundTripWrong)

/-- 'waypointlaw19.LabelsPop': WHATEVER THE INPUT: true; the input reads as it did. -/
def labelsPopSpec : ChangeSpec := { name := "labelsPop", fn := fun _ => fun
  | [d] => { results := [.lit (.bool true)], args := [d] }
  | _ => none }
def labelsPopRow : OpenClaim := { program := "ytchppfgoaeddlaa", sum := "87e84d7a42c353d464ba83c6201106c9bce9bcc51df8501b0eae5473c755ad65", func := "waypoint/waypointlaw19.LabelsPop", spec := "labelsPop", apart := false }
def LabelsPopSaid : Prop := labelsPopRow.holds Try.pinned (OpenSpec.ofChange labelsPopSpec)

/-- ITS FALSE NEIGHBOUR: 'it returns false'. Refute it at one input. -/
def labelsPopWrong : ChangeSpec := { name := "labelsPop", fn := fun _ => fun
  | [d] => { results := [.lit (.bool false)], args := [d] }
  | _ => none }
def LabelsPopWrongFalsely : Prop := labelsPopRow.holds Try.pinned (OpenSpec.ofChange labelsPopWrong)

/-- 'waypointlaw19.LabelsPush': WHATEVER THE INPUT: true; the input reads as it did. -/
def labelsPushSpec : ChangeSpec := { name := "labelsPush", fn := fun _ => fun
  | [d1, d2] => { results := [.lit (.bool true)], args := [d1, d2] }
  | _ => none }
def labelsPushRow : OpenClaim := { program := "ytchppfgoaeddlaa", sum := "87e84d7a42c353d464ba83c6201106c9bce9bcc51df8501b0eae5473c755ad65", func := "waypoint/waypointlaw19.LabelsPush", spec := "labelsPush", apart := false }
def LabelsPushSaid : Prop := labelsPushRow.holds Try.pinned (OpenSpec.ofChange labelsPushSpec)

/-- ITS FALSE NEIGHBOUR: 'it returns false'. Refute it at one input. -/
def labelsPushWrong : ChangeSpec := { name := "labelsPush", fn := fun _ => fun
  | [d1, d2] => { results := [.lit (.bool false)], args := [d1, d2] }
  | _ => none }
def LabelsPushWrongFalsely : Prop := labelsPushRow.holds Try.pinned (OpenSpec.ofChange labelsPushWrong)

/- THE SECOND FORM. 'bulk': how many values and letters a reading holds, each counted each time it is reached (what is shared counts as often as it is met; a slice's spare places count too). A statement '..UptoSaid' is the law's where the arguments, and the package variables that the reading takes, are together of bulk at most 1048576: NARROWER than '..Said'. Prove '..Said' where nothing that the law and all that it calls make is longer than what came in: it says more and counts as full. Else prove '..UptoSaid'. A law counts once. -/
mutual
def uptoBulk {H : Type} : DataW H → Nat
  | .lit (.string bytes) => bytes.length + 1
  | .lit _ => 1
  | .nil => 1
  | .ptr d => uptoBulk d + 1
  | .slice elems spare => uptoBulkAll elems + uptoBulkAll spare + 1
  | .agg parts => uptoBulkAll parts + 1
  | .iface _ d => uptoBulk d + 1
  | .map entries => uptoBulkEntries entries + 1
  | .held _ => 1
def uptoBulkAll {H : Type} : List (DataW H) → Nat
  | [] => 0
  | d :: r => uptoBulk d + uptoBulkAll r
def uptoBulkEntries {H : Type} : List (Lit × DataW H) → Nat
  | [] => 0
  | x :: r => uptoBulkEntry x + uptoBulkEntries r
def uptoBulkEntry {H : Type} : Lit × DataW H → Nat
  | (.string bytes, d) => bytes.length + uptoBulk d + 1
  | (_, d) => uptoBulk d + 1
 end
def uptoSmall : (H : Type) → List (DataW H) → Bool := fun _ ds => decide (uptoBulkAll ds ≤ 1048576)
def OpenSpec.upto (s : _root_.Go.ChangeSpec) : _root_.Go.OpenSpec := { _root_.Go.OpenSpec.ofChange s with cond := some uptoSmall }

/-- 'waypointlaw19.LabelsPack', WHERE WHAT IT READS IS OF BULK AT MOST 1048576: true; the input reads as it did. -/
def labelsPackUptoRow : OpenClaim := { program := "ytchppfgoaeddlaa", sum := "87e84d7a42c353d464ba83c6201106c9bce9bcc51df8501b0eae5473c755ad65", func := "waypoint/waypointlaw19.LabelsPack", spec := "labelsPack", apart := false, narrowed := true }
def LabelsPackUptoSaid : Prop := labelsPackUptoRow.holds Try.pinned (OpenSpec.upto labelsPackSpec)

/-- 'waypointlaw19.LabelsEncode', WHERE WHAT IT READS IS OF BULK AT MOST 1048576: true; the input reads as it did. -/
def labelsEncodeUptoRow : OpenClaim := { program := "ytchppfgoaeddlaa", sum := "87e84d7a42c353d464ba83c6201106c9bce9bcc51df8501b0eae5473c755ad65", func := "waypoint/waypointlaw19.LabelsEncode", spec := "labelsEncode", apart := false, narrowed := true }
def LabelsEncodeUptoSaid : Prop := labelsEncodeUptoRow.holds Try.pinned (OpenSpec.upto labelsEncodeSpec)

/-- 'waypointlaw19.LabelsDecode', WHERE WHAT IT READS IS OF BULK AT MOST 1048576: true; the input reads as it did. -/
def labelsDecodeUptoRow : OpenClaim := { program := "ytchppfgoaeddlaa", sum := "87e84d7a42c353d464ba83c6201106c9bce9bcc51df8501b0eae5473c755ad65", func := "waypoint/waypointlaw19.LabelsDecode", spec := "labelsDecode", apart := false, narrowed := true }
def LabelsDecodeUptoSaid : Prop := labelsDecodeUptoRow.holds Try.pinned (OpenSpec.upto labelsDecodeSpec)

/-- 'waypointlaw19.LabelsUnpack', WHERE WHAT IT READS IS OF BULK AT MOST 1048576: true; the input reads as it did. -/
def labelsUnpackUptoRow : OpenClaim := { program := "ytchppfgoaeddlaa", sum := "87e84d7a42c353d464ba83c6201106c9bce9bcc51df8501b0eae5473c755ad65", func := "waypoint/waypointlaw19.LabelsUnpack", spec := "labelsUnpack", apart := false, narrowed := true }
def LabelsUnpackUptoSaid : Prop := labelsUnpackUptoRow.holds Try.pinned (OpenSpec.upto labelsUnpackSpec)

/-- 'waypointlaw19.LabelsRoundTrip', WHERE WHAT IT READS IS OF BULK AT MOST 1048576: true; the input reads as it did. -/
def labelsRoundTripUptoRow : OpenClaim := { program := "ytchppfgoaeddlaa", sum := "87e84d7a42c353d464ba83c6201106c9bce9bcc51df8501b0eae5473c755ad65", func := "waypoint/waypointlaw19.LabelsRoundTrip", spec := "labelsRoundTrip", apart := false, narrowed := true }
def LabelsRoundTripUptoSaid : Prop := labelsRoundTripUptoRow.holds Try.pinned (OpenSpec.upto labelsRoundTripSpec)

/-- 'waypointlaw19.LabelsPop', WHERE WHAT IT READS IS OF BULK AT MOST 1048576: true; the input reads as it did. -/
def labelsPopUptoRow : OpenClaim := { program := "ytchppfgoaeddlaa", sum := "87e84d7a42c353d464ba83c6201106c9bce9bcc51df8501b0eae5473c755ad65", func := "waypoint/waypointlaw19.LabelsPop", spec := "labelsPop", apart := false, narrowed := true }
def LabelsPopUptoSaid : Prop := labelsPopUptoRow.holds Try.pinned (OpenSpec.upto labelsPopSpec)

/-- 'waypointlaw19.LabelsPush', WHERE WHAT IT READS IS OF BULK AT MOST 1048576: true; the input reads as it did. -/
def labelsPushUptoRow : OpenClaim := { program := "ytchppfgoaeddlaa", sum := "87e84d7a42c353d464ba83c6201106c9bce9bcc51df8501b0eae5473c755ad65", func := "waypoint/waypointlaw19.LabelsPush", spec := "labelsPush", apart := false, narrowed := true }
def LabelsPushUptoSaid : Prop := labelsPushUptoRow.holds Try.pinned (OpenSpec.upto labelsPushSpec)

end Rows
end Go.Proofs.Ytchppfgoaeddlaa
