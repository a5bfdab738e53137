/-
  No cell of these rows narrows 'for every input' (looked for: loops, veiled, ifaces, maps, wideKeys, modest, calm, conditions, laid).
  DERIVED. THE GIVEN ROWS OF THIS SEAT. 7 by the template 'for every input the law returns true; each argument reads behind the call as it read before'; 0 by the template 'total and deterministic' (their statements: YtcmgfmpmapnckaaTotals.lean).
  GIVEN WITH THE SEED: the statements are not yours to turn. If you find one false, say at which input.
  Laid BY PROGRAM, IN A SANDBOX (cutbox-rows.mjs): the forced cells as the released guide's own fill.sh prints them over the translation deb5a5ec1dee9872… (all of the seat's roots in one cut). By AI agents, Wed Nov 11 2026. No macro, syntax, notation, axiom, sorry.
-/
import Derived.Test.YtcmgfmpmapnckaaChecked
import GoSem.Claim
import GoSem.ClaimJoined
import GoSem.ClaimMapViews
import Derived.JoinedTies
import Derived.KernelRfl
namespace Go.Proofs.Ytcmgfmpmapnckaa
/- THE CELL 'sum', in the pinned program and in every row, IS THE sha256 OF THE DUMP (.gsa) THAT YtcmgfmpmapnckaaProg.lean LOADS. Nothing in Lean hashes anything: it is a label: what it is worth is what the hold of that sum in a sandbox is worth. -/
noncomputable def Try.pinned : Pinned := { name := "ytcmgfmpmapnckaa", sum := "deb5a5ec1dee9872afeef6e99bb1a1ce5a1538f482e17a5e5d409256d19b65e9", checked := Try.checked }
namespace Rows
def none {H : Type} : Left H := { results := [], args := [] }

/-- 'gueritelaw06.SegmentEncodes': WHATEVER THE INPUT: true; the input reads as it did. -/
def segmentEncodesSpec : ChangeSpec := { name := "segmentEncodes", fn := fun _ => fun
  | [d1, d2, d3, d4] => { results := [.lit (.bool true)], args := [d1, d2, d3, d4] }
  | _ => none }
def segmentEncodesRow : OpenClaim := { program := "ytcmgfmpmapnckaa", sum := "deb5a5ec1dee9872afeef6e99bb1a1ce5a1538f482e17a5e5d409256d19b65e9", func := "guerite/gueritelaw06.SegmentEncodes", spec := "segmentEncodes", inPlace := ["internal/abi.NoEscape"], unfollowed := true, recurses := true, plainKeys := false, apart := false }
def SegmentEncodesSaid : Prop := segmentEncodesRow.holds Try.pinned (OpenSpec.ofChange segmentEncodesSpec)

/-- ITS FALSE NEIGHBOUR: 'it returns false'. Refute it at one input. -/
def segmentEncodesWrong : ChangeSpec := { name := "segmentEncodes", fn := fun _ => fun
  | [d1, d2, d3, d4] => { results := [.lit (.bool false)], args := [d1, d2, d3, d4] }
  | _ => none }
def SegmentEncodesWrongFalsely : Prop := segmentEncodesRow.holds Try.pinned (OpenSpec.ofChange segmentEncodesWrong)

/-- 'gueritelaw06.SegmentBent': WHATEVER THE INPUT: true; the input reads as it did. -/
def segmentBentSpec : ChangeSpec := { name := "segmentBent", fn := fun _ => fun
  | [d1, d2, d3, d4, d5] => { results := [.lit (.bool true)], args := [d1, d2, d3, d4, d5] }
  | _ => none }
def segmentBentRow : OpenClaim := { program := "ytcmgfmpmapnckaa", sum := "deb5a5ec1dee9872afeef6e99bb1a1ce5a1538f482e17a5e5d409256d19b65e9", func := "guerite/gueritelaw06.SegmentBent", spec := "segmentBent", inPlace := ["internal/abi.NoEscape"], unfollowed := true, recurses := true, plainKeys := false, apart := false }
def SegmentBentSaid : Prop := segmentBentRow.holds Try.pinned (OpenSpec.ofChange segmentBentSpec)

/-- ITS FALSE NEIGHBOUR: 'it returns false'. Refute it at one input. -/
def segmentBentWrong : ChangeSpec := { name := "segmentBent", fn := fun _ => fun
  | [d1, d2, d3, d4, d5] => { results := [.lit (.bool false)], args := [d1, d2, d3, d4, d5] }
  | _ => none }
def SegmentBentWrongFalsely : Prop := segmentBentRow.holds Try.pinned (OpenSpec.ofChange segmentBentWrong)

/-- 'gueritelaw06.SegmentParses': WHATEVER THE INPUT: true; the input reads as it did. -/
def segmentParsesSpec : ChangeSpec := { name := "segmentParses", fn := fun _ => fun
  | [d1, d2, d3, d4] => { results := [.lit (.bool true)], args := [d1, d2, d3, d4] }
  | _ => none }
def segmentParsesRow : OpenClaim := { program := "ytcmgfmpmapnckaa", sum := "deb5a5ec1dee9872afeef6e99bb1a1ce5a1538f482e17a5e5d409256d19b65e9", func := "guerite/gueritelaw06.SegmentParses", spec := "segmentParses", inPlace := ["internal/abi.NoEscape"], unfollowed := true, recurses := true, plainKeys := false, apart := false }
def SegmentParsesSaid : Prop := segmentParsesRow.holds Try.pinned (OpenSpec.ofChange segmentParsesSpec)

/-- ITS FALSE NEIGHBOUR: 'it returns false'. Refute it at one input. -/
def segmentParsesWrong : ChangeSpec := { name := "segmentParses", fn := fun _ => fun
  | [d1, d2, d3, d4] => { results := [.lit (.bool false)], args := [d1, d2, d3, d4] }
  | _ => none }
def SegmentParsesWrongFalsely : Prop := segmentParsesRow.holds Try.pinned (OpenSpec.ofChange segmentParsesWrong)

/-- 'gueritelaw37.AlarmTops': WHATEVER THE INPUT: true; the input reads as it did. -/
def alarmTopsSpec : ChangeSpec := { name := "alarmTops", fn := fun _ => fun
  | [d1, d2, d3] => { results := [.lit (.bool true)], args := [d1, d2, d3] }
  | _ => none }
def alarmTopsRow : OpenClaim := { program := "ytcmgfmpmapnckaa", sum := "deb5a5ec1dee9872afeef6e99bb1a1ce5a1538f482e17a5e5d409256d19b65e9", func := "guerite/gueritelaw37.AlarmTops", spec := "alarmTops", unfollowed := true, recurses := true, plainKeys := false, apart := false }
def AlarmTopsSaid : Prop := alarmTopsRow.holds Try.pinned (OpenSpec.ofChange alarmTopsSpec)

/-- ITS FALSE NEIGHBOUR: 'it returns false'. Refute it at one input. -/
def alarmTopsWrong : ChangeSpec := { name := "alarmTops", fn := fun _ => fun
  | [d1, d2, d3] => { results := [.lit (.bool false)], args := [d1, d2, d3] }
  | _ => none }
def AlarmTopsWrongFalsely : Prop := alarmTopsRow.holds Try.pinned (OpenSpec.ofChange alarmTopsWrong)

/-- 'gueritelaw21.SplitCuts': WHATEVER THE INPUT: true; the input reads as it did. -/
def splitCutsSpec : ChangeSpec := { name := "splitCuts", fn := fun _ => fun
  | [d1, d2] => { results := [.lit (.bool true)], args := [d1, d2] }
  | _ => none }
def splitCutsRow : OpenClaim := { program := "ytcmgfmpmapnckaa", sum := "deb5a5ec1dee9872afeef6e99bb1a1ce5a1538f482e17a5e5d409256d19b65e9", func := "guerite/gueritelaw21.SplitCuts", spec := "splitCuts", inPlace := ["internal/abi.NoEscape"], unfollowed := true, recurses := true, plainKeys := false, apart := false }
def SplitCutsSaid : Prop := splitCutsRow.holds Try.pinned (OpenSpec.ofChange splitCutsSpec)

/-- ITS FALSE NEIGHBOUR: 'it returns false'. Refute it at one input. -/
def splitCutsWrong : ChangeSpec := { name := "splitCuts", fn := fun _ => fun
  | [d1, d2] => { results := [.lit (.bool false)], args := [d1, d2] }
  | _ => none }
def SplitCutsWrongFalsely : Prop := splitCutsRow.holds Try.pinned (OpenSpec.ofChange splitCutsWrong)

/-- 'gueritelaw19.HoleOrders': WHATEVER THE INPUT: true; the input reads as it did. -/
def holeOrdersSpec : ChangeSpec := { name := "holeOrders", fn := fun _ => fun
  | [d1, d2, d3] => { results := [.lit (.bool true)], args := [d1, d2, d3] }
  | _ => none }
def holeOrdersRow : OpenClaim := { program := "ytcmgfmpmapnckaa", sum := "deb5a5ec1dee9872afeef6e99bb1a1ce5a1538f482e17a5e5d409256d19b65e9", func := "guerite/gueritelaw19.HoleOrders", spec := "holeOrders", inPlace := ["internal/abi.NoEscape"], unfollowed := true, recurses := true, plainKeys := false, apart := false }
def HoleOrdersSaid : Prop := holeOrdersRow.holds Try.pinned (OpenSpec.ofChange holeOrdersSpec)

/-- ITS FALSE NEIGHBOUR: 'it returns false'. Refute it at one input. -/
def holeOrdersWrong : ChangeSpec := { name := "holeOrders", fn := fun _ => fun
  | [d1, d2, d3] => { results := [.lit (.bool false)], args := [d1, d2, d3] }
  | _ => none }
def HoleOrdersWrongFalsely : Prop := holeOrdersRow.holds Try.pinned (OpenSpec.ofChange holeOrdersWrong)

/-- 'gueritelaw19.HoleSums': WHATEVER THE INPUT: true; the input reads as it did. -/
def holeSumsSpec : ChangeSpec := { name := "holeSums", fn := fun _ => fun
  | [d] => { results := [.lit (.bool true)], args := [d] }
  | _ => none }
def holeSumsRow : OpenClaim := { program := "ytcmgfmpmapnckaa", sum := "deb5a5ec1dee9872afeef6e99bb1a1ce5a1538f482e17a5e5d409256d19b65e9", func := "guerite/gueritelaw19.HoleSums", spec := "holeSums", inPlace := ["internal/abi.NoEscape"], unfollowed := true, recurses := true, plainKeys := false, apart := false }
def HoleSumsSaid : Prop := holeSumsRow.holds Try.pinned (OpenSpec.ofChange holeSumsSpec)

/-- ITS FALSE NEIGHBOUR: 'it returns false'. Refute it at one input. -/
def holeSumsWrong : ChangeSpec := { name := "holeSums", fn := fun _ => fun
  | [d] => { results := [.lit (.bool false)], args := [d] }
  | _ => none }
def HoleSumsWrongFalsely : Prop := holeSumsRow.holds Try.pinned (OpenSpec.ofChange holeSumsWrong)

/- THE SECOND FORM. 'bulk': how many values and letters a reading holds, each counted each time it is reached (what is shared counts as often as it is met; a slice's spare places count too). A statement '..UptoSaid' is the law's where the arguments, and the package variables that the reading takes, are together of bulk at most 1048576: NARROWER than '..Said'. Prove '..Said' where nothing that the law and all that it calls make is longer than what came in: it says more and counts as full. Else prove '..UptoSaid'. A law counts once. -/
mutual
def uptoBulk {H : Type} : DataW H → Nat
  | .lit (.string bytes) => bytes.length + 1
  | .lit _ => 1
  | .nil => 1
  | .ptr d => uptoBulk d + 1
  | .slice elems spare => uptoBulkAll elems + uptoBulkAll spare + 1
  | .agg parts => uptoBulkAll parts + 1
  | .iface _ d => uptoBulk d + 1
  | .map entries => uptoBulkEntries entries + 1
  | .held _ => 1
def uptoBulkAll {H : Type} : List (DataW H) → Nat
  | [] => 0
  | d :: r => uptoBulk d + uptoBulkAll r
def uptoBulkEntries {H : Type} : List (Lit × DataW H) → Nat
  | [] => 0
  | x :: r => uptoBulkEntry x + uptoBulkEntries r
def uptoBulkEntry {H : Type} : Lit × DataW H → Nat
  | (.string bytes, d) => bytes.length + uptoBulk d + 1
  | (_, d) => uptoBulk d + 1
 end
def uptoSmall : (H : Type) → List (DataW H) → Bool := fun _ ds => decide (uptoBulkAll ds ≤ 1048576)
def OpenSpec.upto (s : _root_.Go.ChangeSpec) : _root_.Go.OpenSpec := { _root_.Go.OpenSpec.ofChange s with cond := some uptoSmall }

/-- 'gueritelaw06.SegmentEncodes', WHERE WHAT IT READS IS OF BULK AT MOST 1048576: true; the input reads as it did. -/
def segmentEncodesUptoRow : OpenClaim := { program := "ytcmgfmpmapnckaa", sum := "deb5a5ec1dee9872afeef6e99bb1a1ce5a1538f482e17a5e5d409256d19b65e9", func := "guerite/gueritelaw06.SegmentEncodes", spec := "segmentEncodes", inPlace := ["internal/abi.NoEscape"], unfollowed := true, recurses := true, plainKeys := false, apart := false, narrowed := true }
def SegmentEncodesUptoSaid : Prop := segmentEncodesUptoRow.holds Try.pinned (OpenSpec.upto segmentEncodesSpec)

/-- 'gueritelaw06.SegmentBent', WHERE WHAT IT READS IS OF BULK AT MOST 1048576: true; the input reads as it did. -/
def segmentBentUptoRow : OpenClaim := { program := "ytcmgfmpmapnckaa", sum := "deb5a5ec1dee9872afeef6e99bb1a1ce5a1538f482e17a5e5d409256d19b65e9", func := "guerite/gueritelaw06.SegmentBent", spec := "segmentBent", inPlace := ["internal/abi.NoEscape"], unfollowed := true, recurses := true, plainKeys := false, apart := false, narrowed := true }
def SegmentBentUptoSaid : Prop := segmentBentUptoRow.holds Try.pinned (OpenSpec.upto segmentBentSpec)

/-- 'gueritelaw06.SegmentParses', WHERE WHAT IT READS IS OF BULK AT MOST 1048576: true; the input reads as it did. -/
def segmentParsesUptoRow : OpenClaim := { program := "ytcmgfmpmapnckaa", sum := "deb5a5ec1dee9872afeef6e99bb1a1ce5a1538f482e17a5e5d409256d19b65e9", func := "guerite/gueritelaw06.SegmentParses", spec := "segmentParses", inPlace := ["internal/abi.NoEscape"], unfollowed := true, recurses := true, plainKeys := false, apart := false, narrowed := true }
def SegmentParsesUptoSaid : Prop := segmentParsesUptoRow.holds Try.pinned (OpenSpec.upto segmentParsesSpec)

/-- 'gueritelaw37.AlarmTops', WHERE WHAT IT READS IS OF BULK AT MOST 1048576: true; the input reads as it did. -/
def alarmTopsUptoRow : OpenClaim := { program := "ytcmgfmpmapnckaa", sum := "deb5a5ec1dee9872afeef6e99bb1a1ce5a1538f482e17a5e5d409256d19b65e9", func := "guerite/gueritelaw37.AlarmTops", spec := "alarmTops", unfollowed := true, recurses := true, plainKeys := false, apart := false, narrowed := true }
def AlarmTopsUptoSaid : Prop := alarmTopsUptoRow.holds Try.pinned (OpenSpec.upto alarmTopsSpec)

/-- 'gueritelaw21.SplitCuts', WHERE WHAT IT READS IS OF BULK AT MOST 1048576: true; the input reads as it did. -/
def splitCutsUptoRow : OpenClaim := { program := "ytcmgfmpmapnckaa", sum := "deb5a5ec1dee9872afeef6e99bb1a1ce5a1538f482e17a5e5d409256d19b65e9", func := "guerite/gueritelaw21.SplitCuts", spec := "splitCuts", inPlace := ["internal/abi.NoEscape"], unfollowed := true, recurses := true, plainKeys := false, apart := false, narrowed := true }
def SplitCutsUptoSaid : Prop := splitCutsUptoRow.holds Try.pinned (OpenSpec.upto splitCutsSpec)

/-- 'gueritelaw19.HoleOrders', WHERE WHAT IT READS IS OF BULK AT MOST 1048576: true; the input reads as it did. -/
def holeOrdersUptoRow : OpenClaim := { program := "ytcmgfmpmapnckaa", sum := "deb5a5ec1dee9872afeef6e99bb1a1ce5a1538f482e17a5e5d409256d19b65e9", func := "guerite/gueritelaw19.HoleOrders", spec := "holeOrders", inPlace := ["internal/abi.NoEscape"], unfollowed := true, recurses := true, plainKeys := false, apart := false, narrowed := true }
def HoleOrdersUptoSaid : Prop := holeOrdersUptoRow.holds Try.pinned (OpenSpec.upto holeOrdersSpec)

/-- 'gueritelaw19.HoleSums', WHERE WHAT IT READS IS OF BULK AT MOST 1048576: true; the input reads as it did. -/
def holeSumsUptoRow : OpenClaim := { program := "ytcmgfmpmapnckaa", sum := "deb5a5ec1dee9872afeef6e99bb1a1ce5a1538f482e17a5e5d409256d19b65e9", func := "guerite/gueritelaw19.HoleSums", spec := "holeSums", inPlace := ["internal/abi.NoEscape"], unfollowed := true, recurses := true, plainKeys := false, apart := false, narrowed := true }
def HoleSumsUptoSaid : Prop := holeSumsUptoRow.holds Try.pinned (OpenSpec.upto holeSumsSpec)

end Rows
end Go.Proofs.Ytcmgfmpmapnckaa
