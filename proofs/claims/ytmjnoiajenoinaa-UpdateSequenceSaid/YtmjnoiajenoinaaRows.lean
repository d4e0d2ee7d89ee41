/-
  No cell of these rows narrows 'for every input' (looked for: loops, veiled, ifaces, maps, wideKeys, modest, calm, conditions, laid).
  DERIVED. THE GIVEN ROWS OF THIS SEAT. 7 by the template 'for every input the law returns true; each argument reads behind the call as it read before'; 0 by the template 'total and deterministic' (their statements: YtmjnoiajenoinaaTotals.lean).
  GIVEN WITH THE SEED: the statements are not yours to turn. If you find one false, say at which input.
  Laid BY PROGRAM, IN A SANDBOX (cutbox-rows.mjs): the forced cells as the released guide's own fill.sh prints them over the translation a2b0c85d15abf8bb… (all of the seat's roots in one cut). By AI agents, Wed Nov 11 2026. No macro, syntax, notation, axiom, sorry.
-/
import Derived.Test.YtmjnoiajenoinaaChecked
import GoSem.Claim
import GoSem.ClaimJoined
import GoSem.ClaimMapViews
import Derived.JoinedTies
import Derived.KernelRfl
namespace Go.Proofs.Ytmjnoiajenoinaa
/- THE CELL 'sum', in the pinned program and in every row, IS THE sha256 OF THE DUMP (.gsa) THAT YtmjnoiajenoinaaProg.lean LOADS. Nothing in Lean hashes anything: it is a label: what it is worth is what the hold of that sum in a sandbox is worth. -/
noncomputable def Try.pinned : Pinned := { name := "ytmjnoiajenoinaa", sum := "a2b0c85d15abf8bbfabbc9364e29fb3566b864655f2ff8e1d03a006af25f54b3", checked := Try.checked }
namespace Rows
def none {H : Type} : Left H := { results := [], args := [] }

/-- 'versionmaplaw29.CompactDoubled': WHATEVER THE INPUT: true; the input reads as it did. -/
def compactDoubledSpec : ChangeSpec := { name := "compactDoubled", fn := fun _ => fun
  | [d] => { results := [.lit (.bool true)], args := [d] }
  | _ => none }
def compactDoubledRow : OpenClaim := { program := "ytmjnoiajenoinaa", sum := "a2b0c85d15abf8bbfabbc9364e29fb3566b864655f2ff8e1d03a006af25f54b3", func := "versionmap/versionmaplaw29.CompactDoubled", spec := "compactDoubled", recurses := true, apart := false }
def CompactDoubledSaid : Prop := compactDoubledRow.holds Try.pinned (OpenSpec.ofChange compactDoubledSpec)

/-- ITS FALSE NEIGHBOUR: 'it returns false'. Refute it at one input. -/
def compactDoubledWrong : ChangeSpec := { name := "compactDoubled", fn := fun _ => fun
  | [d] => { results := [.lit (.bool false)], args := [d] }
  | _ => none }
def CompactDoubledWrongFalsely : Prop := compactDoubledRow.holds Try.pinned (OpenSpec.ofChange compactDoubledWrong)

/-- 'versionmaplaw29.CompactCopies': WHATEVER THE INPUT: true; the input reads as it did. -/
def compactCopiesSpec : ChangeSpec := { name := "compactCopies", fn := fun _ => fun
  | [d1, d2, d3, d4, d5] => { results := [.lit (.bool true)], args := [d1, d2, d3, d4, d5] }
  | _ => none }
def compactCopiesRow : OpenClaim := { program := "ytmjnoiajenoinaa", sum := "a2b0c85d15abf8bbfabbc9364e29fb3566b864655f2ff8e1d03a006af25f54b3", func := "versionmap/versionmaplaw29.CompactCopies", spec := "compactCopies", recurses := true, apart := false }
def CompactCopiesSaid : Prop := compactCopiesRow.holds Try.pinned (OpenSpec.ofChange compactCopiesSpec)

/-- ITS FALSE NEIGHBOUR: 'it returns false'. Refute it at one input. -/
def compactCopiesWrong : ChangeSpec := { name := "compactCopies", fn := fun _ => fun
  | [d1, d2, d3, d4, d5] => { results := [.lit (.bool false)], args := [d1, d2, d3, d4, d5] }
  | _ => none }
def CompactCopiesWrongFalsely : Prop := compactCopiesRow.holds Try.pinned (OpenSpec.ofChange compactCopiesWrong)

/-- 'versionmaplaw14.UpdateSequence': WHATEVER THE INPUT: true; the input reads as it did. -/
def updateSequenceSpec : ChangeSpec := { name := "updateSequence", fn := fun _ => fun
  | [d1, d2] => { results := [.lit (.bool true)], args := [d1, d2] }
  | _ => none }
def updateSequenceRow : OpenClaim := { program := "ytmjnoiajenoinaa", sum := "a2b0c85d15abf8bbfabbc9364e29fb3566b864655f2ff8e1d03a006af25f54b3", func := "versionmap/versionmaplaw14.UpdateSequence", spec := "updateSequence", recurses := true, apart := false }
def UpdateSequenceSaid : Prop := updateSequenceRow.holds Try.pinned (OpenSpec.ofChange updateSequenceSpec)

/-- ITS FALSE NEIGHBOUR: 'it returns false'. Refute it at one input. -/
def updateSequenceWrong : ChangeSpec := { name := "updateSequence", fn := fun _ => fun
  | [d1, d2] => { results := [.lit (.bool false)], args := [d1, d2] }
  | _ => none }
def UpdateSequenceWrongFalsely : Prop := updateSequenceRow.holds Try.pinned (OpenSpec.ofChange updateSequenceWrong)

/-- 'versionmaplaw29.CompactKeepsTrees': WHATEVER THE INPUT: true; the input reads as it did. -/
def compactKeepsTreesSpec : ChangeSpec := { name := "compactKeepsTrees", fn := fun _ => fun
  | [d1, d2, d3] => { results := [.lit (.bool true)], args := [d1, d2, d3] }
  | _ => none }
def compactKeepsTreesRow : OpenClaim := { program := "ytmjnoiajenoinaa", sum := "a2b0c85d15abf8bbfabbc9364e29fb3566b864655f2ff8e1d03a006af25f54b3", func := "versionmap/versionmaplaw29.CompactKeepsTrees", spec := "compactKeepsTrees", recurses := true, apart := false }
def CompactKeepsTreesSaid : Prop := compactKeepsTreesRow.holds Try.pinned (OpenSpec.ofChange compactKeepsTreesSpec)

/-- ITS FALSE NEIGHBOUR: 'it returns false'. Refute it at one input. -/
def compactKeepsTreesWrong : ChangeSpec := { name := "compactKeepsTrees", fn := fun _ => fun
  | [d1, d2, d3] => { results := [.lit (.bool false)], args := [d1, d2, d3] }
  | _ => none }
def CompactKeepsTreesWrongFalsely : Prop := compactKeepsTreesRow.holds Try.pinned (OpenSpec.ofChange compactKeepsTreesWrong)

/-- 'versionmaplaw24.CursorIsStable': WHATEVER THE INPUT: true; the input reads as it did. -/
def cursorIsStableSpec : ChangeSpec := { name := "cursorIsStable", fn := fun _ => fun
  | [d1, d2, d3, d4] => { results := [.lit (.bool true)], args := [d1, d2, d3, d4] }
  | _ => none }
def cursorIsStableRow : OpenClaim := { program := "ytmjnoiajenoinaa", sum := "a2b0c85d15abf8bbfabbc9364e29fb3566b864655f2ff8e1d03a006af25f54b3", func := "versionmap/versionmaplaw24.CursorIsStable", spec := "cursorIsStable", unfollowed := true, recurses := true, apart := false }
def CursorIsStableSaid : Prop := cursorIsStableRow.holds Try.pinned (OpenSpec.ofChange cursorIsStableSpec)

/-- ITS FALSE NEIGHBOUR: 'it returns false'. Refute it at one input. -/
def cursorIsStableWrong : ChangeSpec := { name := "cursorIsStable", fn := fun _ => fun
  | [d1, d2, d3, d4] => { results := [.lit (.bool false)], args := [d1, d2, d3, d4] }
  | _ => none }
def CursorIsStableWrongFalsely : Prop := cursorIsStableRow.holds Try.pinned (OpenSpec.ofChange cursorIsStableWrong)

/-- 'versionmaplaw29.CompactContinues': WHATEVER THE INPUT: true; the input reads as it did. -/
def compactContinuesSpec : ChangeSpec := { name := "compactContinues", fn := fun _ => fun
  | [d1, d2, d3, d4, d5] => { results := [.lit (.bool true)], args := [d1, d2, d3, d4, d5] }
  | _ => none }
def compactContinuesRow : OpenClaim := { program := "ytmjnoiajenoinaa", sum := "a2b0c85d15abf8bbfabbc9364e29fb3566b864655f2ff8e1d03a006af25f54b3", func := "versionmap/versionmaplaw29.CompactContinues", spec := "compactContinues", unfollowed := true, recurses := true, apart := false }
def CompactContinuesSaid : Prop := compactContinuesRow.holds Try.pinned (OpenSpec.ofChange compactContinuesSpec)

/-- ITS FALSE NEIGHBOUR: 'it returns false'. Refute it at one input. -/
def compactContinuesWrong : ChangeSpec := { name := "compactContinues", fn := fun _ => fun
  | [d1, d2, d3, d4, d5] => { results := [.lit (.bool false)], args := [d1, d2, d3, d4, d5] }
  | _ => none }
def CompactContinuesWrongFalsely : Prop := compactContinuesRow.holds Try.pinned (OpenSpec.ofChange compactContinuesWrong)

/-- 'versionmaplaw20.MergeIsRebase': WHATEVER THE INPUT: true; the input reads as it did. -/
def mergeIsRebaseSpec : ChangeSpec := { name := "mergeIsRebase", fn := fun _ => fun
  | [d1, d2, d3, d4] => { results := [.lit (.bool true)], args := [d1, d2, d3, d4] }
  | _ => none }
def mergeIsRebaseRow : OpenClaim := { program := "ytmjnoiajenoinaa", sum := "a2b0c85d15abf8bbfabbc9364e29fb3566b864655f2ff8e1d03a006af25f54b3", func := "versionmap/versionmaplaw20.MergeIsRebase", spec := "mergeIsRebase", unfollowed := true, recurses := true, apart := false }
def MergeIsRebaseSaid : Prop := mergeIsRebaseRow.holds Try.pinned (OpenSpec.ofChange mergeIsRebaseSpec)

/-- ITS FALSE NEIGHBOUR: 'it returns false'. Refute it at one input. -/
def mergeIsRebaseWrong : ChangeSpec := { name := "mergeIsRebase", fn := fun _ => fun
  | [d1, d2, d3, d4] => { results := [.lit (.bool false)], args := [d1, d2, d3, d4] }
  | _ => none }
def MergeIsRebaseWrongFalsely : Prop := mergeIsRebaseRow.holds Try.pinned (OpenSpec.ofChange mergeIsRebaseWrong)

/- THE SECOND FORM. 'bulk': how many values and letters a reading holds, each counted each time it is reached (what is shared counts as often as it is met; a slice's spare places count too). A statement '..UptoSaid' is the law's where the arguments, and the package variables that the reading takes, are together of bulk at most 1048576: NARROWER than '..Said'. Prove '..Said' where nothing that the law and all that it calls make is longer than what came in: it says more and counts as full. Else prove '..UptoSaid'. A law counts once. -/
mutual
def uptoBulk {H : Type} : DataW H → Nat
  | .lit (.string bytes) => bytes.length + 1
  | .lit _ => 1
  | .nil => 1
  | .ptr d => uptoBulk d + 1
  | .slice elems spare => uptoBulkAll elems + uptoBulkAll spare + 1
  | .agg parts => uptoBulkAll parts + 1
  | .iface _ d => uptoBulk d + 1
  | .map entries => uptoBulkEntries entries + 1
  | .held _ => 1
def uptoBulkAll {H : Type} : List (DataW H) → Nat
  | [] => 0
  | d :: r => uptoBulk d + uptoBulkAll r
def uptoBulkEntries {H : Type} : List (Lit × DataW H) → Nat
  | [] => 0
  | x :: r => uptoBulkEntry x + uptoBulkEntries r
def uptoBulkEntry {H : Type} : Lit × DataW H → Nat
  | (.string bytes, d) => bytes.length + uptoBulk d + 1
  | (_, d) => uptoBulk d + 1
 end
def uptoSmall : (H : Type) → List (DataW H) → Bool := fun _ ds => decide (uptoBulkAll ds ≤ 1048576)
def OpenSpec.upto (s : _root_.Go.ChangeSpec) : _root_.Go.OpenSpec := { _root_.Go.OpenSpec.ofChange s with cond := some uptoSmall }

/-- 'versionmaplaw29.CompactDoubled', WHERE WHAT IT READS IS OF BULK AT MOST 1048576: true; the input reads as it did. -/
def compactDoubledUptoRow : OpenClaim := { program := "ytmjnoiajenoinaa", sum := "a2b0c85d15abf8bbfabbc9364e29fb3566b864655f2ff8e1d03a006af25f54b3", func := "versionmap/versionmaplaw29.CompactDoubled", spec := "compactDoubled", recurses := true, apart := false, narrowed := true }
def CompactDoubledUptoSaid : Prop := compactDoubledUptoRow.holds Try.pinned (OpenSpec.upto compactDoubledSpec)

/-- 'versionmaplaw29.CompactCopies', WHERE WHAT IT READS IS OF BULK AT MOST 1048576: true; the input reads as it did. -/
def compactCopiesUptoRow : OpenClaim := { program := "ytmjnoiajenoinaa", sum := "a2b0c85d15abf8bbfabbc9364e29fb3566b864655f2ff8e1d03a006af25f54b3", func := "versionmap/versionmaplaw29.CompactCopies", spec := "compactCopies", recurses := true, apart := false, narrowed := true }
def CompactCopiesUptoSaid : Prop := compactCopiesUptoRow.holds Try.pinned (OpenSpec.upto compactCopiesSpec)

/-- 'versionmaplaw14.UpdateSequence', WHERE WHAT IT READS IS OF BULK AT MOST 1048576: true; the input reads as it did. -/
def updateSequenceUptoRow : OpenClaim := { program := "ytmjnoiajenoinaa", sum := "a2b0c85d15abf8bbfabbc9364e29fb3566b864655f2ff8e1d03a006af25f54b3", func := "versionmap/versionmaplaw14.UpdateSequence", spec := "updateSequence", recurses := true, apart := false, narrowed := true }
def UpdateSequenceUptoSaid : Prop := updateSequenceUptoRow.holds Try.pinned (OpenSpec.upto updateSequenceSpec)

/-- 'versionmaplaw29.CompactKeepsTrees', WHERE WHAT IT READS IS OF BULK AT MOST 1048576: true; the input reads as it did. -/
def compactKeepsTreesUptoRow : OpenClaim := { program := "ytmjnoiajenoinaa", sum := "a2b0c85d15abf8bbfabbc9364e29fb3566b864655f2ff8e1d03a006af25f54b3", func := "versionmap/versionmaplaw29.CompactKeepsTrees", spec := "compactKeepsTrees", recurses := true, apart := false, narrowed := true }
def CompactKeepsTreesUptoSaid : Prop := compactKeepsTreesUptoRow.holds Try.pinned (OpenSpec.upto compactKeepsTreesSpec)

/-- 'versionmaplaw24.CursorIsStable', WHERE WHAT IT READS IS OF BULK AT MOST 1048576: true; the input reads as it did. -/
def cursorIsStableUptoRow : OpenClaim := { program := "ytmjnoiajenoinaa", sum := "a2b0c85d15abf8bbfabbc9364e29fb3566b864655f2ff8e1d03a006af25f54b3", func := "versionmap/versionmaplaw24.CursorIsStable", spec := "cursorIsStable", unfollowed := true, recurses := true, apart := false, narrowed := true }
def CursorIsStableUptoSaid : Prop := cursorIsStableUptoRow.holds Try.pinned (OpenSpec.upto cursorIsStableSpec)

/-- 'versionmaplaw29.CompactContinues', WHERE WHAT IT READS IS OF BULK AT MOST 1048576: true; the input reads as it did. -/
def compactContinuesUptoRow : OpenClaim := { program := "ytmjnoiajenoinaa", sum := "a2b0c85d15abf8bbfabbc9364e29fb3566b864655f2ff8e1d03a006af25f54b3", func := "versionmap/versionmaplaw29.CompactContinues", spec := "compactContinues", unfollowed := true, recurses := true, apart := false, narrowed := true }
def CompactContinuesUptoSaid : Prop := compactContinuesUptoRow.holds Try.pinned (OpenSpec.upto compactContinuesSpec)

/-- 'versionmaplaw20.MergeIsRebase', WHERE WHAT IT READS IS OF BULK AT MOST 1048576: true; the input reads as it did. -/
def mergeIsRebaseUptoRow : OpenClaim := { program := "ytmjnoiajenoinaa", sum := "a2b0c85d15abf8bbfabbc9364e29fb3566b864655f2ff8e1d03a006af25f54b3", func := "versionmap/versionmaplaw20.MergeIsRebase", spec := "mergeIsRebase", unfollowed := true, recurses := true, apart := false, narrowed := true }
def MergeIsRebaseUptoSaid : Prop := mergeIsRebaseUptoRow.holds Try.pinned (OpenSpec.upto mergeIsRebaseSpec)

end Rows
end Go.Proofs.Ytmjnoiajenoinaa
