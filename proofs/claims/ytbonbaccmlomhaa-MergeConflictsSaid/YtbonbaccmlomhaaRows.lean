/-
  No cell of these rows narrows 'for every input' (looked for: loops, veiled, ifaces, maps, wideKeys, modest, calm, conditions, laid).
  DERIVED. THE GIVEN ROWS OF THIS SEAT. 11 by the template 'for every input the law returns true; each argument reads behind the call as it read before'; 0 by the template 'total and deterministic' (their statements: YtbonbaccmlomhaaTotals.lean).
  GIVEN WITH THE SEED: the statements are not yours to turn. If you find one false, say at which input.
  Laid BY PROGRAM, IN A SANDBOX (cutbox-rows.mjs): the forced cells as the released guide's own fill.sh prints them over the translation a0b1280215397ebc… (all of the seat's roots in one cut). By AI agents, Wed Nov 11 2026. No macro, syntax, notation, axiom, sorry.
-/
import Derived.Test.YtbonbaccmlomhaaChecked
import GoSem.Claim
import GoSem.ClaimJoined
import GoSem.ClaimMapViews
import Derived.JoinedTies
import Derived.KernelRfl
namespace Go.Proofs.Ytbonbaccmlomhaa
/- THE CELL 'sum', in the pinned program and in every row, IS THE sha256 OF THE DUMP (.gsa) THAT YtbonbaccmlomhaaProg.lean LOADS. Nothing in Lean hashes anything: it is a label: what it is worth is what the hold of that sum in a sandbox is worth. -/
noncomputable def Try.pinned : Pinned := { name := "ytbonbaccmlomhaa", sum := "a0b1280215397ebce0560dcab4c7fb1bfc5e5ac85981d5ea0d3073a730eb111c", checked := Try.checked }
namespace Rows
def none {H : Type} : Left H := { results := [], args := [] }

/-- 'versionmaplaw18.DiffIsExact': WHATEVER THE INPUT: true; the input reads as it did. -/
def diffIsExactSpec : ChangeSpec := { name := "diffIsExact", fn := fun _ => fun
  | [d1, d2, d3, d4] => { results := [.lit (.bool true)], args := [d1, d2, d3, d4] }
  | _ => none }
def diffIsExactRow : OpenClaim := { program := "ytbonbaccmlomhaa", sum := "a0b1280215397ebce0560dcab4c7fb1bfc5e5ac85981d5ea0d3073a730eb111c", func := "versionmap/versionmaplaw18.DiffIsExact", spec := "diffIsExact", unfollowed := true, recurses := true, apart := false }
def DiffIsExactSaid : Prop := diffIsExactRow.holds Try.pinned (OpenSpec.ofChange diffIsExactSpec)

/-- ITS FALSE NEIGHBOUR: 'it returns false'. Refute it at one input. -/
def diffIsExactWrong : ChangeSpec := { name := "diffIsExact", fn := fun _ => fun
  | [d1, d2, d3, d4] => { results := [.lit (.bool false)], args := [d1, d2, d3, d4] }
  | _ => none }
def DiffIsExactWrongFalsely : Prop := diffIsExactRow.holds Try.pinned (OpenSpec.ofChange diffIsExactWrong)

/-- 'versionmaplaw18.DiffReverses': WHATEVER THE INPUT: true; the input reads as it did. -/
def diffReversesSpec : ChangeSpec := { name := "diffReverses", fn := fun _ => fun
  | [d1, d2, d3] => { results := [.lit (.bool true)], args := [d1, d2, d3] }
  | _ => none }
def diffReversesRow : OpenClaim := { program := "ytbonbaccmlomhaa", sum := "a0b1280215397ebce0560dcab4c7fb1bfc5e5ac85981d5ea0d3073a730eb111c", func := "versionmap/versionmaplaw18.DiffReverses", spec := "diffReverses", unfollowed := true, recurses := true, apart := false }
def DiffReversesSaid : Prop := diffReversesRow.holds Try.pinned (OpenSpec.ofChange diffReversesSpec)

/-- ITS FALSE NEIGHBOUR: 'it returns false'. Refute it at one input. -/
def diffReversesWrong : ChangeSpec := { name := "diffReverses", fn := fun _ => fun
  | [d1, d2, d3] => { results := [.lit (.bool false)], args := [d1, d2, d3] }
  | _ => none }
def DiffReversesWrongFalsely : Prop := diffReversesRow.holds Try.pinned (OpenSpec.ofChange diffReversesWrong)

/-- 'versionmaplaw16.SetopsUnion': WHATEVER THE INPUT: true; the input reads as it did. -/
def setopsUnionSpec : ChangeSpec := { name := "setopsUnion", fn := fun _ => fun
  | [d1, d2, d3, d4, d5, d6] => { results := [.lit (.bool true)], args := [d1, d2, d3, d4, d5, d6] }
  | _ => none }
def setopsUnionRow : OpenClaim := { program := "ytbonbaccmlomhaa", sum := "a0b1280215397ebce0560dcab4c7fb1bfc5e5ac85981d5ea0d3073a730eb111c", func := "versionmap/versionmaplaw16.SetopsUnion", spec := "setopsUnion", recurses := true, apart := false }
def SetopsUnionSaid : Prop := setopsUnionRow.holds Try.pinned (OpenSpec.ofChange setopsUnionSpec)

/-- ITS FALSE NEIGHBOUR: 'it returns false'. Refute it at one input. -/
def setopsUnionWrong : ChangeSpec := { name := "setopsUnion", fn := fun _ => fun
  | [d1, d2, d3, d4, d5, d6] => { results := [.lit (.bool false)], args := [d1, d2, d3, d4, d5, d6] }
  | _ => none }
def SetopsUnionWrongFalsely : Prop := setopsUnionRow.holds Try.pinned (OpenSpec.ofChange setopsUnionWrong)

/-- 'versionmaplaw18.DiffAgrees': WHATEVER THE INPUT: true; the input reads as it did. -/
def diffAgreesSpec : ChangeSpec := { name := "diffAgrees", fn := fun _ => fun
  | [d1, d2, d3, d4, d5] => { results := [.lit (.bool true)], args := [d1, d2, d3, d4, d5] }
  | _ => none }
def diffAgreesRow : OpenClaim := { program := "ytbonbaccmlomhaa", sum := "a0b1280215397ebce0560dcab4c7fb1bfc5e5ac85981d5ea0d3073a730eb111c", func := "versionmap/versionmaplaw18.DiffAgrees", spec := "diffAgrees", unfollowed := true, recurses := true, apart := false }
def DiffAgreesSaid : Prop := diffAgreesRow.holds Try.pinned (OpenSpec.ofChange diffAgreesSpec)

/-- ITS FALSE NEIGHBOUR: 'it returns false'. Refute it at one input. -/
def diffAgreesWrong : ChangeSpec := { name := "diffAgrees", fn := fun _ => fun
  | [d1, d2, d3, d4, d5] => { results := [.lit (.bool false)], args := [d1, d2, d3, d4, d5] }
  | _ => none }
def DiffAgreesWrongFalsely : Prop := diffAgreesRow.holds Try.pinned (OpenSpec.ofChange diffAgreesWrong)

/-- 'versionmaplaw16.SetopsIntersect': WHATEVER THE INPUT: true; the input reads as it did. -/
def setopsIntersectSpec : ChangeSpec := { name := "setopsIntersect", fn := fun _ => fun
  | [d1, d2, d3, d4, d5, d6] => { results := [.lit (.bool true)], args := [d1, d2, d3, d4, d5, d6] }
  | _ => none }
def setopsIntersectRow : OpenClaim := { program := "ytbonbaccmlomhaa", sum := "a0b1280215397ebce0560dcab4c7fb1bfc5e5ac85981d5ea0d3073a730eb111c", func := "versionmap/versionmaplaw16.SetopsIntersect", spec := "setopsIntersect", recurses := true, apart := false }
def SetopsIntersectSaid : Prop := setopsIntersectRow.holds Try.pinned (OpenSpec.ofChange setopsIntersectSpec)

/-- ITS FALSE NEIGHBOUR: 'it returns false'. Refute it at one input. -/
def setopsIntersectWrong : ChangeSpec := { name := "setopsIntersect", fn := fun _ => fun
  | [d1, d2, d3, d4, d5, d6] => { results := [.lit (.bool false)], args := [d1, d2, d3, d4, d5, d6] }
  | _ => none }
def SetopsIntersectWrongFalsely : Prop := setopsIntersectRow.holds Try.pinned (OpenSpec.ofChange setopsIntersectWrong)

/-- 'versionmaplaw16.SetopsDistribute': WHATEVER THE INPUT: true; the input reads as it did. -/
def setopsDistributeSpec : ChangeSpec := { name := "setopsDistribute", fn := fun _ => fun
  | [d1, d2, d3] => { results := [.lit (.bool true)], args := [d1, d2, d3] }
  | _ => none }
def setopsDistributeRow : OpenClaim := { program := "ytbonbaccmlomhaa", sum := "a0b1280215397ebce0560dcab4c7fb1bfc5e5ac85981d5ea0d3073a730eb111c", func := "versionmap/versionmaplaw16.SetopsDistribute", spec := "setopsDistribute", recurses := true, apart := false }
def SetopsDistributeSaid : Prop := setopsDistributeRow.holds Try.pinned (OpenSpec.ofChange setopsDistributeSpec)

/-- ITS FALSE NEIGHBOUR: 'it returns false'. Refute it at one input. -/
def setopsDistributeWrong : ChangeSpec := { name := "setopsDistribute", fn := fun _ => fun
  | [d1, d2, d3] => { results := [.lit (.bool false)], args := [d1, d2, d3] }
  | _ => none }
def SetopsDistributeWrongFalsely : Prop := setopsDistributeRow.holds Try.pinned (OpenSpec.ofChange setopsDistributeWrong)

/-- 'versionmaplaw16.SetopsSubtract': WHATEVER THE INPUT: true; the input reads as it did. -/
def setopsSubtractSpec : ChangeSpec := { name := "setopsSubtract", fn := fun _ => fun
  | [d1, d2, d3, d4, d5, d6] => { results := [.lit (.bool true)], args := [d1, d2, d3, d4, d5, d6] }
  | _ => none }
def setopsSubtractRow : OpenClaim := { program := "ytbonbaccmlomhaa", sum := "a0b1280215397ebce0560dcab4c7fb1bfc5e5ac85981d5ea0d3073a730eb111c", func := "versionmap/versionmaplaw16.SetopsSubtract", spec := "setopsSubtract", recurses := true, apart := false }
def SetopsSubtractSaid : Prop := setopsSubtractRow.holds Try.pinned (OpenSpec.ofChange setopsSubtractSpec)

/-- ITS FALSE NEIGHBOUR: 'it returns false'. Refute it at one input. -/
def setopsSubtractWrong : ChangeSpec := { name := "setopsSubtract", fn := fun _ => fun
  | [d1, d2, d3, d4, d5, d6] => { results := [.lit (.bool false)], args := [d1, d2, d3, d4, d5, d6] }
  | _ => none }
def SetopsSubtractWrongFalsely : Prop := setopsSubtractRow.holds Try.pinned (OpenSpec.ofChange setopsSubtractWrong)

/-- 'versionmaplaw20.MergeUnchangedSide': WHATEVER THE INPUT: true; the input reads as it did. -/
def mergeUnchangedSideSpec : ChangeSpec := { name := "mergeUnchangedSide", fn := fun _ => fun
  | [d1, d2, d3, d4, d5, d6] => { results := [.lit (.bool true)], args := [d1, d2, d3, d4, d5, d6] }
  | _ => none }
def mergeUnchangedSideRow : OpenClaim := { program := "ytbonbaccmlomhaa", sum := "a0b1280215397ebce0560dcab4c7fb1bfc5e5ac85981d5ea0d3073a730eb111c", func := "versionmap/versionmaplaw20.MergeUnchangedSide", spec := "mergeUnchangedSide", unfollowed := true, recurses := true, apart := false }
def MergeUnchangedSideSaid : Prop := mergeUnchangedSideRow.holds Try.pinned (OpenSpec.ofChange mergeUnchangedSideSpec)

/-- ITS FALSE NEIGHBOUR: 'it returns false'. Refute it at one input. -/
def mergeUnchangedSideWrong : ChangeSpec := { name := "mergeUnchangedSide", fn := fun _ => fun
  | [d1, d2, d3, d4, d5, d6] => { results := [.lit (.bool false)], args := [d1, d2, d3, d4, d5, d6] }
  | _ => none }
def MergeUnchangedSideWrongFalsely : Prop := mergeUnchangedSideRow.holds Try.pinned (OpenSpec.ofChange mergeUnchangedSideWrong)

/-- 'versionmaplaw16.SetopsAlgebra': WHATEVER THE INPUT: true; the input reads as it did. -/
def setopsAlgebraSpec : ChangeSpec := { name := "setopsAlgebra", fn := fun _ => fun
  | [d1, d2, d3, d4] => { results := [.lit (.bool true)], args := [d1, d2, d3, d4] }
  | _ => none }
def setopsAlgebraRow : OpenClaim := { program := "ytbonbaccmlomhaa", sum := "a0b1280215397ebce0560dcab4c7fb1bfc5e5ac85981d5ea0d3073a730eb111c", func := "versionmap/versionmaplaw16.SetopsAlgebra", spec := "setopsAlgebra", recurses := true, apart := false }
def SetopsAlgebraSaid : Prop := setopsAlgebraRow.holds Try.pinned (OpenSpec.ofChange setopsAlgebraSpec)

/-- ITS FALSE NEIGHBOUR: 'it returns false'. Refute it at one input. -/
def setopsAlgebraWrong : ChangeSpec := { name := "setopsAlgebra", fn := fun _ => fun
  | [d1, d2, d3, d4] => { results := [.lit (.bool false)], args := [d1, d2, d3, d4] }
  | _ => none }
def SetopsAlgebraWrongFalsely : Prop := setopsAlgebraRow.holds Try.pinned (OpenSpec.ofChange setopsAlgebraWrong)

/-- 'versionmaplaw20.MergeIsSymmetric': WHATEVER THE INPUT: true; the input reads as it did. -/
def mergeIsSymmetricSpec : ChangeSpec := { name := "mergeIsSymmetric", fn := fun _ => fun
  | [d1, d2, d3, d4] => { results := [.lit (.bool true)], args := [d1, d2, d3, d4] }
  | _ => none }
def mergeIsSymmetricRow : OpenClaim := { program := "ytbonbaccmlomhaa", sum := "a0b1280215397ebce0560dcab4c7fb1bfc5e5ac85981d5ea0d3073a730eb111c", func := "versionmap/versionmaplaw20.MergeIsSymmetric", spec := "mergeIsSymmetric", unfollowed := true, recurses := true, apart := false }
def MergeIsSymmetricSaid : Prop := mergeIsSymmetricRow.holds Try.pinned (OpenSpec.ofChange mergeIsSymmetricSpec)

/-- ITS FALSE NEIGHBOUR: 'it returns false'. Refute it at one input. -/
def mergeIsSymmetricWrong : ChangeSpec := { name := "mergeIsSymmetric", fn := fun _ => fun
  | [d1, d2, d3, d4] => { results := [.lit (.bool false)], args := [d1, d2, d3, d4] }
  | _ => none }
def MergeIsSymmetricWrongFalsely : Prop := mergeIsSymmetricRow.holds Try.pinned (OpenSpec.ofChange mergeIsSymmetricWrong)

/-- 'versionmaplaw20.MergeConflicts': WHATEVER THE INPUT: true; the input reads as it did. -/
def mergeConflictsSpec : ChangeSpec := { name := "mergeConflicts", fn := fun _ => fun
  | [d1, d2, d3, d4, d5, d6, d7] => { results := [.lit (.bool true)], args := [d1, d2, d3, d4, d5, d6, d7] }
  | _ => none }
def mergeConflictsRow : OpenClaim := { program := "ytbonbaccmlomhaa", sum := "a0b1280215397ebce0560dcab4c7fb1bfc5e5ac85981d5ea0d3073a730eb111c", func := "versionmap/versionmaplaw20.MergeConflicts", spec := "mergeConflicts", unfollowed := true, recurses := true, apart := false }
def MergeConflictsSaid : Prop := mergeConflictsRow.holds Try.pinned (OpenSpec.ofChange mergeConflictsSpec)

/-- ITS FALSE NEIGHBOUR: 'it returns false'. Refute it at one input. -/
def mergeConflictsWrong : ChangeSpec := { name := "mergeConflicts", fn := fun _ => fun
  | [d1, d2, d3, d4, d5, d6, d7] => { results := [.lit (.bool false)], args := [d1, d2, d3, d4, d5, d6, d7] }
  | _ => none }
def MergeConflictsWrongFalsely : Prop := mergeConflictsRow.holds Try.pinned (OpenSpec.ofChange mergeConflictsWrong)

/- THE SECOND FORM. 'bulk': how many values and letters a reading holds, each counted each time it is reached (what is shared counts as often as it is met; a slice's spare places count too). A statement '..UptoSaid' is the law's where the arguments, and the package variables that the reading takes, are together of bulk at most 1048576: NARROWER than '..Said'. Prove '..Said' where nothing that the law and all that it calls make is longer than what came in: it says more and counts as full. Else prove '..UptoSaid'. A law counts once. -/
mutual
def uptoBulk {H : Type} : DataW H → Nat
  | .lit (.string bytes) => bytes.length + 1
  | .lit _ => 1
  | .nil => 1
  | .ptr d => uptoBulk d + 1
  | .slice elems spare => uptoBulkAll elems + uptoBulkAll spare + 1
  | .agg parts => uptoBulkAll parts + 1
  | .iface _ d => uptoBulk d + 1
  | .map entries => uptoBulkEntries entries + 1
  | .held _ => 1
def uptoBulkAll {H : Type} : List (DataW H) → Nat
  | [] => 0
  | d :: r => uptoBulk d + uptoBulkAll r
def uptoBulkEntries {H : Type} : List (Lit × DataW H) → Nat
  | [] => 0
  | x :: r => uptoBulkEntry x + uptoBulkEntries r
def uptoBulkEntry {H : Type} : Lit × DataW H → Nat
  | (.string bytes, d) => bytes.length + uptoBulk d + 1
  | (_, d) => uptoBulk d + 1
 end
def uptoSmall : (H : Type) → List (DataW H) → Bool := fun _ ds => decide (uptoBulkAll ds ≤ 1048576)
def OpenSpec.upto (s : _root_.Go.ChangeSpec) : _root_.Go.OpenSpec := { _root_.Go.OpenSpec.ofChange s with cond := some uptoSmall }

/-- 'versionmaplaw18.DiffIsExact', WHERE WHAT IT READS IS OF BULK AT MOST 1048576: true; the input reads as it did. -/
def diffIsExactUptoRow : OpenClaim := { program := "ytbonbaccmlomhaa", sum := "a0b1280215397ebce0560dcab4c7fb1bfc5e5ac85981d5ea0d3073a730eb111c", func := "versionmap/versionmaplaw18.DiffIsExact", spec := "diffIsExact", unfollowed := true, recurses := true, apart := false, narrowed := true }
def DiffIsExactUptoSaid : Prop := diffIsExactUptoRow.holds Try.pinned (OpenSpec.upto diffIsExactSpec)

/-- 'versionmaplaw18.DiffReverses', WHERE WHAT IT READS IS OF BULK AT MOST 1048576: true; the input reads as it did. -/
def diffReversesUptoRow : OpenClaim := { program := "ytbonbaccmlomhaa", sum := "a0b1280215397ebce0560dcab4c7fb1bfc5e5ac85981d5ea0d3073a730eb111c", func := "versionmap/versionmaplaw18.DiffReverses", spec := "diffReverses", unfollowed := true, recurses := true, apart := false, narrowed := true }
def DiffReversesUptoSaid : Prop := diffReversesUptoRow.holds Try.pinned (OpenSpec.upto diffReversesSpec)

/-- 'versionmaplaw16.SetopsUnion', WHERE WHAT IT READS IS OF BULK AT MOST 1048576: true; the input reads as it did. -/
def setopsUnionUptoRow : OpenClaim := { program := "ytbonbaccmlomhaa", sum := "a0b1280215397ebce0560dcab4c7fb1bfc5e5ac85981d5ea0d3073a730eb111c", func := "versionmap/versionmaplaw16.SetopsUnion", spec := "setopsUnion", recurses := true, apart := false, narrowed := true }
def SetopsUnionUptoSaid : Prop := setopsUnionUptoRow.holds Try.pinned (OpenSpec.upto setopsUnionSpec)

/-- 'versionmaplaw18.DiffAgrees', WHERE WHAT IT READS IS OF BULK AT MOST 1048576: true; the input reads as it did. -/
def diffAgreesUptoRow : OpenClaim := { program := "ytbonbaccmlomhaa", sum := "a0b1280215397ebce0560dcab4c7fb1bfc5e5ac85981d5ea0d3073a730eb111c", func := "versionmap/versionmaplaw18.DiffAgrees", spec := "diffAgrees", unfollowed := true, recurses := true, apart := false, narrowed := true }
def DiffAgreesUptoSaid : Prop := diffAgreesUptoRow.holds Try.pinned (OpenSpec.upto diffAgreesSpec)

/-- 'versionmaplaw16.SetopsIntersect', WHERE WHAT IT READS IS OF BULK AT MOST 1048576: true; the input reads as it did. -/
def setopsIntersectUptoRow : OpenClaim := { program := "ytbonbaccmlomhaa", sum := "a0b1280215397ebce0560dcab4c7fb1bfc5e5ac85981d5ea0d3073a730eb111c", func := "versionmap/versionmaplaw16.SetopsIntersect", spec := "setopsIntersect", recurses := true, apart := false, narrowed := true }
def SetopsIntersectUptoSaid : Prop := setopsIntersectUptoRow.holds Try.pinned (OpenSpec.upto setopsIntersectSpec)

/-- 'versionmaplaw16.SetopsDistribute', WHERE WHAT IT READS IS OF BULK AT MOST 1048576: true; the input reads as it did. -/
def setopsDistributeUptoRow : OpenClaim := { program := "ytbonbaccmlomhaa", sum := "a0b1280215397ebce0560dcab4c7fb1bfc5e5ac85981d5ea0d3073a730eb111c", func := "versionmap/versionmaplaw16.SetopsDistribute", spec := "setopsDistribute", recurses := true, apart := false, narrowed := true }
def SetopsDistributeUptoSaid : Prop := setopsDistributeUptoRow.holds Try.pinned (OpenSpec.upto setopsDistributeSpec)

/-- 'versionmaplaw16.SetopsSubtract', WHERE WHAT IT READS IS OF BULK AT MOST 1048576: true; the input reads as it did. -/
def setopsSubtractUptoRow : OpenClaim := { program := "ytbonbaccmlomhaa", sum := "a0b1280215397ebce0560dcab4c7fb1bfc5e5ac85981d5ea0d3073a730eb111c", func := "versionmap/versionmaplaw16.SetopsSubtract", spec := "setopsSubtract", recurses := true, apart := false, narrowed := true }
def SetopsSubtractUptoSaid : Prop := setopsSubtractUptoRow.holds Try.pinned (OpenSpec.upto setopsSubtractSpec)

/-- 'versionmaplaw20.MergeUnchangedSide', WHERE WHAT IT READS IS OF BULK AT MOST 1048576: true; the input reads as it did. -/
def mergeUnchangedSideUptoRow : OpenClaim := { program := "ytbonbaccmlomhaa", sum := "a0b1280215397ebce0560dcab4c7fb1bfc5e5ac85981d5ea0d3073a730eb111c", func := "versionmap/versionmaplaw20.MergeUnchangedSide", spec := "mergeUnchangedSide", unfollowed := true, recurses := true, apart := false, narrowed := true }
def MergeUnchangedSideUptoSaid : Prop := mergeUnchangedSideUptoRow.holds Try.pinned (OpenSpec.upto mergeUnchangedSideSpec)

/-- 'versionmaplaw16.SetopsAlgebra', WHERE WHAT IT READS IS OF BULK AT MOST 1048576: true; the input reads as it did. -/
def setopsAlgebraUptoRow : OpenClaim := { program := "ytbonbaccmlomhaa", sum := "a0b1280215397ebce0560dcab4c7fb1bfc5e5ac85981d5ea0d3073a730eb111c", func := "versionmap/versionmaplaw16.SetopsAlgebra", spec := "setopsAlgebra", recurses := true, apart := false, narrowed := true }
def SetopsAlgebraUptoSaid : Prop := setopsAlgebraUptoRow.holds Try.pinned (OpenSpec.upto setopsAlgebraSpec)

/-- 'versionmaplaw20.MergeIsSymmetric', WHERE WHAT IT READS IS OF BULK AT MOST 1048576: true; the input reads as it did. -/
def mergeIsSymmetricUptoRow : OpenClaim := { program := "ytbonbaccmlomhaa", sum := "a0b1280215397ebce0560dcab4c7fb1bfc5e5ac85981d5ea0d3073a730eb111c", func := "versionmap/versionmaplaw20.MergeIsSymmetric", spec := "mergeIsSymmetric", unfollowed := true, recurses := true, apart := false, narrowed := true }
def MergeIsSymmetricUptoSaid : Prop := mergeIsSymmetricUptoRow.holds Try.pinned (OpenSpec.upto mergeIsSymmetricSpec)

/-- 'versionmaplaw20.MergeConflicts', WHERE WHAT IT READS IS OF BULK AT MOST 1048576: true; the input reads as it did. -/
def mergeConflictsUptoRow : OpenClaim := { program := "ytbonbaccmlomhaa", sum := "a0b1280215397ebce0560dcab4c7fb1bfc5e5ac85981d5ea0d3073a730eb111c", func := "versionmap/versionmaplaw20.MergeConflicts", spec := "mergeConflicts", unfollowed := true, recurses := true, apart := false, narrowed := true }
def MergeConflictsUptoSaid : Prop := mergeConflictsUptoRow.holds Try.pinned (OpenSpec.upto mergeConflictsSpec)

end Rows
end Go.Proofs.Ytbonbaccmlomhaa
