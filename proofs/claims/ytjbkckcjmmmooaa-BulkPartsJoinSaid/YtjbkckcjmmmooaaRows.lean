/-
  No cell of these rows narrows 'for every input' (looked for: loops, veiled, ifaces, maps, wideKeys, modest, calm, conditions, laid).
  DERIVED. THE GIVEN ROWS OF THIS SEAT. 12 by the template 'for every input the law returns true; each argument reads behind the call as it read before'; 0 by the template 'total and deterministic' (their statements: YtjbkckcjmmmooaaTotals.lean).
  GIVEN WITH THE SEED: the statements are not yours to turn. If you find one false, say at which input.
  Laid BY PROGRAM, IN A SANDBOX (cutbox-rows.mjs): the forced cells as the released guide's own fill.sh prints them over the translation 9cc0f820246f4ac7… (all of the seat's roots in one cut). By AI agents, Wed Nov 11 2026. No macro, syntax, notation, axiom, sorry.
-/
import Derived.Test.YtjbkckcjmmmooaaChecked
import GoSem.Claim
import GoSem.ClaimJoined
import GoSem.ClaimMapViews
import Derived.JoinedTies
import Derived.KernelRfl
namespace Go.Proofs.Ytjbkckcjmmmooaa
/- THE CELL 'sum', in the pinned program and in every row, IS THE sha256 OF THE DUMP (.gsa) THAT YtjbkckcjmmmooaaProg.lean LOADS. Nothing in Lean hashes anything: it is a label: what it is worth is what the hold of that sum in a sandbox is worth. -/
noncomputable def Try.pinned : Pinned := { name := "ytjbkckcjmmmooaa", sum := "9cc0f820246f4ac7224ba1f36661dd856e8a1a2d7e51ec609a5e01b3dafe5d33", checked := Try.checked }
namespace Rows
def none {H : Type} : Left H := { results := [], args := [] }

/-- 'versionmaplaw14.UpdateShares': WHATEVER THE INPUT: true; the input reads as it did. -/
def updateSharesSpec : ChangeSpec := { name := "updateShares", fn := fun _ => fun
  | [d1, d2, d3, d4] => { results := [.lit (.bool true)], args := [d1, d2, d3, d4] }
  | _ => none }
def updateSharesRow : OpenClaim := { program := "ytjbkckcjmmmooaa", sum := "9cc0f820246f4ac7224ba1f36661dd856e8a1a2d7e51ec609a5e01b3dafe5d33", func := "versionmap/versionmaplaw14.UpdateShares", spec := "updateShares", recurses := true, apart := false }
def UpdateSharesSaid : Prop := updateSharesRow.holds Try.pinned (OpenSpec.ofChange updateSharesSpec)

/-- ITS FALSE NEIGHBOUR: 'it returns false'. Refute it at one input. -/
def updateSharesWrong : ChangeSpec := { name := "updateShares", fn := fun _ => fun
  | [d1, d2, d3, d4] => { results := [.lit (.bool false)], args := [d1, d2, d3, d4] }
  | _ => none }
def UpdateSharesWrongFalsely : Prop := updateSharesRow.holds Try.pinned (OpenSpec.ofChange updateSharesWrong)

/-- 'versionmaplaw14.UpdateSequence': WHATEVER THE INPUT: true; the input reads as it did. -/
def updateSequenceSpec : ChangeSpec := { name := "updateSequence", fn := fun _ => fun
  | [d1, d2] => { results := [.lit (.bool true)], args := [d1, d2] }
  | _ => none }
def updateSequenceRow : OpenClaim := { program := "ytjbkckcjmmmooaa", sum := "9cc0f820246f4ac7224ba1f36661dd856e8a1a2d7e51ec609a5e01b3dafe5d33", func := "versionmap/versionmaplaw14.UpdateSequence", spec := "updateSequence", recurses := true, apart := false }
def UpdateSequenceSaid : Prop := updateSequenceRow.holds Try.pinned (OpenSpec.ofChange updateSequenceSpec)

/-- ITS FALSE NEIGHBOUR: 'it returns false'. Refute it at one input. -/
def updateSequenceWrong : ChangeSpec := { name := "updateSequence", fn := fun _ => fun
  | [d1, d2] => { results := [.lit (.bool false)], args := [d1, d2] }
  | _ => none }
def UpdateSequenceWrongFalsely : Prop := updateSequenceRow.holds Try.pinned (OpenSpec.ofChange updateSequenceWrong)

/-- 'versionmaplaw14.UpdateCommutes': WHATEVER THE INPUT: true; the input reads as it did. -/
def updateCommutesSpec : ChangeSpec := { name := "updateCommutes", fn := fun _ => fun
  | [d1, d2, d3, d4, d5] => { results := [.lit (.bool true)], args := [d1, d2, d3, d4, d5] }
  | _ => none }
def updateCommutesRow : OpenClaim := { program := "ytjbkckcjmmmooaa", sum := "9cc0f820246f4ac7224ba1f36661dd856e8a1a2d7e51ec609a5e01b3dafe5d33", func := "versionmap/versionmaplaw14.UpdateCommutes", spec := "updateCommutes", recurses := true, apart := false }
def UpdateCommutesSaid : Prop := updateCommutesRow.holds Try.pinned (OpenSpec.ofChange updateCommutesSpec)

/-- ITS FALSE NEIGHBOUR: 'it returns false'. Refute it at one input. -/
def updateCommutesWrong : ChangeSpec := { name := "updateCommutes", fn := fun _ => fun
  | [d1, d2, d3, d4, d5] => { results := [.lit (.bool false)], args := [d1, d2, d3, d4, d5] }
  | _ => none }
def UpdateCommutesWrongFalsely : Prop := updateCommutesRow.holds Try.pinned (OpenSpec.ofChange updateCommutesWrong)

/-- 'versionmaplaw14.UpdateInserts': WHATEVER THE INPUT: true; the input reads as it did. -/
def updateInsertsSpec : ChangeSpec := { name := "updateInserts", fn := fun _ => fun
  | [d1, d2, d3, d4, d5] => { results := [.lit (.bool true)], args := [d1, d2, d3, d4, d5] }
  | _ => none }
def updateInsertsRow : OpenClaim := { program := "ytjbkckcjmmmooaa", sum := "9cc0f820246f4ac7224ba1f36661dd856e8a1a2d7e51ec609a5e01b3dafe5d33", func := "versionmap/versionmaplaw14.UpdateInserts", spec := "updateInserts", recurses := true, apart := false }
def UpdateInsertsSaid : Prop := updateInsertsRow.holds Try.pinned (OpenSpec.ofChange updateInsertsSpec)

/-- ITS FALSE NEIGHBOUR: 'it returns false'. Refute it at one input. -/
def updateInsertsWrong : ChangeSpec := { name := "updateInserts", fn := fun _ => fun
  | [d1, d2, d3, d4, d5] => { results := [.lit (.bool false)], args := [d1, d2, d3, d4, d5] }
  | _ => none }
def UpdateInsertsWrongFalsely : Prop := updateInsertsRow.holds Try.pinned (OpenSpec.ofChange updateInsertsWrong)

/-- 'versionmaplaw14.UpdateDeletes': WHATEVER THE INPUT: true; the input reads as it did. -/
def updateDeletesSpec : ChangeSpec := { name := "updateDeletes", fn := fun _ => fun
  | [d1, d2, d3, d4, d5] => { results := [.lit (.bool true)], args := [d1, d2, d3, d4, d5] }
  | _ => none }
def updateDeletesRow : OpenClaim := { program := "ytjbkckcjmmmooaa", sum := "9cc0f820246f4ac7224ba1f36661dd856e8a1a2d7e51ec609a5e01b3dafe5d33", func := "versionmap/versionmaplaw14.UpdateDeletes", spec := "updateDeletes", recurses := true, apart := false }
def UpdateDeletesSaid : Prop := updateDeletesRow.holds Try.pinned (OpenSpec.ofChange updateDeletesSpec)

/-- ITS FALSE NEIGHBOUR: 'it returns false'. Refute it at one input. -/
def updateDeletesWrong : ChangeSpec := { name := "updateDeletes", fn := fun _ => fun
  | [d1, d2, d3, d4, d5] => { results := [.lit (.bool false)], args := [d1, d2, d3, d4, d5] }
  | _ => none }
def UpdateDeletesWrongFalsely : Prop := updateDeletesRow.holds Try.pinned (OpenSpec.ofChange updateDeletesWrong)

/-- 'versionmaplaw13.JoinUndoesSplit': WHATEVER THE INPUT: true; the input reads as it did. -/
def joinUndoesSplitSpec : ChangeSpec := { name := "joinUndoesSplit", fn := fun _ => fun
  | [d1, d2, d3] => { results := [.lit (.bool true)], args := [d1, d2, d3] }
  | _ => none }
def joinUndoesSplitRow : OpenClaim := { program := "ytjbkckcjmmmooaa", sum := "9cc0f820246f4ac7224ba1f36661dd856e8a1a2d7e51ec609a5e01b3dafe5d33", func := "versionmap/versionmaplaw13.JoinUndoesSplit", spec := "joinUndoesSplit", unfollowed := true, recurses := true, apart := false }
def JoinUndoesSplitSaid : Prop := joinUndoesSplitRow.holds Try.pinned (OpenSpec.ofChange joinUndoesSplitSpec)

/-- ITS FALSE NEIGHBOUR: 'it returns false'. Refute it at one input. -/
def joinUndoesSplitWrong : ChangeSpec := { name := "joinUndoesSplit", fn := fun _ => fun
  | [d1, d2, d3] => { results := [.lit (.bool false)], args := [d1, d2, d3] }
  | _ => none }
def JoinUndoesSplitWrongFalsely : Prop := joinUndoesSplitRow.holds Try.pinned (OpenSpec.ofChange joinUndoesSplitWrong)

/-- 'versionmaplaw13.JoinJoins': WHATEVER THE INPUT: true; the input reads as it did. -/
def joinJoinsSpec : ChangeSpec := { name := "joinJoins", fn := fun _ => fun
  | [d1, d2, d3, d4, d5, d6, d7] => { results := [.lit (.bool true)], args := [d1, d2, d3, d4, d5, d6, d7] }
  | _ => none }
def joinJoinsRow : OpenClaim := { program := "ytjbkckcjmmmooaa", sum := "9cc0f820246f4ac7224ba1f36661dd856e8a1a2d7e51ec609a5e01b3dafe5d33", func := "versionmap/versionmaplaw13.JoinJoins", spec := "joinJoins", unfollowed := true, recurses := true, apart := false }
def JoinJoinsSaid : Prop := joinJoinsRow.holds Try.pinned (OpenSpec.ofChange joinJoinsSpec)

/-- ITS FALSE NEIGHBOUR: 'it returns false'. Refute it at one input. -/
def joinJoinsWrong : ChangeSpec := { name := "joinJoins", fn := fun _ => fun
  | [d1, d2, d3, d4, d5, d6, d7] => { results := [.lit (.bool false)], args := [d1, d2, d3, d4, d5, d6, d7] }
  | _ => none }
def JoinJoinsWrongFalsely : Prop := joinJoinsRow.holds Try.pinned (OpenSpec.ofChange joinJoinsWrong)

/-- 'versionmaplaw13.JoinSplits': WHATEVER THE INPUT: true; the input reads as it did. -/
def joinSplitsSpec : ChangeSpec := { name := "joinSplits", fn := fun _ => fun
  | [d1, d2, d3, d4, d5] => { results := [.lit (.bool true)], args := [d1, d2, d3, d4, d5] }
  | _ => none }
def joinSplitsRow : OpenClaim := { program := "ytjbkckcjmmmooaa", sum := "9cc0f820246f4ac7224ba1f36661dd856e8a1a2d7e51ec609a5e01b3dafe5d33", func := "versionmap/versionmaplaw13.JoinSplits", spec := "joinSplits", unfollowed := true, recurses := true, apart := false }
def JoinSplitsSaid : Prop := joinSplitsRow.holds Try.pinned (OpenSpec.ofChange joinSplitsSpec)

/-- ITS FALSE NEIGHBOUR: 'it returns false'. Refute it at one input. -/
def joinSplitsWrong : ChangeSpec := { name := "joinSplits", fn := fun _ => fun
  | [d1, d2, d3, d4, d5] => { results := [.lit (.bool false)], args := [d1, d2, d3, d4, d5] }
  | _ => none }
def JoinSplitsWrongFalsely : Prop := joinSplitsRow.holds Try.pinned (OpenSpec.ofChange joinSplitsWrong)

/-- 'versionmaplaw14.UpdateIncreases': WHATEVER THE INPUT: true; the input reads as it did. -/
def updateIncreasesSpec : ChangeSpec := { name := "updateIncreases", fn := fun _ => fun
  | [d1, d2, d3, d4, d5] => { results := [.lit (.bool true)], args := [d1, d2, d3, d4, d5] }
  | _ => none }
def updateIncreasesRow : OpenClaim := { program := "ytjbkckcjmmmooaa", sum := "9cc0f820246f4ac7224ba1f36661dd856e8a1a2d7e51ec609a5e01b3dafe5d33", func := "versionmap/versionmaplaw14.UpdateIncreases", spec := "updateIncreases", recurses := true, apart := false }
def UpdateIncreasesSaid : Prop := updateIncreasesRow.holds Try.pinned (OpenSpec.ofChange updateIncreasesSpec)

/-- ITS FALSE NEIGHBOUR: 'it returns false'. Refute it at one input. -/
def updateIncreasesWrong : ChangeSpec := { name := "updateIncreases", fn := fun _ => fun
  | [d1, d2, d3, d4, d5] => { results := [.lit (.bool false)], args := [d1, d2, d3, d4, d5] }
  | _ => none }
def UpdateIncreasesWrongFalsely : Prop := updateIncreasesRow.holds Try.pinned (OpenSpec.ofChange updateIncreasesWrong)

/-- 'versionmaplaw13.JoinConcatenates': WHATEVER THE INPUT: true; the input reads as it did. -/
def joinConcatenatesSpec : ChangeSpec := { name := "joinConcatenates", fn := fun _ => fun
  | [d1, d2, d3, d4, d5, d6] => { results := [.lit (.bool true)], args := [d1, d2, d3, d4, d5, d6] }
  | _ => none }
def joinConcatenatesRow : OpenClaim := { program := "ytjbkckcjmmmooaa", sum := "9cc0f820246f4ac7224ba1f36661dd856e8a1a2d7e51ec609a5e01b3dafe5d33", func := "versionmap/versionmaplaw13.JoinConcatenates", spec := "joinConcatenates", unfollowed := true, recurses := true, apart := false }
def JoinConcatenatesSaid : Prop := joinConcatenatesRow.holds Try.pinned (OpenSpec.ofChange joinConcatenatesSpec)

/-- ITS FALSE NEIGHBOUR: 'it returns false'. Refute it at one input. -/
def joinConcatenatesWrong : ChangeSpec := { name := "joinConcatenates", fn := fun _ => fun
  | [d1, d2, d3, d4, d5, d6] => { results := [.lit (.bool false)], args := [d1, d2, d3, d4, d5, d6] }
  | _ => none }
def JoinConcatenatesWrongFalsely : Prop := joinConcatenatesRow.holds Try.pinned (OpenSpec.ofChange joinConcatenatesWrong)

/-- 'versionmaplaw15.BulkCuts': WHATEVER THE INPUT: true; the input reads as it did. -/
def bulkCutsSpec : ChangeSpec := { name := "bulkCuts", fn := fun _ => fun
  | [d1, d2, d3, d4, d5, d6, d7, d8] => { results := [.lit (.bool true)], args := [d1, d2, d3, d4, d5, d6, d7, d8] }
  | _ => none }
def bulkCutsRow : OpenClaim := { program := "ytjbkckcjmmmooaa", sum := "9cc0f820246f4ac7224ba1f36661dd856e8a1a2d7e51ec609a5e01b3dafe5d33", func := "versionmap/versionmaplaw15.BulkCuts", spec := "bulkCuts", unfollowed := true, recurses := true, apart := false }
def BulkCutsSaid : Prop := bulkCutsRow.holds Try.pinned (OpenSpec.ofChange bulkCutsSpec)

/-- ITS FALSE NEIGHBOUR: 'it returns false'. Refute it at one input. -/
def bulkCutsWrong : ChangeSpec := { name := "bulkCuts", fn := fun _ => fun
  | [d1, d2, d3, d4, d5, d6, d7, d8] => { results := [.lit (.bool false)], args := [d1, d2, d3, d4, d5, d6, d7, d8] }
  | _ => none }
def BulkCutsWrongFalsely : Prop := bulkCutsRow.holds Try.pinned (OpenSpec.ofChange bulkCutsWrong)

/-- 'versionmaplaw15.BulkPartsJoin': WHATEVER THE INPUT: true; the input reads as it did. -/
def bulkPartsJoinSpec : ChangeSpec := { name := "bulkPartsJoin", fn := fun _ => fun
  | [d1, d2, d3, d4] => { results := [.lit (.bool true)], args := [d1, d2, d3, d4] }
  | _ => none }
def bulkPartsJoinRow : OpenClaim := { program := "ytjbkckcjmmmooaa", sum := "9cc0f820246f4ac7224ba1f36661dd856e8a1a2d7e51ec609a5e01b3dafe5d33", func := "versionmap/versionmaplaw15.BulkPartsJoin", spec := "bulkPartsJoin", unfollowed := true, recurses := true, apart := false }
def BulkPartsJoinSaid : Prop := bulkPartsJoinRow.holds Try.pinned (OpenSpec.ofChange bulkPartsJoinSpec)

/-- ITS FALSE NEIGHBOUR: 'it returns false'. Refute it at one input. -/
def bulkPartsJoinWrong : ChangeSpec := { name := "bulkPartsJoin", fn := fun _ => fun
  | [d1, d2, d3, d4] => { results := [.lit (.bool false)], args := [d1, d2, d3, d4] }
  | _ => none }
def BulkPartsJoinWrongFalsely : Prop := bulkPartsJoinRow.holds Try.pinned (OpenSpec.ofChange bulkPartsJoinWrong)

/- THE SECOND FORM. 'bulk': how many values and letters a reading holds, each counted each time it is reached (what is shared counts as often as it is met; a slice's spare places count too). A statement '..UptoSaid' is the law's where the arguments, and the package variables that the reading takes, are together of bulk at most 1048576: NARROWER than '..Said'. Prove '..Said' where nothing that the law and all that it calls make is longer than what came in: it says more and counts as full. Else prove '..UptoSaid'. A law counts once. -/
mutual
def uptoBulk {H : Type} : DataW H → Nat
  | .lit (.string bytes) => bytes.length + 1
  | .lit _ => 1
  | .nil => 1
  | .ptr d => uptoBulk d + 1
  | .slice elems spare => uptoBulkAll elems + uptoBulkAll spare + 1
  | .agg parts => uptoBulkAll parts + 1
  | .iface _ d => uptoBulk d + 1
  | .map entries => uptoBulkEntries entries + 1
  | .held _ => 1
def uptoBulkAll {H : Type} : List (DataW H) → Nat
  | [] => 0
  | d :: r => uptoBulk d + uptoBulkAll r
def uptoBulkEntries {H : Type} : List (Lit × DataW H) → Nat
  | [] => 0
  | x :: r => uptoBulkEntry x + uptoBulkEntries r
def uptoBulkEntry {H : Type} : Lit × DataW H → Nat
  | (.string bytes, d) => bytes.length + uptoBulk d + 1
  | (_, d) => uptoBulk d + 1
 end
def uptoSmall : (H : Type) → List (DataW H) → Bool := fun _ ds => decide (uptoBulkAll ds ≤ 1048576)
def OpenSpec.upto (s : _root_.Go.ChangeSpec) : _root_.Go.OpenSpec := { _root_.Go.OpenSpec.ofChange s with cond := some uptoSmall }

/-- 'versionmaplaw14.UpdateShares', WHERE WHAT IT READS IS OF BULK AT MOST 1048576: true; the input reads as it did. -/
def updateSharesUptoRow : OpenClaim := { program := "ytjbkckcjmmmooaa", sum := "9cc0f820246f4ac7224ba1f36661dd856e8a1a2d7e51ec609a5e01b3dafe5d33", func := "versionmap/versionmaplaw14.UpdateShares", spec := "updateShares", recurses := true, apart := false, narrowed := true }
def UpdateSharesUptoSaid : Prop := updateSharesUptoRow.holds Try.pinned (OpenSpec.upto updateSharesSpec)

/-- 'versionmaplaw14.UpdateSequence', WHERE WHAT IT READS IS OF BULK AT MOST 1048576: true; the input reads as it did. -/
def updateSequenceUptoRow : OpenClaim := { program := "ytjbkckcjmmmooaa", sum := "9cc0f820246f4ac7224ba1f36661dd856e8a1a2d7e51ec609a5e01b3dafe5d33", func := "versionmap/versionmaplaw14.UpdateSequence", spec := "updateSequence", recurses := true, apart := false, narrowed := true }
def UpdateSequenceUptoSaid : Prop := updateSequenceUptoRow.holds Try.pinned (OpenSpec.upto updateSequenceSpec)

/-- 'versionmaplaw14.UpdateCommutes', WHERE WHAT IT READS IS OF BULK AT MOST 1048576: true; the input reads as it did. -/
def updateCommutesUptoRow : OpenClaim := { program := "ytjbkckcjmmmooaa", sum := "9cc0f820246f4ac7224ba1f36661dd856e8a1a2d7e51ec609a5e01b3dafe5d33", func := "versionmap/versionmaplaw14.UpdateCommutes", spec := "updateCommutes", recurses := true, apart := false, narrowed := true }
def UpdateCommutesUptoSaid : Prop := updateCommutesUptoRow.holds Try.pinned (OpenSpec.upto updateCommutesSpec)

/-- 'versionmaplaw14.UpdateInserts', WHERE WHAT IT READS IS OF BULK AT MOST 1048576: true; the input reads as it did. -/
def updateInsertsUptoRow : OpenClaim := { program := "ytjbkckcjmmmooaa", sum := "9cc0f820246f4ac7224ba1f36661dd856e8a1a2d7e51ec609a5e01b3dafe5d33", func := "versionmap/versionmaplaw14.UpdateInserts", spec := "updateInserts", recurses := true, apart := false, narrowed := true }
def UpdateInsertsUptoSaid : Prop := updateInsertsUptoRow.holds Try.pinned (OpenSpec.upto updateInsertsSpec)

/-- 'versionmaplaw14.UpdateDeletes', WHERE WHAT IT READS IS OF BULK AT MOST 1048576: true; the input reads as it did. -/
def updateDeletesUptoRow : OpenClaim := { program := "ytjbkckcjmmmooaa", sum := "9cc0f820246f4ac7224ba1f36661dd856e8a1a2d7e51ec609a5e01b3dafe5d33", func := "versionmap/versionmaplaw14.UpdateDeletes", spec := "updateDeletes", recurses := true, apart := false, narrowed := true }
def UpdateDeletesUptoSaid : Prop := updateDeletesUptoRow.holds Try.pinned (OpenSpec.upto updateDeletesSpec)

/-- 'versionmaplaw13.JoinUndoesSplit', WHERE WHAT IT READS IS OF BULK AT MOST 1048576: true; the input reads as it did. -/
def joinUndoesSplitUptoRow : OpenClaim := { program := "ytjbkckcjmmmooaa", sum := "9cc0f820246f4ac7224ba1f36661dd856e8a1a2d7e51ec609a5e01b3dafe5d33", func := "versionmap/versionmaplaw13.JoinUndoesSplit", spec := "joinUndoesSplit", unfollowed := true, recurses := true, apart := false, narrowed := true }
def JoinUndoesSplitUptoSaid : Prop := joinUndoesSplitUptoRow.holds Try.pinned (OpenSpec.upto joinUndoesSplitSpec)

/-- 'versionmaplaw13.JoinJoins', WHERE WHAT IT READS IS OF BULK AT MOST 1048576: true; the input reads as it did. -/
def joinJoinsUptoRow : OpenClaim := { program := "ytjbkckcjmmmooaa", sum := "9cc0f820246f4ac7224ba1f36661dd856e8a1a2d7e51ec609a5e01b3dafe5d33", func := "versionmap/versionmaplaw13.JoinJoins", spec := "joinJoins", unfollowed := true, recurses := true, apart := false, narrowed := true }
def JoinJoinsUptoSaid : Prop := joinJoinsUptoRow.holds Try.pinned (OpenSpec.upto joinJoinsSpec)

/-- 'versionmaplaw13.JoinSplits', WHERE WHAT IT READS IS OF BULK AT MOST 1048576: true; the input reads as it did. -/
def joinSplitsUptoRow : OpenClaim := { program := "ytjbkckcjmmmooaa", sum := "9cc0f820246f4ac7224ba1f36661dd856e8a1a2d7e51ec609a5e01b3dafe5d33", func := "versionmap/versionmaplaw13.JoinSplits", spec := "joinSplits", unfollowed := true, recurses := true, apart := false, narrowed := true }
def JoinSplitsUptoSaid : Prop := joinSplitsUptoRow.holds Try.pinned (OpenSpec.upto joinSplitsSpec)

/-- 'versionmaplaw14.UpdateIncreases', WHERE WHAT IT READS IS OF BULK AT MOST 1048576: true; the input reads as it did. -/
def updateIncreasesUptoRow : OpenClaim := { program := "ytjbkckcjmmmooaa", sum := "9cc0f820246f4ac7224ba1f36661dd856e8a1a2d7e51ec609a5e01b3dafe5d33", func := "versionmap/versionmaplaw14.UpdateIncreases", spec := "updateIncreases", recurses := true, apart := false, narrowed := true }
def UpdateIncreasesUptoSaid : Prop := updateIncreasesUptoRow.holds Try.pinned (OpenSpec.upto updateIncreasesSpec)

/-- 'versionmaplaw13.JoinConcatenates', WHERE WHAT IT READS IS OF BULK AT MOST 1048576: true; the input reads as it did. -/
def joinConcatenatesUptoRow : OpenClaim := { program := "ytjbkckcjmmmooaa", sum := "9cc0f820246f4ac7224ba1f36661dd856e8a1a2d7e51ec609a5e01b3dafe5d33", func := "versionmap/versionmaplaw13.JoinConcatenates", spec := "joinConcatenates", unfollowed := true, recurses := true, apart := false, narrowed := true }
def JoinConcatenatesUptoSaid : Prop := joinConcatenatesUptoRow.holds Try.pinned (OpenSpec.upto joinConcatenatesSpec)

/-- 'versionmaplaw15.BulkCuts', WHERE WHAT IT READS IS OF BULK AT MOST 1048576: true; the input reads as it did. -/
def bulkCutsUptoRow : OpenClaim := { program := "ytjbkckcjmmmooaa", sum := "9cc0f820246f4ac7224ba1f36661dd856e8a1a2d7e51ec609a5e01b3dafe5d33", func := "versionmap/versionmaplaw15.BulkCuts", spec := "bulkCuts", unfollowed := true, recurses := true, apart := false, narrowed := true }
def BulkCutsUptoSaid : Prop := bulkCutsUptoRow.holds Try.pinned (OpenSpec.upto bulkCutsSpec)

/-- 'versionmaplaw15.BulkPartsJoin', WHERE WHAT IT READS IS OF BULK AT MOST 1048576: true; the input reads as it did. -/
def bulkPartsJoinUptoRow : OpenClaim := { program := "ytjbkckcjmmmooaa", sum := "9cc0f820246f4ac7224ba1f36661dd856e8a1a2d7e51ec609a5e01b3dafe5d33", func := "versionmap/versionmaplaw15.BulkPartsJoin", spec := "bulkPartsJoin", unfollowed := true, recurses := true, apart := false, narrowed := true }
def BulkPartsJoinUptoSaid : Prop := bulkPartsJoinUptoRow.holds Try.pinned (OpenSpec.upto bulkPartsJoinSpec)

end Rows
end Go.Proofs.Ytjbkckcjmmmooaa
