/-
  No cell of these rows narrows 'for every input' (looked for: loops, veiled, ifaces, maps, wideKeys, modest, calm, conditions, laid).
  DERIVED. THE GIVEN ROWS OF THIS SEAT. 10 by the template 'for every input the law returns true; each argument reads behind the call as it read before'; 0 by the template 'total and deterministic' (their statements: YtacdmmomkngpkaaTotals.lean).
  GIVEN WITH THE SEED: the statements are not yours to turn. If you find one false, say at which input.
  Laid BY PROGRAM, IN A SANDBOX (cutbox-rows.mjs): the forced cells as the released guide's own fill.sh prints them over the translation 4153c9c533fae884… (all of the seat's roots in one cut). By AI agents, Wed Nov 11 2026. No macro, syntax, notation, axiom, sorry.
-/
import Derived.Test.YtacdmmomkngpkaaChecked
import GoSem.Claim
import GoSem.ClaimJoined
import GoSem.ClaimMapViews
import Derived.JoinedTies
import Derived.KernelRfl
namespace Go.Proofs.Ytacdmmomkngpkaa
/- THE CELL 'sum', in the pinned program and in every row, IS THE sha256 OF THE DUMP (.gsa) THAT YtacdmmomkngpkaaProg.lean LOADS. Nothing in Lean hashes anything: it is a label: what it is worth is what the hold of that sum in a sandbox is worth. -/
noncomputable def Try.pinned : Pinned := { name := "ytacdmmomkngpkaa", sum := "4153c9c533fae88439e829be0c996e8025c799ebbbc621743c5026ef64d7a008", checked := Try.checked }
namespace Rows
def none {H : Type} : Left H := { results := [], args := [] }

/-- 'versionmaplaw29.CompactDoubled': WHATEVER THE INPUT: true; the input reads as it did. -/
def compactDoubledSpec : ChangeSpec := { name := "compactDoubled", fn := fun _ => fun
  | [d] => { results := [.lit (.bool true)], args := [d] }
  | _ => none }
def compactDoubledRow : OpenClaim := { program := "ytacdmmomkngpkaa", sum := "4153c9c533fae88439e829be0c996e8025c799ebbbc621743c5026ef64d7a008", func := "versionmap/versionmaplaw29.CompactDoubled", spec := "compactDoubled", recurses := true, apart := false }
def CompactDoubledSaid : Prop := compactDoubledRow.holds Try.pinned (OpenSpec.ofChange compactDoubledSpec)

/-- ITS FALSE NEIGHBOUR: 'it returns false'. Refute it at one input. -/
def compactDoubledWrong : ChangeSpec := { name := "compactDoubled", fn := fun _ => fun
  | [d] => { results := [.lit (.bool false)], args := [d] }
  | _ => none }
def CompactDoubledWrongFalsely : Prop := compactDoubledRow.holds Try.pinned (OpenSpec.ofChange compactDoubledWrong)

/-- 'versionmaplaw15.BulkBuilds': WHATEVER THE INPUT: true; the input reads as it did. -/
def bulkBuildsSpec : ChangeSpec := { name := "bulkBuilds", fn := fun _ => fun
  | [d1, d2, d3] => { results := [.lit (.bool true)], args := [d1, d2, d3] }
  | _ => none }
def bulkBuildsRow : OpenClaim := { program := "ytacdmmomkngpkaa", sum := "4153c9c533fae88439e829be0c996e8025c799ebbbc621743c5026ef64d7a008", func := "versionmap/versionmaplaw15.BulkBuilds", spec := "bulkBuilds", recurses := true, apart := false }
def BulkBuildsSaid : Prop := bulkBuildsRow.holds Try.pinned (OpenSpec.ofChange bulkBuildsSpec)

/-- ITS FALSE NEIGHBOUR: 'it returns false'. Refute it at one input. -/
def bulkBuildsWrong : ChangeSpec := { name := "bulkBuilds", fn := fun _ => fun
  | [d1, d2, d3] => { results := [.lit (.bool false)], args := [d1, d2, d3] }
  | _ => none }
def BulkBuildsWrongFalsely : Prop := bulkBuildsRow.holds Try.pinned (OpenSpec.ofChange bulkBuildsWrong)

/-- 'versionmaplaw24.CursorListsAll': WHATEVER THE INPUT: true; the input reads as it did. -/
def cursorListsAllSpec : ChangeSpec := { name := "cursorListsAll", fn := fun _ => fun
  | [d1, d2, d3, d4, d5] => { results := [.lit (.bool true)], args := [d1, d2, d3, d4, d5] }
  | _ => none }
def cursorListsAllRow : OpenClaim := { program := "ytacdmmomkngpkaa", sum := "4153c9c533fae88439e829be0c996e8025c799ebbbc621743c5026ef64d7a008", func := "versionmap/versionmaplaw24.CursorListsAll", spec := "cursorListsAll", unfollowed := true, recurses := true, apart := false }
def CursorListsAllSaid : Prop := cursorListsAllRow.holds Try.pinned (OpenSpec.ofChange cursorListsAllSpec)

/-- ITS FALSE NEIGHBOUR: 'it returns false'. Refute it at one input. -/
def cursorListsAllWrong : ChangeSpec := { name := "cursorListsAll", fn := fun _ => fun
  | [d1, d2, d3, d4, d5] => { results := [.lit (.bool false)], args := [d1, d2, d3, d4, d5] }
  | _ => none }
def CursorListsAllWrongFalsely : Prop := cursorListsAllRow.holds Try.pinned (OpenSpec.ofChange cursorListsAllWrong)

/-- 'versionmaplaw29.CompactCopies': WHATEVER THE INPUT: true; the input reads as it did. -/
def compactCopiesSpec : ChangeSpec := { name := "compactCopies", fn := fun _ => fun
  | [d1, d2, d3, d4, d5] => { results := [.lit (.bool true)], args := [d1, d2, d3, d4, d5] }
  | _ => none }
def compactCopiesRow : OpenClaim := { program := "ytacdmmomkngpkaa", sum := "4153c9c533fae88439e829be0c996e8025c799ebbbc621743c5026ef64d7a008", func := "versionmap/versionmaplaw29.CompactCopies", spec := "compactCopies", recurses := true, apart := false }
def CompactCopiesSaid : Prop := compactCopiesRow.holds Try.pinned (OpenSpec.ofChange compactCopiesSpec)

/-- ITS FALSE NEIGHBOUR: 'it returns false'. Refute it at one input. -/
def compactCopiesWrong : ChangeSpec := { name := "compactCopies", fn := fun _ => fun
  | [d1, d2, d3, d4, d5] => { results := [.lit (.bool false)], args := [d1, d2, d3, d4, d5] }
  | _ => none }
def CompactCopiesWrongFalsely : Prop := compactCopiesRow.holds Try.pinned (OpenSpec.ofChange compactCopiesWrong)

/-- 'versionmaplaw18.DiffOfSeparateTrees': WHATEVER THE INPUT: true; the input reads as it did. -/
def diffOfSeparateTreesSpec : ChangeSpec := { name := "diffOfSeparateTrees", fn := fun _ => fun
  | [d1, d2, d3, d4, d5, d6] => { results := [.lit (.bool true)], args := [d1, d2, d3, d4, d5, d6] }
  | _ => none }
def diffOfSeparateTreesRow : OpenClaim := { program := "ytacdmmomkngpkaa", sum := "4153c9c533fae88439e829be0c996e8025c799ebbbc621743c5026ef64d7a008", func := "versionmap/versionmaplaw18.DiffOfSeparateTrees", spec := "diffOfSeparateTrees", unfollowed := true, recurses := true, apart := false }
def DiffOfSeparateTreesSaid : Prop := diffOfSeparateTreesRow.holds Try.pinned (OpenSpec.ofChange diffOfSeparateTreesSpec)

/-- ITS FALSE NEIGHBOUR: 'it returns false'. Refute it at one input. -/
def diffOfSeparateTreesWrong : ChangeSpec := { name := "diffOfSeparateTrees", fn := fun _ => fun
  | [d1, d2, d3, d4, d5, d6] => { results := [.lit (.bool false)], args := [d1, d2, d3, d4, d5, d6] }
  | _ => none }
def DiffOfSeparateTreesWrongFalsely : Prop := diffOfSeparateTreesRow.holds Try.pinned (OpenSpec.ofChange diffOfSeparateTreesWrong)

/-- 'versionmaplaw18.DiffOfSelf': WHATEVER THE INPUT: true; the input reads as it did. -/
def diffOfSelfSpec : ChangeSpec := { name := "diffOfSelf", fn := fun _ => fun
  | [d1, d2, d3, d4] => { results := [.lit (.bool true)], args := [d1, d2, d3, d4] }
  | _ => none }
def diffOfSelfRow : OpenClaim := { program := "ytacdmmomkngpkaa", sum := "4153c9c533fae88439e829be0c996e8025c799ebbbc621743c5026ef64d7a008", func := "versionmap/versionmaplaw18.DiffOfSelf", spec := "diffOfSelf", unfollowed := true, recurses := true, apart := false }
def DiffOfSelfSaid : Prop := diffOfSelfRow.holds Try.pinned (OpenSpec.ofChange diffOfSelfSpec)

/-- ITS FALSE NEIGHBOUR: 'it returns false'. Refute it at one input. -/
def diffOfSelfWrong : ChangeSpec := { name := "diffOfSelf", fn := fun _ => fun
  | [d1, d2, d3, d4] => { results := [.lit (.bool false)], args := [d1, d2, d3, d4] }
  | _ => none }
def DiffOfSelfWrongFalsely : Prop := diffOfSelfRow.holds Try.pinned (OpenSpec.ofChange diffOfSelfWrong)

/-- 'versionmaplaw15.BulkLists': WHATEVER THE INPUT: true; the input reads as it did. -/
def bulkListsSpec : ChangeSpec := { name := "bulkLists", fn := fun _ => fun
  | [d1, d2, d3, d4, d5, d6, d7] => { results := [.lit (.bool true)], args := [d1, d2, d3, d4, d5, d6, d7] }
  | _ => none }
def bulkListsRow : OpenClaim := { program := "ytacdmmomkngpkaa", sum := "4153c9c533fae88439e829be0c996e8025c799ebbbc621743c5026ef64d7a008", func := "versionmap/versionmaplaw15.BulkLists", spec := "bulkLists", recurses := true, apart := false }
def BulkListsSaid : Prop := bulkListsRow.holds Try.pinned (OpenSpec.ofChange bulkListsSpec)

/-- ITS FALSE NEIGHBOUR: 'it returns false'. Refute it at one input. -/
def bulkListsWrong : ChangeSpec := { name := "bulkLists", fn := fun _ => fun
  | [d1, d2, d3, d4, d5, d6, d7] => { results := [.lit (.bool false)], args := [d1, d2, d3, d4, d5, d6, d7] }
  | _ => none }
def BulkListsWrongFalsely : Prop := bulkListsRow.holds Try.pinned (OpenSpec.ofChange bulkListsWrong)

/-- 'versionmaplaw15.BulkSlicesRank': WHATEVER THE INPUT: true; the input reads as it did. -/
def bulkSlicesRankSpec : ChangeSpec := { name := "bulkSlicesRank", fn := fun _ => fun
  | [d1, d2, d3, d4] => { results := [.lit (.bool true)], args := [d1, d2, d3, d4] }
  | _ => none }
def bulkSlicesRankRow : OpenClaim := { program := "ytacdmmomkngpkaa", sum := "4153c9c533fae88439e829be0c996e8025c799ebbbc621743c5026ef64d7a008", func := "versionmap/versionmaplaw15.BulkSlicesRank", spec := "bulkSlicesRank", recurses := true, apart := false }
def BulkSlicesRankSaid : Prop := bulkSlicesRankRow.holds Try.pinned (OpenSpec.ofChange bulkSlicesRankSpec)

/-- ITS FALSE NEIGHBOUR: 'it returns false'. Refute it at one input. -/
def bulkSlicesRankWrong : ChangeSpec := { name := "bulkSlicesRank", fn := fun _ => fun
  | [d1, d2, d3, d4] => { results := [.lit (.bool false)], args := [d1, d2, d3, d4] }
  | _ => none }
def BulkSlicesRankWrongFalsely : Prop := bulkSlicesRankRow.holds Try.pinned (OpenSpec.ofChange bulkSlicesRankWrong)

/-- 'versionmaplaw24.CursorOpens': WHATEVER THE INPUT: true; the input reads as it did. -/
def cursorOpensSpec : ChangeSpec := { name := "cursorOpens", fn := fun _ => fun
  | [d1, d2, d3] => { results := [.lit (.bool true)], args := [d1, d2, d3] }
  | _ => none }
def cursorOpensRow : OpenClaim := { program := "ytacdmmomkngpkaa", sum := "4153c9c533fae88439e829be0c996e8025c799ebbbc621743c5026ef64d7a008", func := "versionmap/versionmaplaw24.CursorOpens", spec := "cursorOpens", unfollowed := true, recurses := true, apart := false }
def CursorOpensSaid : Prop := cursorOpensRow.holds Try.pinned (OpenSpec.ofChange cursorOpensSpec)

/-- ITS FALSE NEIGHBOUR: 'it returns false'. Refute it at one input. -/
def cursorOpensWrong : ChangeSpec := { name := "cursorOpens", fn := fun _ => fun
  | [d1, d2, d3] => { results := [.lit (.bool false)], args := [d1, d2, d3] }
  | _ => none }
def CursorOpensWrongFalsely : Prop := cursorOpensRow.holds Try.pinned (OpenSpec.ofChange cursorOpensWrong)

/-- 'versionmaplaw24.CursorCloses': WHATEVER THE INPUT: true; the input reads as it did. -/
def cursorClosesSpec : ChangeSpec := { name := "cursorCloses", fn := fun _ => fun
  | [d1, d2, d3, d4] => { results := [.lit (.bool true)], args := [d1, d2, d3, d4] }
  | _ => none }
def cursorClosesRow : OpenClaim := { program := "ytacdmmomkngpkaa", sum := "4153c9c533fae88439e829be0c996e8025c799ebbbc621743c5026ef64d7a008", func := "versionmap/versionmaplaw24.CursorCloses", spec := "cursorCloses", unfollowed := true, recurses := true, apart := false }
def CursorClosesSaid : Prop := cursorClosesRow.holds Try.pinned (OpenSpec.ofChange cursorClosesSpec)

/-- ITS FALSE NEIGHBOUR: 'it returns false'. Refute it at one input. -/
def cursorClosesWrong : ChangeSpec := { name := "cursorCloses", fn := fun _ => fun
  | [d1, d2, d3, d4] => { results := [.lit (.bool false)], args := [d1, d2, d3, d4] }
  | _ => none }
def CursorClosesWrongFalsely : Prop := cursorClosesRow.holds Try.pinned (OpenSpec.ofChange cursorClosesWrong)

/- THE SECOND FORM. 'bulk': how many values and letters a reading holds, each counted each time it is reached (what is shared counts as often as it is met; a slice's spare places count too). A statement '..UptoSaid' is the law's where the arguments, and the package variables that the reading takes, are together of bulk at most 1048576: NARROWER than '..Said'. Prove '..Said' where nothing that the law and all that it calls make is longer than what came in: it says more and counts as full. Else prove '..UptoSaid'. A law counts once. -/
mutual
def uptoBulk {H : Type} : DataW H → Nat
  | .lit (.string bytes) => bytes.length + 1
  | .lit _ => 1
  | .nil => 1
  | .ptr d => uptoBulk d + 1
  | .slice elems spare => uptoBulkAll elems + uptoBulkAll spare + 1
  | .agg parts => uptoBulkAll parts + 1
  | .iface _ d => uptoBulk d + 1
  | .map entries => uptoBulkEntries entries + 1
  | .held _ => 1
def uptoBulkAll {H : Type} : List (DataW H) → Nat
  | [] => 0
  | d :: r => uptoBulk d + uptoBulkAll r
def uptoBulkEntries {H : Type} : List (Lit × DataW H) → Nat
  | [] => 0
  | x :: r => uptoBulkEntry x + uptoBulkEntries r
def uptoBulkEntry {H : Type} : Lit × DataW H → Nat
  | (.string bytes, d) => bytes.length + uptoBulk d + 1
  | (_, d) => uptoBulk d + 1
 end
def uptoSmall : (H : Type) → List (DataW H) → Bool := fun _ ds => decide (uptoBulkAll ds ≤ 1048576)
def OpenSpec.upto (s : _root_.Go.ChangeSpec) : _root_.Go.OpenSpec := { _root_.Go.OpenSpec.ofChange s with cond := some uptoSmall }

/-- 'versionmaplaw29.CompactDoubled', WHERE WHAT IT READS IS OF BULK AT MOST 1048576: true; the input reads as it did. -/
def compactDoubledUptoRow : OpenClaim := { program := "ytacdmmomkngpkaa", sum := "4153c9c533fae88439e829be0c996e8025c799ebbbc621743c5026ef64d7a008", func := "versionmap/versionmaplaw29.CompactDoubled", spec := "compactDoubled", recurses := true, apart := false, narrowed := true }
def CompactDoubledUptoSaid : Prop := compactDoubledUptoRow.holds Try.pinned (OpenSpec.upto compactDoubledSpec)

/-- 'versionmaplaw15.BulkBuilds', WHERE WHAT IT READS IS OF BULK AT MOST 1048576: true; the input reads as it did. -/
def bulkBuildsUptoRow : OpenClaim := { program := "ytacdmmomkngpkaa", sum := "4153c9c533fae88439e829be0c996e8025c799ebbbc621743c5026ef64d7a008", func := "versionmap/versionmaplaw15.BulkBuilds", spec := "bulkBuilds", recurses := true, apart := false, narrowed := true }
def BulkBuildsUptoSaid : Prop := bulkBuildsUptoRow.holds Try.pinned (OpenSpec.upto bulkBuildsSpec)

/-- 'versionmaplaw24.CursorListsAll', WHERE WHAT IT READS IS OF BULK AT MOST 1048576: true; the input reads as it did. -/
def cursorListsAllUptoRow : OpenClaim := { program := "ytacdmmomkngpkaa", sum := "4153c9c533fae88439e829be0c996e8025c799ebbbc621743c5026ef64d7a008", func := "versionmap/versionmaplaw24.CursorListsAll", spec := "cursorListsAll", unfollowed := true, recurses := true, apart := false, narrowed := true }
def CursorListsAllUptoSaid : Prop := cursorListsAllUptoRow.holds Try.pinned (OpenSpec.upto cursorListsAllSpec)

/-- 'versionmaplaw29.CompactCopies', WHERE WHAT IT READS IS OF BULK AT MOST 1048576: true; the input reads as it did. -/
def compactCopiesUptoRow : OpenClaim := { program := "ytacdmmomkngpkaa", sum := "4153c9c533fae88439e829be0c996e8025c799ebbbc621743c5026ef64d7a008", func := "versionmap/versionmaplaw29.CompactCopies", spec := "compactCopies", recurses := true, apart := false, narrowed := true }
def CompactCopiesUptoSaid : Prop := compactCopiesUptoRow.holds Try.pinned (OpenSpec.upto compactCopiesSpec)

/-- 'versionmaplaw18.DiffOfSeparateTrees', WHERE WHAT IT READS IS OF BULK AT MOST 1048576: true; the input reads as it did. -/
def diffOfSeparateTreesUptoRow : OpenClaim := { program := "ytacdmmomkngpkaa", sum := "4153c9c533fae88439e829be0c996e8025c799ebbbc621743c5026ef64d7a008", func := "versionmap/versionmaplaw18.DiffOfSeparateTrees", spec := "diffOfSeparateTrees", unfollowed := true, recurses := true, apart := false, narrowed := true }
def DiffOfSeparateTreesUptoSaid : Prop := diffOfSeparateTreesUptoRow.holds Try.pinned (OpenSpec.upto diffOfSeparateTreesSpec)

/-- 'versionmaplaw18.DiffOfSelf', WHERE WHAT IT READS IS OF BULK AT MOST 1048576: true; the input reads as it did. -/
def diffOfSelfUptoRow : OpenClaim := { program := "ytacdmmomkngpkaa", sum := "4153c9c533fae88439e829be0c996e8025c799ebbbc621743c5026ef64d7a008", func := "versionmap/versionmaplaw18.DiffOfSelf", spec := "diffOfSelf", unfollowed := true, recurses := true, apart := false, narrowed := true }
def DiffOfSelfUptoSaid : Prop := diffOfSelfUptoRow.holds Try.pinned (OpenSpec.upto diffOfSelfSpec)

/-- 'versionmaplaw15.BulkLists', WHERE WHAT IT READS IS OF BULK AT MOST 1048576: true; the input reads as it did. -/
def bulkListsUptoRow : OpenClaim := { program := "ytacdmmomkngpkaa", sum := "4153c9c533fae88439e829be0c996e8025c799ebbbc621743c5026ef64d7a008", func := "versionmap/versionmaplaw15.BulkLists", spec := "bulkLists", recurses := true, apart := false, narrowed := true }
def BulkListsUptoSaid : Prop := bulkListsUptoRow.holds Try.pinned (OpenSpec.upto bulkListsSpec)

/-- 'versionmaplaw15.BulkSlicesRank', WHERE WHAT IT READS IS OF BULK AT MOST 1048576: true; the input reads as it did. -/
def bulkSlicesRankUptoRow : OpenClaim := { program := "ytacdmmomkngpkaa", sum := "4153c9c533fae88439e829be0c996e8025c799ebbbc621743c5026ef64d7a008", func := "versionmap/versionmaplaw15.BulkSlicesRank", spec := "bulkSlicesRank", recurses := true, apart := false, narrowed := true }
def BulkSlicesRankUptoSaid : Prop := bulkSlicesRankUptoRow.holds Try.pinned (OpenSpec.upto bulkSlicesRankSpec)

/-- 'versionmaplaw24.CursorOpens', WHERE WHAT IT READS IS OF BULK AT MOST 1048576: true; the input reads as it did. -/
def cursorOpensUptoRow : OpenClaim := { program := "ytacdmmomkngpkaa", sum := "4153c9c533fae88439e829be0c996e8025c799ebbbc621743c5026ef64d7a008", func := "versionmap/versionmaplaw24.CursorOpens", spec := "cursorOpens", unfollowed := true, recurses := true, apart := false, narrowed := true }
def CursorOpensUptoSaid : Prop := cursorOpensUptoRow.holds Try.pinned (OpenSpec.upto cursorOpensSpec)

/-- 'versionmaplaw24.CursorCloses', WHERE WHAT IT READS IS OF BULK AT MOST 1048576: true; the input reads as it did. -/
def cursorClosesUptoRow : OpenClaim := { program := "ytacdmmomkngpkaa", sum := "4153c9c533fae88439e829be0c996e8025c799ebbbc621743c5026ef64d7a008", func := "versionmap/versionmaplaw24.CursorCloses", spec := "cursorCloses", unfollowed := true, recurses := true, apart := false, narrowed := true }
def CursorClosesUptoSaid : Prop := cursorClosesUptoRow.holds Try.pinned (OpenSpec.upto cursorClosesSpec)

end Rows
end Go.Proofs.Ytacdmmomkngpkaa
