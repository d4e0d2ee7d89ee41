/-
  No cell of these rows narrows 'for every input' (looked for: loops, veiled, ifaces, maps, wideKeys, modest, calm, conditions, laid).
  DERIVED. THE GIVEN ROWS OF THIS SEAT. 9 by the template 'for every input the law returns true; each argument reads behind the call as it read before'; 0 by the template 'total and deterministic' (their statements: YtdgodcamadalhaaTotals.lean).
  GIVEN WITH THE SEED: the statements are not yours to turn. If you find one false, say at which input.
  Laid BY PROGRAM, IN A SANDBOX (cutbox-rows.mjs): the forced cells as the released guide's own fill.sh prints them over the translation f656eb9918fc42d7… (all of the seat's roots in one cut). By AI agents, Wed Nov 11 2026. No macro, syntax, notation, axiom, sorry.
-/
import Derived.Test.YtdgodcamadalhaaChecked
import GoSem.Claim
import GoSem.ClaimJoined
import GoSem.ClaimMapViews
import Derived.JoinedTies
import Derived.KernelRfl
namespace Go.Proofs.Ytdgodcamadalhaa
/- THE CELL 'sum', in the pinned program and in every row, IS THE sha256 OF THE DUMP (.gsa) THAT YtdgodcamadalhaaProg.lean LOADS. Nothing in Lean hashes anything: it is a label: what it is worth is what the hold of that sum in a sandbox is worth. -/
noncomputable def Try.pinned : Pinned := { name := "ytdgodcamadalhaa", sum := "f656eb9918fc42d75477b579b4d0707ae5d94f6806c459578583c46a817f615f", checked := Try.checked }
namespace Rows
def none {H : Type} : Left H := { results := [], args := [] }

/-- 'versionmaplaw8.ReserveAgrees': WHATEVER THE INPUT: true; the input reads as it did. -/
def reserveAgreesSpec : ChangeSpec := { name := "reserveAgrees", fn := fun _ => fun
  | [d1, d2, d3] => { results := [.lit (.bool true)], args := [d1, d2, d3] }
  | _ => none }
def reserveAgreesRow : OpenClaim := { program := "ytdgodcamadalhaa", sum := "f656eb9918fc42d75477b579b4d0707ae5d94f6806c459578583c46a817f615f", func := "versionmap/versionmaplaw8.ReserveAgrees", spec := "reserveAgrees", apart := false }
def ReserveAgreesSaid : Prop := reserveAgreesRow.holds Try.pinned (OpenSpec.ofChange reserveAgreesSpec)

/-- ITS FALSE NEIGHBOUR: 'it returns false'. Refute it at one input. -/
def reserveAgreesWrong : ChangeSpec := { name := "reserveAgrees", fn := fun _ => fun
  | [d1, d2, d3] => { results := [.lit (.bool false)], args := [d1, d2, d3] }
  | _ => none }
def ReserveAgreesWrongFalsely : Prop := reserveAgreesRow.holds Try.pinned (OpenSpec.ofChange reserveAgreesWrong)

/-- 'versionmaplaw8.ReserveIsMonotone': WHATEVER THE INPUT: true; the input reads as it did. -/
def reserveIsMonotoneSpec : ChangeSpec := { name := "reserveIsMonotone", fn := fun _ => fun
  | [d1, d2, d3] => { results := [.lit (.bool true)], args := [d1, d2, d3] }
  | _ => none }
def reserveIsMonotoneRow : OpenClaim := { program := "ytdgodcamadalhaa", sum := "f656eb9918fc42d75477b579b4d0707ae5d94f6806c459578583c46a817f615f", func := "versionmap/versionmaplaw8.ReserveIsMonotone", spec := "reserveIsMonotone", apart := false }
def ReserveIsMonotoneSaid : Prop := reserveIsMonotoneRow.holds Try.pinned (OpenSpec.ofChange reserveIsMonotoneSpec)

/-- ITS FALSE NEIGHBOUR: 'it returns false'. Refute it at one input. -/
def reserveIsMonotoneWrong : ChangeSpec := { name := "reserveIsMonotone", fn := fun _ => fun
  | [d1, d2, d3] => { results := [.lit (.bool false)], args := [d1, d2, d3] }
  | _ => none }
def ReserveIsMonotoneWrongFalsely : Prop := reserveIsMonotoneRow.holds Try.pinned (OpenSpec.ofChange reserveIsMonotoneWrong)

/-- 'versionmaplaw19.PatchComposeIsAssociative': WHATEVER THE INPUT: true; the input reads as it did. -/
def patchComposeIsAssociativeSpec : ChangeSpec := { name := "patchComposeIsAssociative", fn := fun _ => fun
  | [d1, d2, d3, d4, d5] => { results := [.lit (.bool true)], args := [d1, d2, d3, d4, d5] }
  | _ => none }
def patchComposeIsAssociativeRow : OpenClaim := { program := "ytdgodcamadalhaa", sum := "f656eb9918fc42d75477b579b4d0707ae5d94f6806c459578583c46a817f615f", func := "versionmap/versionmaplaw19.PatchComposeIsAssociative", spec := "patchComposeIsAssociative", unfollowed := true, recurses := true, apart := false }
def PatchComposeIsAssociativeSaid : Prop := patchComposeIsAssociativeRow.holds Try.pinned (OpenSpec.ofChange patchComposeIsAssociativeSpec)

/-- ITS FALSE NEIGHBOUR: 'it returns false'. Refute it at one input. -/
def patchComposeIsAssociativeWrong : ChangeSpec := { name := "patchComposeIsAssociative", fn := fun _ => fun
  | [d1, d2, d3, d4, d5] => { results := [.lit (.bool false)], args := [d1, d2, d3, d4, d5] }
  | _ => none }
def PatchComposeIsAssociativeWrongFalsely : Prop := patchComposeIsAssociativeRow.holds Try.pinned (OpenSpec.ofChange patchComposeIsAssociativeWrong)

/-- 'versionmaplaw19.PatchComposes': WHATEVER THE INPUT: true; the input reads as it did. -/
def patchComposesSpec : ChangeSpec := { name := "patchComposes", fn := fun _ => fun
  | [d1, d2, d3, d4] => { results := [.lit (.bool true)], args := [d1, d2, d3, d4] }
  | _ => none }
def patchComposesRow : OpenClaim := { program := "ytdgodcamadalhaa", sum := "f656eb9918fc42d75477b579b4d0707ae5d94f6806c459578583c46a817f615f", func := "versionmap/versionmaplaw19.PatchComposes", spec := "patchComposes", unfollowed := true, recurses := true, apart := false }
def PatchComposesSaid : Prop := patchComposesRow.holds Try.pinned (OpenSpec.ofChange patchComposesSpec)

/-- ITS FALSE NEIGHBOUR: 'it returns false'. Refute it at one input. -/
def patchComposesWrong : ChangeSpec := { name := "patchComposes", fn := fun _ => fun
  | [d1, d2, d3, d4] => { results := [.lit (.bool false)], args := [d1, d2, d3, d4] }
  | _ => none }
def PatchComposesWrongFalsely : Prop := patchComposesRow.holds Try.pinned (OpenSpec.ofChange patchComposesWrong)

/-- 'versionmaplaw19.PatchApplyChecks': WHATEVER THE INPUT: true; the input reads as it did. -/
def patchApplyChecksSpec : ChangeSpec := { name := "patchApplyChecks", fn := fun _ => fun
  | [d1, d2, d3, d4, d5, d6] => { results := [.lit (.bool true)], args := [d1, d2, d3, d4, d5, d6] }
  | _ => none }
def patchApplyChecksRow : OpenClaim := { program := "ytdgodcamadalhaa", sum := "f656eb9918fc42d75477b579b4d0707ae5d94f6806c459578583c46a817f615f", func := "versionmap/versionmaplaw19.PatchApplyChecks", spec := "patchApplyChecks", unfollowed := true, recurses := true, apart := false }
def PatchApplyChecksSaid : Prop := patchApplyChecksRow.holds Try.pinned (OpenSpec.ofChange patchApplyChecksSpec)

/-- ITS FALSE NEIGHBOUR: 'it returns false'. Refute it at one input. -/
def patchApplyChecksWrong : ChangeSpec := { name := "patchApplyChecks", fn := fun _ => fun
  | [d1, d2, d3, d4, d5, d6] => { results := [.lit (.bool false)], args := [d1, d2, d3, d4, d5, d6] }
  | _ => none }
def PatchApplyChecksWrongFalsely : Prop := patchApplyChecksRow.holds Try.pinned (OpenSpec.ofChange patchApplyChecksWrong)

/-- 'versionmaplaw19.PatchInverts': WHATEVER THE INPUT: true; the input reads as it did. -/
def patchInvertsSpec : ChangeSpec := { name := "patchInverts", fn := fun _ => fun
  | [d1, d2, d3] => { results := [.lit (.bool true)], args := [d1, d2, d3] }
  | _ => none }
def patchInvertsRow : OpenClaim := { program := "ytdgodcamadalhaa", sum := "f656eb9918fc42d75477b579b4d0707ae5d94f6806c459578583c46a817f615f", func := "versionmap/versionmaplaw19.PatchInverts", spec := "patchInverts", unfollowed := true, recurses := true, apart := false }
def PatchInvertsSaid : Prop := patchInvertsRow.holds Try.pinned (OpenSpec.ofChange patchInvertsSpec)

/-- ITS FALSE NEIGHBOUR: 'it returns false'. Refute it at one input. -/
def patchInvertsWrong : ChangeSpec := { name := "patchInverts", fn := fun _ => fun
  | [d1, d2, d3] => { results := [.lit (.bool false)], args := [d1, d2, d3] }
  | _ => none }
def PatchInvertsWrongFalsely : Prop := patchInvertsRow.holds Try.pinned (OpenSpec.ofChange patchInvertsWrong)

/-- 'versionmaplaw19.PatchRebases': WHATEVER THE INPUT: true; the input reads as it did. -/
def patchRebasesSpec : ChangeSpec := { name := "patchRebases", fn := fun _ => fun
  | [d1, d2, d3, d4] => { results := [.lit (.bool true)], args := [d1, d2, d3, d4] }
  | _ => none }
def patchRebasesRow : OpenClaim := { program := "ytdgodcamadalhaa", sum := "f656eb9918fc42d75477b579b4d0707ae5d94f6806c459578583c46a817f615f", func := "versionmap/versionmaplaw19.PatchRebases", spec := "patchRebases", unfollowed := true, recurses := true, apart := false }
def PatchRebasesSaid : Prop := patchRebasesRow.holds Try.pinned (OpenSpec.ofChange patchRebasesSpec)

/-- ITS FALSE NEIGHBOUR: 'it returns false'. Refute it at one input. -/
def patchRebasesWrong : ChangeSpec := { name := "patchRebases", fn := fun _ => fun
  | [d1, d2, d3, d4] => { results := [.lit (.bool false)], args := [d1, d2, d3, d4] }
  | _ => none }
def PatchRebasesWrongFalsely : Prop := patchRebasesRow.holds Try.pinned (OpenSpec.ofChange patchRebasesWrong)

/-- 'versionmaplaw19.PatchBetweenApplies': WHATEVER THE INPUT: true; the input reads as it did. -/
def patchBetweenAppliesSpec : ChangeSpec := { name := "patchBetweenApplies", fn := fun _ => fun
  | [d1, d2, d3] => { results := [.lit (.bool true)], args := [d1, d2, d3] }
  | _ => none }
def patchBetweenAppliesRow : OpenClaim := { program := "ytdgodcamadalhaa", sum := "f656eb9918fc42d75477b579b4d0707ae5d94f6806c459578583c46a817f615f", func := "versionmap/versionmaplaw19.PatchBetweenApplies", spec := "patchBetweenApplies", unfollowed := true, recurses := true, apart := false }
def PatchBetweenAppliesSaid : Prop := patchBetweenAppliesRow.holds Try.pinned (OpenSpec.ofChange patchBetweenAppliesSpec)

/-- ITS FALSE NEIGHBOUR: 'it returns false'. Refute it at one input. -/
def patchBetweenAppliesWrong : ChangeSpec := { name := "patchBetweenApplies", fn := fun _ => fun
  | [d1, d2, d3] => { results := [.lit (.bool false)], args := [d1, d2, d3] }
  | _ => none }
def PatchBetweenAppliesWrongFalsely : Prop := patchBetweenAppliesRow.holds Try.pinned (OpenSpec.ofChange patchBetweenAppliesWrong)

/-- 'versionmaplaw19.PatchAgrees': WHATEVER THE INPUT: true; the input reads as it did. -/
def patchAgreesSpec : ChangeSpec := { name := "patchAgrees", fn := fun _ => fun
  | [d1, d2, d3, d4] => { results := [.lit (.bool true)], args := [d1, d2, d3, d4] }
  | _ => none }
def patchAgreesRow : OpenClaim := { program := "ytdgodcamadalhaa", sum := "f656eb9918fc42d75477b579b4d0707ae5d94f6806c459578583c46a817f615f", func := "versionmap/versionmaplaw19.PatchAgrees", spec := "patchAgrees", unfollowed := true, recurses := true, apart := false }
def PatchAgreesSaid : Prop := patchAgreesRow.holds Try.pinned (OpenSpec.ofChange patchAgreesSpec)

/-- ITS FALSE NEIGHBOUR: 'it returns false'. Refute it at one input. -/
def patchAgreesWrong : ChangeSpec := { name := "patchAgrees", fn := fun _ => fun
  | [d1, d2, d3, d4] => { results := [.lit (.bool false)], args := [d1, d2, d3, d4] }
  | _ => none }
def PatchAgreesWrongFalsely : Prop := patchAgreesRow.holds Try.pinned (OpenSpec.ofChange patchAgreesWrong)

/- THE SECOND FORM. 'bulk': how many values and letters a reading holds, each counted each time it is reached (what is shared counts as often as it is met; a slice's spare places count too). A statement '..UptoSaid' is the law's where the arguments, and the package variables that the reading takes, are together of bulk at most 1048576: NARROWER than '..Said'. Prove '..Said' where nothing that the law and all that it calls make is longer than what came in: it says more and counts as full. Else prove '..UptoSaid'. A law counts once. -/
mutual
def uptoBulk {H : Type} : DataW H → Nat
  | .lit (.string bytes) => bytes.length + 1
  | .lit _ => 1
  | .nil => 1
  | .ptr d => uptoBulk d + 1
  | .slice elems spare => uptoBulkAll elems + uptoBulkAll spare + 1
  | .agg parts => uptoBulkAll parts + 1
  | .iface _ d => uptoBulk d + 1
  | .map entries => uptoBulkEntries entries + 1
  | .held _ => 1
def uptoBulkAll {H : Type} : List (DataW H) → Nat
  | [] => 0
  | d :: r => uptoBulk d + uptoBulkAll r
def uptoBulkEntries {H : Type} : List (Lit × DataW H) → Nat
  | [] => 0
  | x :: r => uptoBulkEntry x + uptoBulkEntries r
def uptoBulkEntry {H : Type} : Lit × DataW H → Nat
  | (.string bytes, d) => bytes.length + uptoBulk d + 1
  | (_, d) => uptoBulk d + 1
 end
def uptoSmall : (H : Type) → List (DataW H) → Bool := fun _ ds => decide (uptoBulkAll ds ≤ 1048576)
def OpenSpec.upto (s : _root_.Go.ChangeSpec) : _root_.Go.OpenSpec := { _root_.Go.OpenSpec.ofChange s with cond := some uptoSmall }

/-- 'versionmaplaw8.ReserveAgrees', WHERE WHAT IT READS IS OF BULK AT MOST 1048576: true; the input reads as it did. -/
def reserveAgreesUptoRow : OpenClaim := { program := "ytdgodcamadalhaa", sum := "f656eb9918fc42d75477b579b4d0707ae5d94f6806c459578583c46a817f615f", func := "versionmap/versionmaplaw8.ReserveAgrees", spec := "reserveAgrees", apart := false, narrowed := true }
def ReserveAgreesUptoSaid : Prop := reserveAgreesUptoRow.holds Try.pinned (OpenSpec.upto reserveAgreesSpec)

/-- 'versionmaplaw8.ReserveIsMonotone', WHERE WHAT IT READS IS OF BULK AT MOST 1048576: true; the input reads as it did. -/
def reserveIsMonotoneUptoRow : OpenClaim := { program := "ytdgodcamadalhaa", sum := "f656eb9918fc42d75477b579b4d0707ae5d94f6806c459578583c46a817f615f", func := "versionmap/versionmaplaw8.ReserveIsMonotone", spec := "reserveIsMonotone", apart := false, narrowed := true }
def ReserveIsMonotoneUptoSaid : Prop := reserveIsMonotoneUptoRow.holds Try.pinned (OpenSpec.upto reserveIsMonotoneSpec)

/-- 'versionmaplaw19.PatchComposeIsAssociative', WHERE WHAT IT READS IS OF BULK AT MOST 1048576: true; the input reads as it did. -/
def patchComposeIsAssociativeUptoRow : OpenClaim := { program := "ytdgodcamadalhaa", sum := "f656eb9918fc42d75477b579b4d0707ae5d94f6806c459578583c46a817f615f", func := "versionmap/versionmaplaw19.PatchComposeIsAssociative", spec := "patchComposeIsAssociative", unfollowed := true, recurses := true, apart := false, narrowed := true }
def PatchComposeIsAssociativeUptoSaid : Prop := patchComposeIsAssociativeUptoRow.holds Try.pinned (OpenSpec.upto patchComposeIsAssociativeSpec)

/-- 'versionmaplaw19.PatchComposes', WHERE WHAT IT READS IS OF BULK AT MOST 1048576: true; the input reads as it did. -/
def patchComposesUptoRow : OpenClaim := { program := "ytdgodcamadalhaa", sum := "f656eb9918fc42d75477b579b4d0707ae5d94f6806c459578583c46a817f615f", func := "versionmap/versionmaplaw19.PatchComposes", spec := "patchComposes", unfollowed := true, recurses := true, apart := false, narrowed := true }
def PatchComposesUptoSaid : Prop := patchComposesUptoRow.holds Try.pinned (OpenSpec.upto patchComposesSpec)

/-- 'versionmaplaw19.PatchApplyChecks', WHERE WHAT IT READS IS OF BULK AT MOST 1048576: true; the input reads as it did. -/
def patchApplyChecksUptoRow : OpenClaim := { program := "ytdgodcamadalhaa", sum := "f656eb9918fc42d75477b579b4d0707ae5d94f6806c459578583c46a817f615f", func := "versionmap/versionmaplaw19.PatchApplyChecks", spec := "patchApplyChecks", unfollowed := true, recurses := true, apart := false, narrowed := true }
def PatchApplyChecksUptoSaid : Prop := patchApplyChecksUptoRow.holds Try.pinned (OpenSpec.upto patchApplyChecksSpec)

/-- 'versionmaplaw19.PatchInverts', WHERE WHAT IT READS IS OF BULK AT MOST 1048576: true; the input reads as it did. -/
def patchInvertsUptoRow : OpenClaim := { program := "ytdgodcamadalhaa", sum := "f656eb9918fc42d75477b579b4d0707ae5d94f6806c459578583c46a817f615f", func := "versionmap/versionmaplaw19.PatchInverts", spec := "patchInverts", unfollowed := true, recurses := true, apart := false, narrowed := true }
def PatchInvertsUptoSaid : Prop := patchInvertsUptoRow.holds Try.pinned (OpenSpec.upto patchInvertsSpec)

/-- 'versionmaplaw19.PatchRebases', WHERE WHAT IT READS IS OF BULK AT MOST 1048576: true; the input reads as it did. -/
def patchRebasesUptoRow : OpenClaim := { program := "ytdgodcamadalhaa", sum := "f656eb9918fc42d75477b579b4d0707ae5d94f6806c459578583c46a817f615f", func := "versionmap/versionmaplaw19.PatchRebases", spec := "patchRebases", unfollowed := true, recurses := true, apart := false, narrowed := true }
def PatchRebasesUptoSaid : Prop := patchRebasesUptoRow.holds Try.pinned (OpenSpec.upto patchRebasesSpec)

/-- 'versionmaplaw19.PatchBetweenApplies', WHERE WHAT IT READS IS OF BULK AT MOST 1048576: true; the input reads as it did. -/
def patchBetweenAppliesUptoRow : OpenClaim := { program := "ytdgodcamadalhaa", sum := "f656eb9918fc42d75477b579b4d0707ae5d94f6806c459578583c46a817f615f", func := "versionmap/versionmaplaw19.PatchBetweenApplies", spec := "patchBetweenApplies", unfollowed := true, recurses := true, apart := false, narrowed := true }
def PatchBetweenAppliesUptoSaid : Prop := patchBetweenAppliesUptoRow.holds Try.pinned (OpenSpec.upto patchBetweenAppliesSpec)

/-- 'versionmaplaw19.PatchAgrees', WHERE WHAT IT READS IS OF BULK AT MOST 1048576: true; the input reads as it did. -/
def patchAgreesUptoRow : OpenClaim := { program := "ytdgodcamadalhaa", sum := "f656eb9918fc42d75477b579b4d0707ae5d94f6806c459578583c46a817f615f", func := "versionmap/versionmaplaw19.PatchAgrees", spec := "patchAgrees", unfollowed := true, recurses := true, apart := false, narrowed := true }
def PatchAgreesUptoSaid : Prop := patchAgreesUptoRow.holds Try.pinned (OpenSpec.upto patchAgreesSpec)

end Rows
end Go.Proofs.Ytdgodcamadalhaa
