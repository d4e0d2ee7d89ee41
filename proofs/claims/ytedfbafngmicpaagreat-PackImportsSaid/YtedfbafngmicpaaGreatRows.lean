/-
  No cell of these rows narrows 'for every input' (looked for: loops, veiled, ifaces, maps, wideKeys, modest, calm, conditions, laid).
  DERIVED. THE GIVEN ROWS OF THIS SEAT. 5 by the template 'for every input the law returns true; each argument reads behind the call as it read before'; 0 by the template 'total and deterministic' (their statements: YtedfbafngmicpaaGreatTotals.lean).
  GIVEN WITH THE SEED: the statements are not yours to turn. If you find one false, say at which input.
  Laid BY PROGRAM, IN A SANDBOX (cutbox-rows.mjs): the forced cells as the released guide's own fill.sh prints them over the translation 67625166823adb38… (all of the seat's roots in one cut). By AI agents, Wed Nov 11 2026. No macro, syntax, notation, axiom, sorry.
-/
import Derived.Test.YtedfbafngmicpaaGreatChecked
import GoSem.Claim
import GoSem.ClaimJoined
import GoSem.ClaimMapViews
import Derived.JoinedTies
import Derived.KernelRfl
namespace Go.Proofs.YtedfbafngmicpaaGreat
/- THE CELL 'sum', in the pinned program and in every row, IS THE sha256 OF THE DUMP (.gsa) THAT YtedfbafngmicpaaGreatProg.lean LOADS. Nothing in Lean hashes anything: it is a label: what it is worth is what the hold of that sum in a sandbox is worth. -/
noncomputable def Tryz.pinned : Pinned := { name := "ytedfbafngmicpaagreat", sum := "67625166823adb38d26aab789c021e9b7468d2deafdc99cd5c1d4e5d2459d05f", checked := Tryz.checked }
namespace Rows
def none {H : Type} : Left H := { results := [], args := [] }

/-- 'versionmaplaw28.PackOfUpdateIsSmall': WHATEVER THE INPUT: true; the input reads as it did. -/
def packOfUpdateIsSmallSpec : ChangeSpec := { name := "packOfUpdateIsSmall", fn := fun _ => fun
  | [d1, d2, d3] => { results := [.lit (.bool true)], args := [d1, d2, d3] }
  | _ => none }
def packOfUpdateIsSmallRow : OpenClaim := { program := "ytedfbafngmicpaagreat", sum := "67625166823adb38d26aab789c021e9b7468d2deafdc99cd5c1d4e5d2459d05f", func := "versionmap/versionmaplaw28.PackOfUpdateIsSmall", spec := "packOfUpdateIsSmall", unfollowed := true, recurses := true, apart := false }
def PackOfUpdateIsSmallSaid : Prop := packOfUpdateIsSmallRow.holds Tryz.pinned (OpenSpec.ofChange packOfUpdateIsSmallSpec)

/-- ITS FALSE NEIGHBOUR: 'it returns false'. Refute it at one input. -/
def packOfUpdateIsSmallWrong : ChangeSpec := { name := "packOfUpdateIsSmall", fn := fun _ => fun
  | [d1, d2, d3] => { results := [.lit (.bool false)], args := [d1, d2, d3] }
  | _ => none }
def PackOfUpdateIsSmallWrongFalsely : Prop := packOfUpdateIsSmallRow.holds Tryz.pinned (OpenSpec.ofChange packOfUpdateIsSmallWrong)

/-- 'versionmaplaw28.PackRoundTrip': WHATEVER THE INPUT: true; the input reads as it did. -/
def packRoundTripSpec : ChangeSpec := { name := "packRoundTrip", fn := fun _ => fun
  | [d1, d2, d3, d4, d5] => { results := [.lit (.bool true)], args := [d1, d2, d3, d4, d5] }
  | _ => none }
def packRoundTripRow : OpenClaim := { program := "ytedfbafngmicpaagreat", sum := "67625166823adb38d26aab789c021e9b7468d2deafdc99cd5c1d4e5d2459d05f", func := "versionmap/versionmaplaw28.PackRoundTrip", spec := "packRoundTrip", unfollowed := true, recurses := true, apart := false }
def PackRoundTripSaid : Prop := packRoundTripRow.holds Tryz.pinned (OpenSpec.ofChange packRoundTripSpec)

/-- ITS FALSE NEIGHBOUR: 'it returns false'. Refute it at one input. -/
def packRoundTripWrong : ChangeSpec := { name := "packRoundTrip", fn := fun _ => fun
  | [d1, d2, d3, d4, d5] => { results := [.lit (.bool false)], args := [d1, d2, d3, d4, d5] }
  | _ => none }
def PackRoundTripWrongFalsely : Prop := packRoundTripRow.holds Tryz.pinned (OpenSpec.ofChange packRoundTripWrong)

/-- 'versionmaplaw28.PackTransfers': WHATEVER THE INPUT: true; the input reads as it did. -/
def packTransfersSpec : ChangeSpec := { name := "packTransfers", fn := fun _ => fun
  | [d1, d2, d3] => { results := [.lit (.bool true)], args := [d1, d2, d3] }
  | _ => none }
def packTransfersRow : OpenClaim := { program := "ytedfbafngmicpaagreat", sum := "67625166823adb38d26aab789c021e9b7468d2deafdc99cd5c1d4e5d2459d05f", func := "versionmap/versionmaplaw28.PackTransfers", spec := "packTransfers", unfollowed := true, recurses := true, apart := false }
def PackTransfersSaid : Prop := packTransfersRow.holds Tryz.pinned (OpenSpec.ofChange packTransfersSpec)

/-- ITS FALSE NEIGHBOUR: 'it returns false'. Refute it at one input. -/
def packTransfersWrong : ChangeSpec := { name := "packTransfers", fn := fun _ => fun
  | [d1, d2, d3] => { results := [.lit (.bool false)], args := [d1, d2, d3] }
  | _ => none }
def PackTransfersWrongFalsely : Prop := packTransfersRow.holds Tryz.pinned (OpenSpec.ofChange packTransfersWrong)

/-- 'versionmaplaw28.PackImports': WHATEVER THE INPUT: true; the input reads as it did. -/
def packImportsSpec : ChangeSpec := { name := "packImports", fn := fun _ => fun
  | [d1, d2, d3, d4, d5, d6, d7, d8, d9] => { results := [.lit (.bool true)], args := [d1, d2, d3, d4, d5, d6, d7, d8, d9] }
  | _ => none }
def packImportsRow : OpenClaim := { program := "ytedfbafngmicpaagreat", sum := "67625166823adb38d26aab789c021e9b7468d2deafdc99cd5c1d4e5d2459d05f", func := "versionmap/versionmaplaw28.PackImports", spec := "packImports", unfollowed := true, recurses := true, apart := false }
def PackImportsSaid : Prop := packImportsRow.holds Tryz.pinned (OpenSpec.ofChange packImportsSpec)

/-- ITS FALSE NEIGHBOUR: 'it returns false'. Refute it at one input. -/
def packImportsWrong : ChangeSpec := { name := "packImports", fn := fun _ => fun
  | [d1, d2, d3, d4, d5, d6, d7, d8, d9] => { results := [.lit (.bool false)], args := [d1, d2, d3, d4, d5, d6, d7, d8, d9] }
  | _ => none }
def PackImportsWrongFalsely : Prop := packImportsRow.holds Tryz.pinned (OpenSpec.ofChange packImportsWrong)

/-- 'versionmaplaw28.PackExports': WHATEVER THE INPUT: true; the input reads as it did. -/
def packExportsSpec : ChangeSpec := { name := "packExports", fn := fun _ => fun
  | [d1, d2, d3, d4, d5] => { results := [.lit (.bool true)], args := [d1, d2, d3, d4, d5] }
  | _ => none }
def packExportsRow : OpenClaim := { program := "ytedfbafngmicpaagreat", sum := "67625166823adb38d26aab789c021e9b7468d2deafdc99cd5c1d4e5d2459d05f", func := "versionmap/versionmaplaw28.PackExports", spec := "packExports", unfollowed := true, recurses := true, apart := false }
def PackExportsSaid : Prop := packExportsRow.holds Tryz.pinned (OpenSpec.ofChange packExportsSpec)

/-- ITS FALSE NEIGHBOUR: 'it returns false'. Refute it at one input. -/
def packExportsWrong : ChangeSpec := { name := "packExports", fn := fun _ => fun
  | [d1, d2, d3, d4, d5] => { results := [.lit (.bool false)], args := [d1, d2, d3, d4, d5] }
  | _ => none }
def PackExportsWrongFalsely : Prop := packExportsRow.holds Tryz.pinned (OpenSpec.ofChange packExportsWrong)

/- THE SECOND FORM. 'bulk': how many values and letters a reading holds, each counted each time it is reached (what is shared counts as often as it is met; a slice's spare places count too). A statement '..UptoSaid' is the law's where the arguments, and the package variables that the reading takes, are together of bulk at most 1048576: NARROWER than '..Said'. Prove '..Said' where nothing that the law and all that it calls make is longer than what came in: it says more and counts as full. Else prove '..UptoSaid'. A law counts once. -/
mutual
def uptoBulk {H : Type} : DataW H → Nat
  | .lit (.string bytes) => bytes.length + 1
  | .lit _ => 1
  | .nil => 1
  | .ptr d => uptoBulk d + 1
  | .slice elems spare => uptoBulkAll elems + uptoBulkAll spare + 1
  | .agg parts => uptoBulkAll parts + 1
  | .iface _ d => uptoBulk d + 1
  | .map entries => uptoBulkEntries entries + 1
  | .held _ => 1
def uptoBulkAll {H : Type} : List (DataW H) → Nat
  | [] => 0
  | d :: r => uptoBulk d + uptoBulkAll r
def uptoBulkEntries {H : Type} : List (Lit × DataW H) → Nat
  | [] => 0
  | x :: r => uptoBulkEntry x + uptoBulkEntries r
def uptoBulkEntry {H : Type} : Lit × DataW H → Nat
  | (.string bytes, d) => bytes.length + uptoBulk d + 1
  | (_, d) => uptoBulk d + 1
 end
def uptoSmall : (H : Type) → List (DataW H) → Bool := fun _ ds => decide (uptoBulkAll ds ≤ 1048576)
def OpenSpec.upto (s : _root_.Go.ChangeSpec) : _root_.Go.OpenSpec := { _root_.Go.OpenSpec.ofChange s with cond := some uptoSmall }

/-- 'versionmaplaw28.PackOfUpdateIsSmall', WHERE WHAT IT READS IS OF BULK AT MOST 1048576: true; the input reads as it did. -/
def packOfUpdateIsSmallUptoRow : OpenClaim := { program := "ytedfbafngmicpaagreat", sum := "67625166823adb38d26aab789c021e9b7468d2deafdc99cd5c1d4e5d2459d05f", func := "versionmap/versionmaplaw28.PackOfUpdateIsSmall", spec := "packOfUpdateIsSmall", unfollowed := true, recurses := true, apart := false, narrowed := true }
def PackOfUpdateIsSmallUptoSaid : Prop := packOfUpdateIsSmallUptoRow.holds Tryz.pinned (OpenSpec.upto packOfUpdateIsSmallSpec)

/-- 'versionmaplaw28.PackRoundTrip', WHERE WHAT IT READS IS OF BULK AT MOST 1048576: true; the input reads as it did. -/
def packRoundTripUptoRow : OpenClaim := { program := "ytedfbafngmicpaagreat", sum := "67625166823adb38d26aab789c021e9b7468d2deafdc99cd5c1d4e5d2459d05f", func := "versionmap/versionmaplaw28.PackRoundTrip", spec := "packRoundTrip", unfollowed := true, recurses := true, apart := false, narrowed := true }
def PackRoundTripUptoSaid : Prop := packRoundTripUptoRow.holds Tryz.pinned (OpenSpec.upto packRoundTripSpec)

/-- 'versionmaplaw28.PackTransfers', WHERE WHAT IT READS IS OF BULK AT MOST 1048576: true; the input reads as it did. -/
def packTransfersUptoRow : OpenClaim := { program := "ytedfbafngmicpaagreat", sum := "67625166823adb38d26aab789c021e9b7468d2deafdc99cd5c1d4e5d2459d05f", func := "versionmap/versionmaplaw28.PackTransfers", spec := "packTransfers", unfollowed := true, recurses := true, apart := false, narrowed := true }
def PackTransfersUptoSaid : Prop := packTransfersUptoRow.holds Tryz.pinned (OpenSpec.upto packTransfersSpec)

/-- 'versionmaplaw28.PackImports', WHERE WHAT IT READS IS OF BULK AT MOST 1048576: true; the input reads as it did. -/
def packImportsUptoRow : OpenClaim := { program := "ytedfbafngmicpaagreat", sum := "67625166823adb38d26aab789c021e9b7468d2deafdc99cd5c1d4e5d2459d05f", func := "versionmap/versionmaplaw28.PackImports", spec := "packImports", unfollowed := true, recurses := true, apart := false, narrowed := true }
def PackImportsUptoSaid : Prop := packImportsUptoRow.holds Tryz.pinned (OpenSpec.upto packImportsSpec)

/-- 'versionmaplaw28.PackExports', WHERE WHAT IT READS IS OF BULK AT MOST 1048576: true; the input reads as it did. -/
def packExportsUptoRow : OpenClaim := { program := "ytedfbafngmicpaagreat", sum := "67625166823adb38d26aab789c021e9b7468d2deafdc99cd5c1d4e5d2459d05f", func := "versionmap/versionmaplaw28.PackExports", spec := "packExports", unfollowed := true, recurses := true, apart := false, narrowed := true }
def PackExportsUptoSaid : Prop := packExportsUptoRow.holds Tryz.pinned (OpenSpec.upto packExportsSpec)

end Rows
end Go.Proofs.YtedfbafngmicpaaGreat
