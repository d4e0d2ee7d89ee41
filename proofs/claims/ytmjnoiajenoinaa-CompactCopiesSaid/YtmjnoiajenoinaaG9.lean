/- A part of the proof. -/
import Derived.Test.YtmjnoiajenoinaaG7
import Derived.Test.YtmjnoiajenoinaaG4
import Derived.Test.YtmjnoiajenoinaaG6
import Derived.Test.YtmjnoiajenoinaaG5
import Derived.Test.YtmjnoiajenoinaaG8
import Derived.Test.YtmjnoiajenoinaaProg
import Derived.Test.YtmjnoiajenoinaaChecked
import Derived.WalkKit
import Derived.ProofKit
import Derived.OpenShut
import Derived.SizedLaws
import Derived.Carry
import Derived.Deep.Slices
import Derived.Lib.SmallJoins
section
/- The reference's Check of a dump, Clean and Sound. -/
namespace Go.Proofs.Ytmjnoiajenoinaa.Sx
open Go

/-KEEP Wf exW inU allU Arn.cap Arn.free alcD cntL kidsL slotsOf orderOf MarksR CleanD kidsU-/
structure XCk (d : List SlotT) (roots : List Int) where
  i : Nat
  m : List Bool
  h : i ≤ d.length ∧ MarksR d roots m
structure XCj (d : List SlotT) (roots : List Int) (P : Nat → Int → Prop) where
  i : Nat
  m : List Bool
  c : Int
  h : i < d.length ∧ MarksR d roots m ∧ P i c
abbrev bxSl (x : SlotT) : Chunk C0 := .box [.val (.bool x.alloc), vI x.count, vU x.gen, vI x.node.key, vI x.node.value, vU x.node.left, vU x.node.right, vI x.node.size, vI x.node.sum, vI x.node.min, vI x.node.max]
abbrev chK (d : List SlotT) (fl roots : List Int) (m : List Bool) : List (Chunk C0) := [.row false EC.slot d, .row false EC.u32 fl, .row false EC.u32 roots, .box [.slc 0, .slc 1], .row true EC.int (cntL (kidsL d) d.length), .row true EC.bool m, .row true EC.int (cntL fl d.length), .row true EC.int (cntL roots d.length), .row true EC.find []]
structure XIy (n : Nat) where
  i : Nat
  h : i < n
noncomputable def aChk (P0 P1 P2 P3 P4 : Nat → Int → Prop) (d : List SlotT) (fl roots : List Int) : Ann C0 := { Γ := [(67, frameT [] tInE), (138, frameT [] tMk), (139, frameT [] tCnt), (23, frameT [] tAlc), (113, frameT [] tKids)], quiet := [67, 138, 139, 23, 113], rounds := fun n => if n = 19 then 3 else 0, inv := fun n => match n with
  | 5 => some { X := XCk d roots, sl := [2, 6, 7, 8, 9, 5, 10], tf := fun x => [.one (.at (.ptr 3 0)), .one (.at (.slc 4)), .one (.at (.slc 5)), .one (.at (.slc 6)), .one (.at (.slc 7)), .one (.at (.slc 8)), vi .i64 x.i], hf := fun x => chK d fl roots x.m, μ := fun x => d.length - x.i }
  | 1011 => some { X := XCj d roots P4, sl := [2, 6, 7, 8, 9, 5, 10, 12, 13], tf := fun x => [.one (.at (.ptr 3 0)), .one (.at (.slc 4)), .one (.at (.slc 5)), .one (.at (.slc 6)), .one (.at (.slc 7)), .one (.at (.slc 8)), vi .i64 x.i, .one (.at (.ptr 9 0)), vi .i64 x.c], hf := fun x => chK d fl roots x.m ++ [bxSl (eS d x.i)], rel := fun T _ z => slotI T 10 z.i }
  | 1013 => some { X := XCj d roots P0, sl := [2, 6, 7, 8, 9, 5, 10, 12, 60], tf := fun x => [.one (.at (.ptr 3 0)), .one (.at (.slc 4)), .one (.at (.slc 5)), .one (.at (.slc 6)), .one (.at (.slc 7)), .one (.at (.slc 8)), vi .i64 x.i, .one (.at (.ptr 9 0)), vb false], hf := fun x => chK d fl roots x.m ++ [bxSl (eS d x.i)], rel := fun T _ z => slotI T 10 z.i }
  | 1025 => some { X := XCj d roots P1, sl := [2, 6, 7, 8, 9, 5, 10, 12, 17], tf := fun x => [.one (.at (.ptr 3 0)), .one (.at (.slc 4)), .one (.at (.slc 5)), .one (.at (.slc 6)), .one (.at (.slc 7)), .one (.at (.slc 8)), vi .i64 x.i, .one (.at (.ptr 9 0)), vi .i64 x.c], hf := fun x => chK d fl roots x.m ++ [bxSl (eS d x.i)], rel := fun T _ z => slotI T 10 z.i }
  | 1026 => some { X := XCj d roots P2, sl := [2, 6, 7, 8, 9, 5, 10, 12, 110], tf := fun x => [.one (.at (.ptr 3 0)), .one (.at (.slc 4)), .one (.at (.slc 5)), .one (.at (.slc 6)), .one (.at (.slc 7)), .one (.at (.slc 8)), vi .i64 x.i, .one (.at (.ptr 9 0)), vb false], hf := fun x => chK d fl roots x.m ++ [bxSl (eS d x.i)], rel := fun T _ z => slotI T 10 z.i }
  | 1028 => some { X := XCj d roots P3, sl := [2, 6, 7, 8, 9, 5, 10, 12, 15], tf := fun x => [.one (.at (.ptr 3 0)), .one (.at (.slc 4)), .one (.at (.slc 5)), .one (.at (.slc 6)), .one (.at (.slc 7)), .one (.at (.slc 8)), vi .i64 x.i, .one (.at (.ptr 9 0)), vi .i64 x.c], hf := fun x => chK d fl roots x.m ++ [bxSl (eS d x.i)], rel := fun T _ z => slotI T 10 z.i }
  | 1029 => some { X := XCj d roots P0, sl := [2, 6, 7, 8, 9, 5, 10, 12, 132], tf := fun x => [.one (.at (.ptr 3 0)), .one (.at (.slc 4)), .one (.at (.slc 5)), .one (.at (.slc 6)), .one (.at (.slc 7)), .one (.at (.slc 8)), vi .i64 x.i, .one (.at (.ptr 9 0)), vb false], hf := fun x => chK d fl roots x.m ++ [bxSl (eS d x.i)], rel := fun T _ z => slotI T 10 z.i }
  | 1031 => some { X := XCj d roots P0, sl := [2, 6, 7, 8, 9, 5, 10, 12, 149], tf := fun x => [.one (.at (.ptr 3 0)), .one (.at (.slc 4)), .one (.at (.slc 5)), .one (.at (.slc 6)), .one (.at (.slc 7)), .one (.at (.slc 8)), vi .i64 x.i, .one (.at (.ptr 9 0)), vb false], hf := fun x => chK d fl roots x.m ++ [bxSl (eS d x.i)], rel := fun T _ z => slotI T 10 z.i }
  | 33 => some { X := XIx fl.length, sl := [2, 5, 19], tf := fun x => [.one (.at (.ptr 3 0)), .one (.at (.slc 4)), vi .i64 x.i], hf := fun _ => [.row false EC.slot d, .row false EC.u32 fl, .row false EC.u32 roots, .box [.slc 0, .slc 1], .row true EC.find []], μ := fun x => fl.length - x.i }
  | 1036 => some { X := XIy fl.length, sl := [2, 5, 19, 180], tf := fun x => [.one (.at (.ptr 3 0)), .one (.at (.slc 4)), vi .i64 x.i, vb false], hf := fun _ => [.row false EC.slot d, .row false EC.u32 fl, .row false EC.u32 roots, .box [.slc 0, .slc 1], .row true EC.find []], rel := fun T _ z => slotI T 19 z.i }
  | 38 => some { X := XIx roots.length, sl := [2, 5, 20], tf := fun x => [.one (.at (.ptr 3 0)), .one (.at (.slc 4)), vi .i64 x.i], hf := fun _ => [.row false EC.slot d, .row false EC.u32 fl, .row false EC.u32 roots, .box [.slc 0, .slc 1], .row true EC.find []], μ := fun x => roots.length - x.i }
  | 1041 => some { X := XIy roots.length, sl := [2, 5, 20, 209], tf := fun x => [.one (.at (.ptr 3 0)), .one (.at (.slc 4)), vi .i64 x.i, vb false], hf := fun _ => [.row false EC.slot d, .row false EC.u32 fl, .row false EC.u32 roots, .box [.slc 0, .slc 1], .row true EC.find []], rel := fun T _ z => slotI T 20 z.i }
  | _ => none }
def tChk : Tfm C0 := fun args H K => match args, H with
  | [.agg [.slc 0, .slc 1], .at (.slc 2)], [.row false .slot d, .row false .u32 fl, .row false .u32 roots] => CleanD d fl roots ∧ kidsU d ∧ allU fl ∧ allU roots ∧ d.length ≤ 100000 ∧ fl.length ≤ 1000000 ∧ roots.length ≤ 1000000 ∧
    K (.one (.at (.slc 3))) [.row false EC.slot d, .row false EC.u32 fl, .row false EC.u32 roots, .row true EC.find []] []
  | _, _ => False
noncomputable def aCln : Ann C0 := { Γ := [(114, frameT [] tChk)] }
def tCln : Tfm C0 := fun args H K => match args, H with
  | [.agg [.slc 0, .slc 1], .at (.slc 2)], [.row false .slot d, .row false .u32 fl, .row false .u32 roots] => CleanD d fl roots ∧ kidsU d ∧ allU fl ∧ allU roots ∧ d.length ≤ 100000 ∧ fl.length ≤ 1000000 ∧ roots.length ≤ 1000000 ∧
    K (.one (.at (vB true))) [.row false EC.slot d, .row false EC.u32 fl, .row false EC.u32 roots] []
  | _, _ => False
noncomputable def aSound : Ann C0 := { Γ := [(21, frameT [] tDump), (68, frameT [] tCln)] }
def tSound : Tfm C0 := fun args H K => match args with
  | [.at (.ptr 0 0), .at (.slc 7)] => arMr H fun S rest => match rest with
    | [.row false .u32 roots] => ∃ hs, Wf S hs ∧ roots.Perm hs ∧ roots.length ≤ 1000000 ∧ K (.one (.at (vB true))) (chS S ++ [.row false EC.u32 roots]) []
    | _ => False
  | _ => False
def P0c (_ : Nat) (_ : Int) : Prop := True
def P4c (d : List SlotT) (i : Nat) (c : Int) : Prop := c = if (eS d i).alloc = true then 0 else 1
def P1c (d : List SlotT) (i : Nat) (c : Int) : Prop := (eS d i).alloc = true ∧ c = 1 + szD d (eS d i).node.left + szD d (eS d i).node.right
def P2c (d : List SlotT) (i : Nat) (_ : Int) : Prop := (eS d i).alloc = true
def P3c (d : List SlotT) (roots : List Int) (i : Nat) (c : Int) : Prop := c = if (eS d i).alloc = true then ((kidsL d).count ((i : Int) + 1) : Int) + (roots.count ((i : Int) + 1) : Int) else 0
theorem eS_sz {d : List SlotT} {fl roots : List Int} (_ : CleanD d fl roots) (hl : d.length ≤ 100000) {j : Int} (h : alcD d j = true) : 0 ≤ IntKind.u32.wrap (j - 1) ∧ IntKind.u32.wrap (j - 1) < (d.length : Int) ∧ (eS d (IntKind.u32.wrap (j - 1)).toNat).node.size = szD d j := by
  obtain ⟨a, b⟩ := alcD_rng h
  rw [wrap_u32 (x := j - 1) (by omega) (by omega)]
  refine ⟨by omega, by omega, ?_⟩
  unfold szD; rw [if_pos h]; rfl
theorem szD_no {d : List SlotT} {j : Int} (h : alcD d j = false) : szD d j = 0 := by unfold szD; rw [h]; rfl
theorem szD_rng {d : List SlotT} {fl roots : List Int} (hc : CleanD d fl roots) (j : Int) : 0 ≤ szD d j ∧ szD d j ≤ 4294967296 := by
  cases h : alcD d j with
  | false => rw [szD_no h]; omega
  | true =>
    obtain ⟨a, b⟩ := alcD_rng h
    unfold szD; rw [if_pos h]
    exact hc.zr (j - 1).toNat (by omega)
theorem vc_chk (d : List SlotT) (fl roots : List Int) (K : KT) (hc : CleanD d fl roots) (hk : kidsU d) (hfu : allU fl) (hru : allU roots) (hl : d.length ≤ 100000) (hf : fl.length ≤ 1000000) (hr : roots.length ≤ 1000000)
    (h : K (.one (.at (.slc 3))) [.row false EC.slot d, .row false EC.u32 fl, .row false EC.u32 roots, .row true EC.find []] []) :
    vc C0 (aChk P0c (P1c d) (P2c d) (P3c d roots) (P4c d) d fl roots) Try.f114 [.agg [.slc 0, .slc 1], .at (.slc 2)] [.row false EC.slot d, .row false EC.u32 fl, .row false EC.u32 roots] (normK 3 K) := by
  generalize hP0 : P0c = P0
  generalize hP1 : P1c d = P1
  generalize hP2 : P2c d = P2
  generalize hP3 : P3c d roots = P3
  generalize hP4 : P4c d = P4
  refine Eq.mp (show ((d.length ≤ 100000) ∧
(kidsU d) ∧
(∀ o : List Int, (((o) = (cntL (kidsL d) d.length)) → ((d.length ≤ 100000) ∧ (roots.length ≤ 1000000) ∧ (kidsU d) ∧ (allU roots) ∧ (∀ m : List Bool, ((MarksR d roots m) → ((0 ≤ (↑d.length : Int)) ∧ ((↑d.length : Int) ≤ 100000) ∧ (fl.length ≤ 1000000) ∧ (allU fl) ∧ (∀ o1 : List Int, (((o1) = (cntL fl (↑d.length : Int).toNat)) → ((0 ≤ (↑d.length : Int)) ∧ ((↑d.length : Int) ≤ 100000) ∧ (roots.length ≤ 1000000) ∧ (allU roots) ∧ (∀ o2 : List Int, (((o2) = (cntL roots (↑d.length : Int).toNat)) → ((∃ x : XCk d roots, (True ∧ (True ∧ True ∧ True ∧ True ∧ True ∧ True ∧ True ∧ ((Value.int IntKind.i64 0) = (Value.int IntKind.i64 ((↑x.i : Int)))) ∧ True) ∧ ((d) = (d)) ∧ ((fl) = (fl)) ∧ ((roots) = (roots)) ∧ (True ∧ True ∧ True) ∧ ((o) = (cntL (kidsL d) d.length)) ∧ ((m) = (x.m)) ∧ ((o1) = (cntL fl d.length)) ∧ ((o2) = (cntL roots d.length)) ∧ ((([] : List FindT) = [])) ∧ True)) ∧ (∀ x : XCk d roots, (True → (brS (decide ((↑x.i : Int) < (↑d.length : Int))) (((0 ≤ (↑x.i : Int)) ∧ ((↑x.i : Int) < (↑d.length : Int)) ∧ (brS ((eS d (↑x.i : Int).toNat).alloc) ((∃ x1 : XCj d roots P4, ((((↑x.i : Int)) = ((↑x1.i : Int))) ∧ (True ∧ True ∧ True ∧ True ∧ True ∧ True ∧ True ∧ ((Value.int IntKind.i64 ((↑x.i : Int))) = (Value.int IntKind.i64 ((↑x1.i : Int)))) ∧ ((Value.int IntKind.u32 (IntKind.u32.wrap (IntKind.i64.wrap ((↑x.i : Int) + 1)))) = (Value.int IntKind.u32 (IntKind.u32.wrap (IntKind.i64.wrap ((↑x.i : Int) + 1))))) ∧ True ∧
    ((Value.int IntKind.i64 0) = (Value.int IntKind.i64 (x1.c))) ∧ True) ∧ ((d) = (d)) ∧ ((fl) = (fl)) ∧ ((roots) = (roots)) ∧ (True ∧ True ∧ True) ∧ ((cntL (kidsL d) d.length) = (cntL (kidsL d) d.length)) ∧ ((x.m) = (x1.m)) ∧ ((cntL fl d.length) = (cntL fl d.length)) ∧ ((cntL roots d.length) = (cntL roots d.length)) ∧ ((([] : List FindT) = [])) ∧ (((Value.bool ((eS d (↑x.i : Int).toNat).alloc)) = (Value.bool ((eS d x1.i).alloc))) ∧ ((Value.int IntKind.i64 ((eS d (↑x.i : Int).toNat).count)) = (Value.int IntKind.i64 ((eS d x1.i).count))) ∧ ((Value.int IntKind.u32 ((eS d (↑x.i : Int).toNat).gen)) = (Value.int IntKind.u32 ((eS d x1.i).gen))) ∧ ((Value.int IntKind.i64 ((eS d (↑x.i : Int).toNat).node.key)) = (Value.int IntKind.i64 ((eS d x1.i).node.key))) ∧ ((Value.int IntKind.i64 ((eS d (↑x.i : Int).toNat).node.value)) = (Value.int IntKind.i64 ((eS d x1.i).node.value))) ∧ ((Value.int IntKind.u32 ((eS d (↑x.i : Int).toNat).node.left)) = (Value.int IntKind.u32 ((eS d x1.i).node.left))) ∧ ((Value.int IntKind.u32 ((eS d (↑x.i : Int).toNat).node.right)) = (Value.int IntKind.u32 ((eS d x1.i).node.right))) ∧ ((Value.int IntKind.i64 ((eS d (↑x.i : Int).toNat).node.size)) = (Value.int IntKind.i64 ((eS d x1.i).node.size))) ∧ ((Value.int IntKind.i64 ((eS d (↑x.i : Int).toNat).node.sum)) = (Value.int IntKind.i64 ((eS d x1.i).node.sum))) ∧ ((Value.int IntKind.i64 ((eS d (↑x.i : Int).toNat).node.min)) = (Value.int IntKind.i64 ((eS d x1.i).node.min))) ∧
    ((Value.int IntKind.i64 ((eS d (↑x.i : Int).toNat).node.max)) = (Value.int IntKind.i64 ((eS d x1.i).node.max))) ∧ True) ∧ True))) ((∃ x1 : XCj d roots P4, ((((↑x.i : Int)) = ((↑x1.i : Int))) ∧ (True ∧ True ∧ True ∧ True ∧ True ∧ True ∧ True ∧ ((Value.int IntKind.i64 ((↑x.i : Int))) = (Value.int IntKind.i64 ((↑x1.i : Int)))) ∧ ((Value.int IntKind.u32 (IntKind.u32.wrap (IntKind.i64.wrap ((↑x.i : Int) + 1)))) = (Value.int IntKind.u32 (IntKind.u32.wrap (IntKind.i64.wrap ((↑x.i : Int) + 1))))) ∧ True ∧ ((Value.int IntKind.i64 1) = (Value.int IntKind.i64 (x1.c))) ∧ True) ∧ ((d) = (d)) ∧ ((fl) = (fl)) ∧ ((roots) = (roots)) ∧ (True ∧ True ∧ True) ∧ ((cntL (kidsL d) d.length) = (cntL (kidsL d) d.length)) ∧ ((x.m) = (x1.m)) ∧ ((cntL fl d.length) = (cntL fl d.length)) ∧ ((cntL roots d.length) = (cntL roots d.length)) ∧ ((([] : List FindT) = [])) ∧ (((Value.bool ((eS d (↑x.i : Int).toNat).alloc)) = (Value.bool ((eS d x1.i).alloc))) ∧ ((Value.int IntKind.i64 ((eS d (↑x.i : Int).toNat).count)) = (Value.int IntKind.i64 ((eS d x1.i).count))) ∧ ((Value.int IntKind.u32 ((eS d (↑x.i : Int).toNat).gen)) = (Value.int IntKind.u32 ((eS d x1.i).gen))) ∧ ((Value.int IntKind.i64 ((eS d (↑x.i : Int).toNat).node.key)) = (Value.int IntKind.i64 ((eS d x1.i).node.key))) ∧ ((Value.int IntKind.i64 ((eS d (↑x.i : Int).toNat).node.value)) = (Value.int IntKind.i64 ((eS d x1.i).node.value))) ∧ ((Value.int IntKind.u32 ((eS d (↑x.i : Int).toNat).node.left)) = (Value.int IntKind.u32 ((eS d x1.i).node.left))) ∧
    ((Value.int IntKind.u32 ((eS d (↑x.i : Int).toNat).node.right)) = (Value.int IntKind.u32 ((eS d x1.i).node.right))) ∧ ((Value.int IntKind.i64 ((eS d (↑x.i : Int).toNat).node.size)) = (Value.int IntKind.i64 ((eS d x1.i).node.size))) ∧ ((Value.int IntKind.i64 ((eS d (↑x.i : Int).toNat).node.sum)) = (Value.int IntKind.i64 ((eS d x1.i).node.sum))) ∧ ((Value.int IntKind.i64 ((eS d (↑x.i : Int).toNat).node.min)) = (Value.int IntKind.i64 ((eS d x1.i).node.min))) ∧ ((Value.int IntKind.i64 ((eS d (↑x.i : Int).toNat).node.max)) = (Value.int IntKind.i64 ((eS d x1.i).node.max))) ∧ True) ∧ True)))) ∧ (∀ x1 : XCj d roots P4, ((((↑x.i : Int)) = ((↑x1.i : Int))) → ((0 ≤ (↑x1.i : Int)) ∧ ((↑x1.i : Int) < (↑(cntL fl d.length).length : Int)) ∧ (∃ x2 : XCj d roots P0, ((((↑x1.i : Int)) = ((↑x2.i : Int))) ∧ (True ∧ True ∧ True ∧ True ∧ True ∧ True ∧ True ∧ ((Value.int IntKind.i64 ((↑x1.i : Int))) = (Value.int IntKind.i64 ((↑x2.i : Int)))) ∧ ((Value.int IntKind.u32 (IntKind.u32.wrap (IntKind.i64.wrap ((↑x.i : Int) + 1)))) = (Value.int IntKind.u32 (IntKind.u32.wrap (IntKind.i64.wrap ((↑x.i : Int) + 1))))) ∧ True ∧ ((Value.int IntKind.i64 (x1.c)) = (Value.int IntKind.i64 (x1.c))) ∧ ((Value.int IntKind.i64 ((cntL fl d.length).getD (↑x1.i : Int).toNat 0)) = (Value.int IntKind.i64 ((cntL fl d.length).getD (↑x1.i : Int).toNat 0))) ∧ ((Value.bool ((cntL fl d.length).getD (↑x1.i : Int).toNat 0 != x1.c)) = (Value.bool false)) ∧ True) ∧ ((d) = (d)) ∧ ((fl) = (fl)) ∧ ((roots) = (roots)) ∧ (True ∧ True ∧
    True) ∧ ((cntL (kidsL d) d.length) = (cntL (kidsL d) d.length)) ∧ ((x1.m) = (x2.m)) ∧ ((cntL fl d.length) = (cntL fl d.length)) ∧ ((cntL roots d.length) = (cntL roots d.length)) ∧ ((([] : List FindT) = [])) ∧ (((Value.bool ((eS d x1.i).alloc)) = (Value.bool ((eS d x2.i).alloc))) ∧ ((Value.int IntKind.i64 ((eS d x1.i).count)) = (Value.int IntKind.i64 ((eS d x2.i).count))) ∧ ((Value.int IntKind.u32 ((eS d x1.i).gen)) = (Value.int IntKind.u32 ((eS d x2.i).gen))) ∧ ((Value.int IntKind.i64 ((eS d x1.i).node.key)) = (Value.int IntKind.i64 ((eS d x2.i).node.key))) ∧ ((Value.int IntKind.i64 ((eS d x1.i).node.value)) = (Value.int IntKind.i64 ((eS d x2.i).node.value))) ∧ ((Value.int IntKind.u32 ((eS d x1.i).node.left)) = (Value.int IntKind.u32 ((eS d x2.i).node.left))) ∧ ((Value.int IntKind.u32 ((eS d x1.i).node.right)) = (Value.int IntKind.u32 ((eS d x2.i).node.right))) ∧ ((Value.int IntKind.i64 ((eS d x1.i).node.size)) = (Value.int IntKind.i64 ((eS d x2.i).node.size))) ∧ ((Value.int IntKind.i64 ((eS d x1.i).node.sum)) = (Value.int IntKind.i64 ((eS d x2.i).node.sum))) ∧ ((Value.int IntKind.i64 ((eS d x1.i).node.min)) = (Value.int IntKind.i64 ((eS d x2.i).node.min))) ∧ ((Value.int IntKind.i64 ((eS d x1.i).node.max)) = (Value.int IntKind.i64 ((eS d x2.i).node.max))) ∧ True) ∧ True)) ∧ (∀ x2 : XCj d roots P0, ((((↑x1.i : Int)) = ((↑x2.i : Int))) → ((brS ((eS d x2.i).alloc) (((((0 : Int) ≤ 0) ∧ (0 < ((2 : Nat) : Int)) ∧ (inU (eS d x2.i).node.left) ∧ (d.length ≤ 1000000) ∧
    (brS (alcD d (eS d x2.i).node.left) ((((0 : Int) ≤ 0) ∧ (0 < ((2 : Nat) : Int)) ∧ (0 ≤ IntKind.u32.wrap ((eS d x2.i).node.left - 1)) ∧ (IntKind.u32.wrap ((eS d x2.i).node.left - 1) < (↑d.length : Int)) ∧ (0 ≤ IntKind.i64.wrap (0 + 1)) ∧ (IntKind.i64.wrap (0 + 1) < ((2 : Nat) : Int)) ∧ (inU (eS d x2.i).node.right) ∧ (d.length ≤ 1000000) ∧ (brS (alcD d (eS d x2.i).node.right) (((0 ≤ IntKind.i64.wrap (0 + 1)) ∧ (IntKind.i64.wrap (0 + 1) < ((2 : Nat) : Int)) ∧ (0 ≤ IntKind.u32.wrap ((eS d x2.i).node.right - 1)) ∧ (IntKind.u32.wrap ((eS d x2.i).node.right - 1) < (↑d.length : Int)) ∧ (∃ x3 : XCj d roots P1, ((((↑x2.i : Int)) = ((↑x3.i : Int))) ∧ (True ∧ True ∧ True ∧ True ∧ True ∧ True ∧ True ∧ ((Value.int IntKind.i64 ((↑x2.i : Int))) = (Value.int IntKind.i64 ((↑x3.i : Int)))) ∧ ((Value.int IntKind.u32 (IntKind.u32.wrap (IntKind.i64.wrap ((↑x.i : Int) + 1)))) = (Value.int IntKind.u32 (IntKind.u32.wrap (IntKind.i64.wrap ((↑x.i : Int) + 1))))) ∧ True ∧ ((Value.int IntKind.i64 (IntKind.i64.wrap (IntKind.i64.wrap (1 + (eS d (IntKind.u32.wrap ((eS d x2.i).node.left - 1)).toNat).node.size) + (eS d (IntKind.u32.wrap ((eS d x2.i).node.right - 1)).toNat).node.size))) = (Value.int IntKind.i64 (x3.c))) ∧ True) ∧ ((d) = (d)) ∧ ((fl) = (fl)) ∧ ((roots) = (roots)) ∧ (True ∧ True ∧ True) ∧ ((cntL (kidsL d) d.length) = (cntL (kidsL d) d.length)) ∧ ((x2.m) = (x3.m)) ∧ ((cntL fl d.length) = (cntL fl d.length)) ∧ ((cntL roots d.length) = (cntL roots d.length)) ∧ ((([] : List FindT) = [])) ∧
    (((Value.bool ((eS d x2.i).alloc)) = (Value.bool ((eS d x3.i).alloc))) ∧ ((Value.int IntKind.i64 ((eS d x2.i).count)) = (Value.int IntKind.i64 ((eS d x3.i).count))) ∧ ((Value.int IntKind.u32 ((eS d x2.i).gen)) = (Value.int IntKind.u32 ((eS d x3.i).gen))) ∧ ((Value.int IntKind.i64 ((eS d x2.i).node.key)) = (Value.int IntKind.i64 ((eS d x3.i).node.key))) ∧ ((Value.int IntKind.i64 ((eS d x2.i).node.value)) = (Value.int IntKind.i64 ((eS d x3.i).node.value))) ∧ ((Value.int IntKind.u32 ((eS d x2.i).node.left)) = (Value.int IntKind.u32 ((eS d x3.i).node.left))) ∧ ((Value.int IntKind.u32 ((eS d x2.i).node.right)) = (Value.int IntKind.u32 ((eS d x3.i).node.right))) ∧ ((Value.int IntKind.i64 ((eS d x2.i).node.size)) = (Value.int IntKind.i64 ((eS d x3.i).node.size))) ∧ ((Value.int IntKind.i64 ((eS d x2.i).node.sum)) = (Value.int IntKind.i64 ((eS d x3.i).node.sum))) ∧ ((Value.int IntKind.i64 ((eS d x2.i).node.min)) = (Value.int IntKind.i64 ((eS d x3.i).node.min))) ∧ ((Value.int IntKind.i64 ((eS d x2.i).node.max)) = (Value.int IntKind.i64 ((eS d x3.i).node.max))) ∧ True) ∧ True)))) (((0 ≤ IntKind.i64.wrap (0 + 1)) ∧ (IntKind.i64.wrap (0 + 1) < ((2 : Nat) : Int)) ∧ (brS ((eS d x2.i).node.right != 0) (((0 ≤ IntKind.i64.wrap (0 + 1)) ∧ (IntKind.i64.wrap (0 + 1) < ((2 : Nat) : Int)) ∧
    ((([] : List Ent).length + [{ kind := 2, slot := IntKind.u32.wrap (IntKind.i64.wrap ((↑x.i : Int) + 1)), want := 0, have_ := IntKind.i64.wrap (eS d x2.i).node.right : FindT }].length) * bytesOf C0 EC.find ≤ 140737488355328) ∧ (∃ x3 : XCj d roots P1, ((((↑x2.i : Int)) = ((↑x3.i : Int))) ∧ (True ∧ True ∧ True ∧ True ∧ True ∧ True ∧ True ∧ ((Value.int IntKind.i64 ((↑x2.i : Int))) = (Value.int IntKind.i64 ((↑x3.i : Int)))) ∧ ((Value.int IntKind.u32 (IntKind.u32.wrap (IntKind.i64.wrap ((↑x.i : Int) + 1)))) = (Value.int IntKind.u32 (IntKind.u32.wrap (IntKind.i64.wrap ((↑x.i : Int) + 1))))) ∧ True ∧ ((Value.int IntKind.i64 (IntKind.i64.wrap (1 + (eS d (IntKind.u32.wrap ((eS d x2.i).node.left - 1)).toNat).node.size))) = (Value.int IntKind.i64 (x3.c))) ∧ True) ∧ ((d) = (d)) ∧ ((fl) = (fl)) ∧ ((roots) = (roots)) ∧ (True ∧ True ∧ True) ∧ ((cntL (kidsL d) d.length) = (cntL (kidsL d) d.length)) ∧ ((x2.m) = (x3.m)) ∧ ((cntL fl d.length) = (cntL fl d.length)) ∧ ((cntL roots d.length) = (cntL roots d.length)) ∧ ([({ kind := 2, slot := IntKind.u32.wrap (IntKind.i64.wrap ((↑x.i : Int) + 1)), want := 0, have_ := IntKind.i64.wrap (eS d x2.i).node.right : FindT })] = []) ∧ (((Value.bool ((eS d x2.i).alloc)) = (Value.bool ((eS d x3.i).alloc))) ∧ ((Value.int IntKind.i64 ((eS d x2.i).count)) = (Value.int IntKind.i64 ((eS d x3.i).count))) ∧ ((Value.int IntKind.u32 ((eS d x2.i).gen)) = (Value.int IntKind.u32 ((eS d x3.i).gen))) ∧
    ((Value.int IntKind.i64 ((eS d x2.i).node.key)) = (Value.int IntKind.i64 ((eS d x3.i).node.key))) ∧ ((Value.int IntKind.i64 ((eS d x2.i).node.value)) = (Value.int IntKind.i64 ((eS d x3.i).node.value))) ∧ ((Value.int IntKind.u32 ((eS d x2.i).node.left)) = (Value.int IntKind.u32 ((eS d x3.i).node.left))) ∧ ((Value.int IntKind.u32 ((eS d x2.i).node.right)) = (Value.int IntKind.u32 ((eS d x3.i).node.right))) ∧ ((Value.int IntKind.i64 ((eS d x2.i).node.size)) = (Value.int IntKind.i64 ((eS d x3.i).node.size))) ∧ ((Value.int IntKind.i64 ((eS d x2.i).node.sum)) = (Value.int IntKind.i64 ((eS d x3.i).node.sum))) ∧ ((Value.int IntKind.i64 ((eS d x2.i).node.min)) = (Value.int IntKind.i64 ((eS d x3.i).node.min))) ∧ ((Value.int IntKind.i64 ((eS d x2.i).node.max)) = (Value.int IntKind.i64 ((eS d x3.i).node.max))) ∧ True) ∧ True)))) ((∃ x3 : XCj d roots P1, ((((↑x2.i : Int)) = ((↑x3.i : Int))) ∧ (True ∧ True ∧ True ∧ True ∧ True ∧ True ∧ True ∧ ((Value.int IntKind.i64 ((↑x2.i : Int))) = (Value.int IntKind.i64 ((↑x3.i : Int)))) ∧ ((Value.int IntKind.u32 (IntKind.u32.wrap (IntKind.i64.wrap ((↑x.i : Int) + 1)))) = (Value.int IntKind.u32 (IntKind.u32.wrap (IntKind.i64.wrap ((↑x.i : Int) + 1))))) ∧ True ∧ ((Value.int IntKind.i64 (IntKind.i64.wrap (1 + (eS d (IntKind.u32.wrap ((eS d x2.i).node.left - 1)).toNat).node.size))) = (Value.int IntKind.i64 (x3.c))) ∧ True) ∧ ((d) = (d)) ∧ ((fl) = (fl)) ∧ ((roots) = (roots)) ∧ (True ∧ True ∧ True) ∧ ((cntL (kidsL d) d.length) = (cntL (kidsL d) d.length)) ∧
    ((x2.m) = (x3.m)) ∧ ((cntL fl d.length) = (cntL fl d.length)) ∧ ((cntL roots d.length) = (cntL roots d.length)) ∧ ((([] : List FindT) = [])) ∧ (((Value.bool ((eS d x2.i).alloc)) = (Value.bool ((eS d x3.i).alloc))) ∧ ((Value.int IntKind.i64 ((eS d x2.i).count)) = (Value.int IntKind.i64 ((eS d x3.i).count))) ∧ ((Value.int IntKind.u32 ((eS d x2.i).gen)) = (Value.int IntKind.u32 ((eS d x3.i).gen))) ∧ ((Value.int IntKind.i64 ((eS d x2.i).node.key)) = (Value.int IntKind.i64 ((eS d x3.i).node.key))) ∧ ((Value.int IntKind.i64 ((eS d x2.i).node.value)) = (Value.int IntKind.i64 ((eS d x3.i).node.value))) ∧ ((Value.int IntKind.u32 ((eS d x2.i).node.left)) = (Value.int IntKind.u32 ((eS d x3.i).node.left))) ∧ ((Value.int IntKind.u32 ((eS d x2.i).node.right)) = (Value.int IntKind.u32 ((eS d x3.i).node.right))) ∧ ((Value.int IntKind.i64 ((eS d x2.i).node.size)) = (Value.int IntKind.i64 ((eS d x3.i).node.size))) ∧ ((Value.int IntKind.i64 ((eS d x2.i).node.sum)) = (Value.int IntKind.i64 ((eS d x3.i).node.sum))) ∧ ((Value.int IntKind.i64 ((eS d x2.i).node.min)) = (Value.int IntKind.i64 ((eS d x3.i).node.min))) ∧ ((Value.int IntKind.i64 ((eS d x2.i).node.max)) = (Value.int IntKind.i64 ((eS d x3.i).node.max))) ∧ True) ∧ True))))))))) ((((0 : Int) ≤ 0) ∧ (0 < ((2 : Nat) : Int)) ∧ (brS ((eS d x2.i).node.left != 0) ((((0 : Int) ≤ 0) ∧ (0 < ((2 : Nat) : Int)) ∧
    ((([] : List Ent).length + [{ kind := 2, slot := IntKind.u32.wrap (IntKind.i64.wrap ((↑x.i : Int) + 1)), want := 0, have_ := IntKind.i64.wrap (eS d x2.i).node.left : FindT }].length) * bytesOf C0 EC.find ≤ 140737488355328) ∧ (0 ≤ IntKind.i64.wrap (0 + 1)) ∧ (IntKind.i64.wrap (0 + 1) < ((2 : Nat) : Int)) ∧ (inU (eS d x2.i).node.right) ∧ (d.length ≤ 1000000) ∧ (brS (alcD d (eS d x2.i).node.right) (((0 ≤ IntKind.i64.wrap (0 + 1)) ∧ (IntKind.i64.wrap (0 + 1) < ((2 : Nat) : Int)) ∧ (0 ≤ IntKind.u32.wrap ((eS d x2.i).node.right - 1)) ∧ (IntKind.u32.wrap ((eS d x2.i).node.right - 1) < (↑d.length : Int)) ∧ (∃ x3 : XCj d roots P1, ((((↑x2.i : Int)) = ((↑x3.i : Int))) ∧ (True ∧ True ∧ True ∧ True ∧ True ∧ True ∧ True ∧ ((Value.int IntKind.i64 ((↑x2.i : Int))) = (Value.int IntKind.i64 ((↑x3.i : Int)))) ∧ ((Value.int IntKind.u32 (IntKind.u32.wrap (IntKind.i64.wrap ((↑x.i : Int) + 1)))) = (Value.int IntKind.u32 (IntKind.u32.wrap (IntKind.i64.wrap ((↑x.i : Int) + 1))))) ∧ True ∧ ((Value.int IntKind.i64 (IntKind.i64.wrap (1 + (eS d (IntKind.u32.wrap ((eS d x2.i).node.right - 1)).toNat).node.size))) = (Value.int IntKind.i64 (x3.c))) ∧ True) ∧ ((d) = (d)) ∧ ((fl) = (fl)) ∧ ((roots) = (roots)) ∧ (True ∧ True ∧ True) ∧ ((cntL (kidsL d) d.length) = (cntL (kidsL d) d.length)) ∧ ((x2.m) = (x3.m)) ∧ ((cntL fl d.length) = (cntL fl d.length)) ∧ ((cntL roots d.length) = (cntL roots d.length)) ∧
    ([({ kind := 2, slot := IntKind.u32.wrap (IntKind.i64.wrap ((↑x.i : Int) + 1)), want := 0, have_ := IntKind.i64.wrap (eS d x2.i).node.left : FindT })] = []) ∧ (((Value.bool ((eS d x2.i).alloc)) = (Value.bool ((eS d x3.i).alloc))) ∧ ((Value.int IntKind.i64 ((eS d x2.i).count)) = (Value.int IntKind.i64 ((eS d x3.i).count))) ∧ ((Value.int IntKind.u32 ((eS d x2.i).gen)) = (Value.int IntKind.u32 ((eS d x3.i).gen))) ∧ ((Value.int IntKind.i64 ((eS d x2.i).node.key)) = (Value.int IntKind.i64 ((eS d x3.i).node.key))) ∧ ((Value.int IntKind.i64 ((eS d x2.i).node.value)) = (Value.int IntKind.i64 ((eS d x3.i).node.value))) ∧ ((Value.int IntKind.u32 ((eS d x2.i).node.left)) = (Value.int IntKind.u32 ((eS d x3.i).node.left))) ∧ ((Value.int IntKind.u32 ((eS d x2.i).node.right)) = (Value.int IntKind.u32 ((eS d x3.i).node.right))) ∧ ((Value.int IntKind.i64 ((eS d x2.i).node.size)) = (Value.int IntKind.i64 ((eS d x3.i).node.size))) ∧ ((Value.int IntKind.i64 ((eS d x2.i).node.sum)) = (Value.int IntKind.i64 ((eS d x3.i).node.sum))) ∧ ((Value.int IntKind.i64 ((eS d x2.i).node.min)) = (Value.int IntKind.i64 ((eS d x3.i).node.min))) ∧ ((Value.int IntKind.i64 ((eS d x2.i).node.max)) = (Value.int IntKind.i64 ((eS d x3.i).node.max))) ∧ True) ∧ True)))) (((0 ≤ IntKind.i64.wrap (0 + 1)) ∧ (IntKind.i64.wrap (0 + 1) < ((2 : Nat) : Int)) ∧ (brS ((eS d x2.i).node.right != 0) (((0 ≤ IntKind.i64.wrap (0 + 1)) ∧ (IntKind.i64.wrap (0 + 1) < ((2 : Nat) : Int)) ∧
    (([{ kind := 2, slot := IntKind.u32.wrap (IntKind.i64.wrap ((↑x.i : Int) + 1)), want := 0, have_ := IntKind.i64.wrap (eS d x2.i).node.left : FindT }].length + [{ kind := 2, slot := IntKind.u32.wrap (IntKind.i64.wrap ((↑x.i : Int) + 1)), want := 0, have_ := IntKind.i64.wrap (eS d x2.i).node.right : FindT }].length) * bytesOf C0 EC.find ≤ 140737488355328) ∧ (∃ x3 : XCj d roots P1, ((((↑x2.i : Int)) = ((↑x3.i : Int))) ∧ (True ∧ True ∧ True ∧ True ∧ True ∧ True ∧ True ∧ ((Value.int IntKind.i64 ((↑x2.i : Int))) = (Value.int IntKind.i64 ((↑x3.i : Int)))) ∧ ((Value.int IntKind.u32 (IntKind.u32.wrap (IntKind.i64.wrap ((↑x.i : Int) + 1)))) = (Value.int IntKind.u32 (IntKind.u32.wrap (IntKind.i64.wrap ((↑x.i : Int) + 1))))) ∧ True ∧ ((Value.int IntKind.i64 1) = (Value.int IntKind.i64 (x3.c))) ∧ True) ∧ ((d) = (d)) ∧ ((fl) = (fl)) ∧ ((roots) = (roots)) ∧ (True ∧ True ∧ True) ∧ ((cntL (kidsL d) d.length) = (cntL (kidsL d) d.length)) ∧ ((x2.m) = (x3.m)) ∧ ((cntL fl d.length) = (cntL fl d.length)) ∧ ((cntL roots d.length) = (cntL roots d.length)) ∧ ([({ kind := 2, slot := IntKind.u32.wrap (IntKind.i64.wrap ((↑x.i : Int) + 1)), want := 0, have_ := IntKind.i64.wrap (eS d x2.i).node.left : FindT }), ({ kind := 2, slot := IntKind.u32.wrap (IntKind.i64.wrap ((↑x.i : Int) + 1)), want := 0, have_ := IntKind.i64.wrap (eS d x2.i).node.right : FindT })] = []) ∧ (((Value.bool ((eS d x2.i).alloc)) = (Value.bool ((eS d x3.i).alloc))) ∧
    ((Value.int IntKind.i64 ((eS d x2.i).count)) = (Value.int IntKind.i64 ((eS d x3.i).count))) ∧ ((Value.int IntKind.u32 ((eS d x2.i).gen)) = (Value.int IntKind.u32 ((eS d x3.i).gen))) ∧ ((Value.int IntKind.i64 ((eS d x2.i).node.key)) = (Value.int IntKind.i64 ((eS d x3.i).node.key))) ∧ ((Value.int IntKind.i64 ((eS d x2.i).node.value)) = (Value.int IntKind.i64 ((eS d x3.i).node.value))) ∧ ((Value.int IntKind.u32 ((eS d x2.i).node.left)) = (Value.int IntKind.u32 ((eS d x3.i).node.left))) ∧ ((Value.int IntKind.u32 ((eS d x2.i).node.right)) = (Value.int IntKind.u32 ((eS d x3.i).node.right))) ∧ ((Value.int IntKind.i64 ((eS d x2.i).node.size)) = (Value.int IntKind.i64 ((eS d x3.i).node.size))) ∧ ((Value.int IntKind.i64 ((eS d x2.i).node.sum)) = (Value.int IntKind.i64 ((eS d x3.i).node.sum))) ∧ ((Value.int IntKind.i64 ((eS d x2.i).node.min)) = (Value.int IntKind.i64 ((eS d x3.i).node.min))) ∧ ((Value.int IntKind.i64 ((eS d x2.i).node.max)) = (Value.int IntKind.i64 ((eS d x3.i).node.max))) ∧ True) ∧ True)))) ((∃ x3 : XCj d roots P1, ((((↑x2.i : Int)) = ((↑x3.i : Int))) ∧ (True ∧ True ∧ True ∧ True ∧ True ∧ True ∧ True ∧ ((Value.int IntKind.i64 ((↑x2.i : Int))) = (Value.int IntKind.i64 ((↑x3.i : Int)))) ∧ ((Value.int IntKind.u32 (IntKind.u32.wrap (IntKind.i64.wrap ((↑x.i : Int) + 1)))) = (Value.int IntKind.u32 (IntKind.u32.wrap (IntKind.i64.wrap ((↑x.i : Int) + 1))))) ∧ True ∧ ((Value.int IntKind.i64 1) = (Value.int IntKind.i64 (x3.c))) ∧ True) ∧ ((d) = (d)) ∧ ((fl) = (fl)) ∧
    ((roots) = (roots)) ∧ (True ∧ True ∧ True) ∧ ((cntL (kidsL d) d.length) = (cntL (kidsL d) d.length)) ∧ ((x2.m) = (x3.m)) ∧ ((cntL fl d.length) = (cntL fl d.length)) ∧ ((cntL roots d.length) = (cntL roots d.length)) ∧ ([({ kind := 2, slot := IntKind.u32.wrap (IntKind.i64.wrap ((↑x.i : Int) + 1)), want := 0, have_ := IntKind.i64.wrap (eS d x2.i).node.left : FindT })] = []) ∧ (((Value.bool ((eS d x2.i).alloc)) = (Value.bool ((eS d x3.i).alloc))) ∧ ((Value.int IntKind.i64 ((eS d x2.i).count)) = (Value.int IntKind.i64 ((eS d x3.i).count))) ∧ ((Value.int IntKind.u32 ((eS d x2.i).gen)) = (Value.int IntKind.u32 ((eS d x3.i).gen))) ∧ ((Value.int IntKind.i64 ((eS d x2.i).node.key)) = (Value.int IntKind.i64 ((eS d x3.i).node.key))) ∧ ((Value.int IntKind.i64 ((eS d x2.i).node.value)) = (Value.int IntKind.i64 ((eS d x3.i).node.value))) ∧ ((Value.int IntKind.u32 ((eS d x2.i).node.left)) = (Value.int IntKind.u32 ((eS d x3.i).node.left))) ∧ ((Value.int IntKind.u32 ((eS d x2.i).node.right)) = (Value.int IntKind.u32 ((eS d x3.i).node.right))) ∧ ((Value.int IntKind.i64 ((eS d x2.i).node.size)) = (Value.int IntKind.i64 ((eS d x3.i).node.size))) ∧ ((Value.int IntKind.i64 ((eS d x2.i).node.sum)) = (Value.int IntKind.i64 ((eS d x3.i).node.sum))) ∧ ((Value.int IntKind.i64 ((eS d x2.i).node.min)) = (Value.int IntKind.i64 ((eS d x3.i).node.min))) ∧ ((Value.int IntKind.i64 ((eS d x2.i).node.max)) = (Value.int IntKind.i64 ((eS d x3.i).node.max))) ∧ True) ∧ True))))))))) (((0 ≤ IntKind.i64.wrap (0 + 1)) ∧
    (IntKind.i64.wrap (0 + 1) < ((2 : Nat) : Int)) ∧ (inU (eS d x2.i).node.right) ∧ (d.length ≤ 1000000) ∧ (brS (alcD d (eS d x2.i).node.right) (((0 ≤ IntKind.i64.wrap (0 + 1)) ∧ (IntKind.i64.wrap (0 + 1) < ((2 : Nat) : Int)) ∧ (0 ≤ IntKind.u32.wrap ((eS d x2.i).node.right - 1)) ∧ (IntKind.u32.wrap ((eS d x2.i).node.right - 1) < (↑d.length : Int)) ∧ (∃ x3 : XCj d roots P1, ((((↑x2.i : Int)) = ((↑x3.i : Int))) ∧ (True ∧ True ∧ True ∧ True ∧ True ∧ True ∧ True ∧ ((Value.int IntKind.i64 ((↑x2.i : Int))) = (Value.int IntKind.i64 ((↑x3.i : Int)))) ∧ ((Value.int IntKind.u32 (IntKind.u32.wrap (IntKind.i64.wrap ((↑x.i : Int) + 1)))) = (Value.int IntKind.u32 (IntKind.u32.wrap (IntKind.i64.wrap ((↑x.i : Int) + 1))))) ∧ True ∧ ((Value.int IntKind.i64 (IntKind.i64.wrap (1 + (eS d (IntKind.u32.wrap ((eS d x2.i).node.right - 1)).toNat).node.size))) = (Value.int IntKind.i64 (x3.c))) ∧ True) ∧ ((d) = (d)) ∧ ((fl) = (fl)) ∧ ((roots) = (roots)) ∧ (True ∧ True ∧ True) ∧ ((cntL (kidsL d) d.length) = (cntL (kidsL d) d.length)) ∧ ((x2.m) = (x3.m)) ∧ ((cntL fl d.length) = (cntL fl d.length)) ∧ ((cntL roots d.length) = (cntL roots d.length)) ∧ ((([] : List FindT) = [])) ∧ (((Value.bool ((eS d x2.i).alloc)) = (Value.bool ((eS d x3.i).alloc))) ∧ ((Value.int IntKind.i64 ((eS d x2.i).count)) = (Value.int IntKind.i64 ((eS d x3.i).count))) ∧ ((Value.int IntKind.u32 ((eS d x2.i).gen)) = (Value.int IntKind.u32 ((eS d x3.i).gen))) ∧
    ((Value.int IntKind.i64 ((eS d x2.i).node.key)) = (Value.int IntKind.i64 ((eS d x3.i).node.key))) ∧ ((Value.int IntKind.i64 ((eS d x2.i).node.value)) = (Value.int IntKind.i64 ((eS d x3.i).node.value))) ∧ ((Value.int IntKind.u32 ((eS d x2.i).node.left)) = (Value.int IntKind.u32 ((eS d x3.i).node.left))) ∧ ((Value.int IntKind.u32 ((eS d x2.i).node.right)) = (Value.int IntKind.u32 ((eS d x3.i).node.right))) ∧ ((Value.int IntKind.i64 ((eS d x2.i).node.size)) = (Value.int IntKind.i64 ((eS d x3.i).node.size))) ∧ ((Value.int IntKind.i64 ((eS d x2.i).node.sum)) = (Value.int IntKind.i64 ((eS d x3.i).node.sum))) ∧ ((Value.int IntKind.i64 ((eS d x2.i).node.min)) = (Value.int IntKind.i64 ((eS d x3.i).node.min))) ∧ ((Value.int IntKind.i64 ((eS d x2.i).node.max)) = (Value.int IntKind.i64 ((eS d x3.i).node.max))) ∧ True) ∧ True)))) (((0 ≤ IntKind.i64.wrap (0 + 1)) ∧ (IntKind.i64.wrap (0 + 1) < ((2 : Nat) : Int)) ∧ (brS ((eS d x2.i).node.right != 0) (((0 ≤ IntKind.i64.wrap (0 + 1)) ∧ (IntKind.i64.wrap (0 + 1) < ((2 : Nat) : Int)) ∧ ((([] : List Ent).length + [{ kind := 2, slot := IntKind.u32.wrap (IntKind.i64.wrap ((↑x.i : Int) + 1)), want := 0, have_ := IntKind.i64.wrap (eS d x2.i).node.right : FindT }].length) * bytesOf C0 EC.find ≤ 140737488355328) ∧ (∃ x3 : XCj d roots P1, ((((↑x2.i : Int)) = ((↑x3.i : Int))) ∧ (True ∧ True ∧ True ∧ True ∧ True ∧ True ∧ True ∧ ((Value.int IntKind.i64 ((↑x2.i : Int))) = (Value.int IntKind.i64 ((↑x3.i : Int)))) ∧
    ((Value.int IntKind.u32 (IntKind.u32.wrap (IntKind.i64.wrap ((↑x.i : Int) + 1)))) = (Value.int IntKind.u32 (IntKind.u32.wrap (IntKind.i64.wrap ((↑x.i : Int) + 1))))) ∧ True ∧ ((Value.int IntKind.i64 1) = (Value.int IntKind.i64 (x3.c))) ∧ True) ∧ ((d) = (d)) ∧ ((fl) = (fl)) ∧ ((roots) = (roots)) ∧ (True ∧ True ∧ True) ∧ ((cntL (kidsL d) d.length) = (cntL (kidsL d) d.length)) ∧ ((x2.m) = (x3.m)) ∧ ((cntL fl d.length) = (cntL fl d.length)) ∧ ((cntL roots d.length) = (cntL roots d.length)) ∧ ([({ kind := 2, slot := IntKind.u32.wrap (IntKind.i64.wrap ((↑x.i : Int) + 1)), want := 0, have_ := IntKind.i64.wrap (eS d x2.i).node.right : FindT })] = []) ∧ (((Value.bool ((eS d x2.i).alloc)) = (Value.bool ((eS d x3.i).alloc))) ∧ ((Value.int IntKind.i64 ((eS d x2.i).count)) = (Value.int IntKind.i64 ((eS d x3.i).count))) ∧ ((Value.int IntKind.u32 ((eS d x2.i).gen)) = (Value.int IntKind.u32 ((eS d x3.i).gen))) ∧ ((Value.int IntKind.i64 ((eS d x2.i).node.key)) = (Value.int IntKind.i64 ((eS d x3.i).node.key))) ∧ ((Value.int IntKind.i64 ((eS d x2.i).node.value)) = (Value.int IntKind.i64 ((eS d x3.i).node.value))) ∧ ((Value.int IntKind.u32 ((eS d x2.i).node.left)) = (Value.int IntKind.u32 ((eS d x3.i).node.left))) ∧ ((Value.int IntKind.u32 ((eS d x2.i).node.right)) = (Value.int IntKind.u32 ((eS d x3.i).node.right))) ∧ ((Value.int IntKind.i64 ((eS d x2.i).node.size)) = (Value.int IntKind.i64 ((eS d x3.i).node.size))) ∧
    ((Value.int IntKind.i64 ((eS d x2.i).node.sum)) = (Value.int IntKind.i64 ((eS d x3.i).node.sum))) ∧ ((Value.int IntKind.i64 ((eS d x2.i).node.min)) = (Value.int IntKind.i64 ((eS d x3.i).node.min))) ∧ ((Value.int IntKind.i64 ((eS d x2.i).node.max)) = (Value.int IntKind.i64 ((eS d x3.i).node.max))) ∧ True) ∧ True)))) ((∃ x3 : XCj d roots P1, ((((↑x2.i : Int)) = ((↑x3.i : Int))) ∧ (True ∧ True ∧ True ∧ True ∧ True ∧ True ∧ True ∧ ((Value.int IntKind.i64 ((↑x2.i : Int))) = (Value.int IntKind.i64 ((↑x3.i : Int)))) ∧ ((Value.int IntKind.u32 (IntKind.u32.wrap (IntKind.i64.wrap ((↑x.i : Int) + 1)))) = (Value.int IntKind.u32 (IntKind.u32.wrap (IntKind.i64.wrap ((↑x.i : Int) + 1))))) ∧ True ∧ ((Value.int IntKind.i64 1) = (Value.int IntKind.i64 (x3.c))) ∧ True) ∧ ((d) = (d)) ∧ ((fl) = (fl)) ∧ ((roots) = (roots)) ∧ (True ∧ True ∧ True) ∧ ((cntL (kidsL d) d.length) = (cntL (kidsL d) d.length)) ∧ ((x2.m) = (x3.m)) ∧ ((cntL fl d.length) = (cntL fl d.length)) ∧ ((cntL roots d.length) = (cntL roots d.length)) ∧ ((([] : List FindT) = [])) ∧ (((Value.bool ((eS d x2.i).alloc)) = (Value.bool ((eS d x3.i).alloc))) ∧ ((Value.int IntKind.i64 ((eS d x2.i).count)) = (Value.int IntKind.i64 ((eS d x3.i).count))) ∧ ((Value.int IntKind.u32 ((eS d x2.i).gen)) = (Value.int IntKind.u32 ((eS d x3.i).gen))) ∧ ((Value.int IntKind.i64 ((eS d x2.i).node.key)) = (Value.int IntKind.i64 ((eS d x3.i).node.key))) ∧ ((Value.int IntKind.i64 ((eS d x2.i).node.value)) = (Value.int IntKind.i64 ((eS d x3.i).node.value))) ∧
    ((Value.int IntKind.u32 ((eS d x2.i).node.left)) = (Value.int IntKind.u32 ((eS d x3.i).node.left))) ∧ ((Value.int IntKind.u32 ((eS d x2.i).node.right)) = (Value.int IntKind.u32 ((eS d x3.i).node.right))) ∧ ((Value.int IntKind.i64 ((eS d x2.i).node.size)) = (Value.int IntKind.i64 ((eS d x3.i).node.size))) ∧ ((Value.int IntKind.i64 ((eS d x2.i).node.sum)) = (Value.int IntKind.i64 ((eS d x3.i).node.sum))) ∧ ((Value.int IntKind.i64 ((eS d x2.i).node.min)) = (Value.int IntKind.i64 ((eS d x3.i).node.min))) ∧ ((Value.int IntKind.i64 ((eS d x2.i).node.max)) = (Value.int IntKind.i64 ((eS d x3.i).node.max))) ∧ True) ∧ True)))))))))))))) ∧ (∀ x3 : XCj d roots P1, ((((↑x2.i : Int)) = ((↑x3.i : Int))) → ((∃ x4 : XCj d roots P2, ((((↑x3.i : Int)) = ((↑x4.i : Int))) ∧ (True ∧ True ∧ True ∧ True ∧ True ∧ True ∧ True ∧ ((Value.int IntKind.i64 ((↑x3.i : Int))) = (Value.int IntKind.i64 ((↑x4.i : Int)))) ∧ ((Value.int IntKind.u32 (IntKind.u32.wrap (IntKind.i64.wrap ((↑x.i : Int) + 1)))) = (Value.int IntKind.u32 (IntKind.u32.wrap (IntKind.i64.wrap ((↑x.i : Int) + 1))))) ∧ True ∧ ((Value.int IntKind.i64 (x3.c)) = (Value.int IntKind.i64 (x3.c))) ∧ ((Value.bool (x3.c != (eS d x3.i).node.size)) = (Value.bool false)) ∧ True) ∧ ((d) = (d)) ∧ ((fl) = (fl)) ∧ ((roots) = (roots)) ∧ (True ∧ True ∧ True) ∧ ((cntL (kidsL d) d.length) = (cntL (kidsL d) d.length)) ∧ ((x3.m) = (x4.m)) ∧ ((cntL fl d.length) = (cntL fl d.length)) ∧ ((cntL roots d.length) = (cntL roots d.length)) ∧ ((([] : List FindT) = [])) ∧
    (((Value.bool ((eS d x3.i).alloc)) = (Value.bool ((eS d x4.i).alloc))) ∧ ((Value.int IntKind.i64 ((eS d x3.i).count)) = (Value.int IntKind.i64 ((eS d x4.i).count))) ∧ ((Value.int IntKind.u32 ((eS d x3.i).gen)) = (Value.int IntKind.u32 ((eS d x4.i).gen))) ∧ ((Value.int IntKind.i64 ((eS d x3.i).node.key)) = (Value.int IntKind.i64 ((eS d x4.i).node.key))) ∧ ((Value.int IntKind.i64 ((eS d x3.i).node.value)) = (Value.int IntKind.i64 ((eS d x4.i).node.value))) ∧ ((Value.int IntKind.u32 ((eS d x3.i).node.left)) = (Value.int IntKind.u32 ((eS d x4.i).node.left))) ∧ ((Value.int IntKind.u32 ((eS d x3.i).node.right)) = (Value.int IntKind.u32 ((eS d x4.i).node.right))) ∧ ((Value.int IntKind.i64 ((eS d x3.i).node.size)) = (Value.int IntKind.i64 ((eS d x4.i).node.size))) ∧ ((Value.int IntKind.i64 ((eS d x3.i).node.sum)) = (Value.int IntKind.i64 ((eS d x4.i).node.sum))) ∧ ((Value.int IntKind.i64 ((eS d x3.i).node.min)) = (Value.int IntKind.i64 ((eS d x4.i).node.min))) ∧ ((Value.int IntKind.i64 ((eS d x3.i).node.max)) = (Value.int IntKind.i64 ((eS d x4.i).node.max))) ∧ True) ∧ True)) ∧ (∀ x4 : XCj d roots P2, ((((↑x3.i : Int)) = ((↑x4.i : Int))) → ((0 ≤ (↑x4.i : Int)) ∧ ((↑x4.i : Int) < (↑(cntL (kidsL d) d.length).length : Int)) ∧ (0 ≤ (↑x4.i : Int)) ∧ ((↑x4.i : Int) < (↑(cntL roots d.length).length : Int)) ∧ (∃ x5 : XCj d roots P3, ((((↑x2.i : Int)) = ((↑x5.i : Int))) ∧ (True ∧ True ∧ True ∧ True ∧ True ∧ True ∧ True ∧
    ((Value.int IntKind.i64 ((↑x4.i : Int))) = (Value.int IntKind.i64 ((↑x5.i : Int)))) ∧ ((Value.int IntKind.u32 (IntKind.u32.wrap (IntKind.i64.wrap ((↑x.i : Int) + 1)))) = (Value.int IntKind.u32 (IntKind.u32.wrap (IntKind.i64.wrap ((↑x.i : Int) + 1))))) ∧ True ∧ ((Value.int IntKind.i64 (IntKind.i64.wrap ((cntL (kidsL d) d.length).getD (↑x4.i : Int).toNat 0 + (cntL roots d.length).getD (↑x4.i : Int).toNat 0))) = (Value.int IntKind.i64 (x5.c))) ∧ True) ∧ ((d) = (d)) ∧ ((fl) = (fl)) ∧ ((roots) = (roots)) ∧ (True ∧ True ∧ True) ∧ ((cntL (kidsL d) d.length) = (cntL (kidsL d) d.length)) ∧ ((x4.m) = (x5.m)) ∧ ((cntL fl d.length) = (cntL fl d.length)) ∧ ((cntL roots d.length) = (cntL roots d.length)) ∧ ((([] : List FindT) = [])) ∧ (((Value.bool ((eS d x4.i).alloc)) = (Value.bool ((eS d x5.i).alloc))) ∧ ((Value.int IntKind.i64 ((eS d x4.i).count)) = (Value.int IntKind.i64 ((eS d x5.i).count))) ∧ ((Value.int IntKind.u32 ((eS d x4.i).gen)) = (Value.int IntKind.u32 ((eS d x5.i).gen))) ∧ ((Value.int IntKind.i64 ((eS d x4.i).node.key)) = (Value.int IntKind.i64 ((eS d x5.i).node.key))) ∧ ((Value.int IntKind.i64 ((eS d x4.i).node.value)) = (Value.int IntKind.i64 ((eS d x5.i).node.value))) ∧ ((Value.int IntKind.u32 ((eS d x4.i).node.left)) = (Value.int IntKind.u32 ((eS d x5.i).node.left))) ∧ ((Value.int IntKind.u32 ((eS d x4.i).node.right)) = (Value.int IntKind.u32 ((eS d x5.i).node.right))) ∧ ((Value.int IntKind.i64 ((eS d x4.i).node.size)) = (Value.int IntKind.i64 ((eS d x5.i).node.size))) ∧
    ((Value.int IntKind.i64 ((eS d x4.i).node.sum)) = (Value.int IntKind.i64 ((eS d x5.i).node.sum))) ∧ ((Value.int IntKind.i64 ((eS d x4.i).node.min)) = (Value.int IntKind.i64 ((eS d x5.i).node.min))) ∧ ((Value.int IntKind.i64 ((eS d x4.i).node.max)) = (Value.int IntKind.i64 ((eS d x5.i).node.max))) ∧ True) ∧ True)))))))))) ((∃ x3 : XCj d roots P3, ((((↑x2.i : Int)) = ((↑x3.i : Int))) ∧ (True ∧ True ∧ True ∧ True ∧ True ∧ True ∧ True ∧ ((Value.int IntKind.i64 ((↑x2.i : Int))) = (Value.int IntKind.i64 ((↑x3.i : Int)))) ∧ ((Value.int IntKind.u32 (IntKind.u32.wrap (IntKind.i64.wrap ((↑x.i : Int) + 1)))) = (Value.int IntKind.u32 (IntKind.u32.wrap (IntKind.i64.wrap ((↑x.i : Int) + 1))))) ∧ True ∧ ((Value.int IntKind.i64 0) = (Value.int IntKind.i64 (x3.c))) ∧ True) ∧ ((d) = (d)) ∧ ((fl) = (fl)) ∧ ((roots) = (roots)) ∧ (True ∧ True ∧ True) ∧ ((cntL (kidsL d) d.length) = (cntL (kidsL d) d.length)) ∧ ((x2.m) = (x3.m)) ∧ ((cntL fl d.length) = (cntL fl d.length)) ∧ ((cntL roots d.length) = (cntL roots d.length)) ∧ ((([] : List FindT) = [])) ∧ (((Value.bool ((eS d x2.i).alloc)) = (Value.bool ((eS d x3.i).alloc))) ∧ ((Value.int IntKind.i64 ((eS d x2.i).count)) = (Value.int IntKind.i64 ((eS d x3.i).count))) ∧ ((Value.int IntKind.u32 ((eS d x2.i).gen)) = (Value.int IntKind.u32 ((eS d x3.i).gen))) ∧ ((Value.int IntKind.i64 ((eS d x2.i).node.key)) = (Value.int IntKind.i64 ((eS d x3.i).node.key))) ∧
    ((Value.int IntKind.i64 ((eS d x2.i).node.value)) = (Value.int IntKind.i64 ((eS d x3.i).node.value))) ∧ ((Value.int IntKind.u32 ((eS d x2.i).node.left)) = (Value.int IntKind.u32 ((eS d x3.i).node.left))) ∧ ((Value.int IntKind.u32 ((eS d x2.i).node.right)) = (Value.int IntKind.u32 ((eS d x3.i).node.right))) ∧ ((Value.int IntKind.i64 ((eS d x2.i).node.size)) = (Value.int IntKind.i64 ((eS d x3.i).node.size))) ∧ ((Value.int IntKind.i64 ((eS d x2.i).node.sum)) = (Value.int IntKind.i64 ((eS d x3.i).node.sum))) ∧ ((Value.int IntKind.i64 ((eS d x2.i).node.min)) = (Value.int IntKind.i64 ((eS d x3.i).node.min))) ∧ ((Value.int IntKind.i64 ((eS d x2.i).node.max)) = (Value.int IntKind.i64 ((eS d x3.i).node.max))) ∧ True) ∧ True)))) ∧ (∀ x3 : XCj d roots P3, ((((↑x2.i : Int)) = ((↑x3.i : Int))) → ((∃ x4 : XCj d roots P0, ((((↑x3.i : Int)) = ((↑x4.i : Int))) ∧ (True ∧ True ∧ True ∧ True ∧ True ∧ True ∧ True ∧ ((Value.int IntKind.i64 ((↑x3.i : Int))) = (Value.int IntKind.i64 ((↑x4.i : Int)))) ∧ ((Value.int IntKind.u32 (IntKind.u32.wrap (IntKind.i64.wrap ((↑x.i : Int) + 1)))) = (Value.int IntKind.u32 (IntKind.u32.wrap (IntKind.i64.wrap ((↑x.i : Int) + 1))))) ∧ True ∧ ((Value.int IntKind.i64 (x3.c)) = (Value.int IntKind.i64 (x3.c))) ∧ ((Value.bool (x3.c != (eS d x3.i).count)) = (Value.bool false)) ∧ True) ∧ ((d) = (d)) ∧ ((fl) = (fl)) ∧ ((roots) = (roots)) ∧ (True ∧ True ∧ True) ∧ ((cntL (kidsL d) d.length) = (cntL (kidsL d) d.length)) ∧ ((x3.m) = (x4.m)) ∧
    ((cntL fl d.length) = (cntL fl d.length)) ∧ ((cntL roots d.length) = (cntL roots d.length)) ∧ ((([] : List FindT) = [])) ∧ (((Value.bool ((eS d x3.i).alloc)) = (Value.bool ((eS d x4.i).alloc))) ∧ ((Value.int IntKind.i64 ((eS d x3.i).count)) = (Value.int IntKind.i64 ((eS d x4.i).count))) ∧ ((Value.int IntKind.u32 ((eS d x3.i).gen)) = (Value.int IntKind.u32 ((eS d x4.i).gen))) ∧ ((Value.int IntKind.i64 ((eS d x3.i).node.key)) = (Value.int IntKind.i64 ((eS d x4.i).node.key))) ∧ ((Value.int IntKind.i64 ((eS d x3.i).node.value)) = (Value.int IntKind.i64 ((eS d x4.i).node.value))) ∧ ((Value.int IntKind.u32 ((eS d x3.i).node.left)) = (Value.int IntKind.u32 ((eS d x4.i).node.left))) ∧ ((Value.int IntKind.u32 ((eS d x3.i).node.right)) = (Value.int IntKind.u32 ((eS d x4.i).node.right))) ∧ ((Value.int IntKind.i64 ((eS d x3.i).node.size)) = (Value.int IntKind.i64 ((eS d x4.i).node.size))) ∧ ((Value.int IntKind.i64 ((eS d x3.i).node.sum)) = (Value.int IntKind.i64 ((eS d x4.i).node.sum))) ∧ ((Value.int IntKind.i64 ((eS d x3.i).node.min)) = (Value.int IntKind.i64 ((eS d x4.i).node.min))) ∧ ((Value.int IntKind.i64 ((eS d x3.i).node.max)) = (Value.int IntKind.i64 ((eS d x4.i).node.max))) ∧ True) ∧ True)) ∧ (∀ x4 : XCj d roots P0, ((((↑x3.i : Int)) = ((↑x4.i : Int))) → ((brS ((eS d x4.i).alloc) (((0 ≤ (↑x4.i : Int)) ∧ ((↑x4.i : Int) < (↑x4.m.length : Int)) ∧ (∃ x5 : XCj d roots P0, ((((↑x4.i : Int)) = ((↑x5.i : Int))) ∧ (True ∧ True ∧ True ∧ True ∧ True ∧ True ∧ True ∧
    ((Value.int IntKind.i64 ((↑x4.i : Int))) = (Value.int IntKind.i64 ((↑x5.i : Int)))) ∧ ((Value.int IntKind.u32 (IntKind.u32.wrap (IntKind.i64.wrap ((↑x.i : Int) + 1)))) = (Value.int IntKind.u32 (IntKind.u32.wrap (IntKind.i64.wrap ((↑x.i : Int) + 1))))) ∧ True ∧ ((Value.bool (!x4.m.getD (↑x4.i : Int).toNat false)) = (Value.bool false)) ∧ True) ∧ ((d) = (d)) ∧ ((fl) = (fl)) ∧ ((roots) = (roots)) ∧ (True ∧ True ∧ True) ∧ ((cntL (kidsL d) d.length) = (cntL (kidsL d) d.length)) ∧ ((x4.m) = (x5.m)) ∧ ((cntL fl d.length) = (cntL fl d.length)) ∧ ((cntL roots d.length) = (cntL roots d.length)) ∧ ((([] : List FindT) = [])) ∧ (((Value.bool ((eS d x4.i).alloc)) = (Value.bool ((eS d x5.i).alloc))) ∧ ((Value.int IntKind.i64 ((eS d x4.i).count)) = (Value.int IntKind.i64 ((eS d x5.i).count))) ∧ ((Value.int IntKind.u32 ((eS d x4.i).gen)) = (Value.int IntKind.u32 ((eS d x5.i).gen))) ∧ ((Value.int IntKind.i64 ((eS d x4.i).node.key)) = (Value.int IntKind.i64 ((eS d x5.i).node.key))) ∧ ((Value.int IntKind.i64 ((eS d x4.i).node.value)) = (Value.int IntKind.i64 ((eS d x5.i).node.value))) ∧ ((Value.int IntKind.u32 ((eS d x4.i).node.left)) = (Value.int IntKind.u32 ((eS d x5.i).node.left))) ∧ ((Value.int IntKind.u32 ((eS d x4.i).node.right)) = (Value.int IntKind.u32 ((eS d x5.i).node.right))) ∧ ((Value.int IntKind.i64 ((eS d x4.i).node.size)) = (Value.int IntKind.i64 ((eS d x5.i).node.size))) ∧ ((Value.int IntKind.i64 ((eS d x4.i).node.sum)) = (Value.int IntKind.i64 ((eS d x5.i).node.sum))) ∧
    ((Value.int IntKind.i64 ((eS d x4.i).node.min)) = (Value.int IntKind.i64 ((eS d x5.i).node.min))) ∧ ((Value.int IntKind.i64 ((eS d x4.i).node.max)) = (Value.int IntKind.i64 ((eS d x5.i).node.max))) ∧ True) ∧ True)))) ((∃ x5 : XCj d roots P0, ((((↑x4.i : Int)) = ((↑x5.i : Int))) ∧ (True ∧ True ∧ True ∧ True ∧ True ∧ True ∧ True ∧ ((Value.int IntKind.i64 ((↑x4.i : Int))) = (Value.int IntKind.i64 ((↑x5.i : Int)))) ∧ ((Value.int IntKind.u32 (IntKind.u32.wrap (IntKind.i64.wrap ((↑x.i : Int) + 1)))) = (Value.int IntKind.u32 (IntKind.u32.wrap (IntKind.i64.wrap ((↑x.i : Int) + 1))))) ∧ True ∧ ((Value.bool false) = (Value.bool false)) ∧ True) ∧ ((d) = (d)) ∧ ((fl) = (fl)) ∧ ((roots) = (roots)) ∧ (True ∧ True ∧ True) ∧ ((cntL (kidsL d) d.length) = (cntL (kidsL d) d.length)) ∧ ((x4.m) = (x5.m)) ∧ ((cntL fl d.length) = (cntL fl d.length)) ∧ ((cntL roots d.length) = (cntL roots d.length)) ∧ ((([] : List FindT) = [])) ∧ (((Value.bool ((eS d x4.i).alloc)) = (Value.bool ((eS d x5.i).alloc))) ∧ ((Value.int IntKind.i64 ((eS d x4.i).count)) = (Value.int IntKind.i64 ((eS d x5.i).count))) ∧ ((Value.int IntKind.u32 ((eS d x4.i).gen)) = (Value.int IntKind.u32 ((eS d x5.i).gen))) ∧ ((Value.int IntKind.i64 ((eS d x4.i).node.key)) = (Value.int IntKind.i64 ((eS d x5.i).node.key))) ∧ ((Value.int IntKind.i64 ((eS d x4.i).node.value)) = (Value.int IntKind.i64 ((eS d x5.i).node.value))) ∧ ((Value.int IntKind.u32 ((eS d x4.i).node.left)) = (Value.int IntKind.u32 ((eS d x5.i).node.left))) ∧
    ((Value.int IntKind.u32 ((eS d x4.i).node.right)) = (Value.int IntKind.u32 ((eS d x5.i).node.right))) ∧ ((Value.int IntKind.i64 ((eS d x4.i).node.size)) = (Value.int IntKind.i64 ((eS d x5.i).node.size))) ∧ ((Value.int IntKind.i64 ((eS d x4.i).node.sum)) = (Value.int IntKind.i64 ((eS d x5.i).node.sum))) ∧ ((Value.int IntKind.i64 ((eS d x4.i).node.min)) = (Value.int IntKind.i64 ((eS d x5.i).node.min))) ∧ ((Value.int IntKind.i64 ((eS d x4.i).node.max)) = (Value.int IntKind.i64 ((eS d x5.i).node.max))) ∧ True) ∧ True)))) ∧ (∀ x5 : XCj d roots P0, ((((↑x4.i : Int)) = ((↑x5.i : Int))) → (∃ x' : XCk d roots, (True ∧ ((True ∧ True ∧ True ∧ True ∧ True ∧ True ∧ True ∧ ((Value.int IntKind.i64 (IntKind.i64.wrap ((↑x5.i : Int) + 1))) = (Value.int IntKind.i64 ((↑x'.i : Int)))) ∧ True) ∧ ((d) = (d)) ∧ ((fl) = (fl)) ∧ ((roots) = (roots)) ∧ (True ∧ True ∧ True) ∧ ((cntL (kidsL d) d.length) = (cntL (kidsL d) d.length)) ∧ ((x5.m) = (x'.m)) ∧ ((cntL fl d.length) = (cntL fl d.length)) ∧ ((cntL roots d.length) = (cntL roots d.length)) ∧ ((([] : List FindT) = [])) ∧ True) ∧ (d.length - x'.i < d.length - x.i))))))))))))))))))) (((∃ x1 : XIx fl.length, (True ∧ (True ∧ True ∧ True ∧ ((Value.int IntKind.i64 0) = (Value.int IntKind.i64 ((↑x1.i : Int)))) ∧ True) ∧ ((d) = (d)) ∧ ((fl) = (fl)) ∧ ((roots) = (roots)) ∧ (True ∧ True ∧ True) ∧ ((([] : List FindT) = [])) ∧ True)) ∧ (∀ x1 : XIx fl.length, (True → (brS (decide ((↑x1.i : Int) < (↑fl.length : Int))) ((((0 ≤ (↑x1.i : Int)) ∧
    ((↑x1.i : Int) < (↑fl.length : Int)) ∧ (brS (decide (fl.getD (↑x1.i : Int).toNat 0 < 1)) ((∃ x2 : XIy fl.length, ((((↑x1.i : Int)) = ((↑x2.i : Int))) ∧ (True ∧ True ∧ True ∧ ((Value.int IntKind.i64 ((↑x1.i : Int))) = (Value.int IntKind.i64 ((↑x2.i : Int)))) ∧ ((Value.bool true) = (Value.bool false)) ∧ True) ∧ ((d) = (d)) ∧ ((fl) = (fl)) ∧ ((roots) = (roots)) ∧ (True ∧ True ∧ True) ∧ ((([] : List FindT) = [])) ∧ True))) (((0 ≤ (↑x1.i : Int)) ∧ ((↑x1.i : Int) < (↑fl.length : Int)) ∧ (∃ x2 : XIy fl.length, ((((↑x1.i : Int)) = ((↑x2.i : Int))) ∧ (True ∧ True ∧ True ∧ ((Value.int IntKind.i64 ((↑x1.i : Int))) = (Value.int IntKind.i64 ((↑x2.i : Int)))) ∧ ((Value.bool (decide (IntKind.u64.wrap (fl.getD (↑x1.i : Int).toNat 0) > IntKind.u64.wrap (↑d.length : Int)))) = (Value.bool false)) ∧ True) ∧ ((d) = (d)) ∧ ((fl) = (fl)) ∧ ((roots) = (roots)) ∧ (True ∧ True ∧ True) ∧ ((([] : List FindT) = [])) ∧ True)))))) ∧ (∀ x2 : XIy fl.length, ((((↑x1.i : Int)) = ((↑x2.i : Int))) → (∃ x' : XIx fl.length, (True ∧ ((True ∧ True ∧ True ∧ ((Value.int IntKind.i64 (IntKind.i64.wrap ((↑x2.i : Int) + 1))) = (Value.int IntKind.i64 ((↑x'.i : Int)))) ∧ True) ∧ ((d) = (d)) ∧ ((fl) = (fl)) ∧ ((roots) = (roots)) ∧ (True ∧ True ∧ True) ∧ ((([] : List FindT) = [])) ∧ True) ∧ (fl.length - x'.i < fl.length - x1.i))))))) (((∃ x2 : XIx roots.length, (True ∧ (True ∧ True ∧ True ∧ ((Value.int IntKind.i64 0) = (Value.int IntKind.i64 ((↑x2.i : Int)))) ∧ True) ∧ ((d) = (d)) ∧ ((fl) = (fl)) ∧ ((roots) = (roots)) ∧
    (True ∧ True ∧ True) ∧ ((([] : List FindT) = [])) ∧ True)) ∧ (∀ x2 : XIx roots.length, (True → (brS (decide ((↑x2.i : Int) < (↑roots.length : Int))) ((((0 ≤ (↑x2.i : Int)) ∧ ((↑x2.i : Int) < (↑roots.length : Int)) ∧ (brS (roots.getD (↑x2.i : Int).toNat 0 != 0) (((0 ≤ (↑x2.i : Int)) ∧ ((↑x2.i : Int) < (↑roots.length : Int)) ∧ (inU (roots.getD (↑x2.i : Int).toNat 0)) ∧ (d.length ≤ 1000000) ∧ (∃ x3 : XIy roots.length, ((((↑x2.i : Int)) = ((↑x3.i : Int))) ∧ (True ∧ True ∧ True ∧ ((Value.int IntKind.i64 ((↑x2.i : Int))) = (Value.int IntKind.i64 ((↑x3.i : Int)))) ∧ ((Value.bool (!alcD d (roots.getD (↑x2.i : Int).toNat 0))) = (Value.bool false)) ∧ True) ∧ ((d) = (d)) ∧ ((fl) = (fl)) ∧ ((roots) = (roots)) ∧ (True ∧ True ∧ True) ∧ ((([] : List FindT) = [])) ∧ True)))) ((∃ x3 : XIy roots.length, ((((↑x2.i : Int)) = ((↑x3.i : Int))) ∧ (True ∧ True ∧ True ∧ ((Value.int IntKind.i64 ((↑x2.i : Int))) = (Value.int IntKind.i64 ((↑x3.i : Int)))) ∧ ((Value.bool false) = (Value.bool false)) ∧ True) ∧ ((d) = (d)) ∧ ((fl) = (fl)) ∧ ((roots) = (roots)) ∧ (True ∧ True ∧ True) ∧ ((([] : List FindT) = [])) ∧ True))))) ∧ (∀ x3 : XIy roots.length, ((((↑x2.i : Int)) = ((↑x3.i : Int))) → (∃ x' : XIx roots.length, (True ∧ ((True ∧ True ∧ True ∧ ((Value.int IntKind.i64 (IntKind.i64.wrap ((↑x3.i : Int) + 1))) = (Value.int IntKind.i64 ((↑x'.i : Int)))) ∧ True) ∧ ((d) = (d)) ∧ ((fl) = (fl)) ∧ ((roots) = (roots)) ∧ (True ∧ True ∧ True) ∧ ((([] : List FindT) = [])) ∧ True) ∧
    (roots.length - x'.i < roots.length - x2.i))))))) ((K (SV.one (TV.at (At.slc 3))) [(Chunk.row false (EC.slot) (d)), (Chunk.row false (EC.u32) (fl)), (Chunk.row false (EC.u32) (roots)), (Chunk.row true (EC.find) [])] [])))))))))))))))))))))))))))) = _ by kernel_rfl) ?_
  subst hP0 hP1 hP2 hP3 hP4
  refine ⟨hl, hk, fun o eo => ⟨hl, hr, hk, hru, fun m hm => ⟨by omega, by omega, hf, hfu, fun o1 e1 => ⟨by omega, by omega, hr, hru, fun o2 e2 => ⟨⟨⟨0, m, Nat.zero_le _, hm⟩, ?_⟩, fun x _ => ?_⟩⟩⟩⟩⟩
  · (repeat' first | exact trivial | exact rfl | exact eo | exact e1 | exact e2 | refine And.intro ?_ ?_)
  obtain ⟨i, m, hi, hm⟩ := x
  dsimp only
  refine brS_of (fun c => ?_) fun c => ?_
  · have c : i < d.length := by have := of_decide_eq_true c; omega
    refine ⟨by omega, by omega, brS_of (fun a => ⟨⟨i, m, 0, c, hm, (if_pos a).symm⟩, ?_⟩) fun a => ⟨⟨i, m, 1, c, hm, (if_neg (fun z => by rw [show (eS d i).alloc = false from a] at z; cases z)).symm⟩, ?_⟩, fun x1 e1 => ?_⟩
    · (repeat' first | exact trivial | exact rfl | refine And.intro ?_ ?_)
    · (repeat' first | exact trivial | exact rfl | refine And.intro ?_ ?_)
    obtain ⟨i1, m1, c1, hi1, hm1, p1⟩ := x1
    have e1 : (i : Int) = (i1 : Int) := e1
    have e1 : i = i1 := by omega
    subst e1
    dsimp only
    have b1 : ((cntL fl d.length).getD i 0 != c1) = false := by
      rw [cntL_get fl _ _ c, hc.free i c, show c1 = _ from p1]
      show (((if (eS d i).alloc = true then (0 : Nat) else 1 : Nat) : Int) != if (eS d i).alloc = true then (0 : Int) else 1) = false
      cases (eS d i).alloc <;> rfl
    refine ⟨by omega, by rw [cntL_len]; omega, ⟨⟨i, m1, 0, c, hm1, trivial⟩, ?_⟩, fun x2 e2 => ?_⟩
    · (repeat' first | exact trivial | exact rfl | exact congrArg Value.bool b1 | refine And.intro ?_ ?_)
    obtain ⟨i2, m2, c2, hi2, hm2, p2⟩ := x2
    have e2 : (i : Int) = (i2 : Int) := e2
    have e2 : i = i2 := by omega
    subst e2
    dsimp only
    have hmem : eS d i ∈ d := by unfold eS; rw [List.getD_eq_getElem?_getD, List.getElem?_eq_getElem c]; exact List.getElem_mem c
    obtain ⟨kl, kr⟩ := hk _ hmem
    refine ⟨brS_of (fun a => ⟨?_, fun x3 e3 => ?_⟩) fun a => ⟨⟨i, m2, 0, c, hm2, (if_neg (fun z => by rw [show (eS d i).alloc = false from a] at z; cases z)).symm⟩, ?_⟩, fun x3 e3 => ?_⟩
    · have sl := szD_rng hc (eS d i).node.left
      have sr := szD_rng hc (eS d i).node.right
      have il := hc.left i c a
      have ir := hc.right i c a
      have dl : d.length ≤ 1000000 := by omega
      have w1 : (0 : Int) ≤ IntKind.i64.wrap (0 + 1) := by decide
      have w2 : IntKind.i64.wrap (0 + 1) < ((2 : Nat) : Int) := by decide
      refine ⟨by decide, by decide, kl, dl, brS_of (fun al => ?_) fun al => ?_⟩
      · obtain ⟨q1, q2, q3⟩ := eS_sz hc hl al
        refine ⟨by decide, by decide, q1, q2, w1, w2, kr, dl, brS_of (fun ar => ?_) fun ar => ?_⟩
        · obtain ⟨t1, t2, t3⟩ := eS_sz hc hl ar
          refine ⟨w1, w2, t1, t2, ⟨i, m2, _, c, hm2, a, rfl⟩, ?_⟩
          have v : IntKind.i64.wrap (IntKind.i64.wrap (1 + (eS d (IntKind.u32.wrap ((eS d i).node.left - 1)).toNat).node.size) + (eS d (IntKind.u32.wrap ((eS d i).node.right - 1)).toNat).node.size) = 1 + szD d (eS d i).node.left + szD d (eS d i).node.right := by
            rw [q3, t3, wrap_id (x := 1 + szD d (eS d i).node.left) (by omega) (by omega), wrap_id (by omega) (by omega)]
          (repeat' first | exact trivial | exact rfl | exact congrArg (Value.int IntKind.i64) v | refine And.intro ?_ ?_)
        · have z := szD_no ar
          refine ⟨w1, w2, brS_of (fun f => ?_) fun f => ⟨⟨i, m2, _, c, hm2, a, rfl⟩, ?_⟩⟩
          · exfalso
            rcases ir with e | e
            · rw [show (eS d i).node.right = 0 from e] at f; cases f
            · rw [show alcD d (eS d i).node.right = true from e] at ar; cases ar
          · have v : IntKind.i64.wrap (1 + (eS d (IntKind.u32.wrap ((eS d i).node.left - 1)).toNat).node.size) = 1 + szD d (eS d i).node.left + szD d (eS d i).node.right := by
              rw [q3, z, wrap_id (x := 1 + szD d (eS d i).node.left) (by omega) (by omega)]; omega
            (repeat' first | exact trivial | exact rfl | exact congrArg (Value.int IntKind.i64) v | refine And.intro ?_ ?_)
      · have z1 := szD_no al
        refine ⟨by decide, by decide, brS_of (fun f => ?_) fun f => ⟨w1, w2, kr, dl, brS_of (fun ar => ?_) fun ar => ?_⟩⟩
        · exfalso
          rcases il with e | e
          · rw [show (eS d i).node.left = 0 from e] at f; cases f
          · rw [show alcD d (eS d i).node.left = true from e] at al; cases al
        · obtain ⟨t1, t2, t3⟩ := eS_sz hc hl ar
          refine ⟨w1, w2, t1, t2, ⟨i, m2, _, c, hm2, a, rfl⟩, ?_⟩
          have v : IntKind.i64.wrap (1 + (eS d (IntKind.u32.wrap ((eS d i).node.right - 1)).toNat).node.size) = 1 + szD d (eS d i).node.left + szD d (eS d i).node.right := by
            rw [t3, z1, wrap_id (x := 1 + szD d (eS d i).node.right) (by omega) (by omega)]; omega
          (repeat' first | exact trivial | exact rfl | exact congrArg (Value.int IntKind.i64) v | refine And.intro ?_ ?_)
        · have z := szD_no ar
          refine ⟨w1, w2, brS_of (fun f => ?_) fun f => ⟨⟨i, m2, _, c, hm2, a, rfl⟩, ?_⟩⟩
          · exfalso
            rcases ir with e | e
            · rw [show (eS d i).node.right = 0 from e] at f; cases f
            · rw [show alcD d (eS d i).node.right = true from e] at ar; cases ar
          · have v : 1 = 1 + szD d (eS d i).node.left + szD d (eS d i).node.right := by omega
            (repeat' first | exact trivial | exact rfl | exact congrArg (Value.int IntKind.i64) v | refine And.intro ?_ ?_)
    · obtain ⟨i3, m3, c3, hi3, hm3, a3, p3⟩ := x3
      have e3 : (i : Int) = (i3 : Int) := e3
      have e3 : i = i3 := by omega
      subst e3
      dsimp only
      have b3 : (c3 != (eS d i).node.size) = false := by
        have := hc.size i c a3
        rw [p3, show (eS d i).node.size = _ from this]; simp
      refine ⟨⟨⟨i, m3, 0, c, hm3, a3⟩, ?_⟩, fun x4 e4 => ?_⟩
      · (repeat' first | exact trivial | exact rfl | exact congrArg Value.bool b3 | refine And.intro ?_ ?_)
      obtain ⟨i4, m4, c4, hi4, hm4, p4⟩ := x4
      have e4 : (i : Int) = (i4 : Int) := e4
      have e4 : i = i4 := by omega
      subst e4
      dsimp only
      refine ⟨by omega, by rw [cntL_len]; omega, by omega, by rw [cntL_len]; omega, ⟨i, m4, _, c, hm4, rfl⟩, ?_⟩
      have v : IntKind.i64.wrap ((cntL (kidsL d) d.length).getD i 0 + (cntL roots d.length).getD i 0) = if (eS d i).alloc = true then ((kidsL d).count ((i : Int) + 1) : Int) + (roots.count ((i : Int) + 1) : Int) else 0 := by
        have k1 := cntL_rng (kidsL d) d.length i c
        have k2 := cntL_rng roots d.length i c
        have k3 := kidsL_len d
        rw [wrap_id (by omega) (by omega), cntL_get _ _ _ c, cntL_get _ _ _ c, if_pos a3]
      (repeat' first | exact trivial | exact rfl | exact congrArg (Value.int IntKind.i64) v | refine And.intro ?_ ?_)
    · (repeat' first | exact trivial | exact rfl | refine And.intro ?_ ?_)
    obtain ⟨i3, m3, c3, hi3, hm3, p3⟩ := x3
    have e3 : (i : Int) = (i3 : Int) := e3
    have e3 : i = i3 := by omega
    subst e3
    dsimp only
    have b3 : (c3 != (eS d i).count) = false := by
      have := hc.count i c
      rw [show c3 = _ from p3, show (eS d i).count = _ from this]; simp
    refine ⟨⟨⟨i, m3, 0, c, hm3, trivial⟩, ?_⟩, fun x4 e4 => ?_⟩
    · (repeat' first | exact trivial | exact rfl | exact congrArg Value.bool b3 | refine And.intro ?_ ?_)
    obtain ⟨i4, m4, c4, hi4, hm4, p4⟩ := x4
    have e4 : (i : Int) = (i4 : Int) := e4
    have e4 : i = i4 := by omega
    subst e4
    dsimp only
    refine ⟨brS_of (fun a => ⟨by omega, by rw [hm4.len]; omega, ⟨i, m4, 0, c, hm4, trivial⟩, ?_⟩) fun a => ⟨⟨i, m4, 0, c, hm4, trivial⟩, ?_⟩, fun x5 e5 => ?_⟩
    · have b4 : (!m4.getD i false) = false := by rw [hc.mark m4 hm4 i c a]; rfl
      (repeat' first | exact trivial | exact rfl | exact congrArg Value.bool b4 | refine And.intro ?_ ?_)
    · (repeat' first | exact trivial | exact rfl | refine And.intro ?_ ?_)
    obtain ⟨i5, m5, c5, hi5, hm5, p5⟩ := x5
    have e5 : (i : Int) = (i5 : Int) := e5
    have e5 : i = i5 := by omega
    subst e5
    dsimp only
    refine ⟨⟨i + 1, m5, c, hm5⟩, ?_⟩
    have v : IntKind.i64.wrap ((i : Int) + 1) = ((i + 1 : Nat) : Int) := by rw [wrap_id (by omega) (by omega)]; rfl
    (repeat' first | exact trivial | exact rfl | exact congrArg (Value.int IntKind.i64) v | refine And.intro ?_ ?_)
    show d.length - (i + 1) < d.length - i
    omega
  · refine ⟨⟨⟨0, Nat.zero_le _⟩, ?_⟩, fun x _ => ?_⟩
    · (repeat' first | exact trivial | exact rfl | refine And.intro ?_ ?_)
    obtain ⟨j, hj⟩ := x
    dsimp only
    refine brS_of (fun c => ?_) fun _ => ?_
    · have c : j < fl.length := by have := of_decide_eq_true c; omega
      have hx : fl.getD j 0 ∈ fl := by rw [List.getD_eq_getElem?_getD, List.getElem?_eq_getElem c]; exact List.getElem_mem c
      have hg := hc.rng _ hx
      obtain ⟨u1, u2⟩ := hfu _ hx
      refine ⟨⟨by omega, by omega, brS_of (fun f => ?_) fun _ => ⟨by omega, by omega, ⟨j, c⟩, ?_⟩⟩, fun y e => ?_⟩
      · have f : fl.getD j 0 < 1 := of_decide_eq_true f
        omega
      · have b : decide (IntKind.u64.wrap (fl.getD j 0) > IntKind.u64.wrap (d.length : Int)) = false := by
          rw [wrap_u64 (x := fl.getD j 0) u1 (by omega), wrap_u64 (x := (d.length : Int)) (by omega) (by omega)]
          exact decide_eq_false (by omega)
        (repeat' first | exact trivial | exact rfl | exact congrArg Value.bool b | refine And.intro ?_ ?_)
      · obtain ⟨j1, hj1⟩ := y
        have e : (j : Int) = (j1 : Int) := e
        have e : j = j1 := by omega
        subst e
        dsimp only
        refine ⟨⟨j + 1, c⟩, ?_⟩
        have v : IntKind.i64.wrap ((j : Int) + 1) = ((j + 1 : Nat) : Int) := by rw [wrap_id (by omega) (by omega)]; rfl
        (repeat' first | exact trivial | exact rfl | exact congrArg (Value.int IntKind.i64) v | refine And.intro ?_ ?_)
        show fl.length - (j + 1) < fl.length - j
        omega
    · refine ⟨⟨⟨0, Nat.zero_le _⟩, ?_⟩, fun x _ => ?_⟩
      · (repeat' first | exact trivial | exact rfl | refine And.intro ?_ ?_)
      obtain ⟨j, hj⟩ := x
      dsimp only
      refine brS_of (fun c => ?_) fun _ => h
      have c : j < roots.length := by have := of_decide_eq_true c; omega
      have hx : roots.getD j 0 ∈ roots := by rw [List.getD_eq_getElem?_getD, List.getElem?_eq_getElem c]; exact List.getElem_mem c
      have hg := hc.held _ hx
      refine ⟨⟨by omega, by omega, brS_of (fun f => ⟨by omega, by omega, hru _ hx, by omega, ⟨j, c⟩, ?_⟩) fun _ => ⟨⟨j, c⟩, ?_⟩⟩, fun y e => ?_⟩
      · have b : (!alcD d (roots.getD j 0)) = false := by
          rcases hg with e | e
          · have f : (roots.getD j 0 != 0) = true := f
            rw [e] at f; cases f
          · rw [e]; rfl
        (repeat' first | exact trivial | exact rfl | exact congrArg Value.bool b | refine And.intro ?_ ?_)
      · (repeat' first | exact trivial | exact rfl | refine And.intro ?_ ?_)
      · obtain ⟨j1, hj1⟩ := y
        have e : (j : Int) = (j1 : Int) := e
        have e : j = j1 := by omega
        subst e
        dsimp only
        refine ⟨⟨j + 1, c⟩, ?_⟩
        have v : IntKind.i64.wrap ((j : Int) + 1) = ((j + 1 : Nat) : Int) := by rw [wrap_id (by omega) (by omega)]; rfl
        (repeat' first | exact trivial | exact rfl | exact congrArg (Value.int IntKind.i64) v | refine And.intro ?_ ?_)
        show roots.length - (j + 1) < roots.length - j
        omega
theorem s_chk : SoundT C0 114 tChk := by
  refine .of Try.func114 (by decide) rfl fun args H K h hB => ?_
  unfold tChk at h
  split at h <;> try exact h.elim
  rename_i d fl roots
  obtain ⟨h1, h2, h3, h4, h5, h6, h7, h⟩ := h
  exact ⟨aChk P0c (P1c d) (P2c d) (P3c d roots) (P4c d) d fl roots, ⟨frame C0.ok s_ine _, frame C0.ok s_mk _, frame C0.ok s_cnt _, frame C0.ok s_alc _, frame C0.ok s_kids _, trivial⟩, vc_chk d fl roots K h1 h2 h3 h4 h5 h6 h7 h⟩
theorem s_cln : SoundT C0 68 tCln := by
  refine .of Try.func68 (by decide) rfl fun args H K h hB => ?_
  unfold tCln at h
  split at h <;> try exact h.elim
  rename_i d fl roots
  exact ⟨aCln, ⟨frame C0.ok s_chk _, trivial⟩, Eq.mp (show ((CleanD d fl roots) ∧
(kidsU d) ∧
(allU fl) ∧
(allU roots) ∧
(d.length ≤ 100000) ∧
(fl.length ≤ 1000000) ∧
(roots.length ≤ 1000000) ∧
(K (SV.one (TV.at (At.val (Value.bool true)))) [(Chunk.row false (EC.slot) (d)), (Chunk.row false (EC.u32) (fl)), (Chunk.row false (EC.u32) (roots))] [])) = _ by kernel_rfl) h⟩
theorem vc_sound (S : Arn) (roots hs : List Int) (K : KT) (w : Wf S hs) (p : roots.Perm hs) (hr : roots.length ≤ 1000000) (h : K (.one (.at (vB true))) (chS S ++ [.row false EC.u32 roots]) []) :
    vc C0 aSound Try.f27 [.at (.ptr 0 0), .at (.slc 7)] (chS S ++ [.row false EC.u32 roots]) (normK 8 K) := by
  refine Eq.mp (show ((exW S) ∧
(∀ d : List SlotT, (∀ o : List Int, (((d) = (slotsOf S)) → (((o) = (orderOf S)) → ((CleanD d o roots) ∧ (kidsU d) ∧ (allU o) ∧ (allU roots) ∧ (d.length ≤ 100000) ∧ (o.length ≤ 1000000) ∧ (roots.length ≤ 1000000) ∧ (K (SV.one (TV.at (At.val (Value.bool true)))) [(Chunk.box [(At.ptr 1 0), (At.slc 2), (At.slc 3), (At.val (Value.int IntKind.u64 (S.reads)))]), (Chunk.box [(At.slc 4), (At.slc 5), (At.slc 6), (At.val (Value.int IntKind.u32 (S.fresh)))]), (Chunk.row true (EC.node) (S.nodes)), (Chunk.row true (EC.int) (S.counts)), (Chunk.row true (EC.bool) (S.used)), (Chunk.row true (EC.u32) (S.gen)), (Chunk.row true (EC.u32) (S.rel)), (Chunk.row false (EC.u32) (roots))] []))))))) = _ by kernel_rfl) ?_
  have nc : ncap S ≤ 65537 := by have := w.n2; unfold ncap; omega
  have ol := order_len w
  have ku := kidsU_slots w
  have cs := clean_slots w p
  have sl := slotsOf_len S
  refine ⟨⟨hs, w⟩, fun d o ed eo => ?_⟩
  subst ed eo
  refine ⟨cs, ku, fun x hx => ?_, fun x hx => Wf.inU_held w (p.mem_iff.1 hx), by omega, by omega, hr, h⟩
  have := ((order_mem w x).1 hx).1
  exact ⟨by omega, by omega⟩
theorem s_sound : SoundT C0 27 tSound := by
  refine .of Try.func27 (by decide) rfl fun args H K h hB => ?_
  unfold tSound at h
  split at h <;> try exact h.elim
  unfold arMr at h
  split at h <;> try exact h.elim
  split at h <;> try exact h.elim
  rename_i rd fr nd ct us gn rl _ roots
  obtain ⟨hs, w, p, hr, h⟩ := h
  exact ⟨aSound, ⟨frame C0.ok s_dump _, frame C0.ok s_cln _, trivial⟩, vc_sound ⟨us, gn, rl, fr, nd, ct, rd⟩ roots hs K w p hr h⟩
end Go.Proofs.Ytmjnoiajenoinaa.Sx
end
section
/- Equal dumps, and the count of a slot of a dump. -/
namespace Go.Proofs.Ytmjnoiajenoinaa.Sx
open Go

/-KEEP Wf exW inU alcD slotsOf orderOf-/
noncomputable def aSameS (l m : List SlotT) : Ann C0 := { Γ := [], inv := fun n => match n with
  | 4 => some { X := XIx l.length, sl := [5], tf := fun x => [vi .i64 x.i], hf := fun _ => [.row false EC.slot l, .row false EC.slot m], μ := fun x => l.length - x.i }
  | _ => none }
def tSameS : Tfm C0 := fun args H K => match args, H with
  | [.at (.slc 0), .at (.slc 1)], [.row false .slot l, .row false .slot m] => l = m ∧ l.length ≤ 1000000 ∧ K (.one (.at (vB true))) [.row false EC.slot l, .row false EC.slot m] []
  | _, _ => False
noncomputable def aSameU (l m : List Int) : Ann C0 := { Γ := [], inv := fun n => match n with
  | 4 => some { X := XIx l.length, sl := [5], tf := fun x => [vi .i64 x.i], hf := fun _ => [.row false EC.u32 l, .row false EC.u32 m], μ := fun x => l.length - x.i }
  | _ => none }
def tSameU : Tfm C0 := fun args H K => match args, H with
  | [.at (.slc 0), .at (.slc 1)], [.row false .u32 l, .row false .u32 m] => l = m ∧ l.length ≤ 1000000 ∧ K (.one (.at (vB true))) [.row false EC.u32 l, .row false EC.u32 m] []
  | _, _ => False
noncomputable def aSameD : Ann C0 := { Γ := [(66, frameT [] tSameS), (26, frameT [] tSameU)] }
def tSameD : Tfm C0 := fun args H K => match args, H with
  | [.agg [.slc 0, .slc 1], .agg [.slc 2, .slc 3]], [.row false .slot d, .row false .u32 f, .row false .slot e, .row false .u32 g] => d = e ∧ f = g ∧ d.length ≤ 1000000 ∧ f.length ≤ 1000000 ∧ K (.one (.at (vB true))) [.row false EC.slot d, .row false EC.u32 f, .row false EC.slot e, .row false EC.u32 g] []
  | _, _ => False
theorem vc_sameS (l : List SlotT) (K : KT) (h1 : l.length ≤ 1000000) (h : K (.one (.at (vB true))) [.row false EC.slot l, .row false EC.slot l] []) :
    vc C0 (aSameS l l) Try.f66 [.at (.slc 0), .at (.slc 1)] [.row false EC.slot l, .row false EC.slot l] (normK 2 K) := by
  have hm : ∀ m : List SlotT, m = l → vc C0 (aSameS l m) Try.f66 [.at (.slc 0), .at (.slc 1)] [.row false EC.slot l, .row false EC.slot m] (normK 2 K) := fun m em => by
    refine Eq.mp (show (brS ((↑l.length : Int) != (↑m.length : Int)) ((K (SV.one (TV.at (At.val (Value.bool false)))) [(Chunk.row false (EC.slot) (l)), (Chunk.row false (EC.slot) (m))] [])) (((∃ x : XIx l.length, (True ∧ (True ∧ True ∧ ((Value.int IntKind.i64 0) = (Value.int IntKind.i64 ((↑x.i : Int)))) ∧ True) ∧ ((l) = (l)) ∧ ((m) = (m)) ∧ True)) ∧ (∀ x : XIx l.length, (True → (brS (decide ((↑x.i : Int) < (↑l.length : Int))) (((0 ≤ (↑x.i : Int)) ∧ ((↑x.i : Int) < (↑l.length : Int)) ∧ (0 ≤ (↑x.i : Int)) ∧ ((↑x.i : Int) < (↑m.length : Int)) ∧ (brS (!((eS l (↑x.i : Int).toNat).alloc == (eS m (↑x.i : Int).toNat).alloc && ((eS l (↑x.i : Int).toNat).count == (eS m (↑x.i : Int).toNat).count && ((eS l (↑x.i : Int).toNat).gen == (eS m (↑x.i : Int).toNat).gen && ((eS l (↑x.i : Int).toNat).node.key == (eS m (↑x.i : Int).toNat).node.key && ((eS l (↑x.i : Int).toNat).node.value == (eS m (↑x.i : Int).toNat).node.value && ((eS l (↑x.i : Int).toNat).node.left == (eS m (↑x.i : Int).toNat).node.left && ((eS l (↑x.i : Int).toNat).node.right == (eS m (↑x.i : Int).toNat).node.right && ((eS l (↑x.i : Int).toNat).node.size == (eS m (↑x.i : Int).toNat).node.size && ((eS l (↑x.i : Int).toNat).node.sum == (eS m (↑x.i : Int).toNat).node.sum && ((eS l (↑x.i : Int).toNat).node.min == (eS m (↑x.i : Int).toNat).node.min && ((eS l (↑x.i : Int).toNat).node.max == (eS m (↑x.i : Int).toNat).node.max && true))))))) && true)))))
    ((K (SV.one (TV.at (At.val (Value.bool false)))) [(Chunk.row false (EC.slot) (l)), (Chunk.row false (EC.slot) (m))] [])) ((∃ x' : XIx l.length, (True ∧ ((True ∧ True ∧ ((Value.int IntKind.i64 (IntKind.i64.wrap ((↑x.i : Int) + 1))) = (Value.int IntKind.i64 ((↑x'.i : Int)))) ∧ True) ∧ ((l) = (l)) ∧ ((m) = (m)) ∧ True) ∧ (l.length - x'.i < l.length - x.i))))))) ((K (SV.one (TV.at (At.val (Value.bool true)))) [(Chunk.row false (EC.slot) (l)), (Chunk.row false (EC.slot) (m))] [])))))))) = _ by kernel_rfl) ?_
    subst em
    refine brS_of (fun c => by simp at c) fun _ => ⟨⟨⟨0, Nat.zero_le _⟩, ?_⟩, fun x _ => brS_of (fun c => ?_) fun c => h⟩
    · (repeat' first | exact trivial | exact rfl | refine And.intro ?_ ?_)
    have c : x.i < m.length := by have := of_decide_eq_true c; omega
    refine ⟨by omega, by omega, by omega, by omega, brS_of (fun e => by simp at e) fun _ => ⟨⟨x.i + 1, c⟩, ?_⟩⟩
    (repeat' first | exact trivial | exact rfl | refine And.intro ?_ ?_)
    · rw [wrap_id (by omega) (by omega)]; congr 1
    · show m.length - (x.i + 1) < _; omega
  exact hm l rfl
theorem s_sameS : SoundT C0 66 tSameS := by
  refine .of Try.func66 (by decide) rfl fun args H K h hB => ?_
  unfold tSameS at h
  split at h <;> try exact h.elim
  rename_i l m
  obtain ⟨rfl, h1, h⟩ := h
  exact ⟨aSameS l l, trivial, vc_sameS l K h1 h⟩
theorem vc_sameU (l : List Int) (K : KT) (h1 : l.length ≤ 1000000) (h : K (.one (.at (vB true))) [.row false EC.u32 l, .row false EC.u32 l] []) :
    vc C0 (aSameU l l) Try.f26 [.at (.slc 0), .at (.slc 1)] [.row false EC.u32 l, .row false EC.u32 l] (normK 2 K) := by
  have hm : ∀ m : List Int, m = l → vc C0 (aSameU l m) Try.f26 [.at (.slc 0), .at (.slc 1)] [.row false EC.u32 l, .row false EC.u32 m] (normK 2 K) := fun m em => by
    refine Eq.mp (show (brS ((↑l.length : Int) != (↑m.length : Int)) ((K (SV.one (TV.at (At.val (Value.bool false)))) [(Chunk.row false (EC.u32) (l)), (Chunk.row false (EC.u32) (m))] [])) (((∃ x : XIx l.length, (True ∧ (True ∧ True ∧ ((Value.int IntKind.i64 0) = (Value.int IntKind.i64 ((↑x.i : Int)))) ∧ True) ∧ ((l) = (l)) ∧ ((m) = (m)) ∧ True)) ∧ (∀ x : XIx l.length, (True → (brS (decide ((↑x.i : Int) < (↑l.length : Int))) (((0 ≤ (↑x.i : Int)) ∧ ((↑x.i : Int) < (↑l.length : Int)) ∧ (0 ≤ (↑x.i : Int)) ∧ ((↑x.i : Int) < (↑m.length : Int)) ∧ (brS (l.getD (↑x.i : Int).toNat 0 != m.getD (↑x.i : Int).toNat 0) ((K (SV.one (TV.at (At.val (Value.bool false)))) [(Chunk.row false (EC.u32) (l)), (Chunk.row false (EC.u32) (m))] [])) ((∃ x' : XIx l.length, (True ∧ ((True ∧ True ∧ ((Value.int IntKind.i64 (IntKind.i64.wrap ((↑x.i : Int) + 1))) = (Value.int IntKind.i64 ((↑x'.i : Int)))) ∧ True) ∧ ((l) = (l)) ∧ ((m) = (m)) ∧ True) ∧ (l.length - x'.i < l.length - x.i))))))) ((K (SV.one (TV.at (At.val (Value.bool true)))) [(Chunk.row false (EC.u32) (l)), (Chunk.row false (EC.u32) (m))] [])))))))) = _ by kernel_rfl) ?_
    subst em
    refine brS_of (fun c => by simp at c) fun _ => ⟨⟨⟨0, Nat.zero_le _⟩, ?_⟩, fun x _ => brS_of (fun c => ?_) fun c => h⟩
    · (repeat' first | exact trivial | exact rfl | refine And.intro ?_ ?_)
    have c : x.i < m.length := by have := of_decide_eq_true c; omega
    refine ⟨by omega, by omega, by omega, by omega, brS_of (fun e => by simp at e) fun _ => ⟨⟨x.i + 1, c⟩, ?_⟩⟩
    (repeat' first | exact trivial | exact rfl | refine And.intro ?_ ?_)
    · rw [wrap_id (by omega) (by omega)]; congr 1
    · show m.length - (x.i + 1) < _; omega
  exact hm l rfl
theorem s_sameU : SoundT C0 26 tSameU := by
  refine .of Try.func26 (by decide) rfl fun args H K h hB => ?_
  unfold tSameU at h
  split at h <;> try exact h.elim
  rename_i l m
  obtain ⟨rfl, h1, h⟩ := h
  exact ⟨aSameU l l, trivial, vc_sameU l K h1 h⟩
theorem s_sameD : SoundT C0 24 tSameD := by
  refine .of Try.func24 (by decide) rfl fun args H K h hB => ?_
  unfold tSameD at h
  split at h <;> try exact h.elim
  rename_i d f e g
  refine ⟨aSameD, ⟨frame C0.ok s_sameS _, frame C0.ok s_sameU _, trivial⟩, Eq.mp (show (((d) = (e)) ∧
(d.length ≤ 1000000) ∧
((f) = (g)) ∧
(f.length ≤ 1000000) ∧
(K (SV.one (TV.at (At.val (Value.bool true)))) [(Chunk.row false (EC.slot) (d)), (Chunk.row false (EC.u32) (f)), (Chunk.row false (EC.slot) (e)), (Chunk.row false (EC.u32) (g))] [])) = _ by kernel_rfl) ?_⟩
  exact ⟨h.1, h.2.2.1, h.2.1, h.2.2.2.1, h.2.2.2.2⟩
end Go.Proofs.Ytmjnoiajenoinaa.Sx
end
section
/- The greatest height of a balanced tree, and few reads. -/
namespace Go.Proofs.Ytmjnoiajenoinaa.Sx
open Go

/-KEEP Wf exW inU wtsL-/
end Go.Proofs.Ytmjnoiajenoinaa.Sx
end
section
/- Lists and costs of taking trees apart and putting them together. No program in sight. -/
namespace Go.Proofs.Ytmjnoiajenoinaa
open Go

/-! ### Lists -/
/-! ### Costs -/
theorem w0 : wt 0 = 1 := rfl
theorem w2 : wt 2 = 3 := rfl
theorem w3 : wt 3 = 4 := rfl
theorem w4 : wt 4 = 6 := rfl
theorem Got.of_zero {S S' : Arn} {hs hs1 : List Int} {m r : Nat} (a : Got S hs m r S' (0 :: hs1)) : Got S hs m r S' hs1 := ⟨a.wf.of_zero, a.stay, a.len, a.nu, a.rd0, a.rd⟩
end Go.Proofs.Ytmjnoiajenoinaa
end
section
/- reserve, ref8: how many slots an operation may need; lookup.Get. -/
namespace Go.Proofs.Ytmjnoiajenoinaa.Sx
open Go

/-KEEP okI Wf exW inU live Rep rdS Tr.size Tr.list getE Asc ht wt Hn-/
structure XGe (S : Arn) (t : Tr) (q : Int) where
  i : Int
  t' : Tr
  m : Nat
  h : Rep S t' i ∧ getE t.list q = getE t'.list q ∧ Asc t'.list ∧ m + ht t' ≤ ht t ∧ t'.size ≤ t.size
structure XMx (n : Int) where
  h : Nat
  p : h ≤ 80 ∧ wt h ≤ n + 1
structure XVd (l : List Int) where
  i : Nat
  h : i ≤ l.length
end Go.Proofs.Ytmjnoiajenoinaa.Sx
end
section
/- treework: Node, Open, balance, the rotations, Join. -/
namespace Go.Proofs.Ytmjnoiajenoinaa.Sx
open Go

/-KEEP Wf exW inU live Arn.cap Arn.free maxSize mkNode makeS relA nxt NodeR Rep Kept rdS retL Tr.size Tr.list Tr.Bal balN balB near jB OpnR TrR Got-/
structure XLl (P : Arn → Int → Int → Bool → Prop) where
  S : Arn
  m : Int
  s : Int
  c : Bool
  h : P S m s c
end Go.Proofs.Ytmjnoiajenoinaa.Sx
end
section
/- treework: popLast, Concat, Split, From, To, Insert, Delete, Hold, Room. -/
namespace Go.Proofs.Ytmjnoiajenoinaa.Sx
open Go

/-KEEP Wf exW inU live Arn.cap Arn.free NodeR Rep Kept rdS retL Tr.size Tr.list Tr.Bal balN balB jB pB cB iB dB sB gN OpnR TrR Got flt insE getE Asc-/
end Go.Proofs.Ytmjnoiajenoinaa.Sx
end
section
/- update.Insert, Delete, Increase. -/
namespace Go.Proofs.Ytmjnoiajenoinaa.Sx
open Go

/-KEEP Wf exW inU live Arn.free Rep rdS retL Tr.size Tr.list Tr.Bal getE Asc ht Hn gN iB dB insE flt neK hasK TrR Got-/
/-! ### Where there is room -/
end Go.Proofs.Ytmjnoiajenoinaa.Sx
end
section
/- The reference's trees over a dump: nodes, balance, height, list, order, Check, Tree. -/
namespace Go.Proofs.Ytmjnoiajenoinaa.Sx
open Go

/-KEEP Wf exW inU alcD slotsOf orderOf ndD RepD Asc Tr.Bal Tr.size Tr.list ht balB lastK anyK gtL ShpT-/
def ndD (d : List SlotT) (i : Int) : NodeT := if alcD d i = true then (sltD d i).node else NodeT.zero
/-- An index of a dump stands for a tree. -/
def RepD (d : List SlotT) : Tr → Int → Prop
  | .nil, i => i = 0
  | .node l k v r, i => alcD d i = true ∧ (ndD d i).key = k ∧ (ndD d i).value = v ∧ (ndD d i).size = 1 + l.size + r.size ∧ RepD d l (ndD d i).left ∧ RepD d r (ndD d i).right
theorem bf7 {b : Bool} {t f : Prop} (h : b = false) (hf : f) : brS b t f := by rw [h]; exact hf
theorem RepD.inU {d : List SlotT} {t : Tr} {i : Int} (h : RepD d t i) (hl : d.length ≤ 1000000) : inU i := by
  cases t with
  | nil => have : i = 0 := h; rw [this]; exact ⟨by omega, by omega⟩
  | node l k v r => have := alcD_rng h.1; exact ⟨by omega, by omega⟩
theorem RepD.sz {d : List SlotT} {t : Tr} {i : Int} (h : RepD d t i) : (ndD d i).size = t.size := by
  cases t with
  | nil =>
    have : i = 0 := h
    unfold ndD
    rw [this, alcD_lo (by omega)]; rfl
  | node l k v r => rw [h.2.2.2.1]; simp [Tr.size]
theorem RepD.ne {d : List SlotT} {l r : Tr} {k v i : Int} (h : RepD d (.node l k v r) i) : i ≠ 0 := by have := alcD_rng h.1; omega
/-! ### From the arena to its dump -/
end Go.Proofs.Ytmjnoiajenoinaa.Sx
end
section
/- What the update laws share: Kept, spare, awake, lengths of dumps. -/
namespace Go.Proofs.Ytmjnoiajenoinaa.Sx
open Go

/-KEEP Wf exW inU live Arn.cap Arn.free Rep rdS Tr.size Tr.list alcD slotsOf orderOf PlantR newS insE flt getE TrR upM Hn-/
structure XKp (d : List SlotT) where
  i : Nat
  h : i ≤ d.length
theorem slots_le {S : Arn} {hs : List Int} (w : Wf S hs) : (slotsOf S).length ≤ 65537 := by have := w.n2; rw [slotsOf_len]; unfold ncap; omega
end Go.Proofs.Ytmjnoiajenoinaa.Sx
end
section
/- Law CompactCopies. -/
namespace Go.Proofs.Ytmjnoiajenoinaa.Sx
open Go

/-KEEP Wf Kept exW inU allV allVb live rdS Arn.cap Arn.free DgW NumsD slotsOf orderOf BuR ExB CpO NmB NmR okRt newS badB List.Perm alcD NumsA-/
def badB (d : List SlotT) (c : Int) (q : List Int) : Bool := (decide (c < 1) || decide (65536 < c)) || q.any fun r => decide (r ≠ 0) && !alcD d r
structure XCc1 (P : Arn → List Int → List Int → Nat → Prop) where
  S : Arn
  h : List Int
  q : List Int
  k : Nat
  p : P S h q k
structure XCc2 (P : Arn → List Int → Prop) where
  S : Arn
  q : List Int
  p : P S q
structure XCc3 (P : Arn → List Int → List SlotT → List Int → Int → Int → Prop) where
  S : Arn
  q : List Int
  d : List SlotT
  f : List Int
  n : Int
  c : Int
  p : P S q d f n c
structure XCc4 (P : Arn → List Int → List SlotT → List Int → Int → Int → Prop) where
  S : Arn
  q : List Int
  d : List SlotT
  f : List Int
  n : Int
  c : Int
  k : Nat
  b : Bool
  p : P S q d f n c
  hk : k ≤ q.length ∧ b = badB d c (q.take k)
structure XCc5 (P : Arn → List Int → List SlotT → List Int → Int → Int → Prop) where
  S : Arn
  q : List Int
  d : List SlotT
  f : List Int
  n : Int
  c : Int
  w : Int
  p : P S q d f n c
  hw : w = if badB d c q = true then 1 else if c < n then 2 else 0
structure XCc6 (P : Arn → List Int → List SlotT → List Int → Int → Int → Prop) where
  S : Arn
  q : List Int
  d : List SlotT
  f : List Int
  n : Int
  c : Int
  b : Bool
  p : P S q d f n c
  hb : b = badB d c []
abbrev hfD (l : List LStepT) (pk : List Int) (S : Arn) (q : List Int) (d : List SlotT) (f : List Int) : List (Chunk C0) := [.row false EC.lstep l, .row false EC.int pk] ++ chSk 2 S ++ [.row true EC.u32 q, .box [.slc 11, .slc 12], .row false EC.slot d, .row false EC.u32 f]
noncomputable def aCc (P1 : Arn → List Int → List Int → Nat → Prop) (P0 P2 : Arn → List Int → Prop) (P3 : Arn → List Int → List SlotT → List Int → Int → Int → Prop) (l : List LStepT) (pk : List Int) : Ann C0 := { quiet := [9999999, 21, 24, 26, 27, 10, 23, 22, 25], Γ := [(10, frameT [] tMod), (20, frameT [] tBu), (12, frameT [] tAw29), (21, frameT [] tDump), (22, frameT [] tN28), (23, frameT [] tAlc), (15, frameT [] tCmp), (16, frameT [] tNdd), (24, frameT [] tSameD), (25, frameT [] tEx), (26, frameT [] tSameU), (27, frameT [] tSound)], inv := fun k => match k with
  | 6 => some { X := XCc1 P1, sl := [11, 12, 14, 15], tf := fun x => [.one (.at (.ptr 2 0)), .one (.at (.slc 9)), .one (.at (.slc 10)), vi .i64 x.k], hf := fun x => [.row false EC.lstep l, .row false EC.int pk] ++ chSk 2 x.S ++ [.row true EC.u32 x.h, .row true EC.u32 x.q], μ := fun x => 12 - x.k }
  | 1009 => some { X := XCc2 P0, sl := [11, 14], tf := fun _ => [.one (.at (.ptr 2 0)), .one (.at (.slc 9))], hf := fun x => [.row false EC.lstep l, .row false EC.int pk] ++ chSk 2 x.S ++ [.row true EC.u32 x.q] }
  | 1011 => some { X := XCc2 P2, sl := [11, 14], tf := fun _ => [.one (.at (.ptr 2 0)), .one (.at (.slc 9))], hf := fun x => [.row false EC.lstep l, .row false EC.int pk] ++ chSk 2 x.S ++ [.row true EC.u32 x.q] }
  | 1016 => some { X := XCc3 P3, sl := [11, 14, 16, 17, 18], tf := fun x => [.one (.at (.ptr 2 0)), .one (.at (.slc 9)), .one (.at (.ptr 10 0)), vi .i64 x.n, vi .i64 x.c], hf := fun x => hfD l pk x.S x.q x.d x.f }
  | 1018 => some { X := XCc6 P3, sl := [11, 14, 16, 17, 18, 20], tf := fun x => [.one (.at (.ptr 2 0)), .one (.at (.slc 9)), .one (.at (.ptr 10 0)), vi .i64 x.n, vi .i64 x.c, vb x.b], hf := fun x => hfD l pk x.S x.q x.d x.f }
  | 19 => some { X := XCc4 P3, sl := [11, 14, 16, 17, 18, 20, 21], tf := fun x => [.one (.at (.ptr 2 0)), .one (.at (.slc 9)), .one (.at (.ptr 10 0)), vi .i64 x.n, vi .i64 x.c, vb x.b, vi .i64 x.k], hf := fun x => hfD l pk x.S x.q x.d x.f, μ := fun x => x.q.length - x.k }
  | 1026 => some { X := XCc5 P3, sl := [11, 14, 16, 17, 18, 19], tf := fun x => [.one (.at (.ptr 2 0)), .one (.at (.slc 9)), .one (.at (.ptr 10 0)), vi .i64 x.n, vi .i64 x.c, vi .i64 x.w], hf := fun x => hfD l pk x.S x.q x.d x.f }
  | _ => none }
def tCc : Tfm C0 := fun args H K => match args, H with
  | [.at (.val (.int .i64 _)), .at (.slc 0), .at (.slc 1), .at (.val (.int .i64 room)), .at (.val (.int .u32 raw))], [.row false .lstep l, .row false .int pk] => -9223372036854775808 ≤ room ∧ room ≤ 9223372036854775807 ∧ 0 ≤ raw ∧ raw < 4294967296 ∧ K (.one (.at (vB true))) [.row false EC.lstep l, .row false EC.int pk] []
  | _, _ => False
def PCc1 : Arn → List Int → List Int → Nat → Prop := fun S h q k => BuR S h ∧ k ≤ 12 ∧ q.length = k ∧ ∀ x ∈ q, x ∈ h
def PCc0 : Arn → List Int → Prop := fun S q => (∃ h, BuR S h ∧ ∀ x ∈ q, x ∈ h) ∧ q.length ≤ 12
def PCc2 : Arn → List Int → Prop := fun S q => (∃ h, BuR S h) ∧ q.length ≤ 13 ∧ allV q
def PCc3 : Arn → List Int → List SlotT → List Int → Int → Int → Prop := fun S q d f n _ => (∃ h, BuR S h) ∧ q.length ≤ 13 ∧ allV q ∧ d = slotsOf S ∧ f = orderOf S ∧ ∃ l, NumsA S q [] l ∧ n = l.length
theorem bad_iff {S : Arn} {hs q : List Int} {c : Int} (w : Wf S hs) : badB (slotsOf S) c q = true ↔ ¬ okRt S q ∨ c < 1 ∨ 65536 < c := by
  unfold badB
  rw [Bool.or_eq_true, Bool.or_eq_true, decide_eq_true_eq, decide_eq_true_eq, List.any_eq_true]
  constructor
  · rintro ((a | a) | ⟨r, hr, a⟩)
    · exact .inr (.inl a)
    · exact .inr (.inr a)
    · refine .inl fun o => ?_
      rw [alcD_slots w] at a
      rcases o r hr with e | u
      · subst e; simp at a
      · rw [u] at a; simp at a
  · rintro (a | a | a)
    · refine .inr (Classical.byContradiction fun n => a fun r hr => ?_)
      by_cases e : r = 0
      · exact .inl e
      · cases u : S.us r with
        | true => exact .inr rfl
        | false => exact absurd ⟨r, hr, by rw [alcD_slots w, u]; simp [e]⟩ n
    · exact .inl (.inl a)
    · exact .inl (.inr a)
theorem badB_snoc (d : List SlotT) (c : Int) (q : List Int) (r : Int) : badB d c (q ++ [r]) = (badB d c q || (decide (r ≠ 0) && !alcD d r)) := by
  unfold badB
  rw [List.any_append, List.any_cons, List.any_nil, Bool.or_false]
  exact (Bool.or_assoc _ _ _).symm
theorem vc_cc (l : List LStepT) (pk : List Int) (cap room raw : Int) (K : KT) (m1 : -9223372036854775808 ≤ room) (m2 : room ≤ 9223372036854775807) (r1 : 0 ≤ raw) (r2 : raw < 4294967296) (h : K (.one (.at (vB true))) [.row false EC.lstep l, .row false EC.int pk] []) :
    vc C0 (aCc PCc1 PCc0 PCc2 PCc3 l pk) Try.f4 [.at (vI cap), .at (.slc 0), .at (.slc 1), .at (vI room), .at (vU raw)] [.row false EC.lstep l, .row false EC.int pk] (normK 2 K) := by
  generalize hP1 : PCc1 = P1
  generalize hP0 : PCc0 = P0
  generalize hP2 : PCc2 = P2
  generalize hP3 : PCc3 = P3
  refine Eq.mp (show (((0 : Int) < 40) ∧
((40 : Int) ≤ 9223372036854775807) ∧
(∀ x : Int, (((x) = (cap % 40)) → ((1 ≤ IntKind.i64.wrap (1 + x)) ∧ (IntKind.i64.wrap (1 + x) ≤ 40) ∧ (∀ S : Arn, (∀ h : List Int, ((BuR S h) → (((∃ x1 : XCc1 P1, (True ∧ (True ∧ ((Value.int IntKind.i64 (room)) = (Value.int IntKind.i64 (room))) ∧ ((Value.int IntKind.u32 (raw)) = (Value.int IntKind.u32 (raw))) ∧ True ∧ True ∧ True ∧ ((Value.int IntKind.i64 0) = (Value.int IntKind.i64 ((↑x1.k : Int)))) ∧ True) ∧ ((l) = (l)) ∧ ((pk) = (pk)) ∧ (True ∧ True ∧ True ∧ ((Value.int IntKind.u64 (S.reads)) = (Value.int IntKind.u64 (x1.S.reads))) ∧ True) ∧ (True ∧ True ∧ True ∧ ((Value.int IntKind.u32 (S.fresh)) = (Value.int IntKind.u32 (x1.S.fresh))) ∧ True) ∧ ((S.nodes) = (x1.S.nodes)) ∧ ((S.counts) = (x1.S.counts)) ∧ ((S.used) = (x1.S.used)) ∧ ((S.gen) = (x1.S.gen)) ∧ ((S.rel) = (x1.S.rel)) ∧ ((h) = (x1.h)) ∧ ([] = (x1.q)) ∧ True)) ∧ (∀ x1 : XCc1 P1, (True → (brS (decide ((↑x1.k : Int) < (↑pk.length : Int))) ((brS (decide ((↑x1.k : Int) < 12)) (((0 ≤ (↑x1.k : Int)) ∧ ((↑x1.k : Int) < (↑pk.length : Int)) ∧ (0 < (↑x1.h.length : Int)) ∧ ((↑x1.h.length : Int) ≤ 9223372036854775807) ∧ (∀ x2 : Int, (((x2) = (pk.getD (↑x1.k : Int).toNat 0 % (↑x1.h.length : Int))) → ((0 ≤ x2) ∧ (x2 < (↑x1.h.length : Int)) ∧ ((x1.q.length + [x1.h.getD x2.toNat 0].length) * bytesOf C0 EC.u32 ≤ 140737488355328) ∧ (∃ x' : XCc1 P1, (True ∧ ((True ∧ ((Value.int IntKind.i64 (room)) = (Value.int IntKind.i64 (room))) ∧
    ((Value.int IntKind.u32 (raw)) = (Value.int IntKind.u32 (raw))) ∧ True ∧ True ∧ True ∧ ((Value.int IntKind.i64 (IntKind.i64.wrap ((↑x1.k : Int) + 1))) = (Value.int IntKind.i64 ((↑x'.k : Int)))) ∧ True) ∧ ((l) = (l)) ∧ ((pk) = (pk)) ∧ (True ∧ True ∧ True ∧ ((Value.int IntKind.u64 (x1.S.reads)) = (Value.int IntKind.u64 (x'.S.reads))) ∧ True) ∧ (True ∧ True ∧ True ∧ ((Value.int IntKind.u32 (x1.S.fresh)) = (Value.int IntKind.u32 (x'.S.fresh))) ∧ True) ∧ ((x1.S.nodes) = (x'.S.nodes)) ∧ ((x1.S.counts) = (x'.S.counts)) ∧ ((x1.S.used) = (x'.S.used)) ∧ ((x1.S.gen) = (x'.S.gen)) ∧ ((x1.S.rel) = (x'.S.rel)) ∧ ((x1.h) = (x'.h)) ∧ ((x1.q ++ [x1.h.getD x2.toNat 0]) = (x'.q)) ∧ True) ∧ (12 - x'.k < 12 - x1.k)))))))) ((∃ x2 : XCc2 P0, (True ∧ (((Value.int IntKind.i64 (room)) = (Value.int IntKind.i64 (room))) ∧ ((Value.int IntKind.u32 (raw)) = (Value.int IntKind.u32 (raw))) ∧ True ∧ True ∧ True) ∧ ((l) = (l)) ∧ ((pk) = (pk)) ∧ (True ∧ True ∧ True ∧ ((Value.int IntKind.u64 (x1.S.reads)) = (Value.int IntKind.u64 (x2.S.reads))) ∧ True) ∧ (True ∧ True ∧ True ∧ ((Value.int IntKind.u32 (x1.S.fresh)) = (Value.int IntKind.u32 (x2.S.fresh))) ∧ True) ∧ ((x1.S.nodes) = (x2.S.nodes)) ∧ ((x1.S.counts) = (x2.S.counts)) ∧ ((x1.S.used) = (x2.S.used)) ∧ ((x1.S.gen) = (x2.S.gen)) ∧ ((x1.S.rel) = (x2.S.rel)) ∧ ((x1.q) = (x2.q)) ∧ True))))) ((∃ x2 : XCc2 P0, (True ∧ (((Value.int IntKind.i64 (room)) = (Value.int IntKind.i64 (room))) ∧ ((Value.int IntKind.u32 (raw)) = (Value.int IntKind.u32 (raw))) ∧ True ∧ True ∧
    True) ∧ ((l) = (l)) ∧ ((pk) = (pk)) ∧ (True ∧ True ∧ True ∧ ((Value.int IntKind.u64 (x1.S.reads)) = (Value.int IntKind.u64 (x2.S.reads))) ∧ True) ∧ (True ∧ True ∧ True ∧ ((Value.int IntKind.u32 (x1.S.fresh)) = (Value.int IntKind.u32 (x2.S.fresh))) ∧ True) ∧ ((x1.S.nodes) = (x2.S.nodes)) ∧ ((x1.S.counts) = (x2.S.counts)) ∧ ((x1.S.used) = (x2.S.used)) ∧ ((x1.S.gen) = (x2.S.gen)) ∧ ((x1.S.rel) = (x2.S.rel)) ∧ ((x1.q) = (x2.q)) ∧ True))))))) ∧ (∀ x1 : XCc2 P0, (True → ((brS (raw.tmod 5 == 4) ((((x1.q.length + [raw.tmod 60].length) * bytesOf C0 EC.u32 ≤ 140737488355328) ∧ (∃ x2 : XCc2 P2, (True ∧ (((Value.int IntKind.i64 (room)) = (Value.int IntKind.i64 (room))) ∧ True ∧ True ∧ True) ∧ ((l) = (l)) ∧ ((pk) = (pk)) ∧ (True ∧ True ∧ True ∧ ((Value.int IntKind.u64 (x1.S.reads)) = (Value.int IntKind.u64 (x2.S.reads))) ∧ True) ∧ (True ∧ True ∧ True ∧ ((Value.int IntKind.u32 (x1.S.fresh)) = (Value.int IntKind.u32 (x2.S.fresh))) ∧ True) ∧ ((x1.S.nodes) = (x2.S.nodes)) ∧ ((x1.S.counts) = (x2.S.counts)) ∧ ((x1.S.used) = (x2.S.used)) ∧ ((x1.S.gen) = (x2.S.gen)) ∧ ((x1.S.rel) = (x2.S.rel)) ∧ ((x1.q ++ [raw.tmod 60]) = (x2.q)) ∧ True)))) ((∃ x2 : XCc2 P2, (True ∧ (((Value.int IntKind.i64 (room)) = (Value.int IntKind.i64 (room))) ∧ True ∧ True ∧ True) ∧ ((l) = (l)) ∧ ((pk) = (pk)) ∧ (True ∧ True ∧ True ∧ ((Value.int IntKind.u64 (x1.S.reads)) = (Value.int IntKind.u64 (x2.S.reads))) ∧ True) ∧ (True ∧ True ∧ True ∧ ((Value.int IntKind.u32 (x1.S.fresh)) = (Value.int IntKind.u32 (x2.S.fresh))) ∧
    True) ∧ ((x1.S.nodes) = (x2.S.nodes)) ∧ ((x1.S.counts) = (x2.S.counts)) ∧ ((x1.S.used) = (x2.S.used)) ∧ ((x1.S.gen) = (x2.S.gen)) ∧ ((x1.S.rel) = (x2.S.rel)) ∧ ((x1.q) = (x2.q)) ∧ True)))) ∧ (∀ x2 : XCc2 P2, (True → ((exW x2.S) ∧ (∀ d : List SlotT, (∀ o : List Int, (((d) = (slotsOf x2.S)) → (((o) = (orderOf x2.S)) → ((DgW d) ∧ (x2.q.length ≤ 1000000) ∧ (allVb x2.q) ∧ (∀ l1 : List Int, ((NumsD d x2.q [] l1) → (((0 : Int) < 9) ∧ ((9 : Int) ≤ 9223372036854775807) ∧ (∀ x3 : Int, (((x3) = (room % 9)) → ((brS (room.tmod 11 == 10) ((∃ x4 : XCc3 P3, (True ∧ (True ∧ True ∧ True ∧ ((Value.int IntKind.i64 ((↑l1.length : Int))) = (Value.int IntKind.i64 (x4.n))) ∧ ((Value.int IntKind.i64 (room)) = (Value.int IntKind.i64 (x4.c))) ∧ True) ∧ ((l) = (l)) ∧ ((pk) = (pk)) ∧ (True ∧ True ∧ True ∧ ((Value.int IntKind.u64 (x2.S.reads)) = (Value.int IntKind.u64 (x4.S.reads))) ∧ True) ∧ (True ∧ True ∧ True ∧ ((Value.int IntKind.u32 (x2.S.fresh)) = (Value.int IntKind.u32 (x4.S.fresh))) ∧ True) ∧ ((x2.S.nodes) = (x4.S.nodes)) ∧ ((x2.S.counts) = (x4.S.counts)) ∧ ((x2.S.used) = (x4.S.used)) ∧ ((x2.S.gen) = (x4.S.gen)) ∧ ((x2.S.rel) = (x4.S.rel)) ∧ ((x2.q) = (x4.q)) ∧ (True ∧ True ∧ True) ∧ ((d) = (x4.d)) ∧ ((o) = (x4.f)) ∧ True))) ((∃ x4 : XCc3 P3, (True ∧ (True ∧ True ∧ True ∧ ((Value.int IntKind.i64 ((↑l1.length : Int))) = (Value.int IntKind.i64 (x4.n))) ∧ ((Value.int IntKind.i64 (IntKind.i64.wrap (IntKind.i64.wrap ((↑l1.length : Int) + x3) - 2))) = (Value.int IntKind.i64 (x4.c))) ∧ True) ∧
    ((l) = (l)) ∧ ((pk) = (pk)) ∧ (True ∧ True ∧ True ∧ ((Value.int IntKind.u64 (x2.S.reads)) = (Value.int IntKind.u64 (x4.S.reads))) ∧ True) ∧ (True ∧ True ∧ True ∧ ((Value.int IntKind.u32 (x2.S.fresh)) = (Value.int IntKind.u32 (x4.S.fresh))) ∧ True) ∧ ((x2.S.nodes) = (x4.S.nodes)) ∧ ((x2.S.counts) = (x4.S.counts)) ∧ ((x2.S.used) = (x4.S.used)) ∧ ((x2.S.gen) = (x4.S.gen)) ∧ ((x2.S.rel) = (x4.S.rel)) ∧ ((x2.q) = (x4.q)) ∧ (True ∧ True ∧ True) ∧ ((d) = (x4.d)) ∧ ((o) = (x4.f)) ∧ True)))) ∧ (∀ x4 : XCc3 P3, (True → ((brS (decide (x4.c < 1)) ((∃ x5 : XCc6 P3, (True ∧ (True ∧ True ∧ True ∧ ((Value.int IntKind.i64 (x4.n)) = (Value.int IntKind.i64 (x5.n))) ∧ ((Value.int IntKind.i64 (x4.c)) = (Value.int IntKind.i64 (x5.c))) ∧ ((Value.int IntKind.i64 0) = (Value.int IntKind.i64 0)) ∧ ((Value.bool true) = (Value.bool (x5.b))) ∧ True) ∧ ((l) = (l)) ∧ ((pk) = (pk)) ∧ (True ∧ True ∧ True ∧ ((Value.int IntKind.u64 (x4.S.reads)) = (Value.int IntKind.u64 (x5.S.reads))) ∧ True) ∧ (True ∧ True ∧ True ∧ ((Value.int IntKind.u32 (x4.S.fresh)) = (Value.int IntKind.u32 (x5.S.fresh))) ∧ True) ∧ ((x4.S.nodes) = (x5.S.nodes)) ∧ ((x4.S.counts) = (x5.S.counts)) ∧ ((x4.S.used) = (x5.S.used)) ∧ ((x4.S.gen) = (x5.S.gen)) ∧ ((x4.S.rel) = (x5.S.rel)) ∧ ((x4.q) = (x5.q)) ∧ (True ∧ True ∧ True) ∧ ((x4.d) = (x5.d)) ∧ ((x4.f) = (x5.f)) ∧ True))) ((∃ x5 : XCc6 P3, (True ∧ (True ∧ True ∧ True ∧ ((Value.int IntKind.i64 (x4.n)) = (Value.int IntKind.i64 (x5.n))) ∧
    ((Value.int IntKind.i64 (x4.c)) = (Value.int IntKind.i64 (x5.c))) ∧ ((Value.int IntKind.i64 0) = (Value.int IntKind.i64 0)) ∧ ((Value.bool (decide (x4.c > 65536))) = (Value.bool (x5.b))) ∧ True) ∧ ((l) = (l)) ∧ ((pk) = (pk)) ∧ (True ∧ True ∧ True ∧ ((Value.int IntKind.u64 (x4.S.reads)) = (Value.int IntKind.u64 (x5.S.reads))) ∧ True) ∧ (True ∧ True ∧ True ∧ ((Value.int IntKind.u32 (x4.S.fresh)) = (Value.int IntKind.u32 (x5.S.fresh))) ∧ True) ∧ ((x4.S.nodes) = (x5.S.nodes)) ∧ ((x4.S.counts) = (x5.S.counts)) ∧ ((x4.S.used) = (x5.S.used)) ∧ ((x4.S.gen) = (x5.S.gen)) ∧ ((x4.S.rel) = (x5.S.rel)) ∧ ((x4.q) = (x5.q)) ∧ (True ∧ True ∧ True) ∧ ((x4.d) = (x5.d)) ∧ ((x4.f) = (x5.f)) ∧ True)))) ∧ (∀ x5 : XCc6 P3, (True → ((∃ x6 : XCc4 P3, (True ∧ (True ∧ True ∧ True ∧ ((Value.int IntKind.i64 (x5.n)) = (Value.int IntKind.i64 (x6.n))) ∧ ((Value.int IntKind.i64 (x5.c)) = (Value.int IntKind.i64 (x6.c))) ∧ ((Value.int IntKind.i64 0) = (Value.int IntKind.i64 0)) ∧ ((Value.bool (x5.b)) = (Value.bool (x6.b))) ∧ ((Value.int IntKind.i64 0) = (Value.int IntKind.i64 ((↑x6.k : Int)))) ∧ True) ∧ ((l) = (l)) ∧ ((pk) = (pk)) ∧ (True ∧ True ∧ True ∧ ((Value.int IntKind.u64 (x5.S.reads)) = (Value.int IntKind.u64 (x6.S.reads))) ∧ True) ∧ (True ∧ True ∧ True ∧ ((Value.int IntKind.u32 (x5.S.fresh)) = (Value.int IntKind.u32 (x6.S.fresh))) ∧ True) ∧ ((x5.S.nodes) = (x6.S.nodes)) ∧ ((x5.S.counts) = (x6.S.counts)) ∧ ((x5.S.used) = (x6.S.used)) ∧ ((x5.S.gen) = (x6.S.gen)) ∧ ((x5.S.rel) = (x6.S.rel)) ∧
    ((x5.q) = (x6.q)) ∧ (True ∧ True ∧ True) ∧ ((x5.d) = (x6.d)) ∧ ((x5.f) = (x6.f)) ∧ True)) ∧ (∀ x6 : XCc4 P3, (True → (brS (decide ((↑x6.k : Int) < (↑x6.q.length : Int))) ((brS (x6.b) ((∃ x' : XCc4 P3, (True ∧ ((True ∧ True ∧ True ∧ ((Value.int IntKind.i64 (x6.n)) = (Value.int IntKind.i64 (x'.n))) ∧ ((Value.int IntKind.i64 (x6.c)) = (Value.int IntKind.i64 (x'.c))) ∧ ((Value.int IntKind.i64 0) = (Value.int IntKind.i64 0)) ∧ ((Value.bool true) = (Value.bool (x'.b))) ∧ ((Value.int IntKind.i64 (IntKind.i64.wrap ((↑x6.k : Int) + 1))) = (Value.int IntKind.i64 ((↑x'.k : Int)))) ∧ True) ∧ ((l) = (l)) ∧ ((pk) = (pk)) ∧ (True ∧ True ∧ True ∧ ((Value.int IntKind.u64 (x6.S.reads)) = (Value.int IntKind.u64 (x'.S.reads))) ∧ True) ∧ (True ∧ True ∧ True ∧ ((Value.int IntKind.u32 (x6.S.fresh)) = (Value.int IntKind.u32 (x'.S.fresh))) ∧ True) ∧ ((x6.S.nodes) = (x'.S.nodes)) ∧ ((x6.S.counts) = (x'.S.counts)) ∧ ((x6.S.used) = (x'.S.used)) ∧ ((x6.S.gen) = (x'.S.gen)) ∧ ((x6.S.rel) = (x'.S.rel)) ∧ ((x6.q) = (x'.q)) ∧ (True ∧ True ∧ True) ∧ ((x6.d) = (x'.d)) ∧ ((x6.f) = (x'.f)) ∧ True) ∧ (x'.q.length - x'.k < x6.q.length - x6.k)))) (((0 ≤ (↑x6.k : Int)) ∧ ((↑x6.k : Int) < (↑x6.q.length : Int)) ∧ (brS (x6.q.getD (↑x6.k : Int).toNat 0 != 0) (((0 ≤ (↑x6.k : Int)) ∧ ((↑x6.k : Int) < (↑x6.q.length : Int)) ∧ (inU (x6.q.getD (↑x6.k : Int).toNat 0)) ∧ (x6.d.length ≤ 1000000) ∧ (∃ x' : XCc4 P3, (True ∧ ((True ∧ True ∧ True ∧ ((Value.int IntKind.i64 (x6.n)) = (Value.int IntKind.i64 (x'.n))) ∧
    ((Value.int IntKind.i64 (x6.c)) = (Value.int IntKind.i64 (x'.c))) ∧ ((Value.int IntKind.i64 0) = (Value.int IntKind.i64 0)) ∧ ((Value.bool (!alcD x6.d (x6.q.getD (↑x6.k : Int).toNat 0))) = (Value.bool (x'.b))) ∧ ((Value.int IntKind.i64 (IntKind.i64.wrap ((↑x6.k : Int) + 1))) = (Value.int IntKind.i64 ((↑x'.k : Int)))) ∧ True) ∧ ((l) = (l)) ∧ ((pk) = (pk)) ∧ (True ∧ True ∧ True ∧ ((Value.int IntKind.u64 (x6.S.reads)) = (Value.int IntKind.u64 (x'.S.reads))) ∧ True) ∧ (True ∧ True ∧ True ∧ ((Value.int IntKind.u32 (x6.S.fresh)) = (Value.int IntKind.u32 (x'.S.fresh))) ∧ True) ∧ ((x6.S.nodes) = (x'.S.nodes)) ∧ ((x6.S.counts) = (x'.S.counts)) ∧ ((x6.S.used) = (x'.S.used)) ∧ ((x6.S.gen) = (x'.S.gen)) ∧ ((x6.S.rel) = (x'.S.rel)) ∧ ((x6.q) = (x'.q)) ∧ (True ∧ True ∧ True) ∧ ((x6.d) = (x'.d)) ∧ ((x6.f) = (x'.f)) ∧ True) ∧ (x'.q.length - x'.k < x6.q.length - x6.k))))) ((∃ x' : XCc4 P3, (True ∧ ((True ∧ True ∧ True ∧ ((Value.int IntKind.i64 (x6.n)) = (Value.int IntKind.i64 (x'.n))) ∧ ((Value.int IntKind.i64 (x6.c)) = (Value.int IntKind.i64 (x'.c))) ∧ ((Value.int IntKind.i64 0) = (Value.int IntKind.i64 0)) ∧ ((Value.bool false) = (Value.bool (x'.b))) ∧ ((Value.int IntKind.i64 (IntKind.i64.wrap ((↑x6.k : Int) + 1))) = (Value.int IntKind.i64 ((↑x'.k : Int)))) ∧ True) ∧ ((l) = (l)) ∧ ((pk) = (pk)) ∧ (True ∧ True ∧ True ∧ ((Value.int IntKind.u64 (x6.S.reads)) = (Value.int IntKind.u64 (x'.S.reads))) ∧ True) ∧ (True ∧ True ∧ True ∧
    ((Value.int IntKind.u32 (x6.S.fresh)) = (Value.int IntKind.u32 (x'.S.fresh))) ∧ True) ∧ ((x6.S.nodes) = (x'.S.nodes)) ∧ ((x6.S.counts) = (x'.S.counts)) ∧ ((x6.S.used) = (x'.S.used)) ∧ ((x6.S.gen) = (x'.S.gen)) ∧ ((x6.S.rel) = (x'.S.rel)) ∧ ((x6.q) = (x'.q)) ∧ (True ∧ True ∧ True) ∧ ((x6.d) = (x'.d)) ∧ ((x6.f) = (x'.f)) ∧ True) ∧ (x'.q.length - x'.k < x6.q.length - x6.k))))))))) (((brS (x6.b) ((∃ x7 : XCc5 P3, (True ∧ (True ∧ True ∧ True ∧ ((Value.int IntKind.i64 (x6.n)) = (Value.int IntKind.i64 (x7.n))) ∧ ((Value.int IntKind.i64 (x6.c)) = (Value.int IntKind.i64 (x7.c))) ∧ ((Value.int IntKind.i64 1) = (Value.int IntKind.i64 (x7.w))) ∧ True) ∧ ((l) = (l)) ∧ ((pk) = (pk)) ∧ (True ∧ True ∧ True ∧ ((Value.int IntKind.u64 (x6.S.reads)) = (Value.int IntKind.u64 (x7.S.reads))) ∧ True) ∧ (True ∧ True ∧ True ∧ ((Value.int IntKind.u32 (x6.S.fresh)) = (Value.int IntKind.u32 (x7.S.fresh))) ∧ True) ∧ ((x6.S.nodes) = (x7.S.nodes)) ∧ ((x6.S.counts) = (x7.S.counts)) ∧ ((x6.S.used) = (x7.S.used)) ∧ ((x6.S.gen) = (x7.S.gen)) ∧ ((x6.S.rel) = (x7.S.rel)) ∧ ((x6.q) = (x7.q)) ∧ (True ∧ True ∧ True) ∧ ((x6.d) = (x7.d)) ∧ ((x6.f) = (x7.f)) ∧ True))) ((brS (decide (x6.c < x6.n)) ((∃ x7 : XCc5 P3, (True ∧ (True ∧ True ∧ True ∧ ((Value.int IntKind.i64 (x6.n)) = (Value.int IntKind.i64 (x7.n))) ∧ ((Value.int IntKind.i64 (x6.c)) = (Value.int IntKind.i64 (x7.c))) ∧ ((Value.int IntKind.i64 2) = (Value.int IntKind.i64 (x7.w))) ∧ True) ∧ ((l) = (l)) ∧ ((pk) = (pk)) ∧ (True ∧ True ∧ True ∧
    ((Value.int IntKind.u64 (x6.S.reads)) = (Value.int IntKind.u64 (x7.S.reads))) ∧ True) ∧ (True ∧ True ∧ True ∧ ((Value.int IntKind.u32 (x6.S.fresh)) = (Value.int IntKind.u32 (x7.S.fresh))) ∧ True) ∧ ((x6.S.nodes) = (x7.S.nodes)) ∧ ((x6.S.counts) = (x7.S.counts)) ∧ ((x6.S.used) = (x7.S.used)) ∧ ((x6.S.gen) = (x7.S.gen)) ∧ ((x6.S.rel) = (x7.S.rel)) ∧ ((x6.q) = (x7.q)) ∧ (True ∧ True ∧ True) ∧ ((x6.d) = (x7.d)) ∧ ((x6.f) = (x7.f)) ∧ True))) ((∃ x7 : XCc5 P3, (True ∧ (True ∧ True ∧ True ∧ ((Value.int IntKind.i64 (x6.n)) = (Value.int IntKind.i64 (x7.n))) ∧ ((Value.int IntKind.i64 (x6.c)) = (Value.int IntKind.i64 (x7.c))) ∧ ((Value.int IntKind.i64 0) = (Value.int IntKind.i64 (x7.w))) ∧ True) ∧ ((l) = (l)) ∧ ((pk) = (pk)) ∧ (True ∧ True ∧ True ∧ ((Value.int IntKind.u64 (x6.S.reads)) = (Value.int IntKind.u64 (x7.S.reads))) ∧ True) ∧ (True ∧ True ∧ True ∧ ((Value.int IntKind.u32 (x6.S.fresh)) = (Value.int IntKind.u32 (x7.S.fresh))) ∧ True) ∧ ((x6.S.nodes) = (x7.S.nodes)) ∧ ((x6.S.counts) = (x7.S.counts)) ∧ ((x6.S.used) = (x7.S.used)) ∧ ((x6.S.gen) = (x7.S.gen)) ∧ ((x6.S.rel) = (x7.S.rel)) ∧ ((x6.q) = (x7.q)) ∧ (True ∧ True ∧ True) ∧ ((x6.d) = (x7.d)) ∧ ((x6.f) = (x7.f)) ∧ True)))))) ∧ (∀ x7 : XCc5 P3, (True → ((NmB x7.S x7.q) ∧ ((¬okRt x7.S x7.q ∨ x7.c < 1 ∨ 65536 < x7.c) → ((NmB x7.S x7.q) ∧ (∀ S' : Arn, (∀ l2 : List Int, (∀ n : Int, ((NmR x7.S x7.q S' l2) → (((n) = ((↑l2.length : Int))) → (brS (n != x7.n)
    ((K (SV.one (TV.at (At.val (Value.bool false)))) [(Chunk.row false (EC.lstep) (l)), (Chunk.row false (EC.int) (pk))] [])) ((brS (1 != x7.w) ((K (SV.one (TV.at (At.val (Value.bool false)))) [(Chunk.row false (EC.lstep) (l)), (Chunk.row false (EC.int) (pk))] [])) (((exW S') ∧ (∀ d1 : List SlotT, (∀ o1 : List Int, (((d1) = (slotsOf S')) → (((o1) = (orderOf S')) → (((d1) = (x7.d)) ∧ ((o1) = (x7.f)) ∧ (d1.length ≤ 1000000) ∧ (o1.length ≤ 1000000) ∧ (K (SV.one (TV.at (At.val (Value.bool true)))) [(Chunk.row false (EC.lstep) (l)), (Chunk.row false (EC.int) (pk))] [])))))))))))))))))) ∧ (∀ S' : Arn, (∀ l2 : List Int, ((okRt x7.S x7.q) → ((1 ≤ x7.c) → ((x7.c ≤ 65536) → ((NmR x7.S x7.q S' l2) → ((x7.c < (↑l2.length : Int)) → ((NmB S' x7.q) ∧ (∀ S'1 : Arn, (∀ l3 : List Int, (∀ n : Int, ((NmR S' x7.q S'1 l3) → (((n) = ((↑l3.length : Int))) → (brS (n != x7.n) ((K (SV.one (TV.at (At.val (Value.bool false)))) [(Chunk.row false (EC.lstep) (l)), (Chunk.row false (EC.int) (pk))] [])) ((brS (2 != x7.w) ((K (SV.one (TV.at (At.val (Value.bool false)))) [(Chunk.row false (EC.lstep) (l)), (Chunk.row false (EC.int) (pk))] [])) (((exW S'1) ∧ (∀ d1 : List SlotT, (∀ o1 : List Int, (((d1) = (slotsOf S'1)) → (((o1) = (orderOf S'1)) → (((d1) = (x7.d)) ∧ ((o1) = (x7.f)) ∧ (d1.length ≤ 1000000) ∧ (o1.length ≤ 1000000) ∧ (K (SV.one (TV.at (At.val (Value.bool true)))) [(Chunk.row false (EC.lstep) (l)), (Chunk.row false (EC.int) (pk))] [])))))))))))))))))))))))) ∧ (∀ S' : Arn, (∀ B : Arn, (∀ l2 : List Int,
    (∀ o1 : List Int, ((okRt x7.S x7.q) → ((1 ≤ x7.c) → ((x7.c ≤ 65536) → (((↑l2.length : Int) ≤ x7.c) → ((CpO x7.S x7.q x7.c S' B l2 o1) → ((NmB S' x7.q) ∧ (∀ S'1 : Arn, (∀ l3 : List Int, (∀ n : Int, ((NmR S' x7.q S'1 l3) → (((n) = ((↑l3.length : Int))) → (brS (n != x7.n) ((K (SV.one (TV.at (At.val (Value.bool false)))) [(Chunk.row false (EC.lstep) (l)), (Chunk.row false (EC.int) (pk))] [])) ((brS (0 != x7.w) ((K (SV.one (TV.at (At.val (Value.bool false)))) [(Chunk.row false (EC.lstep) (l)), (Chunk.row false (EC.int) (pk))] [])) (((exW S'1) ∧ (∀ d1 : List SlotT, (∀ o2 : List Int, (((d1) = (slotsOf S'1)) → (((o2) = (orderOf S'1)) → (((d1) = (x7.d)) ∧ ((o2) = (x7.f)) ∧ (d1.length ≤ 1000000) ∧ (o2.length ≤ 1000000) ∧ (∃ B1 : Arn, (∃ l4 : List Int, (∃ o3 : List Int, ((ExB x7.d x7.q x7.c B1 l4 o3) ∧ (∀ w : List SlotT, (∀ f : List Int, (∀ q : List Int, (((w) = (slotsOf B1)) → (((f) = (orderOf B1)) → (((q) = (o3)) → (((o1) = (q)) ∧ (o1.length ≤ 1000000) ∧ (exW B) ∧ (∀ d2 : List SlotT, (∀ o4 : List Int, (((d2) = (slotsOf B)) → (((o4) = (orderOf B)) → (((d2) = (w)) ∧ ((o4) = (f)) ∧ (d2.length ≤ 1000000) ∧ (o4.length ≤ 1000000) ∧ (∃ hs : List Int, ((Wf B hs) ∧ (o1.Perm hs) ∧ (o1.length ≤ 1000000) ∧ (K (SV.one (TV.at (At.val (Value.bool true)))) [(Chunk.row false (EC.lstep) (l)), (Chunk.row false (EC.int) (pk))] []))))))))))))))))))))))))))))))))))))))))))))))))))))))))))))))))))))))))))))))))))) = _ by kernel_rfl) ?_
  subst hP1 hP0 hP2 hP3
  refine ⟨by decide, by decide, fun x ex => ?_⟩
  rw [wrap_id (x := 1 + x) (by omega) (by omega)]
  refine ⟨by omega, by omega, fun S hl b => ⟨⟨⟨⟨S, hl, [], 0, b, Nat.zero_le _, rfl, by simp⟩, ?_⟩, fun x _ => brS_of (fun z => brS_of (fun y => ?_) fun y => ?_) fun z => ?_⟩, fun x _ => ⟨brS_of (fun z => ⟨?_, ?_⟩) fun z => ?_, fun x _ => ?_⟩⟩⟩
  · (repeat' first | exact trivial | exact rfl | refine And.intro ?_ ?_)
  · obtain ⟨S, hl, q, k, b, k2, ql, qm⟩ := x
    dsimp only at z y ⊢
    have z : k < pk.length := by have := of_decide_eq_true z; omega
    have y : k < 12 := by have := of_decide_eq_true y; omega
    have hp := b.pos
    have hle := b.le
    rw [wrap_id (x := (k : Int) + 1) (by omega) (by omega)]
    refine ⟨by omega, by omega, by omega, by omega, fun i ei => ?_⟩
    have i0 : 0 ≤ i := by rw [ei]; exact Int.emod_nonneg _ (by omega)
    have i1 : i < hl.length := by rw [ei]; exact Int.emod_lt_of_pos _ (by omega)
    have im := getD_in (l := hl) (i := i.toNat) (by omega)
    refine ⟨i0, i1, by rw [bytes_u32, List.length_singleton]; omega, ⟨S, hl, q ++ [hl.getD i.toNat 0], k + 1, b, y, by rw [List.length_append, List.length_singleton, ql], fun v hv => ?_⟩, trivial, ?_, Nat.sub_lt_sub_left y (Nat.lt_succ_self k)⟩
    · rcases List.mem_append.1 hv with hv | hv
      · exact qm v hv
      · rw [List.mem_singleton.1 hv]; exact im
    · (repeat' first | exact trivial | exact rfl | refine And.intro ?_ ?_)
  · obtain ⟨S, hl, q, k, b, k2, ql, qm⟩ := x
    refine ⟨⟨S, q, ⟨hl, b, qm⟩, by omega⟩, ?_⟩
    (repeat' first | exact trivial | exact rfl | refine And.intro ?_ ?_)
  · obtain ⟨S, hl, q, k, b, k2, ql, qm⟩ := x
    refine ⟨⟨S, q, ⟨hl, b, qm⟩, by omega⟩, ?_⟩
    (repeat' first | exact trivial | exact rfl | refine And.intro ?_ ?_)
  · obtain ⟨S, q, ⟨hl, b, qm⟩, ql⟩ := x
    dsimp only
    rw [bytes_u32, List.length_singleton]; omega
  · obtain ⟨S, q, ⟨hl, b, qm⟩, ql⟩ := x
    have t0 : 0 ≤ raw.tmod 60 := Int.tmod_nonneg _ r1
    have t1 : raw.tmod 60 < 60 := Int.tmod_lt_of_pos _ (by decide)
    refine ⟨⟨S, q ++ [raw.tmod 60], ⟨hl, b⟩, by rw [List.length_append, List.length_singleton]; omega, fun v hv => ?_⟩, ?_⟩
    · rcases List.mem_append.1 hv with hv | hv
      · exact inU_of b.wf (b.wf.held _ (qm v hv))
      · rw [List.mem_singleton.1 hv]; exact ⟨t0, by omega⟩
    · (repeat' first | exact trivial | exact rfl | refine And.intro ?_ ?_)
  · obtain ⟨S, q, ⟨hl, b, qm⟩, ql⟩ := x
    refine ⟨⟨S, q, ⟨hl, b⟩, by omega, fun v hv => inU_of b.wf (b.wf.held _ (qm v hv))⟩, ?_⟩
    (repeat' first | exact trivial | exact rfl | refine And.intro ?_ ?_)
  obtain ⟨S, q, ⟨hl, b⟩, ql, qv⟩ := x
  dsimp only
  have hw := b.wf
  refine ⟨⟨_, hw⟩, fun d f ed ef => ⟨by rw [ed]; exact dgW_slots hw, by omega, qv, fun nl nn => ⟨by decide, by decide, fun m _ => ⟨brS_of (fun z => ?_) fun z => ?_, fun x _ => ?_⟩⟩⟩⟩
  · refine ⟨⟨S, q, d, f, nl.length, room, ⟨hl, b⟩, ql, qv, ed, ef, nl, numD_A hw (by rw [← ed]; exact nn), rfl⟩, ?_⟩
    (repeat' first | exact trivial | exact rfl | refine And.intro ?_ ?_)
  · refine ⟨⟨S, q, d, f, nl.length, IntKind.i64.wrap (IntKind.i64.wrap ((nl.length : Int) + m) - 2), ⟨hl, b⟩, ql, qv, ed, ef, nl, numD_A hw (by rw [← ed]; exact nn), rfl⟩, ?_⟩
    (repeat' first | exact trivial | exact rfl | refine And.intro ?_ ?_)
  obtain ⟨S, q, d, f, n, c, hp⟩ := x
  dsimp only
  refine ⟨brS_of (fun z => ?_) fun z => ?_, fun x _ => ⟨⟨⟨x.S, x.q, x.d, x.f, x.n, x.c, 0, x.b, x.p, Nat.zero_le _, x.hb⟩, ?_⟩, fun x _ => brS_of (fun z => brS_of (fun y => ?_) fun y => ⟨?_, ?_, brS_of (fun v => ⟨?_, ?_, ?_, ?_, ?_⟩) fun v => ?_⟩) fun z => ⟨brS_of (fun y => ?_) fun y => brS_of (fun v => ?_) fun v => ?_, fun x _ => ?_⟩⟩⟩
  · refine ⟨⟨S, q, d, f, n, c, true, hp, by unfold badB; rw [z]; simp⟩, ?_⟩
    (repeat' first | exact trivial | exact rfl | refine And.intro ?_ ?_)
  · refine ⟨⟨S, q, d, f, n, c, decide (c > 65536), hp, by unfold badB; rw [z]; simp⟩, ?_⟩
    (repeat' first | exact trivial | exact rfl | refine And.intro ?_ ?_)
  · (repeat' first | exact trivial | exact rfl | refine And.intro ?_ ?_)
  · obtain ⟨S, q, d, f, n, c, k, b, hp, hk, hb⟩ := x
    dsimp only at z y ⊢
    have z : k < q.length := by have := of_decide_eq_true z; omega
    have q13 := hp.2.1
    have ts : q.take (k + 1) = q.take k ++ [q.getD k 0] := takeD_snoc z
    rw [wrap_id (x := (k : Int) + 1) (by omega) (by omega)]
    refine ⟨⟨S, q, d, f, n, c, k + 1, true, hp, z, by rw [ts, badB_snoc, ← hb, y]; rfl⟩, trivial, ?_, Nat.sub_lt_sub_left z (Nat.lt_succ_self k)⟩
    (repeat' first | exact trivial | exact rfl | refine And.intro ?_ ?_)
  · omega
  · have := of_decide_eq_true z; omega
  · omega
  · have := of_decide_eq_true z; omega
  · exact x.p.2.2.1 _ (getD_in (by have := of_decide_eq_true z; omega))
  · obtain ⟨S, q, d, f, n, c, k, b, ⟨⟨hl, bu⟩, _, _, ed, _⟩, _⟩ := x
    dsimp only
    have := slots_le bu.wf
    rw [ed]; omega
  · obtain ⟨S, q, d, f, n, c, k, b, hp, hk, hb⟩ := x
    dsimp only at z y v ⊢
    have z : k < q.length := by have := of_decide_eq_true z; omega
    have q13 := hp.2.1
    have ts : q.take (k + 1) = q.take k ++ [q.getD k 0] := takeD_snoc z
    rw [show ((k : Int)).toNat = k from rfl] at v ⊢
    rw [wrap_id (x := (k : Int) + 1) (by omega) (by omega)]
    have v : q.getD k 0 ≠ 0 := by simpa using v
    refine ⟨⟨S, q, d, f, n, c, k + 1, !alcD d (q.getD k 0), hp, z, by rw [ts, badB_snoc, ← hb, y, decide_eq_true v]; simp⟩, trivial, ?_, Nat.sub_lt_sub_left z (Nat.lt_succ_self k)⟩
    (repeat' first | exact trivial | exact rfl | refine And.intro ?_ ?_)
  · obtain ⟨S, q, d, f, n, c, k, b, hp, hk, hb⟩ := x
    dsimp only at z y v ⊢
    have z : k < q.length := by have := of_decide_eq_true z; omega
    have q13 := hp.2.1
    have ts : q.take (k + 1) = q.take k ++ [q.getD k 0] := takeD_snoc z
    rw [show ((k : Int)).toNat = k from rfl] at v
    rw [wrap_id (x := (k : Int) + 1) (by omega) (by omega)]
    have v : q.getD k 0 = 0 := by simpa using v
    refine ⟨⟨S, q, d, f, n, c, k + 1, false, hp, z, by rw [ts, badB_snoc, ← hb, y, v]; rfl⟩, trivial, ?_, Nat.sub_lt_sub_left z (Nat.lt_succ_self k)⟩
    (repeat' first | exact trivial | exact rfl | refine And.intro ?_ ?_)
  iterate 3
    · obtain ⟨S, q, d, f, n, c, k, b, hp, hk, hb⟩ := x
      dsimp only at z y ⊢
      have z : k = q.length := by have := of_decide_eq_false z; omega
      rw [z, List.take_length] at hb
      first
        | exact ⟨⟨S, q, d, f, n, c, 1, hp, by rw [← hb, y]; rfl⟩, by (repeat' first | exact trivial | exact rfl | refine And.intro ?_ ?_)⟩
        | exact ⟨⟨S, q, d, f, n, c, 2, hp, by rw [← hb, y, if_neg (by decide), if_pos (of_decide_eq_true v)]⟩, by (repeat' first | exact trivial | exact rfl | refine And.intro ?_ ?_)⟩
        | exact ⟨⟨S, q, d, f, n, c, 0, hp, by rw [← hb, y, if_neg (by decide), if_neg (of_decide_eq_false v)]⟩, by (repeat' first | exact trivial | exact rfl | refine And.intro ?_ ?_)⟩
  obtain ⟨S, q, d, f, n, c, w, ⟨⟨hl, b⟩, ql, qv, ed, ef, nl, nn, en⟩, hw⟩ := x
  dsimp only
  have wf := b.wf
  have r0 := b.rd
  have bi := bad_iff (q := q) (c := c) wf
  rw [← ed] at bi
  have sl := slots_le wf
  have ol := order_len wf
  have ls := LsN.of wf nn
  have nf := used_few wf ls.nd ls.used
  have n2 := wf.n2
  have nm0 : NmB S q := ⟨⟨_, wf⟩, by omega, by omega, qv⟩
  have nm : ∀ m : Nat, m ≤ 200000 → NmB (rdS S m) q := fun m hm => ⟨⟨_, wf.rd (by omega)⟩, by show S.reads + (m : Int) ≤ _; omega, by omega, qv⟩
  have fin : ∀ (m : Nat) (S2 : Arn) (l3 : List Int), m ≤ 200000 → NmR (rdS S m) q S2 l3 → l3 = nl ∧ exW S2 ∧ slotsOf S2 = d ∧ orderOf S2 = f := fun m S2 l3 hm nr => by
    have e : l3 = nl := NumsG.det (us := S.us) (lf := lfA S) (rg := rgA S) nr.num nn
    have st := nr.st
    subst e st
    exact ⟨rfl, ⟨_, (wf.rd (n := m) (by omega)).rd (by show S.reads + (m : Int) + _ ≤ _; omega)⟩, ed.symm, ef.symm⟩
  refine ⟨nm0, fun bad => ⟨nm0, fun S2 l3 n3 nr en3 => ?_⟩, fun S1 l2 ok c1 c2 nr1 cl => ?_, fun S1 B l2 o ok c1 c2 le cp => ?_⟩
  · obtain ⟨e1, e2, e3, e4⟩ := fin 0 S2 l3 (by omega) (by rw [rdS_zero]; exact nr)
    have w1 : w = 1 := by rw [hw, if_pos (bi.2 bad)]
    refine bf7 (by rw [en3, e1, en]; simp) (bf7 (by rw [w1]; rfl) ⟨e2, fun d1 f1 g1 g2 => ⟨by rw [g1, e3], by rw [g2, e4], by rw [g1, e3, ed]; omega, by rw [g2, e4, ef]; omega, h⟩⟩)
  · have e0 : l2 = nl := nr1.num.det nn
    have st := nr1.st
    subst e0
    rw [st]
    refine ⟨nm _ (by omega), fun S2 l3 n3 nr en3 => ?_⟩
    obtain ⟨e1, e2, e3, e4⟩ := fin _ S2 l3 (by omega) nr
    have w1 : w = 2 := by
      rw [hw, if_neg (fun q => by rcases bi.1 q with q | q | q; exact q ok; omega; omega), if_pos (by omega)]
    refine bf7 (by rw [en3, e1, en]; simp) (bf7 (by rw [w1]; rfl) ⟨e2, fun d1 f1 g1 g2 => ⟨by rw [g1, e3], by rw [g2, e4], by rw [g1, e3, ed]; omega, by rw [g2, e4, ef]; omega, h⟩⟩)
  · have e0 : l2 = nl := cp.num.det nn
    have st := cp.st
    subst e0
    rw [st]
    refine ⟨nm _ (by omega), fun S2 l3 n3 nr en3 => ?_⟩
    obtain ⟨e1, e2, e3, e4⟩ := fin _ S2 l3 (by omega) nr
    have w1 : w = 0 := by
      rw [hw, if_neg (fun q => by rcases bi.1 q with q | q | q; exact q ok; omega; omega), if_neg (by omega)]
    have xb : ExB d q c B l2 o := ⟨⟨S, hl, ed, wf, nn, ok, cp.cp⟩, cp.eo, qv, le, c1, c2, by omega⟩
    have oq : o.length = q.length := by rw [cp.eo, List.length_map]
    have wB := cp.cp.wf
    have slB := slots_le wB
    have olB := order_len wB
    refine bf7 (by rw [en3, e1, en]; simp) (bf7 (by rw [w1]; rfl) ⟨e2, fun d1 f1 g1 g2 => ⟨by rw [g1, e3], by rw [g2, e4], by rw [g1, e3, ed]; omega, by rw [g2, e4, ef]; omega, B, l2, o, xb, fun w3 f3 q3 h1 h2 h3 => ⟨h3.symm, by omega, ⟨_, wB⟩, fun d4 f4 k1 k2 => ⟨by rw [k1, h1], by rw [k2, h2], by rw [k1]; omega, by rw [k2]; omega, o, wB, List.Perm.refl _, by omega, h⟩⟩⟩⟩)
theorem s_cc : SoundT C0 4 tCc := by
  refine .of Try.func4 (by decide) rfl fun args H K h hB => ?_
  unfold tCc at h
  split at h <;> try exact h.elim
  rename_i cap room raw l pk
  refine ⟨_, ?_, vc_cc l pk cap room raw K h.1 h.2.1 h.2.2.1 h.2.2.2.1 h.2.2.2.2⟩
  exact ⟨frame C0.ok s_mod _, frame C0.ok s_bu _, frame C0.ok s_aw29 _, frame C0.ok s_dump _, frame C0.ok s_n28 _, frame C0.ok s_alc _, frame C0.ok s_cmp _, frame C0.ok s_ndd _, frame C0.ok s_sameD _, frame C0.ok s_ex _, frame C0.ok s_sameU _, frame C0.ok s_sound _, trivial⟩
end Go.Proofs.Ytmjnoiajenoinaa.Sx
end
section
/- What every law's last step leans on. -/
namespace Go.Proofs.Ytmjnoiajenoinaa
open Go.ChangeShapes Go.WideShapes Go.ChangeAt Go.RowKit

theorem ownK : ownKnob Try.prog.godebug = none := by kernel_rfl
theorem laidO : laidOutB Try.prog = true := by kernel_rfl

theorem lit_i64 {a : Int} (h : (Lit.int .i64 a).wf = true) : -9223372036854775808 ≤ a ∧ a ≤ 9223372036854775807 := by
  have h1 : IntKind.i64.min = -9223372036854775808 := rfl
  have h2 : IntKind.i64.max = 9223372036854775807 := rfl
  simp only [Lit.wf, Bool.and_eq_true, decide_eq_true_eq] at h
  omega
theorem lit_u32 {a : Int} (h : (Lit.int .u32 a).wf = true) : 0 ≤ a ∧ a ≤ 4294967295 := by
  have h1 : IntKind.u32.min = 0 := rfl
  have h2 : IntKind.u32.max = 4294967295 := rfl
  simp only [Lit.wf, Bool.and_eq_true, decide_eq_true_eq] at h
  omega
end Go.Proofs.Ytmjnoiajenoinaa
end
section
/- From contracts to laws: the arguments as they come, what a law's call leaves. -/
namespace Go.Proofs.Ytmjnoiajenoinaa.Sx
open Go Go.Joins Go.ChangeShapes Go.WideShapes Go.ChangeAt Go.RowKit

theorem Sat.imms {C : Ctx} {w : World} (vs : List Value) (H : List (Chunk C)) (h : ∀ (n : Nat) (c : Chunk C), H[n]? = some c → ∃ e l, c = .row false e l ∧ Imm C w (vs.getD n undef) e l) : Sat C (fun n => vs.getD n undef) (fun _ _ => False) w H where
  holds n c hc := by
    obtain ⟨e, l, rfl, hi⟩ := h n c hc
    exact ⟨hi, fun _ hh => hh⟩
  dis _ _ _ hh := hh.elim
  bd _ _ hh := hh.elim
  imm _ _ _ _ _ _ hh := hh
  out _ _ _ hh := hh
  cl n c hc m hm := by
    obtain ⟨e, l, rfl, _⟩ := h n c hc
    simp [Chunk.names] at hm

theorem lawOf {f : FuncId} {t : Tfm C0} (hs : SoundT C0 f t) {args : List TV} {H : List (Chunk C0)} {vs : List Value} {σ : Nat → Value} {w : World} (ht : ∀ K : KT, K (.one (.at (vB true))) H [] → t args H K)
    (hsat : Sat C0 σ (fun _ _ => False) w H) (hr : Rels (TV.rel σ) args vs) (hn : ∀ x ∈ args, ∀ m ∈ x.names, m < H.length) : Calls Try.prog f vs.toArray w (fun e w' => e = .returned (.bool true) ∧ Below w.heap.size w w') := by
  have hc := hs.call args H (fun r _ _ => r = .one (.at (vB true))) (ht _ rfl) σ _ w vs hsat hr hn
  refine Calls.mono hc fun e w' hh => ?_
  cases e with
  | panicked ch => exact hh.elim
  | outgrown => exact hh.elim
  | returned v =>
    obtain ⟨r, H', ts, σ', φ', hout, rfl⟩ := hh
    have hv : v = .bool true := hout.rel
    exact ⟨by rw [hv], hout.adv.os, hout.adv.tape, hout.adv.output, hout.adv.size, fun k hk => hout.adv.fr k hk fun n hh => hh⟩

section
variable {HH : Type} {enc : TypeId × Value → HH} {P : Program} {w : World} {base b0 : Nat} {spare : Nat → Bool} {held : Bool} {r : Reach}
theorem openRowQ {α : Type} [Inhabited α] {t e : TypeId} {f : α → List Value} {Q : α → Prop} {sz : Nat} {v : Value} {d : DataW HH} {p : List MemPlace} (ht : P.underlying t = some (.slice e)) (hC : P.cellsOf e = sz) (hpos : 0 < sz) (hf : ∀ x, (f x).length = sz)
    (hel : ∀ {n : Nat} {cs : List Value} {x : DataW HH × List MemPlace}, DataW.trod enc P w base spare held n e cs = some x → ∃ a, cs = f a ∧ Q a) (hv : Value.okWide P w r b0 t v) (h : DataW.Trod enc P w base spare held t v d p) :
    ∃ A n c l, v = .slice A n c ∧ Rd f sz w A n c l ∧ ∀ x ∈ l, Q x := by
  obtain ⟨A, n, c, rfl⟩ := okWide_slice ht hv
  obtain ⟨fuel, hh⟩ := h
  have hh : DataW.trod enc P w base spare held fuel t [.slice A n c] = some (d, p) := by simpa [Value.cells] using hh
  rcases Go.Deep.open_slice ht hh with ⟨h1, _⟩ | ⟨a, len, cap, m, k, D, Pl, h1, hb, hle, hm, hmm, hx, hall⟩
  · simp only [List.cons.injEq, Value.slice.injEq, and_true] at h1
    obtain ⟨rfl, rfl, rfl⟩ := h1
    exact ⟨none, 0, 0, [], rfl, Rd.nil hf, fun x hx => by simp at hx⟩
  · simp only [List.cons.injEq, Value.slice.injEq, and_true] at h1
    obtain ⟨rfl, rfl, rfl⟩ := h1
    have hlm : n ≤ m := by rw [hmm]; split <;> omega
    have hel' : ∀ i, i < n → ∃ x : α, w.cells? base (a.add (i * P.cellsOf e)) (P.cellsOf e) = some (f x) ∧ Q x := fun i hi => by
      obtain ⟨cs', hc1, hc2⟩ := hall i (by omega)
      obtain ⟨x, rfl, hq⟩ := hel hc2
      exact ⟨x, hc1, hq⟩
    obtain ⟨F, hF⟩ := Go.Deep.choose_lt hel'
    have cell : ∀ i, i < n → ∀ j, j < sz → w.cell? ((a.add (i * sz)).add j) = (f (F i))[j]? := fun i hi j hj => by
      have h2 := (hF i hi).1
      rw [hC] at h2
      unfold World.cells? at h2
      split at h2
      · exact mapM_some_get h2 j j (by simp [hj])
      · cases h2
    refine ⟨some a, n, c, (List.range n).map F, rfl, ⟨by simp, hle, hm, hf, fun h => (by cases h), fun hn => ?_⟩, fun x hx => by obtain ⟨i, hi, rfl⟩ := List.mem_map.1 hx; exact (hF i (List.mem_range.1 hi)).2⟩
    obtain ⟨b, o, sp⟩ := a
    have hsome : ∀ i, i < n → ∀ j, j < sz → ∃ u, w.cell? (((⟨b, o, sp⟩ : Addr).add (i * sz)).add j) = some u := fun i hi j hj => by
      rw [cell i hi j hj]
      exact ⟨_, List.getElem?_eq_getElem (by rw [hf]; exact hj)⟩
    obtain ⟨u0, hu0⟩ := hsome 0 hn 0 hpos
    have hspot : sp = none := by simpa [Addr.add] using World.cell?_spot hu0
    subst hspot
    refine ⟨b, o, rfl, ?_, fun k x hx j u hu => ?_⟩
    · have hu1 : w.cell? ⟨b, o, none⟩ = some u0 := by simpa [Addr.add] using hu0
      unfold World.cell? at hu1
      split at hu1
      · rename_i hb2
        exact (Array.getElem?_eq_some_iff.1 hb2).1
      · cases hu1
    · rw [List.getElem?_map] at hx
      have hk : k < n := by
        rcases Nat.lt_or_ge k n with h2 | h2
        · exact h2
        · rw [List.getElem?_eq_none (by simpa using h2)] at hx; cases hx
      rw [List.getElem?_range hk] at hx
      simp only [Option.map_some, Option.some.injEq] at hx
      subst hx
      have hj : j < sz := by
        have := (List.getElem?_eq_some_iff.1 hu).1
        rwa [hf] at this
      have h3 := cell k hk j hj
      rw [hu] at h3
      rw [← h3]
      congr 1
      rw [Go.WideShapes.add_plain, Go.WideShapes.add_plain]
theorem openRow {α : Type} [Inhabited α] {t e : TypeId} {f : α → List Value} {sz : Nat} {v : Value} {d : DataW HH} {p : List MemPlace} (ht : P.underlying t = some (.slice e)) (hC : P.cellsOf e = sz) (hpos : 0 < sz) (hf : ∀ x, (f x).length = sz)
    (hel : ∀ {n : Nat} {cs : List Value} {x : DataW HH × List MemPlace}, DataW.trod enc P w base spare held n e cs = some x → ∃ a, cs = f a) (hv : Value.okWide P w r b0 t v) (h : DataW.Trod enc P w base spare held t v d p) :
    ∃ A n c l, v = .slice A n c ∧ Rd f sz w A n c l := by
  obtain ⟨A, n, c, l, h1, h2, _⟩ := openRowQ (Q := fun _ => True) ht hC hpos hf (fun h => by obtain ⟨a, e⟩ := hel h; exact ⟨a, e, trivial⟩) hv h
  exact ⟨A, n, c, l, h1, h2⟩
end

section
variable {HH : Type} {enc : TypeId × Value → HH} {w : World} {base b0 : Nat} {spare : Nat → Bool} {held : Bool} {r : Reach}
set_option maxRecDepth 100000 in
theorem elEw {n : Nat} {cs : List Value} {x : DataW HH × List MemPlace} (h : DataW.trod enc Try.prog w base spare held n 61 cs = some x) :
    ∃ a : Ent, cs = EC.enc .ent a ∧ ((-9223372036854775808 ≤ a.1 ∧ a.1 ≤ 9223372036854775807) ∧ (-9223372036854775808 ≤ a.2 ∧ a.2 ≤ 9223372036854775807)) := by
  obtain ⟨y0, y1, m, _, hl, h0, h1⟩ := trod_struct2 Try.underlying61 h
  obtain ⟨k, e0, _, w0⟩ := DataW.trod_int Try.underlying2 h0
  obtain ⟨v, e1, _, w1⟩ := DataW.trod_int Try.underlying2 h1
  have hl : cs.length = 2 := hl.trans (by kernel_rfl)
  have c1 : Try.prog.cellsOf 2 = 1 := by kernel_rfl
  match cs, hl with
  | [a, b], _ =>
    simp [c1] at e0 e1
    exact ⟨(k, v), by rw [e0, e1]; rfl, lit_i64 w0, lit_i64 w1⟩
instance : Inhabited Chg := ⟨⟨0, 0, 0, 0⟩⟩
end
end Go.Proofs.Ytmjnoiajenoinaa.Sx
end
