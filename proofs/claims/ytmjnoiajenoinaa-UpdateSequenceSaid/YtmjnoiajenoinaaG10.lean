/- A part of the proof. -/
import Derived.Test.YtmjnoiajenoinaaG9
import Derived.Test.YtmjnoiajenoinaaG5
import Derived.Test.YtmjnoiajenoinaaG8
section
/- The reference's Check of a dump, Clean and Sound. -/
namespace Go.Proofs.Ytmjnoiajenoinaa.Sx
open Go

/-KEEP Wf exW inU allU Arn.cap Arn.free alcD cntL kidsL slotsOf orderOf MarksR CleanD kidsU-/
structure XCk (d : List SlotT) (roots : List Int) where
  i : Nat
  m : List Bool
  h : i ≤ d.length ∧ MarksR d roots m
structure XCj (d : List SlotT) (roots : List Int) (P : Nat → Int → Prop) where
  i : Nat
  m : List Bool
  c : Int
  h : i < d.length ∧ MarksR d roots m ∧ P i c
abbrev bxSl (x : SlotT) : Chunk C0 := .box [.val (.bool x.alloc), vI x.count, vU x.gen, vI x.node.key, vI x.node.value, vU x.node.left, vU x.node.right, vI x.node.size, vI x.node.sum, vI x.node.min, vI x.node.max]
abbrev chK (d : List SlotT) (fl roots : List Int) (m : List Bool) : List (Chunk C0) := [.row false EC.slot d, .row false EC.u32 fl, .row false EC.u32 roots, .box [.slc 0, .slc 1], .row true EC.int (cntL (kidsL d) d.length), .row true EC.bool m, .row true EC.int (cntL fl d.length), .row true EC.int (cntL roots d.length), .row true EC.find []]
structure XIy (n : Nat) where
  i : Nat
  h : i < n
noncomputable def aChk (P0 P1 P2 P3 P4 : Nat → Int → Prop) (d : List SlotT) (fl roots : List Int) : Ann C0 := { Γ := [(67, frameT [] tInE), (138, frameT [] tMk), (139, frameT [] tCnt), (23, frameT [] tAlc), (113, frameT [] tKids)], quiet := [67, 138, 139, 23, 113], rounds := fun n => if n = 19 then 3 else 0, inv := fun n => match n with
  | 5 => some { X := XCk d roots, sl := [2, 6, 7, 8, 9, 5, 10], tf := fun x => [.one (.at (.ptr 3 0)), .one (.at (.slc 4)), .one (.at (.slc 5)), .one (.at (.slc 6)), .one (.at (.slc 7)), .one (.at (.slc 8)), vi .i64 x.i], hf := fun x => chK d fl roots x.m, μ := fun x => d.length - x.i }
  | 1011 => some { X := XCj d roots P4, sl := [2, 6, 7, 8, 9, 5, 10, 12, 13], tf := fun x => [.one (.at (.ptr 3 0)), .one (.at (.slc 4)), .one (.at (.slc 5)), .one (.at (.slc 6)), .one (.at (.slc 7)), .one (.at (.slc 8)), vi .i64 x.i, .one (.at (.ptr 9 0)), vi .i64 x.c], hf := fun x => chK d fl roots x.m ++ [bxSl (eS d x.i)], rel := fun T _ z => slotI T 10 z.i }
  | 1013 => some { X := XCj d roots P0, sl := [2, 6, 7, 8, 9, 5, 10, 12, 60], tf := fun x => [.one (.at (.ptr 3 0)), .one (.at (.slc 4)), .one (.at (.slc 5)), .one (.at (.slc 6)), .one (.at (.slc 7)), .one (.at (.slc 8)), vi .i64 x.i, .one (.at (.ptr 9 0)), vb false], hf := fun x => chK d fl roots x.m ++ [bxSl (eS d x.i)], rel := fun T _ z => slotI T 10 z.i }
  | 1025 => some { X := XCj d roots P1, sl := [2, 6, 7, 8, 9, 5, 10, 12, 17], tf := fun x => [.one (.at (.ptr 3 0)), .one (.at (.slc 4)), .one (.at (.slc 5)), .one (.at (.slc 6)), .one (.at (.slc 7)), .one (.at (.slc 8)), vi .i64 x.i, .one (.at (.ptr 9 0)), vi .i64 x.c], hf := fun x => chK d fl roots x.m ++ [bxSl (eS d x.i)], rel := fun T _ z => slotI T 10 z.i }
  | 1026 => some { X := XCj d roots P2, sl := [2, 6, 7, 8, 9, 5, 10, 12, 110], tf := fun x => [.one (.at (.ptr 3 0)), .one (.at (.slc 4)), .one (.at (.slc 5)), .one (.at (.slc 6)), .one (.at (.slc 7)), .one (.at (.slc 8)), vi .i64 x.i, .one (.at (.ptr 9 0)), vb false], hf := fun x => chK d fl roots x.m ++ [bxSl (eS d x.i)], rel := fun T _ z => slotI T 10 z.i }
  | 1028 => some { X := XCj d roots P3, sl := [2, 6, 7, 8, 9, 5, 10, 12, 15], tf := fun x => [.one (.at (.ptr 3 0)), .one (.at (.slc 4)), .one (.at (.slc 5)), .one (.at (.slc 6)), .one (.at (.slc 7)), .one (.at (.slc 8)), vi .i64 x.i, .one (.at (.ptr 9 0)), vi .i64 x.c], hf := fun x => chK d fl roots x.m ++ [bxSl (eS d x.i)], rel := fun T _ z => slotI T 10 z.i }
  | 1029 => some { X := XCj d roots P0, sl := [2, 6, 7, 8, 9, 5, 10, 12, 132], tf := fun x => [.one (.at (.ptr 3 0)), .one (.at (.slc 4)), .one (.at (.slc 5)), .one (.at (.slc 6)), .one (.at (.slc 7)), .one (.at (.slc 8)), vi .i64 x.i, .one (.at (.ptr 9 0)), vb false], hf := fun x => chK d fl roots x.m ++ [bxSl (eS d x.i)], rel := fun T _ z => slotI T 10 z.i }
  | 1031 => some { X := XCj d roots P0, sl := [2, 6, 7, 8, 9, 5, 10, 12, 149], tf := fun x => [.one (.at (.ptr 3 0)), .one (.at (.slc 4)), .one (.at (.slc 5)), .one (.at (.slc 6)), .one (.at (.slc 7)), .one (.at (.slc 8)), vi .i64 x.i, .one (.at (.ptr 9 0)), vb false], hf := fun x => chK d fl roots x.m ++ [bxSl (eS d x.i)], rel := fun T _ z => slotI T 10 z.i }
  | 33 => some { X := XIx fl.length, sl := [2, 5, 19], tf := fun x => [.one (.at (.ptr 3 0)), .one (.at (.slc 4)), vi .i64 x.i], hf := fun _ => [.row false EC.slot d, .row false EC.u32 fl, .row false EC.u32 roots, .box [.slc 0, .slc 1], .row true EC.find []], μ := fun x => fl.length - x.i }
  | 1036 => some { X := XIy fl.length, sl := [2, 5, 19, 180], tf := fun x => [.one (.at (.ptr 3 0)), .one (.at (.slc 4)), vi .i64 x.i, vb false], hf := fun _ => [.row false EC.slot d, .row false EC.u32 fl, .row false EC.u32 roots, .box [.slc 0, .slc 1], .row true EC.find []], rel := fun T _ z => slotI T 19 z.i }
  | 38 => some { X := XIx roots.length, sl := [2, 5, 20], tf := fun x => [.one (.at (.ptr 3 0)), .one (.at (.slc 4)), vi .i64 x.i], hf := fun _ => [.row false EC.slot d, .row false EC.u32 fl, .row false EC.u32 roots, .box [.slc 0, .slc 1], .row true EC.find []], μ := fun x => roots.length - x.i }
  | 1041 => some { X := XIy roots.length, sl := [2, 5, 20, 209], tf := fun x => [.one (.at (.ptr 3 0)), .one (.at (.slc 4)), vi .i64 x.i, vb false], hf := fun _ => [.row false EC.slot d, .row false EC.u32 fl, .row false EC.u32 roots, .box [.slc 0, .slc 1], .row true EC.find []], rel := fun T _ z => slotI T 20 z.i }
  | _ => none }
def tChk : Tfm C0 := fun args H K => match args, H with
  | [.agg [.slc 0, .slc 1], .at (.slc 2)], [.row false .slot d, .row false .u32 fl, .row false .u32 roots] => CleanD d fl roots ∧ kidsU d ∧ allU fl ∧ allU roots ∧ d.length ≤ 100000 ∧ fl.length ≤ 1000000 ∧ roots.length ≤ 1000000 ∧
    K (.one (.at (.slc 3))) [.row false EC.slot d, .row false EC.u32 fl, .row false EC.u32 roots, .row true EC.find []] []
  | _, _ => False
noncomputable def aCln : Ann C0 := { Γ := [(114, frameT [] tChk)] }
def tCln : Tfm C0 := fun args H K => match args, H with
  | [.agg [.slc 0, .slc 1], .at (.slc 2)], [.row false .slot d, .row false .u32 fl, .row false .u32 roots] => CleanD d fl roots ∧ kidsU d ∧ allU fl ∧ allU roots ∧ d.length ≤ 100000 ∧ fl.length ≤ 1000000 ∧ roots.length ≤ 1000000 ∧
    K (.one (.at (vB true))) [.row false EC.slot d, .row false EC.u32 fl, .row false EC.u32 roots] []
  | _, _ => False
noncomputable def aSound : Ann C0 := { Γ := [(21, frameT [] tDump), (68, frameT [] tCln)] }
def tSound : Tfm C0 := fun args H K => match args with
  | [.at (.ptr 0 0), .at (.slc 7)] => arMr H fun S rest => match rest with
    | [.row false .u32 roots] => ∃ hs, Wf S hs ∧ roots.Perm hs ∧ roots.length ≤ 1000000 ∧ K (.one (.at (vB true))) (chS S ++ [.row false EC.u32 roots]) []
    | _ => False
  | _ => False
def P0c (_ : Nat) (_ : Int) : Prop := True
def P4c (d : List SlotT) (i : Nat) (c : Int) : Prop := c = if (eS d i).alloc = true then 0 else 1
def P1c (d : List SlotT) (i : Nat) (c : Int) : Prop := (eS d i).alloc = true ∧ c = 1 + szD d (eS d i).node.left + szD d (eS d i).node.right
def P2c (d : List SlotT) (i : Nat) (_ : Int) : Prop := (eS d i).alloc = true
def P3c (d : List SlotT) (roots : List Int) (i : Nat) (c : Int) : Prop := c = if (eS d i).alloc = true then ((kidsL d).count ((i : Int) + 1) : Int) + (roots.count ((i : Int) + 1) : Int) else 0
theorem eS_sz {d : List SlotT} {fl roots : List Int} (_ : CleanD d fl roots) (hl : d.length ≤ 100000) {j : Int} (h : alcD d j = true) : 0 ≤ IntKind.u32.wrap (j - 1) ∧ IntKind.u32.wrap (j - 1) < (d.length : Int) ∧ (eS d (IntKind.u32.wrap (j - 1)).toNat).node.size = szD d j := by
  obtain ⟨a, b⟩ := alcD_rng h
  rw [wrap_u32 (x := j - 1) (by omega) (by omega)]
  refine ⟨by omega, by omega, ?_⟩
  unfold szD; rw [if_pos h]; rfl
theorem szD_no {d : List SlotT} {j : Int} (h : alcD d j = false) : szD d j = 0 := by unfold szD; rw [h]; rfl
theorem szD_rng {d : List SlotT} {fl roots : List Int} (hc : CleanD d fl roots) (j : Int) : 0 ≤ szD d j ∧ szD d j ≤ 4294967296 := by
  cases h : alcD d j with
  | false => rw [szD_no h]; omega
  | true =>
    obtain ⟨a, b⟩ := alcD_rng h
    unfold szD; rw [if_pos h]
    exact hc.zr (j - 1).toNat (by omega)
theorem vc_chk (d : List SlotT) (fl roots : List Int) (K : KT) (hc : CleanD d fl roots) (hk : kidsU d) (hfu : allU fl) (hru : allU roots) (hl : d.length ≤ 100000) (hf : fl.length ≤ 1000000) (hr : roots.length ≤ 1000000)
    (h : K (.one (.at (.slc 3))) [.row false EC.slot d, .row false EC.u32 fl, .row false EC.u32 roots, .row true EC.find []] []) :
    vc C0 (aChk P0c (P1c d) (P2c d) (P3c d roots) (P4c d) d fl roots) Try.f114 [.agg [.slc 0, .slc 1], .at (.slc 2)] [.row false EC.slot d, .row false EC.u32 fl, .row false EC.u32 roots] (normK 3 K) := by
  generalize hP0 : P0c = P0
  generalize hP1 : P1c d = P1
  generalize hP2 : P2c d = P2
  generalize hP3 : P3c d roots = P3
  generalize hP4 : P4c d = P4
  refine Eq.mp (show ((d.length ≤ 100000) ∧
(kidsU d) ∧
(∀ o : List Int, (((o) = (cntL (kidsL d) d.length)) → ((d.length ≤ 100000) ∧ (roots.length ≤ 1000000) ∧ (kidsU d) ∧ (allU roots) ∧ (∀ m : List Bool, ((MarksR d roots m) → ((0 ≤ (↑d.length : Int)) ∧ ((↑d.length : Int) ≤ 100000) ∧ (fl.length ≤ 1000000) ∧ (allU fl) ∧ (∀ o1 : List Int, (((o1) = (cntL fl (↑d.length : Int).toNat)) → ((0 ≤ (↑d.length : Int)) ∧ ((↑d.length : Int) ≤ 100000) ∧ (roots.length ≤ 1000000) ∧ (allU roots) ∧ (∀ o2 : List Int, (((o2) = (cntL roots (↑d.length : Int).toNat)) → ((∃ x : XCk d roots, (True ∧ (True ∧ True ∧ True ∧ True ∧ True ∧ True ∧ True ∧ ((Value.int IntKind.i64 0) = (Value.int IntKind.i64 ((↑x.i : Int)))) ∧ True) ∧ ((d) = (d)) ∧ ((fl) = (fl)) ∧ ((roots) = (roots)) ∧ (True ∧ True ∧ True) ∧ ((o) = (cntL (kidsL d) d.length)) ∧ ((m) = (x.m)) ∧ ((o1) = (cntL fl d.length)) ∧ ((o2) = (cntL roots d.length)) ∧ ((([] : List FindT) = [])) ∧ True)) ∧ (∀ x : XCk d roots, (True → (brS (decide ((↑x.i : Int) < (↑d.length : Int))) (((0 ≤ (↑x.i : Int)) ∧ ((↑x.i : Int) < (↑d.length : Int)) ∧ (brS ((eS d (↑x.i : Int).toNat).alloc) ((∃ x1 : XCj d roots P4, ((((↑x.i : Int)) = ((↑x1.i : Int))) ∧ (True ∧ True ∧ True ∧ True ∧ True ∧ True ∧ True ∧ ((Value.int IntKind.i64 ((↑x.i : Int))) = (Value.int IntKind.i64 ((↑x1.i : Int)))) ∧ ((Value.int IntKind.u32 (IntKind.u32.wrap (IntKind.i64.wrap ((↑x.i : Int) + 1)))) = (Value.int IntKind.u32 (IntKind.u32.wrap (IntKind.i64.wrap ((↑x.i : Int) + 1))))) ∧ True ∧
    ((Value.int IntKind.i64 0) = (Value.int IntKind.i64 (x1.c))) ∧ True) ∧ ((d) = (d)) ∧ ((fl) = (fl)) ∧ ((roots) = (roots)) ∧ (True ∧ True ∧ True) ∧ ((cntL (kidsL d) d.length) = (cntL (kidsL d) d.length)) ∧ ((x.m) = (x1.m)) ∧ ((cntL fl d.length) = (cntL fl d.length)) ∧ ((cntL roots d.length) = (cntL roots d.length)) ∧ ((([] : List FindT) = [])) ∧ (((Value.bool ((eS d (↑x.i : Int).toNat).alloc)) = (Value.bool ((eS d x1.i).alloc))) ∧ ((Value.int IntKind.i64 ((eS d (↑x.i : Int).toNat).count)) = (Value.int IntKind.i64 ((eS d x1.i).count))) ∧ ((Value.int IntKind.u32 ((eS d (↑x.i : Int).toNat).gen)) = (Value.int IntKind.u32 ((eS d x1.i).gen))) ∧ ((Value.int IntKind.i64 ((eS d (↑x.i : Int).toNat).node.key)) = (Value.int IntKind.i64 ((eS d x1.i).node.key))) ∧ ((Value.int IntKind.i64 ((eS d (↑x.i : Int).toNat).node.value)) = (Value.int IntKind.i64 ((eS d x1.i).node.value))) ∧ ((Value.int IntKind.u32 ((eS d (↑x.i : Int).toNat).node.left)) = (Value.int IntKind.u32 ((eS d x1.i).node.left))) ∧ ((Value.int IntKind.u32 ((eS d (↑x.i : Int).toNat).node.right)) = (Value.int IntKind.u32 ((eS d x1.i).node.right))) ∧ ((Value.int IntKind.i64 ((eS d (↑x.i : Int).toNat).node.size)) = (Value.int IntKind.i64 ((eS d x1.i).node.size))) ∧ ((Value.int IntKind.i64 ((eS d (↑x.i : Int).toNat).node.sum)) = (Value.int IntKind.i64 ((eS d x1.i).node.sum))) ∧ ((Value.int IntKind.i64 ((eS d (↑x.i : Int).toNat).node.min)) = (Value.int IntKind.i64 ((eS d x1.i).node.min))) ∧
    ((Value.int IntKind.i64 ((eS d (↑x.i : Int).toNat).node.max)) = (Value.int IntKind.i64 ((eS d x1.i).node.max))) ∧ True) ∧ True))) ((∃ x1 : XCj d roots P4, ((((↑x.i : Int)) = ((↑x1.i : Int))) ∧ (True ∧ True ∧ True ∧ True ∧ True ∧ True ∧ True ∧ ((Value.int IntKind.i64 ((↑x.i : Int))) = (Value.int IntKind.i64 ((↑x1.i : Int)))) ∧ ((Value.int IntKind.u32 (IntKind.u32.wrap (IntKind.i64.wrap ((↑x.i : Int) + 1)))) = (Value.int IntKind.u32 (IntKind.u32.wrap (IntKind.i64.wrap ((↑x.i : Int) + 1))))) ∧ True ∧ ((Value.int IntKind.i64 1) = (Value.int IntKind.i64 (x1.c))) ∧ True) ∧ ((d) = (d)) ∧ ((fl) = (fl)) ∧ ((roots) = (roots)) ∧ (True ∧ True ∧ True) ∧ ((cntL (kidsL d) d.length) = (cntL (kidsL d) d.length)) ∧ ((x.m) = (x1.m)) ∧ ((cntL fl d.length) = (cntL fl d.length)) ∧ ((cntL roots d.length) = (cntL roots d.length)) ∧ ((([] : List FindT) = [])) ∧ (((Value.bool ((eS d (↑x.i : Int).toNat).alloc)) = (Value.bool ((eS d x1.i).alloc))) ∧ ((Value.int IntKind.i64 ((eS d (↑x.i : Int).toNat).count)) = (Value.int IntKind.i64 ((eS d x1.i).count))) ∧ ((Value.int IntKind.u32 ((eS d (↑x.i : Int).toNat).gen)) = (Value.int IntKind.u32 ((eS d x1.i).gen))) ∧ ((Value.int IntKind.i64 ((eS d (↑x.i : Int).toNat).node.key)) = (Value.int IntKind.i64 ((eS d x1.i).node.key))) ∧ ((Value.int IntKind.i64 ((eS d (↑x.i : Int).toNat).node.value)) = (Value.int IntKind.i64 ((eS d x1.i).node.value))) ∧ ((Value.int IntKind.u32 ((eS d (↑x.i : Int).toNat).node.left)) = (Value.int IntKind.u32 ((eS d x1.i).node.left))) ∧
    ((Value.int IntKind.u32 ((eS d (↑x.i : Int).toNat).node.right)) = (Value.int IntKind.u32 ((eS d x1.i).node.right))) ∧ ((Value.int IntKind.i64 ((eS d (↑x.i : Int).toNat).node.size)) = (Value.int IntKind.i64 ((eS d x1.i).node.size))) ∧ ((Value.int IntKind.i64 ((eS d (↑x.i : Int).toNat).node.sum)) = (Value.int IntKind.i64 ((eS d x1.i).node.sum))) ∧ ((Value.int IntKind.i64 ((eS d (↑x.i : Int).toNat).node.min)) = (Value.int IntKind.i64 ((eS d x1.i).node.min))) ∧ ((Value.int IntKind.i64 ((eS d (↑x.i : Int).toNat).node.max)) = (Value.int IntKind.i64 ((eS d x1.i).node.max))) ∧ True) ∧ True)))) ∧ (∀ x1 : XCj d roots P4, ((((↑x.i : Int)) = ((↑x1.i : Int))) → ((0 ≤ (↑x1.i : Int)) ∧ ((↑x1.i : Int) < (↑(cntL fl d.length).length : Int)) ∧ (∃ x2 : XCj d roots P0, ((((↑x1.i : Int)) = ((↑x2.i : Int))) ∧ (True ∧ True ∧ True ∧ True ∧ True ∧ True ∧ True ∧ ((Value.int IntKind.i64 ((↑x1.i : Int))) = (Value.int IntKind.i64 ((↑x2.i : Int)))) ∧ ((Value.int IntKind.u32 (IntKind.u32.wrap (IntKind.i64.wrap ((↑x.i : Int) + 1)))) = (Value.int IntKind.u32 (IntKind.u32.wrap (IntKind.i64.wrap ((↑x.i : Int) + 1))))) ∧ True ∧ ((Value.int IntKind.i64 (x1.c)) = (Value.int IntKind.i64 (x1.c))) ∧ ((Value.int IntKind.i64 ((cntL fl d.length).getD (↑x1.i : Int).toNat 0)) = (Value.int IntKind.i64 ((cntL fl d.length).getD (↑x1.i : Int).toNat 0))) ∧ ((Value.bool ((cntL fl d.length).getD (↑x1.i : Int).toNat 0 != x1.c)) = (Value.bool false)) ∧ True) ∧ ((d) = (d)) ∧ ((fl) = (fl)) ∧ ((roots) = (roots)) ∧ (True ∧ True ∧
    True) ∧ ((cntL (kidsL d) d.length) = (cntL (kidsL d) d.length)) ∧ ((x1.m) = (x2.m)) ∧ ((cntL fl d.length) = (cntL fl d.length)) ∧ ((cntL roots d.length) = (cntL roots d.length)) ∧ ((([] : List FindT) = [])) ∧ (((Value.bool ((eS d x1.i).alloc)) = (Value.bool ((eS d x2.i).alloc))) ∧ ((Value.int IntKind.i64 ((eS d x1.i).count)) = (Value.int IntKind.i64 ((eS d x2.i).count))) ∧ ((Value.int IntKind.u32 ((eS d x1.i).gen)) = (Value.int IntKind.u32 ((eS d x2.i).gen))) ∧ ((Value.int IntKind.i64 ((eS d x1.i).node.key)) = (Value.int IntKind.i64 ((eS d x2.i).node.key))) ∧ ((Value.int IntKind.i64 ((eS d x1.i).node.value)) = (Value.int IntKind.i64 ((eS d x2.i).node.value))) ∧ ((Value.int IntKind.u32 ((eS d x1.i).node.left)) = (Value.int IntKind.u32 ((eS d x2.i).node.left))) ∧ ((Value.int IntKind.u32 ((eS d x1.i).node.right)) = (Value.int IntKind.u32 ((eS d x2.i).node.right))) ∧ ((Value.int IntKind.i64 ((eS d x1.i).node.size)) = (Value.int IntKind.i64 ((eS d x2.i).node.size))) ∧ ((Value.int IntKind.i64 ((eS d x1.i).node.sum)) = (Value.int IntKind.i64 ((eS d x2.i).node.sum))) ∧ ((Value.int IntKind.i64 ((eS d x1.i).node.min)) = (Value.int IntKind.i64 ((eS d x2.i).node.min))) ∧ ((Value.int IntKind.i64 ((eS d x1.i).node.max)) = (Value.int IntKind.i64 ((eS d x2.i).node.max))) ∧ True) ∧ True)) ∧ (∀ x2 : XCj d roots P0, ((((↑x1.i : Int)) = ((↑x2.i : Int))) → ((brS ((eS d x2.i).alloc) (((((0 : Int) ≤ 0) ∧ (0 < ((2 : Nat) : Int)) ∧ (inU (eS d x2.i).node.left) ∧ (d.length ≤ 1000000) ∧
    (brS (alcD d (eS d x2.i).node.left) ((((0 : Int) ≤ 0) ∧ (0 < ((2 : Nat) : Int)) ∧ (0 ≤ IntKind.u32.wrap ((eS d x2.i).node.left - 1)) ∧ (IntKind.u32.wrap ((eS d x2.i).node.left - 1) < (↑d.length : Int)) ∧ (0 ≤ IntKind.i64.wrap (0 + 1)) ∧ (IntKind.i64.wrap (0 + 1) < ((2 : Nat) : Int)) ∧ (inU (eS d x2.i).node.right) ∧ (d.length ≤ 1000000) ∧ (brS (alcD d (eS d x2.i).node.right) (((0 ≤ IntKind.i64.wrap (0 + 1)) ∧ (IntKind.i64.wrap (0 + 1) < ((2 : Nat) : Int)) ∧ (0 ≤ IntKind.u32.wrap ((eS d x2.i).node.right - 1)) ∧ (IntKind.u32.wrap ((eS d x2.i).node.right - 1) < (↑d.length : Int)) ∧ (∃ x3 : XCj d roots P1, ((((↑x2.i : Int)) = ((↑x3.i : Int))) ∧ (True ∧ True ∧ True ∧ True ∧ True ∧ True ∧ True ∧ ((Value.int IntKind.i64 ((↑x2.i : Int))) = (Value.int IntKind.i64 ((↑x3.i : Int)))) ∧ ((Value.int IntKind.u32 (IntKind.u32.wrap (IntKind.i64.wrap ((↑x.i : Int) + 1)))) = (Value.int IntKind.u32 (IntKind.u32.wrap (IntKind.i64.wrap ((↑x.i : Int) + 1))))) ∧ True ∧ ((Value.int IntKind.i64 (IntKind.i64.wrap (IntKind.i64.wrap (1 + (eS d (IntKind.u32.wrap ((eS d x2.i).node.left - 1)).toNat).node.size) + (eS d (IntKind.u32.wrap ((eS d x2.i).node.right - 1)).toNat).node.size))) = (Value.int IntKind.i64 (x3.c))) ∧ True) ∧ ((d) = (d)) ∧ ((fl) = (fl)) ∧ ((roots) = (roots)) ∧ (True ∧ True ∧ True) ∧ ((cntL (kidsL d) d.length) = (cntL (kidsL d) d.length)) ∧ ((x2.m) = (x3.m)) ∧ ((cntL fl d.length) = (cntL fl d.length)) ∧ ((cntL roots d.length) = (cntL roots d.length)) ∧ ((([] : List FindT) = [])) ∧
    (((Value.bool ((eS d x2.i).alloc)) = (Value.bool ((eS d x3.i).alloc))) ∧ ((Value.int IntKind.i64 ((eS d x2.i).count)) = (Value.int IntKind.i64 ((eS d x3.i).count))) ∧ ((Value.int IntKind.u32 ((eS d x2.i).gen)) = (Value.int IntKind.u32 ((eS d x3.i).gen))) ∧ ((Value.int IntKind.i64 ((eS d x2.i).node.key)) = (Value.int IntKind.i64 ((eS d x3.i).node.key))) ∧ ((Value.int IntKind.i64 ((eS d x2.i).node.value)) = (Value.int IntKind.i64 ((eS d x3.i).node.value))) ∧ ((Value.int IntKind.u32 ((eS d x2.i).node.left)) = (Value.int IntKind.u32 ((eS d x3.i).node.left))) ∧ ((Value.int IntKind.u32 ((eS d x2.i).node.right)) = (Value.int IntKind.u32 ((eS d x3.i).node.right))) ∧ ((Value.int IntKind.i64 ((eS d x2.i).node.size)) = (Value.int IntKind.i64 ((eS d x3.i).node.size))) ∧ ((Value.int IntKind.i64 ((eS d x2.i).node.sum)) = (Value.int IntKind.i64 ((eS d x3.i).node.sum))) ∧ ((Value.int IntKind.i64 ((eS d x2.i).node.min)) = (Value.int IntKind.i64 ((eS d x3.i).node.min))) ∧ ((Value.int IntKind.i64 ((eS d x2.i).node.max)) = (Value.int IntKind.i64 ((eS d x3.i).node.max))) ∧ True) ∧ True)))) (((0 ≤ IntKind.i64.wrap (0 + 1)) ∧ (IntKind.i64.wrap (0 + 1) < ((2 : Nat) : Int)) ∧ (brS ((eS d x2.i).node.right != 0) (((0 ≤ IntKind.i64.wrap (0 + 1)) ∧ (IntKind.i64.wrap (0 + 1) < ((2 : Nat) : Int)) ∧
    ((([] : List Ent).length + [{ kind := 2, slot := IntKind.u32.wrap (IntKind.i64.wrap ((↑x.i : Int) + 1)), want := 0, have_ := IntKind.i64.wrap (eS d x2.i).node.right : FindT }].length) * bytesOf C0 EC.find ≤ 140737488355328) ∧ (∃ x3 : XCj d roots P1, ((((↑x2.i : Int)) = ((↑x3.i : Int))) ∧ (True ∧ True ∧ True ∧ True ∧ True ∧ True ∧ True ∧ ((Value.int IntKind.i64 ((↑x2.i : Int))) = (Value.int IntKind.i64 ((↑x3.i : Int)))) ∧ ((Value.int IntKind.u32 (IntKind.u32.wrap (IntKind.i64.wrap ((↑x.i : Int) + 1)))) = (Value.int IntKind.u32 (IntKind.u32.wrap (IntKind.i64.wrap ((↑x.i : Int) + 1))))) ∧ True ∧ ((Value.int IntKind.i64 (IntKind.i64.wrap (1 + (eS d (IntKind.u32.wrap ((eS d x2.i).node.left - 1)).toNat).node.size))) = (Value.int IntKind.i64 (x3.c))) ∧ True) ∧ ((d) = (d)) ∧ ((fl) = (fl)) ∧ ((roots) = (roots)) ∧ (True ∧ True ∧ True) ∧ ((cntL (kidsL d) d.length) = (cntL (kidsL d) d.length)) ∧ ((x2.m) = (x3.m)) ∧ ((cntL fl d.length) = (cntL fl d.length)) ∧ ((cntL roots d.length) = (cntL roots d.length)) ∧ ([({ kind := 2, slot := IntKind.u32.wrap (IntKind.i64.wrap ((↑x.i : Int) + 1)), want := 0, have_ := IntKind.i64.wrap (eS d x2.i).node.right : FindT })] = []) ∧ (((Value.bool ((eS d x2.i).alloc)) = (Value.bool ((eS d x3.i).alloc))) ∧ ((Value.int IntKind.i64 ((eS d x2.i).count)) = (Value.int IntKind.i64 ((eS d x3.i).count))) ∧ ((Value.int IntKind.u32 ((eS d x2.i).gen)) = (Value.int IntKind.u32 ((eS d x3.i).gen))) ∧
    ((Value.int IntKind.i64 ((eS d x2.i).node.key)) = (Value.int IntKind.i64 ((eS d x3.i).node.key))) ∧ ((Value.int IntKind.i64 ((eS d x2.i).node.value)) = (Value.int IntKind.i64 ((eS d x3.i).node.value))) ∧ ((Value.int IntKind.u32 ((eS d x2.i).node.left)) = (Value.int IntKind.u32 ((eS d x3.i).node.left))) ∧ ((Value.int IntKind.u32 ((eS d x2.i).node.right)) = (Value.int IntKind.u32 ((eS d x3.i).node.right))) ∧ ((Value.int IntKind.i64 ((eS d x2.i).node.size)) = (Value.int IntKind.i64 ((eS d x3.i).node.size))) ∧ ((Value.int IntKind.i64 ((eS d x2.i).node.sum)) = (Value.int IntKind.i64 ((eS d x3.i).node.sum))) ∧ ((Value.int IntKind.i64 ((eS d x2.i).node.min)) = (Value.int IntKind.i64 ((eS d x3.i).node.min))) ∧ ((Value.int IntKind.i64 ((eS d x2.i).node.max)) = (Value.int IntKind.i64 ((eS d x3.i).node.max))) ∧ True) ∧ True)))) ((∃ x3 : XCj d roots P1, ((((↑x2.i : Int)) = ((↑x3.i : Int))) ∧ (True ∧ True ∧ True ∧ True ∧ True ∧ True ∧ True ∧ ((Value.int IntKind.i64 ((↑x2.i : Int))) = (Value.int IntKind.i64 ((↑x3.i : Int)))) ∧ ((Value.int IntKind.u32 (IntKind.u32.wrap (IntKind.i64.wrap ((↑x.i : Int) + 1)))) = (Value.int IntKind.u32 (IntKind.u32.wrap (IntKind.i64.wrap ((↑x.i : Int) + 1))))) ∧ True ∧ ((Value.int IntKind.i64 (IntKind.i64.wrap (1 + (eS d (IntKind.u32.wrap ((eS d x2.i).node.left - 1)).toNat).node.size))) = (Value.int IntKind.i64 (x3.c))) ∧ True) ∧ ((d) = (d)) ∧ ((fl) = (fl)) ∧ ((roots) = (roots)) ∧ (True ∧ True ∧ True) ∧ ((cntL (kidsL d) d.length) = (cntL (kidsL d) d.length)) ∧
    ((x2.m) = (x3.m)) ∧ ((cntL fl d.length) = (cntL fl d.length)) ∧ ((cntL roots d.length) = (cntL roots d.length)) ∧ ((([] : List FindT) = [])) ∧ (((Value.bool ((eS d x2.i).alloc)) = (Value.bool ((eS d x3.i).alloc))) ∧ ((Value.int IntKind.i64 ((eS d x2.i).count)) = (Value.int IntKind.i64 ((eS d x3.i).count))) ∧ ((Value.int IntKind.u32 ((eS d x2.i).gen)) = (Value.int IntKind.u32 ((eS d x3.i).gen))) ∧ ((Value.int IntKind.i64 ((eS d x2.i).node.key)) = (Value.int IntKind.i64 ((eS d x3.i).node.key))) ∧ ((Value.int IntKind.i64 ((eS d x2.i).node.value)) = (Value.int IntKind.i64 ((eS d x3.i).node.value))) ∧ ((Value.int IntKind.u32 ((eS d x2.i).node.left)) = (Value.int IntKind.u32 ((eS d x3.i).node.left))) ∧ ((Value.int IntKind.u32 ((eS d x2.i).node.right)) = (Value.int IntKind.u32 ((eS d x3.i).node.right))) ∧ ((Value.int IntKind.i64 ((eS d x2.i).node.size)) = (Value.int IntKind.i64 ((eS d x3.i).node.size))) ∧ ((Value.int IntKind.i64 ((eS d x2.i).node.sum)) = (Value.int IntKind.i64 ((eS d x3.i).node.sum))) ∧ ((Value.int IntKind.i64 ((eS d x2.i).node.min)) = (Value.int IntKind.i64 ((eS d x3.i).node.min))) ∧ ((Value.int IntKind.i64 ((eS d x2.i).node.max)) = (Value.int IntKind.i64 ((eS d x3.i).node.max))) ∧ True) ∧ True))))))))) ((((0 : Int) ≤ 0) ∧ (0 < ((2 : Nat) : Int)) ∧ (brS ((eS d x2.i).node.left != 0) ((((0 : Int) ≤ 0) ∧ (0 < ((2 : Nat) : Int)) ∧
    ((([] : List Ent).length + [{ kind := 2, slot := IntKind.u32.wrap (IntKind.i64.wrap ((↑x.i : Int) + 1)), want := 0, have_ := IntKind.i64.wrap (eS d x2.i).node.left : FindT }].length) * bytesOf C0 EC.find ≤ 140737488355328) ∧ (0 ≤ IntKind.i64.wrap (0 + 1)) ∧ (IntKind.i64.wrap (0 + 1) < ((2 : Nat) : Int)) ∧ (inU (eS d x2.i).node.right) ∧ (d.length ≤ 1000000) ∧ (brS (alcD d (eS d x2.i).node.right) (((0 ≤ IntKind.i64.wrap (0 + 1)) ∧ (IntKind.i64.wrap (0 + 1) < ((2 : Nat) : Int)) ∧ (0 ≤ IntKind.u32.wrap ((eS d x2.i).node.right - 1)) ∧ (IntKind.u32.wrap ((eS d x2.i).node.right - 1) < (↑d.length : Int)) ∧ (∃ x3 : XCj d roots P1, ((((↑x2.i : Int)) = ((↑x3.i : Int))) ∧ (True ∧ True ∧ True ∧ True ∧ True ∧ True ∧ True ∧ ((Value.int IntKind.i64 ((↑x2.i : Int))) = (Value.int IntKind.i64 ((↑x3.i : Int)))) ∧ ((Value.int IntKind.u32 (IntKind.u32.wrap (IntKind.i64.wrap ((↑x.i : Int) + 1)))) = (Value.int IntKind.u32 (IntKind.u32.wrap (IntKind.i64.wrap ((↑x.i : Int) + 1))))) ∧ True ∧ ((Value.int IntKind.i64 (IntKind.i64.wrap (1 + (eS d (IntKind.u32.wrap ((eS d x2.i).node.right - 1)).toNat).node.size))) = (Value.int IntKind.i64 (x3.c))) ∧ True) ∧ ((d) = (d)) ∧ ((fl) = (fl)) ∧ ((roots) = (roots)) ∧ (True ∧ True ∧ True) ∧ ((cntL (kidsL d) d.length) = (cntL (kidsL d) d.length)) ∧ ((x2.m) = (x3.m)) ∧ ((cntL fl d.length) = (cntL fl d.length)) ∧ ((cntL roots d.length) = (cntL roots d.length)) ∧
    ([({ kind := 2, slot := IntKind.u32.wrap (IntKind.i64.wrap ((↑x.i : Int) + 1)), want := 0, have_ := IntKind.i64.wrap (eS d x2.i).node.left : FindT })] = []) ∧ (((Value.bool ((eS d x2.i).alloc)) = (Value.bool ((eS d x3.i).alloc))) ∧ ((Value.int IntKind.i64 ((eS d x2.i).count)) = (Value.int IntKind.i64 ((eS d x3.i).count))) ∧ ((Value.int IntKind.u32 ((eS d x2.i).gen)) = (Value.int IntKind.u32 ((eS d x3.i).gen))) ∧ ((Value.int IntKind.i64 ((eS d x2.i).node.key)) = (Value.int IntKind.i64 ((eS d x3.i).node.key))) ∧ ((Value.int IntKind.i64 ((eS d x2.i).node.value)) = (Value.int IntKind.i64 ((eS d x3.i).node.value))) ∧ ((Value.int IntKind.u32 ((eS d x2.i).node.left)) = (Value.int IntKind.u32 ((eS d x3.i).node.left))) ∧ ((Value.int IntKind.u32 ((eS d x2.i).node.right)) = (Value.int IntKind.u32 ((eS d x3.i).node.right))) ∧ ((Value.int IntKind.i64 ((eS d x2.i).node.size)) = (Value.int IntKind.i64 ((eS d x3.i).node.size))) ∧ ((Value.int IntKind.i64 ((eS d x2.i).node.sum)) = (Value.int IntKind.i64 ((eS d x3.i).node.sum))) ∧ ((Value.int IntKind.i64 ((eS d x2.i).node.min)) = (Value.int IntKind.i64 ((eS d x3.i).node.min))) ∧ ((Value.int IntKind.i64 ((eS d x2.i).node.max)) = (Value.int IntKind.i64 ((eS d x3.i).node.max))) ∧ True) ∧ True)))) (((0 ≤ IntKind.i64.wrap (0 + 1)) ∧ (IntKind.i64.wrap (0 + 1) < ((2 : Nat) : Int)) ∧ (brS ((eS d x2.i).node.right != 0) (((0 ≤ IntKind.i64.wrap (0 + 1)) ∧ (IntKind.i64.wrap (0 + 1) < ((2 : Nat) : Int)) ∧
    (([{ kind := 2, slot := IntKind.u32.wrap (IntKind.i64.wrap ((↑x.i : Int) + 1)), want := 0, have_ := IntKind.i64.wrap (eS d x2.i).node.left : FindT }].length + [{ kind := 2, slot := IntKind.u32.wrap (IntKind.i64.wrap ((↑x.i : Int) + 1)), want := 0, have_ := IntKind.i64.wrap (eS d x2.i).node.right : FindT }].length) * bytesOf C0 EC.find ≤ 140737488355328) ∧ (∃ x3 : XCj d roots P1, ((((↑x2.i : Int)) = ((↑x3.i : Int))) ∧ (True ∧ True ∧ True ∧ True ∧ True ∧ True ∧ True ∧ ((Value.int IntKind.i64 ((↑x2.i : Int))) = (Value.int IntKind.i64 ((↑x3.i : Int)))) ∧ ((Value.int IntKind.u32 (IntKind.u32.wrap (IntKind.i64.wrap ((↑x.i : Int) + 1)))) = (Value.int IntKind.u32 (IntKind.u32.wrap (IntKind.i64.wrap ((↑x.i : Int) + 1))))) ∧ True ∧ ((Value.int IntKind.i64 1) = (Value.int IntKind.i64 (x3.c))) ∧ True) ∧ ((d) = (d)) ∧ ((fl) = (fl)) ∧ ((roots) = (roots)) ∧ (True ∧ True ∧ True) ∧ ((cntL (kidsL d) d.length) = (cntL (kidsL d) d.length)) ∧ ((x2.m) = (x3.m)) ∧ ((cntL fl d.length) = (cntL fl d.length)) ∧ ((cntL roots d.length) = (cntL roots d.length)) ∧ ([({ kind := 2, slot := IntKind.u32.wrap (IntKind.i64.wrap ((↑x.i : Int) + 1)), want := 0, have_ := IntKind.i64.wrap (eS d x2.i).node.left : FindT }), ({ kind := 2, slot := IntKind.u32.wrap (IntKind.i64.wrap ((↑x.i : Int) + 1)), want := 0, have_ := IntKind.i64.wrap (eS d x2.i).node.right : FindT })] = []) ∧ (((Value.bool ((eS d x2.i).alloc)) = (Value.bool ((eS d x3.i).alloc))) ∧
    ((Value.int IntKind.i64 ((eS d x2.i).count)) = (Value.int IntKind.i64 ((eS d x3.i).count))) ∧ ((Value.int IntKind.u32 ((eS d x2.i).gen)) = (Value.int IntKind.u32 ((eS d x3.i).gen))) ∧ ((Value.int IntKind.i64 ((eS d x2.i).node.key)) = (Value.int IntKind.i64 ((eS d x3.i).node.key))) ∧ ((Value.int IntKind.i64 ((eS d x2.i).node.value)) = (Value.int IntKind.i64 ((eS d x3.i).node.value))) ∧ ((Value.int IntKind.u32 ((eS d x2.i).node.left)) = (Value.int IntKind.u32 ((eS d x3.i).node.left))) ∧ ((Value.int IntKind.u32 ((eS d x2.i).node.right)) = (Value.int IntKind.u32 ((eS d x3.i).node.right))) ∧ ((Value.int IntKind.i64 ((eS d x2.i).node.size)) = (Value.int IntKind.i64 ((eS d x3.i).node.size))) ∧ ((Value.int IntKind.i64 ((eS d x2.i).node.sum)) = (Value.int IntKind.i64 ((eS d x3.i).node.sum))) ∧ ((Value.int IntKind.i64 ((eS d x2.i).node.min)) = (Value.int IntKind.i64 ((eS d x3.i).node.min))) ∧ ((Value.int IntKind.i64 ((eS d x2.i).node.max)) = (Value.int IntKind.i64 ((eS d x3.i).node.max))) ∧ True) ∧ True)))) ((∃ x3 : XCj d roots P1, ((((↑x2.i : Int)) = ((↑x3.i : Int))) ∧ (True ∧ True ∧ True ∧ True ∧ True ∧ True ∧ True ∧ ((Value.int IntKind.i64 ((↑x2.i : Int))) = (Value.int IntKind.i64 ((↑x3.i : Int)))) ∧ ((Value.int IntKind.u32 (IntKind.u32.wrap (IntKind.i64.wrap ((↑x.i : Int) + 1)))) = (Value.int IntKind.u32 (IntKind.u32.wrap (IntKind.i64.wrap ((↑x.i : Int) + 1))))) ∧ True ∧ ((Value.int IntKind.i64 1) = (Value.int IntKind.i64 (x3.c))) ∧ True) ∧ ((d) = (d)) ∧ ((fl) = (fl)) ∧
    ((roots) = (roots)) ∧ (True ∧ True ∧ True) ∧ ((cntL (kidsL d) d.length) = (cntL (kidsL d) d.length)) ∧ ((x2.m) = (x3.m)) ∧ ((cntL fl d.length) = (cntL fl d.length)) ∧ ((cntL roots d.length) = (cntL roots d.length)) ∧ ([({ kind := 2, slot := IntKind.u32.wrap (IntKind.i64.wrap ((↑x.i : Int) + 1)), want := 0, have_ := IntKind.i64.wrap (eS d x2.i).node.left : FindT })] = []) ∧ (((Value.bool ((eS d x2.i).alloc)) = (Value.bool ((eS d x3.i).alloc))) ∧ ((Value.int IntKind.i64 ((eS d x2.i).count)) = (Value.int IntKind.i64 ((eS d x3.i).count))) ∧ ((Value.int IntKind.u32 ((eS d x2.i).gen)) = (Value.int IntKind.u32 ((eS d x3.i).gen))) ∧ ((Value.int IntKind.i64 ((eS d x2.i).node.key)) = (Value.int IntKind.i64 ((eS d x3.i).node.key))) ∧ ((Value.int IntKind.i64 ((eS d x2.i).node.value)) = (Value.int IntKind.i64 ((eS d x3.i).node.value))) ∧ ((Value.int IntKind.u32 ((eS d x2.i).node.left)) = (Value.int IntKind.u32 ((eS d x3.i).node.left))) ∧ ((Value.int IntKind.u32 ((eS d x2.i).node.right)) = (Value.int IntKind.u32 ((eS d x3.i).node.right))) ∧ ((Value.int IntKind.i64 ((eS d x2.i).node.size)) = (Value.int IntKind.i64 ((eS d x3.i).node.size))) ∧ ((Value.int IntKind.i64 ((eS d x2.i).node.sum)) = (Value.int IntKind.i64 ((eS d x3.i).node.sum))) ∧ ((Value.int IntKind.i64 ((eS d x2.i).node.min)) = (Value.int IntKind.i64 ((eS d x3.i).node.min))) ∧ ((Value.int IntKind.i64 ((eS d x2.i).node.max)) = (Value.int IntKind.i64 ((eS d x3.i).node.max))) ∧ True) ∧ True))))))))) (((0 ≤ IntKind.i64.wrap (0 + 1)) ∧
    (IntKind.i64.wrap (0 + 1) < ((2 : Nat) : Int)) ∧ (inU (eS d x2.i).node.right) ∧ (d.length ≤ 1000000) ∧ (brS (alcD d (eS d x2.i).node.right) (((0 ≤ IntKind.i64.wrap (0 + 1)) ∧ (IntKind.i64.wrap (0 + 1) < ((2 : Nat) : Int)) ∧ (0 ≤ IntKind.u32.wrap ((eS d x2.i).node.right - 1)) ∧ (IntKind.u32.wrap ((eS d x2.i).node.right - 1) < (↑d.length : Int)) ∧ (∃ x3 : XCj d roots P1, ((((↑x2.i : Int)) = ((↑x3.i : Int))) ∧ (True ∧ True ∧ True ∧ True ∧ True ∧ True ∧ True ∧ ((Value.int IntKind.i64 ((↑x2.i : Int))) = (Value.int IntKind.i64 ((↑x3.i : Int)))) ∧ ((Value.int IntKind.u32 (IntKind.u32.wrap (IntKind.i64.wrap ((↑x.i : Int) + 1)))) = (Value.int IntKind.u32 (IntKind.u32.wrap (IntKind.i64.wrap ((↑x.i : Int) + 1))))) ∧ True ∧ ((Value.int IntKind.i64 (IntKind.i64.wrap (1 + (eS d (IntKind.u32.wrap ((eS d x2.i).node.right - 1)).toNat).node.size))) = (Value.int IntKind.i64 (x3.c))) ∧ True) ∧ ((d) = (d)) ∧ ((fl) = (fl)) ∧ ((roots) = (roots)) ∧ (True ∧ True ∧ True) ∧ ((cntL (kidsL d) d.length) = (cntL (kidsL d) d.length)) ∧ ((x2.m) = (x3.m)) ∧ ((cntL fl d.length) = (cntL fl d.length)) ∧ ((cntL roots d.length) = (cntL roots d.length)) ∧ ((([] : List FindT) = [])) ∧ (((Value.bool ((eS d x2.i).alloc)) = (Value.bool ((eS d x3.i).alloc))) ∧ ((Value.int IntKind.i64 ((eS d x2.i).count)) = (Value.int IntKind.i64 ((eS d x3.i).count))) ∧ ((Value.int IntKind.u32 ((eS d x2.i).gen)) = (Value.int IntKind.u32 ((eS d x3.i).gen))) ∧
    ((Value.int IntKind.i64 ((eS d x2.i).node.key)) = (Value.int IntKind.i64 ((eS d x3.i).node.key))) ∧ ((Value.int IntKind.i64 ((eS d x2.i).node.value)) = (Value.int IntKind.i64 ((eS d x3.i).node.value))) ∧ ((Value.int IntKind.u32 ((eS d x2.i).node.left)) = (Value.int IntKind.u32 ((eS d x3.i).node.left))) ∧ ((Value.int IntKind.u32 ((eS d x2.i).node.right)) = (Value.int IntKind.u32 ((eS d x3.i).node.right))) ∧ ((Value.int IntKind.i64 ((eS d x2.i).node.size)) = (Value.int IntKind.i64 ((eS d x3.i).node.size))) ∧ ((Value.int IntKind.i64 ((eS d x2.i).node.sum)) = (Value.int IntKind.i64 ((eS d x3.i).node.sum))) ∧ ((Value.int IntKind.i64 ((eS d x2.i).node.min)) = (Value.int IntKind.i64 ((eS d x3.i).node.min))) ∧ ((Value.int IntKind.i64 ((eS d x2.i).node.max)) = (Value.int IntKind.i64 ((eS d x3.i).node.max))) ∧ True) ∧ True)))) (((0 ≤ IntKind.i64.wrap (0 + 1)) ∧ (IntKind.i64.wrap (0 + 1) < ((2 : Nat) : Int)) ∧ (brS ((eS d x2.i).node.right != 0) (((0 ≤ IntKind.i64.wrap (0 + 1)) ∧ (IntKind.i64.wrap (0 + 1) < ((2 : Nat) : Int)) ∧ ((([] : List Ent).length + [{ kind := 2, slot := IntKind.u32.wrap (IntKind.i64.wrap ((↑x.i : Int) + 1)), want := 0, have_ := IntKind.i64.wrap (eS d x2.i).node.right : FindT }].length) * bytesOf C0 EC.find ≤ 140737488355328) ∧ (∃ x3 : XCj d roots P1, ((((↑x2.i : Int)) = ((↑x3.i : Int))) ∧ (True ∧ True ∧ True ∧ True ∧ True ∧ True ∧ True ∧ ((Value.int IntKind.i64 ((↑x2.i : Int))) = (Value.int IntKind.i64 ((↑x3.i : Int)))) ∧
    ((Value.int IntKind.u32 (IntKind.u32.wrap (IntKind.i64.wrap ((↑x.i : Int) + 1)))) = (Value.int IntKind.u32 (IntKind.u32.wrap (IntKind.i64.wrap ((↑x.i : Int) + 1))))) ∧ True ∧ ((Value.int IntKind.i64 1) = (Value.int IntKind.i64 (x3.c))) ∧ True) ∧ ((d) = (d)) ∧ ((fl) = (fl)) ∧ ((roots) = (roots)) ∧ (True ∧ True ∧ True) ∧ ((cntL (kidsL d) d.length) = (cntL (kidsL d) d.length)) ∧ ((x2.m) = (x3.m)) ∧ ((cntL fl d.length) = (cntL fl d.length)) ∧ ((cntL roots d.length) = (cntL roots d.length)) ∧ ([({ kind := 2, slot := IntKind.u32.wrap (IntKind.i64.wrap ((↑x.i : Int) + 1)), want := 0, have_ := IntKind.i64.wrap (eS d x2.i).node.right : FindT })] = []) ∧ (((Value.bool ((eS d x2.i).alloc)) = (Value.bool ((eS d x3.i).alloc))) ∧ ((Value.int IntKind.i64 ((eS d x2.i).count)) = (Value.int IntKind.i64 ((eS d x3.i).count))) ∧ ((Value.int IntKind.u32 ((eS d x2.i).gen)) = (Value.int IntKind.u32 ((eS d x3.i).gen))) ∧ ((Value.int IntKind.i64 ((eS d x2.i).node.key)) = (Value.int IntKind.i64 ((eS d x3.i).node.key))) ∧ ((Value.int IntKind.i64 ((eS d x2.i).node.value)) = (Value.int IntKind.i64 ((eS d x3.i).node.value))) ∧ ((Value.int IntKind.u32 ((eS d x2.i).node.left)) = (Value.int IntKind.u32 ((eS d x3.i).node.left))) ∧ ((Value.int IntKind.u32 ((eS d x2.i).node.right)) = (Value.int IntKind.u32 ((eS d x3.i).node.right))) ∧ ((Value.int IntKind.i64 ((eS d x2.i).node.size)) = (Value.int IntKind.i64 ((eS d x3.i).node.size))) ∧
    ((Value.int IntKind.i64 ((eS d x2.i).node.sum)) = (Value.int IntKind.i64 ((eS d x3.i).node.sum))) ∧ ((Value.int IntKind.i64 ((eS d x2.i).node.min)) = (Value.int IntKind.i64 ((eS d x3.i).node.min))) ∧ ((Value.int IntKind.i64 ((eS d x2.i).node.max)) = (Value.int IntKind.i64 ((eS d x3.i).node.max))) ∧ True) ∧ True)))) ((∃ x3 : XCj d roots P1, ((((↑x2.i : Int)) = ((↑x3.i : Int))) ∧ (True ∧ True ∧ True ∧ True ∧ True ∧ True ∧ True ∧ ((Value.int IntKind.i64 ((↑x2.i : Int))) = (Value.int IntKind.i64 ((↑x3.i : Int)))) ∧ ((Value.int IntKind.u32 (IntKind.u32.wrap (IntKind.i64.wrap ((↑x.i : Int) + 1)))) = (Value.int IntKind.u32 (IntKind.u32.wrap (IntKind.i64.wrap ((↑x.i : Int) + 1))))) ∧ True ∧ ((Value.int IntKind.i64 1) = (Value.int IntKind.i64 (x3.c))) ∧ True) ∧ ((d) = (d)) ∧ ((fl) = (fl)) ∧ ((roots) = (roots)) ∧ (True ∧ True ∧ True) ∧ ((cntL (kidsL d) d.length) = (cntL (kidsL d) d.length)) ∧ ((x2.m) = (x3.m)) ∧ ((cntL fl d.length) = (cntL fl d.length)) ∧ ((cntL roots d.length) = (cntL roots d.length)) ∧ ((([] : List FindT) = [])) ∧ (((Value.bool ((eS d x2.i).alloc)) = (Value.bool ((eS d x3.i).alloc))) ∧ ((Value.int IntKind.i64 ((eS d x2.i).count)) = (Value.int IntKind.i64 ((eS d x3.i).count))) ∧ ((Value.int IntKind.u32 ((eS d x2.i).gen)) = (Value.int IntKind.u32 ((eS d x3.i).gen))) ∧ ((Value.int IntKind.i64 ((eS d x2.i).node.key)) = (Value.int IntKind.i64 ((eS d x3.i).node.key))) ∧ ((Value.int IntKind.i64 ((eS d x2.i).node.value)) = (Value.int IntKind.i64 ((eS d x3.i).node.value))) ∧
    ((Value.int IntKind.u32 ((eS d x2.i).node.left)) = (Value.int IntKind.u32 ((eS d x3.i).node.left))) ∧ ((Value.int IntKind.u32 ((eS d x2.i).node.right)) = (Value.int IntKind.u32 ((eS d x3.i).node.right))) ∧ ((Value.int IntKind.i64 ((eS d x2.i).node.size)) = (Value.int IntKind.i64 ((eS d x3.i).node.size))) ∧ ((Value.int IntKind.i64 ((eS d x2.i).node.sum)) = (Value.int IntKind.i64 ((eS d x3.i).node.sum))) ∧ ((Value.int IntKind.i64 ((eS d x2.i).node.min)) = (Value.int IntKind.i64 ((eS d x3.i).node.min))) ∧ ((Value.int IntKind.i64 ((eS d x2.i).node.max)) = (Value.int IntKind.i64 ((eS d x3.i).node.max))) ∧ True) ∧ True)))))))))))))) ∧ (∀ x3 : XCj d roots P1, ((((↑x2.i : Int)) = ((↑x3.i : Int))) → ((∃ x4 : XCj d roots P2, ((((↑x3.i : Int)) = ((↑x4.i : Int))) ∧ (True ∧ True ∧ True ∧ True ∧ True ∧ True ∧ True ∧ ((Value.int IntKind.i64 ((↑x3.i : Int))) = (Value.int IntKind.i64 ((↑x4.i : Int)))) ∧ ((Value.int IntKind.u32 (IntKind.u32.wrap (IntKind.i64.wrap ((↑x.i : Int) + 1)))) = (Value.int IntKind.u32 (IntKind.u32.wrap (IntKind.i64.wrap ((↑x.i : Int) + 1))))) ∧ True ∧ ((Value.int IntKind.i64 (x3.c)) = (Value.int IntKind.i64 (x3.c))) ∧ ((Value.bool (x3.c != (eS d x3.i).node.size)) = (Value.bool false)) ∧ True) ∧ ((d) = (d)) ∧ ((fl) = (fl)) ∧ ((roots) = (roots)) ∧ (True ∧ True ∧ True) ∧ ((cntL (kidsL d) d.length) = (cntL (kidsL d) d.length)) ∧ ((x3.m) = (x4.m)) ∧ ((cntL fl d.length) = (cntL fl d.length)) ∧ ((cntL roots d.length) = (cntL roots d.length)) ∧ ((([] : List FindT) = [])) ∧
    (((Value.bool ((eS d x3.i).alloc)) = (Value.bool ((eS d x4.i).alloc))) ∧ ((Value.int IntKind.i64 ((eS d x3.i).count)) = (Value.int IntKind.i64 ((eS d x4.i).count))) ∧ ((Value.int IntKind.u32 ((eS d x3.i).gen)) = (Value.int IntKind.u32 ((eS d x4.i).gen))) ∧ ((Value.int IntKind.i64 ((eS d x3.i).node.key)) = (Value.int IntKind.i64 ((eS d x4.i).node.key))) ∧ ((Value.int IntKind.i64 ((eS d x3.i).node.value)) = (Value.int IntKind.i64 ((eS d x4.i).node.value))) ∧ ((Value.int IntKind.u32 ((eS d x3.i).node.left)) = (Value.int IntKind.u32 ((eS d x4.i).node.left))) ∧ ((Value.int IntKind.u32 ((eS d x3.i).node.right)) = (Value.int IntKind.u32 ((eS d x4.i).node.right))) ∧ ((Value.int IntKind.i64 ((eS d x3.i).node.size)) = (Value.int IntKind.i64 ((eS d x4.i).node.size))) ∧ ((Value.int IntKind.i64 ((eS d x3.i).node.sum)) = (Value.int IntKind.i64 ((eS d x4.i).node.sum))) ∧ ((Value.int IntKind.i64 ((eS d x3.i).node.min)) = (Value.int IntKind.i64 ((eS d x4.i).node.min))) ∧ ((Value.int IntKind.i64 ((eS d x3.i).node.max)) = (Value.int IntKind.i64 ((eS d x4.i).node.max))) ∧ True) ∧ True)) ∧ (∀ x4 : XCj d roots P2, ((((↑x3.i : Int)) = ((↑x4.i : Int))) → ((0 ≤ (↑x4.i : Int)) ∧ ((↑x4.i : Int) < (↑(cntL (kidsL d) d.length).length : Int)) ∧ (0 ≤ (↑x4.i : Int)) ∧ ((↑x4.i : Int) < (↑(cntL roots d.length).length : Int)) ∧ (∃ x5 : XCj d roots P3, ((((↑x2.i : Int)) = ((↑x5.i : Int))) ∧ (True ∧ True ∧ True ∧ True ∧ True ∧ True ∧ True ∧
    ((Value.int IntKind.i64 ((↑x4.i : Int))) = (Value.int IntKind.i64 ((↑x5.i : Int)))) ∧ ((Value.int IntKind.u32 (IntKind.u32.wrap (IntKind.i64.wrap ((↑x.i : Int) + 1)))) = (Value.int IntKind.u32 (IntKind.u32.wrap (IntKind.i64.wrap ((↑x.i : Int) + 1))))) ∧ True ∧ ((Value.int IntKind.i64 (IntKind.i64.wrap ((cntL (kidsL d) d.length).getD (↑x4.i : Int).toNat 0 + (cntL roots d.length).getD (↑x4.i : Int).toNat 0))) = (Value.int IntKind.i64 (x5.c))) ∧ True) ∧ ((d) = (d)) ∧ ((fl) = (fl)) ∧ ((roots) = (roots)) ∧ (True ∧ True ∧ True) ∧ ((cntL (kidsL d) d.length) = (cntL (kidsL d) d.length)) ∧ ((x4.m) = (x5.m)) ∧ ((cntL fl d.length) = (cntL fl d.length)) ∧ ((cntL roots d.length) = (cntL roots d.length)) ∧ ((([] : List FindT) = [])) ∧ (((Value.bool ((eS d x4.i).alloc)) = (Value.bool ((eS d x5.i).alloc))) ∧ ((Value.int IntKind.i64 ((eS d x4.i).count)) = (Value.int IntKind.i64 ((eS d x5.i).count))) ∧ ((Value.int IntKind.u32 ((eS d x4.i).gen)) = (Value.int IntKind.u32 ((eS d x5.i).gen))) ∧ ((Value.int IntKind.i64 ((eS d x4.i).node.key)) = (Value.int IntKind.i64 ((eS d x5.i).node.key))) ∧ ((Value.int IntKind.i64 ((eS d x4.i).node.value)) = (Value.int IntKind.i64 ((eS d x5.i).node.value))) ∧ ((Value.int IntKind.u32 ((eS d x4.i).node.left)) = (Value.int IntKind.u32 ((eS d x5.i).node.left))) ∧ ((Value.int IntKind.u32 ((eS d x4.i).node.right)) = (Value.int IntKind.u32 ((eS d x5.i).node.right))) ∧ ((Value.int IntKind.i64 ((eS d x4.i).node.size)) = (Value.int IntKind.i64 ((eS d x5.i).node.size))) ∧
    ((Value.int IntKind.i64 ((eS d x4.i).node.sum)) = (Value.int IntKind.i64 ((eS d x5.i).node.sum))) ∧ ((Value.int IntKind.i64 ((eS d x4.i).node.min)) = (Value.int IntKind.i64 ((eS d x5.i).node.min))) ∧ ((Value.int IntKind.i64 ((eS d x4.i).node.max)) = (Value.int IntKind.i64 ((eS d x5.i).node.max))) ∧ True) ∧ True)))))))))) ((∃ x3 : XCj d roots P3, ((((↑x2.i : Int)) = ((↑x3.i : Int))) ∧ (True ∧ True ∧ True ∧ True ∧ True ∧ True ∧ True ∧ ((Value.int IntKind.i64 ((↑x2.i : Int))) = (Value.int IntKind.i64 ((↑x3.i : Int)))) ∧ ((Value.int IntKind.u32 (IntKind.u32.wrap (IntKind.i64.wrap ((↑x.i : Int) + 1)))) = (Value.int IntKind.u32 (IntKind.u32.wrap (IntKind.i64.wrap ((↑x.i : Int) + 1))))) ∧ True ∧ ((Value.int IntKind.i64 0) = (Value.int IntKind.i64 (x3.c))) ∧ True) ∧ ((d) = (d)) ∧ ((fl) = (fl)) ∧ ((roots) = (roots)) ∧ (True ∧ True ∧ True) ∧ ((cntL (kidsL d) d.length) = (cntL (kidsL d) d.length)) ∧ ((x2.m) = (x3.m)) ∧ ((cntL fl d.length) = (cntL fl d.length)) ∧ ((cntL roots d.length) = (cntL roots d.length)) ∧ ((([] : List FindT) = [])) ∧ (((Value.bool ((eS d x2.i).alloc)) = (Value.bool ((eS d x3.i).alloc))) ∧ ((Value.int IntKind.i64 ((eS d x2.i).count)) = (Value.int IntKind.i64 ((eS d x3.i).count))) ∧ ((Value.int IntKind.u32 ((eS d x2.i).gen)) = (Value.int IntKind.u32 ((eS d x3.i).gen))) ∧ ((Value.int IntKind.i64 ((eS d x2.i).node.key)) = (Value.int IntKind.i64 ((eS d x3.i).node.key))) ∧
    ((Value.int IntKind.i64 ((eS d x2.i).node.value)) = (Value.int IntKind.i64 ((eS d x3.i).node.value))) ∧ ((Value.int IntKind.u32 ((eS d x2.i).node.left)) = (Value.int IntKind.u32 ((eS d x3.i).node.left))) ∧ ((Value.int IntKind.u32 ((eS d x2.i).node.right)) = (Value.int IntKind.u32 ((eS d x3.i).node.right))) ∧ ((Value.int IntKind.i64 ((eS d x2.i).node.size)) = (Value.int IntKind.i64 ((eS d x3.i).node.size))) ∧ ((Value.int IntKind.i64 ((eS d x2.i).node.sum)) = (Value.int IntKind.i64 ((eS d x3.i).node.sum))) ∧ ((Value.int IntKind.i64 ((eS d x2.i).node.min)) = (Value.int IntKind.i64 ((eS d x3.i).node.min))) ∧ ((Value.int IntKind.i64 ((eS d x2.i).node.max)) = (Value.int IntKind.i64 ((eS d x3.i).node.max))) ∧ True) ∧ True)))) ∧ (∀ x3 : XCj d roots P3, ((((↑x2.i : Int)) = ((↑x3.i : Int))) → ((∃ x4 : XCj d roots P0, ((((↑x3.i : Int)) = ((↑x4.i : Int))) ∧ (True ∧ True ∧ True ∧ True ∧ True ∧ True ∧ True ∧ ((Value.int IntKind.i64 ((↑x3.i : Int))) = (Value.int IntKind.i64 ((↑x4.i : Int)))) ∧ ((Value.int IntKind.u32 (IntKind.u32.wrap (IntKind.i64.wrap ((↑x.i : Int) + 1)))) = (Value.int IntKind.u32 (IntKind.u32.wrap (IntKind.i64.wrap ((↑x.i : Int) + 1))))) ∧ True ∧ ((Value.int IntKind.i64 (x3.c)) = (Value.int IntKind.i64 (x3.c))) ∧ ((Value.bool (x3.c != (eS d x3.i).count)) = (Value.bool false)) ∧ True) ∧ ((d) = (d)) ∧ ((fl) = (fl)) ∧ ((roots) = (roots)) ∧ (True ∧ True ∧ True) ∧ ((cntL (kidsL d) d.length) = (cntL (kidsL d) d.length)) ∧ ((x3.m) = (x4.m)) ∧
    ((cntL fl d.length) = (cntL fl d.length)) ∧ ((cntL roots d.length) = (cntL roots d.length)) ∧ ((([] : List FindT) = [])) ∧ (((Value.bool ((eS d x3.i).alloc)) = (Value.bool ((eS d x4.i).alloc))) ∧ ((Value.int IntKind.i64 ((eS d x3.i).count)) = (Value.int IntKind.i64 ((eS d x4.i).count))) ∧ ((Value.int IntKind.u32 ((eS d x3.i).gen)) = (Value.int IntKind.u32 ((eS d x4.i).gen))) ∧ ((Value.int IntKind.i64 ((eS d x3.i).node.key)) = (Value.int IntKind.i64 ((eS d x4.i).node.key))) ∧ ((Value.int IntKind.i64 ((eS d x3.i).node.value)) = (Value.int IntKind.i64 ((eS d x4.i).node.value))) ∧ ((Value.int IntKind.u32 ((eS d x3.i).node.left)) = (Value.int IntKind.u32 ((eS d x4.i).node.left))) ∧ ((Value.int IntKind.u32 ((eS d x3.i).node.right)) = (Value.int IntKind.u32 ((eS d x4.i).node.right))) ∧ ((Value.int IntKind.i64 ((eS d x3.i).node.size)) = (Value.int IntKind.i64 ((eS d x4.i).node.size))) ∧ ((Value.int IntKind.i64 ((eS d x3.i).node.sum)) = (Value.int IntKind.i64 ((eS d x4.i).node.sum))) ∧ ((Value.int IntKind.i64 ((eS d x3.i).node.min)) = (Value.int IntKind.i64 ((eS d x4.i).node.min))) ∧ ((Value.int IntKind.i64 ((eS d x3.i).node.max)) = (Value.int IntKind.i64 ((eS d x4.i).node.max))) ∧ True) ∧ True)) ∧ (∀ x4 : XCj d roots P0, ((((↑x3.i : Int)) = ((↑x4.i : Int))) → ((brS ((eS d x4.i).alloc) (((0 ≤ (↑x4.i : Int)) ∧ ((↑x4.i : Int) < (↑x4.m.length : Int)) ∧ (∃ x5 : XCj d roots P0, ((((↑x4.i : Int)) = ((↑x5.i : Int))) ∧ (True ∧ True ∧ True ∧ True ∧ True ∧ True ∧ True ∧
    ((Value.int IntKind.i64 ((↑x4.i : Int))) = (Value.int IntKind.i64 ((↑x5.i : Int)))) ∧ ((Value.int IntKind.u32 (IntKind.u32.wrap (IntKind.i64.wrap ((↑x.i : Int) + 1)))) = (Value.int IntKind.u32 (IntKind.u32.wrap (IntKind.i64.wrap ((↑x.i : Int) + 1))))) ∧ True ∧ ((Value.bool (!x4.m.getD (↑x4.i : Int).toNat false)) = (Value.bool false)) ∧ True) ∧ ((d) = (d)) ∧ ((fl) = (fl)) ∧ ((roots) = (roots)) ∧ (True ∧ True ∧ True) ∧ ((cntL (kidsL d) d.length) = (cntL (kidsL d) d.length)) ∧ ((x4.m) = (x5.m)) ∧ ((cntL fl d.length) = (cntL fl d.length)) ∧ ((cntL roots d.length) = (cntL roots d.length)) ∧ ((([] : List FindT) = [])) ∧ (((Value.bool ((eS d x4.i).alloc)) = (Value.bool ((eS d x5.i).alloc))) ∧ ((Value.int IntKind.i64 ((eS d x4.i).count)) = (Value.int IntKind.i64 ((eS d x5.i).count))) ∧ ((Value.int IntKind.u32 ((eS d x4.i).gen)) = (Value.int IntKind.u32 ((eS d x5.i).gen))) ∧ ((Value.int IntKind.i64 ((eS d x4.i).node.key)) = (Value.int IntKind.i64 ((eS d x5.i).node.key))) ∧ ((Value.int IntKind.i64 ((eS d x4.i).node.value)) = (Value.int IntKind.i64 ((eS d x5.i).node.value))) ∧ ((Value.int IntKind.u32 ((eS d x4.i).node.left)) = (Value.int IntKind.u32 ((eS d x5.i).node.left))) ∧ ((Value.int IntKind.u32 ((eS d x4.i).node.right)) = (Value.int IntKind.u32 ((eS d x5.i).node.right))) ∧ ((Value.int IntKind.i64 ((eS d x4.i).node.size)) = (Value.int IntKind.i64 ((eS d x5.i).node.size))) ∧ ((Value.int IntKind.i64 ((eS d x4.i).node.sum)) = (Value.int IntKind.i64 ((eS d x5.i).node.sum))) ∧
    ((Value.int IntKind.i64 ((eS d x4.i).node.min)) = (Value.int IntKind.i64 ((eS d x5.i).node.min))) ∧ ((Value.int IntKind.i64 ((eS d x4.i).node.max)) = (Value.int IntKind.i64 ((eS d x5.i).node.max))) ∧ True) ∧ True)))) ((∃ x5 : XCj d roots P0, ((((↑x4.i : Int)) = ((↑x5.i : Int))) ∧ (True ∧ True ∧ True ∧ True ∧ True ∧ True ∧ True ∧ ((Value.int IntKind.i64 ((↑x4.i : Int))) = (Value.int IntKind.i64 ((↑x5.i : Int)))) ∧ ((Value.int IntKind.u32 (IntKind.u32.wrap (IntKind.i64.wrap ((↑x.i : Int) + 1)))) = (Value.int IntKind.u32 (IntKind.u32.wrap (IntKind.i64.wrap ((↑x.i : Int) + 1))))) ∧ True ∧ ((Value.bool false) = (Value.bool false)) ∧ True) ∧ ((d) = (d)) ∧ ((fl) = (fl)) ∧ ((roots) = (roots)) ∧ (True ∧ True ∧ True) ∧ ((cntL (kidsL d) d.length) = (cntL (kidsL d) d.length)) ∧ ((x4.m) = (x5.m)) ∧ ((cntL fl d.length) = (cntL fl d.length)) ∧ ((cntL roots d.length) = (cntL roots d.length)) ∧ ((([] : List FindT) = [])) ∧ (((Value.bool ((eS d x4.i).alloc)) = (Value.bool ((eS d x5.i).alloc))) ∧ ((Value.int IntKind.i64 ((eS d x4.i).count)) = (Value.int IntKind.i64 ((eS d x5.i).count))) ∧ ((Value.int IntKind.u32 ((eS d x4.i).gen)) = (Value.int IntKind.u32 ((eS d x5.i).gen))) ∧ ((Value.int IntKind.i64 ((eS d x4.i).node.key)) = (Value.int IntKind.i64 ((eS d x5.i).node.key))) ∧ ((Value.int IntKind.i64 ((eS d x4.i).node.value)) = (Value.int IntKind.i64 ((eS d x5.i).node.value))) ∧ ((Value.int IntKind.u32 ((eS d x4.i).node.left)) = (Value.int IntKind.u32 ((eS d x5.i).node.left))) ∧
    ((Value.int IntKind.u32 ((eS d x4.i).node.right)) = (Value.int IntKind.u32 ((eS d x5.i).node.right))) ∧ ((Value.int IntKind.i64 ((eS d x4.i).node.size)) = (Value.int IntKind.i64 ((eS d x5.i).node.size))) ∧ ((Value.int IntKind.i64 ((eS d x4.i).node.sum)) = (Value.int IntKind.i64 ((eS d x5.i).node.sum))) ∧ ((Value.int IntKind.i64 ((eS d x4.i).node.min)) = (Value.int IntKind.i64 ((eS d x5.i).node.min))) ∧ ((Value.int IntKind.i64 ((eS d x4.i).node.max)) = (Value.int IntKind.i64 ((eS d x5.i).node.max))) ∧ True) ∧ True)))) ∧ (∀ x5 : XCj d roots P0, ((((↑x4.i : Int)) = ((↑x5.i : Int))) → (∃ x' : XCk d roots, (True ∧ ((True ∧ True ∧ True ∧ True ∧ True ∧ True ∧ True ∧ ((Value.int IntKind.i64 (IntKind.i64.wrap ((↑x5.i : Int) + 1))) = (Value.int IntKind.i64 ((↑x'.i : Int)))) ∧ True) ∧ ((d) = (d)) ∧ ((fl) = (fl)) ∧ ((roots) = (roots)) ∧ (True ∧ True ∧ True) ∧ ((cntL (kidsL d) d.length) = (cntL (kidsL d) d.length)) ∧ ((x5.m) = (x'.m)) ∧ ((cntL fl d.length) = (cntL fl d.length)) ∧ ((cntL roots d.length) = (cntL roots d.length)) ∧ ((([] : List FindT) = [])) ∧ True) ∧ (d.length - x'.i < d.length - x.i))))))))))))))))))) (((∃ x1 : XIx fl.length, (True ∧ (True ∧ True ∧ True ∧ ((Value.int IntKind.i64 0) = (Value.int IntKind.i64 ((↑x1.i : Int)))) ∧ True) ∧ ((d) = (d)) ∧ ((fl) = (fl)) ∧ ((roots) = (roots)) ∧ (True ∧ True ∧ True) ∧ ((([] : List FindT) = [])) ∧ True)) ∧ (∀ x1 : XIx fl.length, (True → (brS (decide ((↑x1.i : Int) < (↑fl.length : Int))) ((((0 ≤ (↑x1.i : Int)) ∧
    ((↑x1.i : Int) < (↑fl.length : Int)) ∧ (brS (decide (fl.getD (↑x1.i : Int).toNat 0 < 1)) ((∃ x2 : XIy fl.length, ((((↑x1.i : Int)) = ((↑x2.i : Int))) ∧ (True ∧ True ∧ True ∧ ((Value.int IntKind.i64 ((↑x1.i : Int))) = (Value.int IntKind.i64 ((↑x2.i : Int)))) ∧ ((Value.bool true) = (Value.bool false)) ∧ True) ∧ ((d) = (d)) ∧ ((fl) = (fl)) ∧ ((roots) = (roots)) ∧ (True ∧ True ∧ True) ∧ ((([] : List FindT) = [])) ∧ True))) (((0 ≤ (↑x1.i : Int)) ∧ ((↑x1.i : Int) < (↑fl.length : Int)) ∧ (∃ x2 : XIy fl.length, ((((↑x1.i : Int)) = ((↑x2.i : Int))) ∧ (True ∧ True ∧ True ∧ ((Value.int IntKind.i64 ((↑x1.i : Int))) = (Value.int IntKind.i64 ((↑x2.i : Int)))) ∧ ((Value.bool (decide (IntKind.u64.wrap (fl.getD (↑x1.i : Int).toNat 0) > IntKind.u64.wrap (↑d.length : Int)))) = (Value.bool false)) ∧ True) ∧ ((d) = (d)) ∧ ((fl) = (fl)) ∧ ((roots) = (roots)) ∧ (True ∧ True ∧ True) ∧ ((([] : List FindT) = [])) ∧ True)))))) ∧ (∀ x2 : XIy fl.length, ((((↑x1.i : Int)) = ((↑x2.i : Int))) → (∃ x' : XIx fl.length, (True ∧ ((True ∧ True ∧ True ∧ ((Value.int IntKind.i64 (IntKind.i64.wrap ((↑x2.i : Int) + 1))) = (Value.int IntKind.i64 ((↑x'.i : Int)))) ∧ True) ∧ ((d) = (d)) ∧ ((fl) = (fl)) ∧ ((roots) = (roots)) ∧ (True ∧ True ∧ True) ∧ ((([] : List FindT) = [])) ∧ True) ∧ (fl.length - x'.i < fl.length - x1.i))))))) (((∃ x2 : XIx roots.length, (True ∧ (True ∧ True ∧ True ∧ ((Value.int IntKind.i64 0) = (Value.int IntKind.i64 ((↑x2.i : Int)))) ∧ True) ∧ ((d) = (d)) ∧ ((fl) = (fl)) ∧ ((roots) = (roots)) ∧
    (True ∧ True ∧ True) ∧ ((([] : List FindT) = [])) ∧ True)) ∧ (∀ x2 : XIx roots.length, (True → (brS (decide ((↑x2.i : Int) < (↑roots.length : Int))) ((((0 ≤ (↑x2.i : Int)) ∧ ((↑x2.i : Int) < (↑roots.length : Int)) ∧ (brS (roots.getD (↑x2.i : Int).toNat 0 != 0) (((0 ≤ (↑x2.i : Int)) ∧ ((↑x2.i : Int) < (↑roots.length : Int)) ∧ (inU (roots.getD (↑x2.i : Int).toNat 0)) ∧ (d.length ≤ 1000000) ∧ (∃ x3 : XIy roots.length, ((((↑x2.i : Int)) = ((↑x3.i : Int))) ∧ (True ∧ True ∧ True ∧ ((Value.int IntKind.i64 ((↑x2.i : Int))) = (Value.int IntKind.i64 ((↑x3.i : Int)))) ∧ ((Value.bool (!alcD d (roots.getD (↑x2.i : Int).toNat 0))) = (Value.bool false)) ∧ True) ∧ ((d) = (d)) ∧ ((fl) = (fl)) ∧ ((roots) = (roots)) ∧ (True ∧ True ∧ True) ∧ ((([] : List FindT) = [])) ∧ True)))) ((∃ x3 : XIy roots.length, ((((↑x2.i : Int)) = ((↑x3.i : Int))) ∧ (True ∧ True ∧ True ∧ ((Value.int IntKind.i64 ((↑x2.i : Int))) = (Value.int IntKind.i64 ((↑x3.i : Int)))) ∧ ((Value.bool false) = (Value.bool false)) ∧ True) ∧ ((d) = (d)) ∧ ((fl) = (fl)) ∧ ((roots) = (roots)) ∧ (True ∧ True ∧ True) ∧ ((([] : List FindT) = [])) ∧ True))))) ∧ (∀ x3 : XIy roots.length, ((((↑x2.i : Int)) = ((↑x3.i : Int))) → (∃ x' : XIx roots.length, (True ∧ ((True ∧ True ∧ True ∧ ((Value.int IntKind.i64 (IntKind.i64.wrap ((↑x3.i : Int) + 1))) = (Value.int IntKind.i64 ((↑x'.i : Int)))) ∧ True) ∧ ((d) = (d)) ∧ ((fl) = (fl)) ∧ ((roots) = (roots)) ∧ (True ∧ True ∧ True) ∧ ((([] : List FindT) = [])) ∧ True) ∧
    (roots.length - x'.i < roots.length - x2.i))))))) ((K (SV.one (TV.at (At.slc 3))) [(Chunk.row false (EC.slot) (d)), (Chunk.row false (EC.u32) (fl)), (Chunk.row false (EC.u32) (roots)), (Chunk.row true (EC.find) [])] [])))))))))))))))))))))))))))) = _ by kernel_rfl) ?_
  subst hP0 hP1 hP2 hP3 hP4
  refine ⟨hl, hk, fun o eo => ⟨hl, hr, hk, hru, fun m hm => ⟨by omega, by omega, hf, hfu, fun o1 e1 => ⟨by omega, by omega, hr, hru, fun o2 e2 => ⟨⟨⟨0, m, Nat.zero_le _, hm⟩, ?_⟩, fun x _ => ?_⟩⟩⟩⟩⟩
  · (repeat' first | exact trivial | exact rfl | exact eo | exact e1 | exact e2 | refine And.intro ?_ ?_)
  obtain ⟨i, m, hi, hm⟩ := x
  dsimp only
  refine brS_of (fun c => ?_) fun c => ?_
  · have c : i < d.length := by have := of_decide_eq_true c; omega
    refine ⟨by omega, by omega, brS_of (fun a => ⟨⟨i, m, 0, c, hm, (if_pos a).symm⟩, ?_⟩) fun a => ⟨⟨i, m, 1, c, hm, (if_neg (fun z => by rw [show (eS d i).alloc = false from a] at z; cases z)).symm⟩, ?_⟩, fun x1 e1 => ?_⟩
    · (repeat' first | exact trivial | exact rfl | refine And.intro ?_ ?_)
    · (repeat' first | exact trivial | exact rfl | refine And.intro ?_ ?_)
    obtain ⟨i1, m1, c1, hi1, hm1, p1⟩ := x1
    have e1 : (i : Int) = (i1 : Int) := e1
    have e1 : i = i1 := by omega
    subst e1
    dsimp only
    have b1 : ((cntL fl d.length).getD i 0 != c1) = false := by
      rw [cntL_get fl _ _ c, hc.free i c, show c1 = _ from p1]
      show (((if (eS d i).alloc = true then (0 : Nat) else 1 : Nat) : Int) != if (eS d i).alloc = true then (0 : Int) else 1) = false
      cases (eS d i).alloc <;> rfl
    refine ⟨by omega, by rw [cntL_len]; omega, ⟨⟨i, m1, 0, c, hm1, trivial⟩, ?_⟩, fun x2 e2 => ?_⟩
    · (repeat' first | exact trivial | exact rfl | exact congrArg Value.bool b1 | refine And.intro ?_ ?_)
    obtain ⟨i2, m2, c2, hi2, hm2, p2⟩ := x2
    have e2 : (i : Int) = (i2 : Int) := e2
    have e2 : i = i2 := by omega
    subst e2
    dsimp only
    have hmem : eS d i ∈ d := by unfold eS; rw [List.getD_eq_getElem?_getD, List.getElem?_eq_getElem c]; exact List.getElem_mem c
    obtain ⟨kl, kr⟩ := hk _ hmem
    refine ⟨brS_of (fun a => ⟨?_, fun x3 e3 => ?_⟩) fun a => ⟨⟨i, m2, 0, c, hm2, (if_neg (fun z => by rw [show (eS d i).alloc = false from a] at z; cases z)).symm⟩, ?_⟩, fun x3 e3 => ?_⟩
    · have sl := szD_rng hc (eS d i).node.left
      have sr := szD_rng hc (eS d i).node.right
      have il := hc.left i c a
      have ir := hc.right i c a
      have dl : d.length ≤ 1000000 := by omega
      have w1 : (0 : Int) ≤ IntKind.i64.wrap (0 + 1) := by decide
      have w2 : IntKind.i64.wrap (0 + 1) < ((2 : Nat) : Int) := by decide
      refine ⟨by decide, by decide, kl, dl, brS_of (fun al => ?_) fun al => ?_⟩
      · obtain ⟨q1, q2, q3⟩ := eS_sz hc hl al
        refine ⟨by decide, by decide, q1, q2, w1, w2, kr, dl, brS_of (fun ar => ?_) fun ar => ?_⟩
        · obtain ⟨t1, t2, t3⟩ := eS_sz hc hl ar
          refine ⟨w1, w2, t1, t2, ⟨i, m2, _, c, hm2, a, rfl⟩, ?_⟩
          have v : IntKind.i64.wrap (IntKind.i64.wrap (1 + (eS d (IntKind.u32.wrap ((eS d i).node.left - 1)).toNat).node.size) + (eS d (IntKind.u32.wrap ((eS d i).node.right - 1)).toNat).node.size) = 1 + szD d (eS d i).node.left + szD d (eS d i).node.right := by
            rw [q3, t3, wrap_id (x := 1 + szD d (eS d i).node.left) (by omega) (by omega), wrap_id (by omega) (by omega)]
          (repeat' first | exact trivial | exact rfl | exact congrArg (Value.int IntKind.i64) v | refine And.intro ?_ ?_)
        · have z := szD_no ar
          refine ⟨w1, w2, brS_of (fun f => ?_) fun f => ⟨⟨i, m2, _, c, hm2, a, rfl⟩, ?_⟩⟩
          · exfalso
            rcases ir with e | e
            · rw [show (eS d i).node.right = 0 from e] at f; cases f
            · rw [show alcD d (eS d i).node.right = true from e] at ar; cases ar
          · have v : IntKind.i64.wrap (1 + (eS d (IntKind.u32.wrap ((eS d i).node.left - 1)).toNat).node.size) = 1 + szD d (eS d i).node.left + szD d (eS d i).node.right := by
              rw [q3, z, wrap_id (x := 1 + szD d (eS d i).node.left) (by omega) (by omega)]; omega
            (repeat' first | exact trivial | exact rfl | exact congrArg (Value.int IntKind.i64) v | refine And.intro ?_ ?_)
      · have z1 := szD_no al
        refine ⟨by decide, by decide, brS_of (fun f => ?_) fun f => ⟨w1, w2, kr, dl, brS_of (fun ar => ?_) fun ar => ?_⟩⟩
        · exfalso
          rcases il with e | e
          · rw [show (eS d i).node.left = 0 from e] at f; cases f
          · rw [show alcD d (eS d i).node.left = true from e] at al; cases al
        · obtain ⟨t1, t2, t3⟩ := eS_sz hc hl ar
          refine ⟨w1, w2, t1, t2, ⟨i, m2, _, c, hm2, a, rfl⟩, ?_⟩
          have v : IntKind.i64.wrap (1 + (eS d (IntKind.u32.wrap ((eS d i).node.right - 1)).toNat).node.size) = 1 + szD d (eS d i).node.left + szD d (eS d i).node.right := by
            rw [t3, z1, wrap_id (x := 1 + szD d (eS d i).node.right) (by omega) (by omega)]; omega
          (repeat' first | exact trivial | exact rfl | exact congrArg (Value.int IntKind.i64) v | refine And.intro ?_ ?_)
        · have z := szD_no ar
          refine ⟨w1, w2, brS_of (fun f => ?_) fun f => ⟨⟨i, m2, _, c, hm2, a, rfl⟩, ?_⟩⟩
          · exfalso
            rcases ir with e | e
            · rw [show (eS d i).node.right = 0 from e] at f; cases f
            · rw [show alcD d (eS d i).node.right = true from e] at ar; cases ar
          · have v : 1 = 1 + szD d (eS d i).node.left + szD d (eS d i).node.right := by omega
            (repeat' first | exact trivial | exact rfl | exact congrArg (Value.int IntKind.i64) v | refine And.intro ?_ ?_)
    · obtain ⟨i3, m3, c3, hi3, hm3, a3, p3⟩ := x3
      have e3 : (i : Int) = (i3 : Int) := e3
      have e3 : i = i3 := by omega
      subst e3
      dsimp only
      have b3 : (c3 != (eS d i).node.size) = false := by
        have := hc.size i c a3
        rw [p3, show (eS d i).node.size = _ from this]; simp
      refine ⟨⟨⟨i, m3, 0, c, hm3, a3⟩, ?_⟩, fun x4 e4 => ?_⟩
      · (repeat' first | exact trivial | exact rfl | exact congrArg Value.bool b3 | refine And.intro ?_ ?_)
      obtain ⟨i4, m4, c4, hi4, hm4, p4⟩ := x4
      have e4 : (i : Int) = (i4 : Int) := e4
      have e4 : i = i4 := by omega
      subst e4
      dsimp only
      refine ⟨by omega, by rw [cntL_len]; omega, by omega, by rw [cntL_len]; omega, ⟨i, m4, _, c, hm4, rfl⟩, ?_⟩
      have v : IntKind.i64.wrap ((cntL (kidsL d) d.length).getD i 0 + (cntL roots d.length).getD i 0) = if (eS d i).alloc = true then ((kidsL d).count ((i : Int) + 1) : Int) + (roots.count ((i : Int) + 1) : Int) else 0 := by
        have k1 := cntL_rng (kidsL d) d.length i c
        have k2 := cntL_rng roots d.length i c
        have k3 := kidsL_len d
        rw [wrap_id (by omega) (by omega), cntL_get _ _ _ c, cntL_get _ _ _ c, if_pos a3]
      (repeat' first | exact trivial | exact rfl | exact congrArg (Value.int IntKind.i64) v | refine And.intro ?_ ?_)
    · (repeat' first | exact trivial | exact rfl | refine And.intro ?_ ?_)
    obtain ⟨i3, m3, c3, hi3, hm3, p3⟩ := x3
    have e3 : (i : Int) = (i3 : Int) := e3
    have e3 : i = i3 := by omega
    subst e3
    dsimp only
    have b3 : (c3 != (eS d i).count) = false := by
      have := hc.count i c
      rw [show c3 = _ from p3, show (eS d i).count = _ from this]; simp
    refine ⟨⟨⟨i, m3, 0, c, hm3, trivial⟩, ?_⟩, fun x4 e4 => ?_⟩
    · (repeat' first | exact trivial | exact rfl | exact congrArg Value.bool b3 | refine And.intro ?_ ?_)
    obtain ⟨i4, m4, c4, hi4, hm4, p4⟩ := x4
    have e4 : (i : Int) = (i4 : Int) := e4
    have e4 : i = i4 := by omega
    subst e4
    dsimp only
    refine ⟨brS_of (fun a => ⟨by omega, by rw [hm4.len]; omega, ⟨i, m4, 0, c, hm4, trivial⟩, ?_⟩) fun a => ⟨⟨i, m4, 0, c, hm4, trivial⟩, ?_⟩, fun x5 e5 => ?_⟩
    · have b4 : (!m4.getD i false) = false := by rw [hc.mark m4 hm4 i c a]; rfl
      (repeat' first | exact trivial | exact rfl | exact congrArg Value.bool b4 | refine And.intro ?_ ?_)
    · (repeat' first | exact trivial | exact rfl | refine And.intro ?_ ?_)
    obtain ⟨i5, m5, c5, hi5, hm5, p5⟩ := x5
    have e5 : (i : Int) = (i5 : Int) := e5
    have e5 : i = i5 := by omega
    subst e5
    dsimp only
    refine ⟨⟨i + 1, m5, c, hm5⟩, ?_⟩
    have v : IntKind.i64.wrap ((i : Int) + 1) = ((i + 1 : Nat) : Int) := by rw [wrap_id (by omega) (by omega)]; rfl
    (repeat' first | exact trivial | exact rfl | exact congrArg (Value.int IntKind.i64) v | refine And.intro ?_ ?_)
    show d.length - (i + 1) < d.length - i
    omega
  · refine ⟨⟨⟨0, Nat.zero_le _⟩, ?_⟩, fun x _ => ?_⟩
    · (repeat' first | exact trivial | exact rfl | refine And.intro ?_ ?_)
    obtain ⟨j, hj⟩ := x
    dsimp only
    refine brS_of (fun c => ?_) fun _ => ?_
    · have c : j < fl.length := by have := of_decide_eq_true c; omega
      have hx : fl.getD j 0 ∈ fl := by rw [List.getD_eq_getElem?_getD, List.getElem?_eq_getElem c]; exact List.getElem_mem c
      have hg := hc.rng _ hx
      obtain ⟨u1, u2⟩ := hfu _ hx
      refine ⟨⟨by omega, by omega, brS_of (fun f => ?_) fun _ => ⟨by omega, by omega, ⟨j, c⟩, ?_⟩⟩, fun y e => ?_⟩
      · have f : fl.getD j 0 < 1 := of_decide_eq_true f
        omega
      · have b : decide (IntKind.u64.wrap (fl.getD j 0) > IntKind.u64.wrap (d.length : Int)) = false := by
          rw [wrap_u64 (x := fl.getD j 0) u1 (by omega), wrap_u64 (x := (d.length : Int)) (by omega) (by omega)]
          exact decide_eq_false (by omega)
        (repeat' first | exact trivial | exact rfl | exact congrArg Value.bool b | refine And.intro ?_ ?_)
      · obtain ⟨j1, hj1⟩ := y
        have e : (j : Int) = (j1 : Int) := e
        have e : j = j1 := by omega
        subst e
        dsimp only
        refine ⟨⟨j + 1, c⟩, ?_⟩
        have v : IntKind.i64.wrap ((j : Int) + 1) = ((j + 1 : Nat) : Int) := by rw [wrap_id (by omega) (by omega)]; rfl
        (repeat' first | exact trivial | exact rfl | exact congrArg (Value.int IntKind.i64) v | refine And.intro ?_ ?_)
        show fl.length - (j + 1) < fl.length - j
        omega
    · refine ⟨⟨⟨0, Nat.zero_le _⟩, ?_⟩, fun x _ => ?_⟩
      · (repeat' first | exact trivial | exact rfl | refine And.intro ?_ ?_)
      obtain ⟨j, hj⟩ := x
      dsimp only
      refine brS_of (fun c => ?_) fun _ => h
      have c : j < roots.length := by have := of_decide_eq_true c; omega
      have hx : roots.getD j 0 ∈ roots := by rw [List.getD_eq_getElem?_getD, List.getElem?_eq_getElem c]; exact List.getElem_mem c
      have hg := hc.held _ hx
      refine ⟨⟨by omega, by omega, brS_of (fun f => ⟨by omega, by omega, hru _ hx, by omega, ⟨j, c⟩, ?_⟩) fun _ => ⟨⟨j, c⟩, ?_⟩⟩, fun y e => ?_⟩
      · have b : (!alcD d (roots.getD j 0)) = false := by
          rcases hg with e | e
          · have f : (roots.getD j 0 != 0) = true := f
            rw [e] at f; cases f
          · rw [e]; rfl
        (repeat' first | exact trivial | exact rfl | exact congrArg Value.bool b | refine And.intro ?_ ?_)
      · (repeat' first | exact trivial | exact rfl | refine And.intro ?_ ?_)
      · obtain ⟨j1, hj1⟩ := y
        have e : (j : Int) = (j1 : Int) := e
        have e : j = j1 := by omega
        subst e
        dsimp only
        refine ⟨⟨j + 1, c⟩, ?_⟩
        have v : IntKind.i64.wrap ((j : Int) + 1) = ((j + 1 : Nat) : Int) := by rw [wrap_id (by omega) (by omega)]; rfl
        (repeat' first | exact trivial | exact rfl | exact congrArg (Value.int IntKind.i64) v | refine And.intro ?_ ?_)
        show roots.length - (j + 1) < roots.length - j
        omega
theorem s_chk : SoundT C0 114 tChk := by
  refine .of Try.func114 (by decide) rfl fun args H K h hB => ?_
  unfold tChk at h
  split at h <;> try exact h.elim
  rename_i d fl roots
  obtain ⟨h1, h2, h3, h4, h5, h6, h7, h⟩ := h
  exact ⟨aChk P0c (P1c d) (P2c d) (P3c d roots) (P4c d) d fl roots, ⟨frame C0.ok s_ine _, frame C0.ok s_mk _, frame C0.ok s_cnt _, frame C0.ok s_alc _, frame C0.ok s_kids _, trivial⟩, vc_chk d fl roots K h1 h2 h3 h4 h5 h6 h7 h⟩
theorem s_cln : SoundT C0 68 tCln := by
  refine .of Try.func68 (by decide) rfl fun args H K h hB => ?_
  unfold tCln at h
  split at h <;> try exact h.elim
  rename_i d fl roots
  exact ⟨aCln, ⟨frame C0.ok s_chk _, trivial⟩, Eq.mp (show ((CleanD d fl roots) ∧
(kidsU d) ∧
(allU fl) ∧
(allU roots) ∧
(d.length ≤ 100000) ∧
(fl.length ≤ 1000000) ∧
(roots.length ≤ 1000000) ∧
(K (SV.one (TV.at (At.val (Value.bool true)))) [(Chunk.row false (EC.slot) (d)), (Chunk.row false (EC.u32) (fl)), (Chunk.row false (EC.u32) (roots))] [])) = _ by kernel_rfl) h⟩
theorem vc_sound (S : Arn) (roots hs : List Int) (K : KT) (w : Wf S hs) (p : roots.Perm hs) (hr : roots.length ≤ 1000000) (h : K (.one (.at (vB true))) (chS S ++ [.row false EC.u32 roots]) []) :
    vc C0 aSound Try.f27 [.at (.ptr 0 0), .at (.slc 7)] (chS S ++ [.row false EC.u32 roots]) (normK 8 K) := by
  refine Eq.mp (show ((exW S) ∧
(∀ d : List SlotT, (∀ o : List Int, (((d) = (slotsOf S)) → (((o) = (orderOf S)) → ((CleanD d o roots) ∧ (kidsU d) ∧ (allU o) ∧ (allU roots) ∧ (d.length ≤ 100000) ∧ (o.length ≤ 1000000) ∧ (roots.length ≤ 1000000) ∧ (K (SV.one (TV.at (At.val (Value.bool true)))) [(Chunk.box [(At.ptr 1 0), (At.slc 2), (At.slc 3), (At.val (Value.int IntKind.u64 (S.reads)))]), (Chunk.box [(At.slc 4), (At.slc 5), (At.slc 6), (At.val (Value.int IntKind.u32 (S.fresh)))]), (Chunk.row true (EC.node) (S.nodes)), (Chunk.row true (EC.int) (S.counts)), (Chunk.row true (EC.bool) (S.used)), (Chunk.row true (EC.u32) (S.gen)), (Chunk.row true (EC.u32) (S.rel)), (Chunk.row false (EC.u32) (roots))] []))))))) = _ by kernel_rfl) ?_
  have nc : ncap S ≤ 65537 := by have := w.n2; unfold ncap; omega
  have ol := order_len w
  have ku := kidsU_slots w
  have cs := clean_slots w p
  have sl := slotsOf_len S
  refine ⟨⟨hs, w⟩, fun d o ed eo => ?_⟩
  subst ed eo
  refine ⟨cs, ku, fun x hx => ?_, fun x hx => Wf.inU_held w (p.mem_iff.1 hx), by omega, by omega, hr, h⟩
  have := ((order_mem w x).1 hx).1
  exact ⟨by omega, by omega⟩
theorem s_sound : SoundT C0 27 tSound := by
  refine .of Try.func27 (by decide) rfl fun args H K h hB => ?_
  unfold tSound at h
  split at h <;> try exact h.elim
  unfold arMr at h
  split at h <;> try exact h.elim
  split at h <;> try exact h.elim
  rename_i rd fr nd ct us gn rl _ roots
  obtain ⟨hs, w, p, hr, h⟩ := h
  exact ⟨aSound, ⟨frame C0.ok s_dump _, frame C0.ok s_cln _, trivial⟩, vc_sound ⟨us, gn, rl, fr, nd, ct, rd⟩ roots hs K w p hr h⟩
end Go.Proofs.Ytmjnoiajenoinaa.Sx
end
section
/- The reference's trees over a dump: nodes, balance, height, list, order, Check, Tree. -/
namespace Go.Proofs.Ytmjnoiajenoinaa.Sx
open Go

/-KEEP Wf exW inU alcD slotsOf orderOf ndD RepD Asc Tr.Bal Tr.size Tr.list ht balB lastK anyK gtL ShpT-/
def ndD (d : List SlotT) (i : Int) : NodeT := if alcD d i = true then (sltD d i).node else NodeT.zero
def lastK : Tr → Int → Int
  | .nil, x => x
  | .node _ k _ r, _ => lastK r k
def anyK : Tr → Bool → Bool
  | .nil, b => b
  | .node _ _ _ _, _ => true
def gtL (x : Int) (l : List Ent) : Prop := ∀ y ∈ l, x < y.1
/-- An index of a dump stands for a tree. -/
def RepD (d : List SlotT) : Tr → Int → Prop
  | .nil, i => i = 0
  | .node l k v r, i => alcD d i = true ∧ (ndD d i).key = k ∧ (ndD d i).value = v ∧ (ndD d i).size = 1 + l.size + r.size ∧ RepD d l (ndD d i).left ∧ RepD d r (ndD d i).right
noncomputable def aAlcG : Ann C0 := { Γ := [(23, frameT [] tAlc)] }
def tNd : Tfm C0 := fun args H K => match args, H with
  | [.agg [.slc 0, .slc 1], .at (.val (.int .u32 i))], [.row false .slot d, .row false .u32 fl] => inU i ∧ d.length ≤ 1000000 ∧ ∀ n, n = ndD d i → K (.one (nodeA n)) [.row false EC.slot d, .row false EC.u32 fl] []
  | _, _ => False
def tBl7 (n : Nat) : Tfm C0 := fun args H K => match args, H with
  | [.agg [.slc 0, .slc 1], .at (.val (.int .u32 i))], [.row false .slot d, .row false .u32 fl] => d.length ≤ 1000000 ∧ (∃ t, RepD d t i ∧ t.Bal ∧ t.size < n ∧ t.size ≤ 1000000) ∧ K (.one (.at (vB true))) [.row false EC.slot d, .row false EC.u32 fl] []
  | _, _ => False
noncomputable def aBl7 (n : Nat) : Ann C0 := { quiet := [78, 144, 122], Γ := [(78, frameT [] tNd), (144, frameT [] tBal), (122, frameT [] (tBl7 n))] }
def tLi7 (n : Nat) : Tfm C0 := fun args H K => match args, H with
  | [.agg [.slc 0, .slc 1], .at (.val (.int .u32 i))], [.row false .slot d, .row false .u32 fl] => d.length ≤ 1000000 ∧ ∃ t, RepD d t i ∧ t.size < n ∧ t.size ≤ 1000000 ∧ ∀ r, r = t.list → K (.one (.at (.slc 2))) [.row false EC.slot d, .row false EC.u32 fl, .row true EC.ent r] []
  | _, _ => False
noncomputable def aLi7 (n : Nat) : Ann C0 := { quiet := [78, 48], Γ := [(78, frameT [] tNd), (48, frameT [] (tLi7 n))] }
def tOr7 (n : Nat) : Tfm C0 := fun args H K => match args, H with
  | [.at (.ptr 0 0), .at (.val (.int .u32 i))], [.box [.slc 1, .slc 2, .val (.int .i64 last), .val (.bool any), .val (.int .i64 most)], .row false .slot d, .row false .u32 fl] => d.length ≤ 1000000 ∧ ∃ t, RepD d t i ∧ Asc t.list ∧ t.size < n ∧ (t.size : Int) ≤ most ∧ most ≤ 10000000 ∧ (any = true → gtL last t.list) ∧
    ∀ la an mo, la = lastK t last → an = anyK t any → mo = most - t.size → K (.one (.at (vB true))) [.box [.slc 1, .slc 2, vI la, vB an, vI mo], .row false EC.slot d, .row false EC.u32 fl] [0]
  | _, _ => False
noncomputable def aOr7 (n : Nat) : Ann C0 := { Γ := [(78, frameT [] tNd), (121, frameT [] (tOr7 n))] }
noncomputable def aCk7 (n : Nat) : Ann C0 := { Γ := [(23, frameT [] tAlc), (121, frameT [] (tOr7 n)), (122, frameT [] (tBl7 n))] }
def tCk7 : Tfm C0 := fun args H K => match args, H with
  | [.agg [.slc 0, .slc 1], .at (.val (.int .u32 i))], [.row false .slot d, .row false .u32 fl] => d.length ≤ 1000000 ∧ (∃ t, RepD d t i ∧ Asc t.list ∧ t.Bal ∧ t.size ≤ 2 * d.length + 2 ∧ t.size ≤ 1000000) ∧ K (.one (.at (vI 0))) [.row false EC.slot d, .row false EC.u32 fl] []
  | _, _ => False
noncomputable def aTr7 (n : Nat) (l : List Ent) (d : List SlotT) (fl : List Int) : Ann C0 := { Γ := [(77, frameT [] tCk7), (78, frameT [] tNd), (48, frameT [] (tLi7 n))], inv := fun k => match k with
  | 7 => some { X := XIx l.length, sl := [8, 3, 7], tf := fun x => [vi .i64 x.i, .one (.at (.ptr 3 0)), .one (.at (.slc 4))], hf := fun _ => [.row false EC.slot d, .row false EC.u32 fl, .row false EC.ent l, .box [.slc 0, .slc 1], .row true EC.ent l], μ := fun x => l.length - x.i }
  | _ => none }
def tTr7 : Tfm C0 := fun args H K => match args, H with
  | [.agg [.slc 0, .slc 1], .at (.val (.int .u32 i)), .at (.slc 2)], [.row false .slot d, .row false .u32 fl, .row false .ent l] => d.length ≤ 1000000 ∧ (∃ t, RepD d t i ∧ Asc t.list ∧ t.Bal ∧ t.size ≤ 2 * d.length + 2 ∧ t.size ≤ 1000000 ∧ t.list = l) ∧ K (.one (.at (vB true))) [.row false EC.slot d, .row false EC.u32 fl, .row false EC.ent l] []
  | _, _ => False
theorem bt7 {b : Bool} {t f : Prop} (h : b = true) (ht : t) : brS b t f := by rw [h]; exact ht
theorem bf7 {b : Bool} {t f : Prop} (h : b = false) (hf : f) : brS b t f := by rw [h]; exact hf
theorem RepD.inU {d : List SlotT} {t : Tr} {i : Int} (h : RepD d t i) (hl : d.length ≤ 1000000) : inU i := by
  cases t with
  | nil => have : i = 0 := h; rw [this]; exact ⟨by omega, by omega⟩
  | node l k v r => have := alcD_rng h.1; exact ⟨by omega, by omega⟩
theorem RepD.sz {d : List SlotT} {t : Tr} {i : Int} (h : RepD d t i) : (ndD d i).size = t.size := by
  cases t with
  | nil =>
    have : i = 0 := h
    unfold ndD
    rw [this, alcD_lo (by omega)]; rfl
  | node l k v r => rw [h.2.2.2.1]; simp [Tr.size]
theorem RepD.ne {d : List SlotT} {l r : Tr} {k v i : Int} (h : RepD d (.node l k v r) i) : i ≠ 0 := by have := alcD_rng h.1; omega
theorem s_nd7 : SoundT C0 78 tNd := by
  refine .of Try.func78 (by decide) rfl fun args H K h hB => ?_
  unfold tNd at h
  split at h <;> try exact h.elim
  rename_i i d fl
  obtain ⟨h1, h2, h⟩ := h
  have key : ∀ d : List SlotT, d.length ≤ 1000000 → (∀ n, n = ndD d i → K (.one (nodeA n)) [.row false EC.slot d, .row false EC.u32 fl] []) → vc C0 aAlcG Try.f78 [.agg [.slc 0, .slc 1], .at (vU i)] [.row false EC.slot d, .row false EC.u32 fl] (normK 2 K) := fun d h2 h => by
    refine Eq.mp (show ((inU i) ∧
(d.length ≤ 1000000) ∧
(brS (!alcD d i) ((K (SV.one (TV.agg [(At.val (Value.int IntKind.i64 0)), (At.val (Value.int IntKind.i64 0)), (At.val (Value.int IntKind.u32 0)), (At.val (Value.int IntKind.u32 0)), (At.val (Value.int IntKind.i64 0)), (At.val (Value.int IntKind.i64 0)), (At.val (Value.int IntKind.i64 0)), (At.val (Value.int IntKind.i64 0))])) [(Chunk.row false (EC.slot) (d)), (Chunk.row false (EC.u32) (fl))] [])) (((0 ≤ IntKind.u32.wrap (i - 1)) ∧ (IntKind.u32.wrap (i - 1) < (↑d.length : Int)) ∧ (K (SV.one (TV.agg [(At.val (Value.int IntKind.i64 ((eS d (IntKind.u32.wrap (i - 1)).toNat).node.key))), (At.val (Value.int IntKind.i64 ((eS d (IntKind.u32.wrap (i - 1)).toNat).node.value))), (At.val (Value.int IntKind.u32 ((eS d (IntKind.u32.wrap (i - 1)).toNat).node.left))), (At.val (Value.int IntKind.u32 ((eS d (IntKind.u32.wrap (i - 1)).toNat).node.right))), (At.val (Value.int IntKind.i64 ((eS d (IntKind.u32.wrap (i - 1)).toNat).node.size))), (At.val (Value.int IntKind.i64 ((eS d (IntKind.u32.wrap (i - 1)).toNat).node.sum))), (At.val (Value.int IntKind.i64 ((eS d (IntKind.u32.wrap (i - 1)).toNat).node.min))), (At.val (Value.int IntKind.i64 ((eS d (IntKind.u32.wrap (i - 1)).toNat).node.max)))])) [(Chunk.row false (EC.slot) (d)), (Chunk.row false (EC.u32) (fl))] []))))) = _ by kernel_rfl) ?_
    refine ⟨h1, h2, brS_of (fun c => ?_) fun c => ?_⟩
    · have c : alcD d i = false := by simpa using c
      exact h NodeT.zero (by unfold ndD; rw [c]; rfl)
    · have c : alcD d i = true := by simpa using c
      obtain ⟨a, b⟩ := alcD_rng c
      obtain ⟨u1, u2⟩ := h1
      rw [wrap_u32 (x := i - 1) (by omega) (by omega)]
      exact ⟨by omega, by omega, h (eS d (i - 1).toNat).node (by unfold ndD; rw [if_pos c]; rfl)⟩
  exact ⟨aAlcG, ⟨frame C0.ok s_alc _, trivial⟩, key d h2 h⟩
theorem vc_bl7 (n : Nat) (d : List SlotT) (fl : List Int) (i : Int) (K : KT) (hl : d.length ≤ 1000000) (t : Tr) (rp : RepD d t i) (bal : t.Bal) (hn : t.size < n + 1) (hs : t.size ≤ 1000000) (h : K (.one (.at (vB true))) [.row false EC.slot d, .row false EC.u32 fl] []) :
    vc C0 (aBl7 n) Try.f122 [.agg [.slc 0, .slc 1], .at (vU i)] [.row false EC.slot d, .row false EC.u32 fl] (normK 2 K) := by
  refine Eq.mp (show (brS (i == 0) ((K (SV.one (TV.at (At.val (Value.bool true)))) [(Chunk.row false (EC.slot) (d)), (Chunk.row false (EC.u32) (fl))] [])) (((inU i) ∧ (d.length ≤ 1000000) ∧ (∀ n1 : NodeT, (((n1) = (ndD d i)) → ((inU n1.left) ∧ (d.length ≤ 1000000) ∧ (∀ n2 : NodeT, (((n2) = (ndD d n1.left)) → ((inU n1.right) ∧ (d.length ≤ 1000000) ∧ (∀ n3 : NodeT, (((n3) = (ndD d n1.right)) → ((0 ≤ n2.size) ∧ (n2.size ≤ 1000000) ∧ (0 ≤ n3.size) ∧ (n3.size ≤ 1000000) ∧ (∀ b : Bool, (((b) = (balB n2.size n3.size)) → (brS (b) (((d.length ≤ 1000000) ∧ (∃ t : Tr, ((RepD d t n1.left) ∧ (t.Bal) ∧ (t.size < n) ∧ (t.size ≤ 1000000))) ∧ (d.length ≤ 1000000) ∧ (∃ t : Tr, ((RepD d t n1.right) ∧ (t.Bal) ∧ (t.size < n) ∧ (t.size ≤ 1000000))) ∧ (K (SV.one (TV.at (At.val (Value.bool true)))) [(Chunk.row false (EC.slot) (d)), (Chunk.row false (EC.u32) (fl))] []))) ((K (SV.one (TV.at (At.val (Value.bool false)))) [(Chunk.row false (EC.slot) (d)), (Chunk.row false (EC.u32) (fl))] []))))))))))))))))) = _ by kernel_rfl) ?_
  cases t with
  | nil => have e : i = 0 := rp; exact bt7 (by rw [e]; rfl) h
  | node l k v r =>
    have hi := rp.inU hl
    have hne := rp.ne
    obtain ⟨h1, h2, h3, h4, h5, h6⟩ := rp
    obtain ⟨b0, bl, br⟩ := bal
    have hz : (Tr.node l k v r).size = 1 + l.size + r.size := rfl
    refine bf7 (by simp [hne]) ⟨hi, hl, fun n1 e1 => ?_⟩
    subst e1
    refine ⟨h5.inU hl, hl, fun n2 e2 => ⟨h6.inU hl, hl, fun n3 e3 => ?_⟩⟩
    have s2 : n2.size = l.size := by rw [e2, h5.sz]
    have s3 : n3.size = r.size := by rw [e3, h6.sz]
    refine ⟨by omega, by omega, by omega, by omega, fun b eb => bt7 (by rw [eb, s2, s3]; exact decide_eq_true b0) ⟨hl, ⟨l, h5, bl, by omega, by omega⟩, hl, ⟨r, h6, br, by omega, by omega⟩, h⟩⟩
theorem s_bl7 : ∀ n : Nat, SoundT C0 122 (tBl7 n)
  | 0 => by
    refine .of Try.func122 (by decide) rfl fun args H K h hB => ?_
    unfold tBl7 at h
    split at h <;> try exact h.elim
    obtain ⟨_, ⟨t, _, _, hn, _⟩, _⟩ := h
    omega
  | n + 1 => by
    refine .of Try.func122 (by decide) rfl fun args H K h hB => ?_
    unfold tBl7 at h
    split at h <;> try exact h.elim
    rename_i i d fl
    obtain ⟨hl, ⟨t, rp, bal, hn, hs⟩, h⟩ := h
    exact ⟨aBl7 n, ⟨frame C0.ok s_nd7 _, frame C0.ok s_bal _, frame C0.ok (s_bl7 n) _, trivial⟩, vc_bl7 n d fl i K hl t rp bal hn hs h⟩
theorem vc_li7 (n : Nat) (d : List SlotT) (fl : List Int) (i : Int) (K : KT) (hl : d.length ≤ 1000000) (t : Tr) (rp : RepD d t i) (hn : t.size < n + 1) (hs : t.size ≤ 1000000) (h : ∀ r, r = t.list → K (.one (.at (.slc 2))) [.row false EC.slot d, .row false EC.u32 fl, .row true EC.ent r] []) :
    vc C0 (aLi7 n) Try.f48 [.agg [.slc 0, .slc 1], .at (vU i)] [.row false EC.slot d, .row false EC.u32 fl] (normK 2 K) := by
  refine Eq.mp (show (brS (i == 0) ((K (SV.one (TV.at (At.slc 2))) [(Chunk.row false (EC.slot) (d)), (Chunk.row false (EC.u32) (fl)), (Chunk.row true (EC.ent) [])] [])) (((inU i) ∧ (d.length ≤ 1000000) ∧ (∀ n1 : NodeT, (((n1) = (ndD d i)) → (((d.length ≤ 1000000) ∧ (∃ t : Tr, ((RepD d t n1.left) ∧ (t.size < n) ∧ (t.size ≤ 1000000) ∧ (∀ r : List Ent, (((r) = (t.list)) → (((r.length + [(n1.key, n1.value)].length) * bytesOf C0 EC.ent ≤ 140737488355328) ∧ (d.length ≤ 1000000) ∧ (∃ t1 : Tr, ((RepD d t1 n1.right) ∧ (t1.size < n) ∧ (t1.size ≤ 1000000) ∧ (∀ r1 : List Ent, (((r1) = (t1.list)) → ((((r ++ [(n1.key, n1.value)]).length + r1.length) * bytesOf C0 EC.ent ≤ 140737488355328) ∧ (K (SV.one (TV.at (At.slc 2))) [(Chunk.row false (EC.slot) (d)), (Chunk.row false (EC.u32) (fl)), (Chunk.row true (EC.ent) (r ++ [(n1.key, n1.value)] ++ r1))] [])))))))))))) ∧ (d.length ≤ 1000000) ∧ (∃ t : Tr, ((RepD d t n1.left) ∧ (t.size < n) ∧ (t.size ≤ 1000000) ∧ (∀ r : List Ent, (((r) = (t.list)) → (((r.length + [(n1.key, n1.value)].length) * bytesOf C0 EC.ent ≤ 140737488355328) ∧ (d.length ≤ 1000000) ∧ (∃ t1 : Tr, ((RepD d t1 n1.right) ∧ (t1.size < n) ∧ (t1.size ≤ 1000000) ∧ (∀ r1 : List Ent, (((r1) = (t1.list)) → ((((r ++ [(n1.key, n1.value)]).length + r1.length) * bytesOf C0 EC.ent ≤ 140737488355328) ∧ (K (SV.one (TV.at (At.slc 2))) [(Chunk.row false (EC.slot) (d)), (Chunk.row false (EC.u32) (fl)), (Chunk.row true (EC.ent) (r ++ [(n1.key, n1.value)] ++ r1))] []))))))))))))))))) = _ by kernel_rfl) ?_
  rw [bytes_ent]
  cases t with
  | nil => have e : i = 0 := rp; exact bt7 (by rw [e]; rfl) (h [] rfl)
  | node l k v r =>
    have hi := rp.inU hl
    have hne := rp.ne
    obtain ⟨h1, h2, h3, h4, h5, h6⟩ := rp
    have hz : (Tr.node l k v r).size = 1 + l.size + r.size := rfl
    refine bf7 (by simp [hne]) ⟨hi, hl, fun n1 e1 => ?_⟩
    subst e1
    have ll := l.list_len
    have lr := r.list_len
    constructor
    all_goals
      refine ⟨hl, l, h5, by omega, by omega, fun a ea => ⟨?_, hl, r, h6, by omega, by omega, fun b eb => ⟨?_, h _ ?_⟩⟩⟩
      · rw [ea, ll]; show (l.size + 1) * 16 ≤ 140737488355328; omega
      · rw [List.length_append, ea, eb, ll, lr]; show (l.size + 1 + r.size) * 16 ≤ 140737488355328; omega
      · rw [ea, eb, h2, h3]; simp [Tr.list]
theorem s_li7 : ∀ n : Nat, SoundT C0 48 (tLi7 n)
  | 0 => by
    refine .of Try.func48 (by decide) rfl fun args H K h hB => ?_
    unfold tLi7 at h
    split at h <;> try exact h.elim
    obtain ⟨_, t, _, hn, _⟩ := h
    omega
  | n + 1 => by
    refine .of Try.func48 (by decide) rfl fun args H K h hB => ?_
    unfold tLi7 at h
    split at h <;> try exact h.elim
    rename_i i d fl
    obtain ⟨hl, t, rp, hn, hs, h⟩ := h
    exact ⟨aLi7 n, ⟨frame C0.ok s_nd7 _, frame C0.ok (s_li7 n) _, trivial⟩, vc_li7 n d fl i K hl t rp hn hs h⟩
theorem lastK_mem : ∀ (t : Tr) (x : Int), lastK t x = x ∨ ∃ y ∈ t.list, y.1 = lastK t x
  | .nil, x => .inl rfl
  | .node l k v r, x => by
    rcases lastK_mem r k with e | ⟨y, hy, e⟩
    · exact .inr ⟨(k, v), by simp [Tr.list], e.symm⟩
    · exact .inr ⟨y, by simp [Tr.list, hy], e⟩
theorem lastK_lt {t : Tr} {any : Bool} {last k : Int} (h1 : any = true → last < k) (h2 : ∀ x ∈ t.list, x.1 < k) (h3 : anyK t any = true) : lastK t last < k := by
  cases t with
  | nil => exact h1 h3
  | node l k' v r =>
    show lastK r k' < k
    rcases lastK_mem r k' with e | ⟨y, hy, e⟩
    · rw [e]; exact h2 (k', v) (by simp [Tr.list])
    · rw [← e]; exact h2 y (by simp [Tr.list, hy])
theorem anyK_true (t : Tr) : anyK t true = true := by cases t <;> rfl
theorem vc_or7 (n : Nat) (d : List SlotT) (fl : List Int) (last most i : Int) (any : Bool) (K : KT) (hl : d.length ≤ 1000000) (t : Tr) (rp : RepD d t i) (hasc : Asc t.list) (hn : t.size < n + 1) (hm : (t.size : Int) ≤ most) (hm2 : most ≤ 10000000) (hg : any = true → gtL last t.list)
    (h : ∀ la an mo, la = lastK t last → an = anyK t any → mo = most - t.size → K (.one (.at (vB true))) [.box [.slc 1, .slc 2, vI la, vB an, vI mo], .row false EC.slot d, .row false EC.u32 fl] [0]) :
    vc C0 (aOr7 n) Try.f121 [.at (.ptr 0 0), .at (vU i)] [.box [.slc 1, .slc 2, vI last, vB any, vI most], .row false EC.slot d, .row false EC.u32 fl] (normK 3 (wideK [0] K)) := by
  refine Eq.mp (show (brS (i == 0) ((K (SV.one (TV.at (At.val (Value.bool true)))) [(Chunk.box [(At.slc 1), (At.slc 2), (At.val (Value.int IntKind.i64 (last))), (At.val (Value.bool (any))), (At.val (Value.int IntKind.i64 (most)))]), (Chunk.row false (EC.slot) (d)), (Chunk.row false (EC.u32) (fl))] [0])) ((brS (most == 0) ((K (SV.one (TV.at (At.val (Value.bool false)))) [(Chunk.box [(At.slc 1), (At.slc 2), (At.val (Value.int IntKind.i64 (last))), (At.val (Value.bool (any))), (At.val (Value.int IntKind.i64 (most)))]), (Chunk.row false (EC.slot) (d)), (Chunk.row false (EC.u32) (fl))] [0])) (((inU i) ∧ (d.length ≤ 1000000) ∧ (∀ n1 : NodeT, (((n1) = (ndD d i)) → ((d.length ≤ 1000000) ∧ (∃ t : Tr, ((RepD d t n1.left) ∧ (Asc t.list) ∧ (t.size < n) ∧ ((↑t.size : Int) ≤ IntKind.i64.wrap (most - 1)) ∧ (IntKind.i64.wrap (most - 1) ≤ 10000000) ∧ (((any) = true) → (gtL last t.list)) ∧ (∀ la : Int, (∀ an : Bool, (∀ mo : Int, (((la) = (lastK t last)) → (((an) = (anyK t any)) → (((mo) = (IntKind.i64.wrap (most - 1) - (↑t.size : Int))) → (brS (an) ((brS (decide (n1.key ≤ la)) ((K (SV.one (TV.at (At.val (Value.bool false)))) [(Chunk.box [(At.slc 1), (At.slc 2), (At.val (Value.int IntKind.i64 (la))), (At.val (Value.bool (an))), (At.val (Value.int IntKind.i64 (mo)))]), (Chunk.row false (EC.slot) (d)), (Chunk.row false (EC.u32) (fl))] [0])) (((d.length ≤ 1000000) ∧ (∃ t1 : Tr, ((RepD d t1 n1.right) ∧ (Asc t1.list) ∧ (t1.size < n) ∧ ((↑t1.size : Int) ≤ mo) ∧ (mo ≤ 10000000) ∧ ((true = true) → (gtL n1.key t1.list)) ∧
    (∀ la1 : Int, (∀ an1 : Bool, (∀ mo1 : Int, (((la1) = (lastK t1 n1.key)) → (((an1) = (anyK t1 true)) → (((mo1) = (mo - (↑t1.size : Int))) → (K (SV.one (TV.at (At.val (Value.bool true)))) [(Chunk.box [(At.slc 1), (At.slc 2), (At.val (Value.int IntKind.i64 (la1))), (At.val (Value.bool (an1))), (At.val (Value.int IntKind.i64 (mo1)))]), (Chunk.row false (EC.slot) (d)), (Chunk.row false (EC.u32) (fl))] [0]))))))))))))) (((d.length ≤ 1000000) ∧ (∃ t1 : Tr, ((RepD d t1 n1.right) ∧ (Asc t1.list) ∧ (t1.size < n) ∧ ((↑t1.size : Int) ≤ mo) ∧ (mo ≤ 10000000) ∧ ((true = true) → (gtL n1.key t1.list)) ∧ (∀ la1 : Int, (∀ an1 : Bool, (∀ mo1 : Int, (((la1) = (lastK t1 n1.key)) → (((an1) = (anyK t1 true)) → (((mo1) = (mo - (↑t1.size : Int))) → (K (SV.one (TV.at (At.val (Value.bool true)))) [(Chunk.box [(At.slc 1), (At.slc 2), (At.val (Value.int IntKind.i64 (la1))), (At.val (Value.bool (an1))), (At.val (Value.int IntKind.i64 (mo1)))]), (Chunk.row false (EC.slot) (d)), (Chunk.row false (EC.u32) (fl))] [0])))))))))))))))))))))))))))) = _ by kernel_rfl) ?_
  cases t with
  | nil => have e : i = 0 := rp; exact bt7 (by rw [e]; rfl) (h last any most rfl rfl (by simp [Tr.size]))
  | node l k v r =>
    have hi := rp.inU hl
    have hne := rp.ne
    obtain ⟨h1, h2, h3, h4, h5, h6⟩ := rp
    have hz : (Tr.node l k v r).size = 1 + l.size + r.size := rfl
    obtain ⟨al, ar, lk, kr⟩ := node_asc hasc
    have mz : most ≠ 0 := by omega
    refine bf7 (by simp [hne]) (bf7 (by simp [mz]) ⟨hi, hl, fun n1 e1 => ?_⟩)
    subst e1
    rw [wrap_id (x := most - 1) (by omega) (by omega)]
    refine ⟨hl, l, h5, al, by omega, by omega, by omega, fun a x hx => hg a x (by simp [Tr.list, hx]), fun la an mo e1 e2 e3 => ?_⟩
    have gr : gtL (ndD d i).key r.list := fun x hx => by rw [h2]; exact kr x hx
    have fin : ∀ la1 an1 mo1, la1 = lastK r (ndD d i).key → an1 = anyK r true → mo1 = mo - r.size → K (.one (.at (vB true))) [.box [.slc 1, .slc 2, vI la1, vB an1, vI mo1], .row false EC.slot d, .row false EC.u32 fl] [0] := fun la1 an1 mo1 f1 f2 f3 => h la1 an1 mo1 (by rw [f1, h2]; rfl) (by rw [f2, anyK_true]; rfl) (by omega)
    refine brS_of (fun ha => bf7 ?_ ⟨hl, r, h6, ar, by omega, by omega, by omega, fun _ => gr, fin⟩) fun _ => ⟨hl, r, h6, ar, by omega, by omega, by omega, fun _ => gr, fin⟩
    have hlt : la < k := by
      rw [e1]
      refine lastK_lt (any := any) (fun a => ?_) lk (by rw [← e2]; exact ha)
      exact hg a (k, v) (by simp [Tr.list])
    rw [h2]
    exact decide_eq_false (by omega)
theorem s_or7 : ∀ n : Nat, SoundT C0 121 (tOr7 n)
  | 0 => by
    refine .ofW [0] Try.func121 (by decide) rfl fun args H K h hB => ?_
    unfold tOr7 at h
    split at h <;> try exact h.elim
    obtain ⟨_, t, _, _, hn, _⟩ := h
    omega
  | n + 1 => by
    refine .ofW [0] Try.func121 (by decide) rfl fun args H K h hB => ?_
    unfold tOr7 at h
    split at h <;> try exact h.elim
    rename_i i last any most d fl
    obtain ⟨hl, t, rp, hasc, hn, hm, hm2, hg, h⟩ := h
    exact ⟨aOr7 n, ⟨frame C0.ok s_nd7 _, frame C0.ok (s_or7 n) _, trivial⟩, vc_or7 n d fl last most i any K hl t rp hasc hn hm hm2 hg h⟩
theorem vc_ck7 (d : List SlotT) (fl : List Int) (i : Int) (K : KT) (hl : d.length ≤ 1000000) (t : Tr) (rp : RepD d t i) (hasc : Asc t.list) (bal : t.Bal) (h2 : t.size ≤ 2 * d.length + 2) (hs : t.size ≤ 1000000) (h : K (.one (.at (vI 0))) [.row false EC.slot d, .row false EC.u32 fl] []) :
    vc C0 (aCk7 1000001) Try.f77 [.agg [.slc 0, .slc 1], .at (vU i)] [.row false EC.slot d, .row false EC.u32 fl] (normK 2 K) := by
  generalize hn : 1000001 = n
  refine Eq.mp (show (brS (i != 0) (((inU i) ∧ (d.length ≤ 1000000) ∧ (brS (!alcD d i) ((K (SV.one (TV.at (At.val (Value.int IntKind.i64 1)))) [(Chunk.row false (EC.slot) (d)), (Chunk.row false (EC.u32) (fl))] [])) (((d.length ≤ 1000000) ∧ (∃ t : Tr, ((RepD d t i) ∧ (Asc t.list) ∧ (t.size < n) ∧ ((↑t.size : Int) ≤ IntKind.i64.wrap (IntKind.i64.wrap (2 * (↑d.length : Int)) + 2)) ∧ (IntKind.i64.wrap (IntKind.i64.wrap (2 * (↑d.length : Int)) + 2) ≤ 10000000) ∧ ((false = true) → (gtL 0 t.list)) ∧ (∀ la : Int, (∀ an : Bool, (∀ mo : Int, (((la) = (lastK t 0)) → (((an) = (anyK t false)) → (((mo) = (IntKind.i64.wrap (IntKind.i64.wrap (2 * (↑d.length : Int)) + 2) - (↑t.size : Int))) → ((d.length ≤ 1000000) ∧ (∃ t1 : Tr, ((RepD d t1 i) ∧ (t1.Bal) ∧ (t1.size < n) ∧ (t1.size ≤ 1000000))) ∧ (K (SV.one (TV.at (At.val (Value.int IntKind.i64 0)))) [(Chunk.row false (EC.slot) (d)), (Chunk.row false (EC.u32) (fl))] []))))))))))))))) (((d.length ≤ 1000000) ∧ (∃ t : Tr, ((RepD d t i) ∧ (Asc t.list) ∧ (t.size < n) ∧ ((↑t.size : Int) ≤ IntKind.i64.wrap (IntKind.i64.wrap (2 * (↑d.length : Int)) + 2)) ∧ (IntKind.i64.wrap (IntKind.i64.wrap (2 * (↑d.length : Int)) + 2) ≤ 10000000) ∧ ((false = true) → (gtL 0 t.list)) ∧ (∀ la : Int, (∀ an : Bool, (∀ mo : Int, (((la) = (lastK t 0)) → (((an) = (anyK t false)) → (((mo) = (IntKind.i64.wrap (IntKind.i64.wrap (2 * (↑d.length : Int)) + 2) - (↑t.size : Int))) → ((d.length ≤ 1000000) ∧ (∃ t1 : Tr, ((RepD d t1 i) ∧ (t1.Bal) ∧ (t1.size < n) ∧ (t1.size ≤ 1000000))) ∧
    (K (SV.one (TV.at (At.val (Value.int IntKind.i64 0)))) [(Chunk.row false (EC.slot) (d)), (Chunk.row false (EC.u32) (fl))] []))))))))))))) = _ by kernel_rfl) ?_
  have hi := rp.inU hl
  rw [wrap_id (x := 2 * (d.length : Int)) (by omega) (by omega), wrap_id (x := 2 * (d.length : Int) + 2) (by omega) (by omega)]
  have hz : i ≠ 0 → alcD d i = true := fun z => by
    cases t with
    | nil => exact absurd rp z
    | node l k v r => exact rp.1
  refine brS_of (fun c => ?_) fun _ => ⟨hl, t, rp, hasc, by omega, by omega, by omega, (fun z => by cases z), fun _ _ _ _ _ _ => ⟨hl, ⟨t, rp, bal, by omega, hs⟩, h⟩⟩
  have c : i ≠ 0 := by simpa using c
  exact ⟨hi, hl, bf7 (by rw [hz c]; rfl) ⟨hl, t, rp, hasc, by omega, by omega, by omega, (fun z => by cases z), fun _ _ _ _ _ _ => ⟨hl, ⟨t, rp, bal, by omega, hs⟩, h⟩⟩⟩
theorem s_ck7 : SoundT C0 77 tCk7 := by
  refine .of Try.func77 (by decide) rfl fun args H K h hB => ?_
  unfold tCk7 at h
  split at h <;> try exact h.elim
  rename_i i d fl
  obtain ⟨hl, ⟨t, rp, hasc, bal, h2, hs⟩, h⟩ := h
  exact ⟨aCk7 1000001, ⟨frame C0.ok s_alc _, frame C0.ok (s_or7 _) _, frame C0.ok (s_bl7 _) _, trivial⟩, vc_ck7 d fl i K hl t rp hasc bal h2 hs h⟩
theorem vc_tr7 (d : List SlotT) (fl : List Int) (i : Int) (l : List Ent) (K : KT) (hl : d.length ≤ 1000000) (t : Tr) (rp : RepD d t i) (hasc : Asc t.list) (bal : t.Bal) (h2 : t.size ≤ 2 * d.length + 2) (hs : t.size ≤ 1000000) (e : t.list = l) (h : K (.one (.at (vB true))) [.row false EC.slot d, .row false EC.u32 fl, .row false EC.ent l] []) :
    vc C0 (aTr7 1000001 l d fl) Try.f34 [.agg [.slc 0, .slc 1], .at (vU i), .at (.slc 2)] [.row false EC.slot d, .row false EC.u32 fl, .row false EC.ent l] (normK 3 K) := by
  generalize hn : 1000001 = n
  refine Eq.mp (show ((d.length ≤ 1000000) ∧
(∃ t : Tr, ((RepD d t i) ∧ (Asc t.list) ∧ (t.Bal) ∧ (t.size ≤ 2 * d.length + 2) ∧ (t.size ≤ 1000000))) ∧
(inU i) ∧
(d.length ≤ 1000000) ∧
(∀ n1 : NodeT, (((n1) = (ndD d i)) → (brS (n1.size != (↑l.length : Int)) ((K (SV.one (TV.at (At.val (Value.bool false)))) [(Chunk.row false (EC.slot) (d)), (Chunk.row false (EC.u32) (fl)), (Chunk.row false (EC.ent) (l))] [])) (((d.length ≤ 1000000) ∧ (∃ t : Tr, ((RepD d t i) ∧ (t.size < n) ∧ (t.size ≤ 1000000) ∧ (∀ r : List Ent, (((r) = (t.list)) → (brS ((↑r.length : Int) != (↑l.length : Int)) ((K (SV.one (TV.at (At.val (Value.bool false)))) [(Chunk.row false (EC.slot) (d)), (Chunk.row false (EC.u32) (fl)), (Chunk.row false (EC.ent) (l))] [])) (((∃ x : XIx l.length, (True ∧ (True ∧ True ∧ True ∧ ((Value.int IntKind.i64 0) = (Value.int IntKind.i64 ((↑x.i : Int)))) ∧ True) ∧ ((d) = (d)) ∧ ((fl) = (fl)) ∧ ((l) = (l)) ∧ (True ∧ True ∧ True) ∧ ((r) = (l)) ∧ True)) ∧ (∀ x : XIx l.length, (True → (brS (decide ((↑x.i : Int) < (↑l.length : Int))) (((0 ≤ (↑x.i : Int)) ∧ ((↑x.i : Int) < (↑l.length : Int)) ∧ (0 ≤ (↑x.i : Int)) ∧ ((↑x.i : Int) < (↑l.length : Int)) ∧ (brS (!((eA l x.i).fst == (eA l x.i).fst && ((eA l x.i).snd == (eA l x.i).snd && true))) ((K (SV.one (TV.at (At.val (Value.bool false)))) [(Chunk.row false (EC.slot) (d)), (Chunk.row false (EC.u32) (fl)), (Chunk.row false (EC.ent) (l))] [])) ((∃ x' : XIx l.length, (True ∧ ((True ∧ True ∧ True ∧
    ((Value.int IntKind.i64 (IntKind.i64.wrap ((↑x.i : Int) + 1))) = (Value.int IntKind.i64 ((↑x'.i : Int)))) ∧ True) ∧ ((d) = (d)) ∧ ((fl) = (fl)) ∧ ((l) = (l)) ∧ (True ∧ True ∧ True) ∧ ((l) = (l)) ∧ True) ∧ (l.length - x'.i < l.length - x.i))))))) ((K (SV.one (TV.at (At.val (Value.bool true)))) [(Chunk.row false (EC.slot) (d)), (Chunk.row false (EC.u32) (fl)), (Chunk.row false (EC.ent) (l))] [])))))))))))))))))) = _ by kernel_rfl) ?_
  have hi := rp.inU hl
  have sz : t.size = l.length := by rw [← e, t.list_len]
  refine ⟨hl, ⟨t, rp, hasc, bal, h2, hs⟩, hi, hl, fun n1 e1 => bf7 (by rw [e1, rp.sz, sz]; simp) ⟨hl, t, rp, by omega, hs, fun r er => bf7 (by rw [er, e]; simp) ⟨⟨⟨0, Nat.zero_le _⟩, ?_⟩, fun x _ => brS_of (fun c => ?_) fun _ => h⟩⟩⟩
  · have er : r = l := er.trans e
    (repeat' first | exact trivial | exact rfl | exact er | refine And.intro ?_ ?_)
  have c : x.i < l.length := by have := of_decide_eq_true c; omega
  refine ⟨by omega, by omega, by omega, by omega, bf7 (by simp) ⟨⟨x.i + 1, c⟩, ?_⟩⟩
  have v : IntKind.i64.wrap ((x.i : Int) + 1) = ((x.i + 1 : Nat) : Int) := by rw [wrap_id (by omega) (by omega)]; rfl
  (repeat' first | exact trivial | exact rfl | exact congrArg (Value.int IntKind.i64) v | refine And.intro ?_ ?_)
  show l.length - (x.i + 1) < l.length - x.i
  omega
theorem s_tr7 : SoundT C0 34 tTr7 := by
  refine .of Try.func34 (by decide) rfl fun args H K h hB => ?_
  unfold tTr7 at h
  split at h <;> try exact h.elim
  rename_i i d fl l
  obtain ⟨hl, ⟨t, rp, hasc, bal, h2, hs, e⟩, h⟩ := h
  exact ⟨aTr7 1000001 l d fl, ⟨frame C0.ok s_ck7 _, frame C0.ok s_nd7 _, frame C0.ok (s_li7 _) _, trivial⟩, vc_tr7 d fl i l K hl t rp hasc bal h2 hs e h⟩

/-! ### From the arena to its dump -/
theorem ndD_slots {S : Arn} {hs : List Int} (w : Wf S hs) (i : Int) : ndD (slotsOf S) i = S.nd i := by
  unfold ndD
  rw [alcD_slots w]
  cases hb : S.us i with
  | false => rw [w.zero i hb]; rfl
  | true => rw [if_pos rfl, sltD_slots w hb]
theorem repD_of {S : Arn} {hs : List Int} (w : Wf S hs) : ∀ {t : Tr} {i : Int}, Rep S t i → RepD (slotsOf S) t i
  | .nil, i, h => h
  | .node l k v r, i, h => by
    have sz := Rep.size w h
    obtain ⟨h1, h2, h3, h4, h5⟩ := h
    refine ⟨by rw [alcD_slots w]; exact h1, ?_⟩
    rw [ndD_slots w]
    exact ⟨h2, h3, by rw [sz]; simp [Tr.size], repD_of w h4, repD_of w h5⟩
theorem len_of_nodup {α : Type} [DecidableEq α] : ∀ (a b : List α), a.Nodup → (∀ x ∈ a, x ∈ b) → a.length ≤ b.length
  | [], _, _, _ => Nat.zero_le _
  | x :: a, b, hn, hs => by
    obtain ⟨h1, h2⟩ := List.pairwise_cons.1 hn
    have hx := hs x (by simp)
    have := len_of_nodup a (b.erase x) h2 fun y hy => (List.mem_erase_of_ne (Ne.symm (h1 y hy))).2 (hs y (by simp [hy]))
    rw [List.length_erase_of_mem hx] at this
    have : 0 < b.length := List.length_pos_of_mem hx
    simp; omega
theorem rep_keys {S : Arn} {hs : List Int} (w : Wf S hs) : ∀ {t : Tr} {i : Int}, Rep S t i → ∀ x ∈ t.list, x.1 ∈ (slotsOf S).map fun s => s.node.key
  | .nil, _, _, x, hx => by simp [Tr.list] at hx
  | .node l k v r, i, h, x, hx => by
    obtain ⟨h1, h2, h3, h4, h5⟩ := h
    simp only [Tr.list, List.mem_append, List.mem_cons] at hx
    rcases hx with hx | rfl | hx
    · exact rep_keys w h4 x hx
    · have hp := w.pos h1
      have hi : (i - 1).toNat < ncap S := by unfold ncap; omega
      refine List.mem_map.2 ⟨slotAt S (i - 1).toNat, ?_, ?_⟩
      · unfold slotsOf; exact List.mem_map.2 ⟨_, List.mem_range.2 hi, rfl⟩
      · show (S.nd (((i - 1).toNat : Int) + 1)).key = k
        rw [show (((i - 1).toNat : Nat) : Int) + 1 = i by omega]; exact h2
    · exact rep_keys w h5 x hx
/-- A tree in order has no more nodes than there are slots. -/
theorem rep_few {S : Arn} {hs : List Int} (w : Wf S hs) {t : Tr} {i : Int} (h : Rep S t i) (hasc : Asc t.list) : t.size ≤ (slotsOf S).length := by
  have := len_of_nodup (t.list.map Prod.fst) ((slotsOf S).map fun s => s.node.key) (List.pairwise_map.2 ((show List.Pairwise (fun (a b : Ent) => a.1 < b.1) t.list from hasc).imp fun c e => by omega)) (fun x hx => by
    obtain ⟨y, hy, rfl⟩ := List.mem_map.1 hx
    exact rep_keys w h y hy)
  rw [List.length_map, List.length_map, t.list_len] at this
  exact this
end Go.Proofs.Ytmjnoiajenoinaa.Sx
end
section
/- What the update laws share: Kept, spare, awake, lengths of dumps. -/
namespace Go.Proofs.Ytmjnoiajenoinaa.Sx
open Go

/-KEEP Wf exW inU live Arn.cap Arn.free Rep rdS Tr.size Tr.list alcD slotsOf orderOf PlantR newS insE flt getE TrR upM Hn-/
structure XKp (d : List SlotT) where
  i : Nat
  h : i ≤ d.length
noncomputable def aAw14 : Ann C0 := { Γ := [(11, frameT [] tNew), (32, frameT [] tUpIn), (29, frameT [] tUpDe), (17, frameT [] tSize)] }
def tAw14 : Tfm C0 := fun args H K => match args, H with
  | [], [] => K (.one (.at (vB true))) [] []
  | _, _ => False
theorem newS_free (c : Nat) : (newS c).free = c := by
  unfold Arn.free Arn.cap newS
  simp
theorem slots_le {S : Arn} {hs : List Int} (w : Wf S hs) : (slotsOf S).length ≤ 65537 := by have := w.n2; rw [slotsOf_len]; unfold ncap; omega
theorem tr_tree {S : Arn} {hs : List Int} {t : Tr} {j : Int} {L : List Ent} (w : Wf S hs) (rp : Rep S t j) (hL : t.list = L) (bal : t.Bal) (asc : Asc L) :
    ∃ t, RepD (slotsOf S) t j ∧ Asc t.list ∧ t.Bal ∧ t.size ≤ 2 * (slotsOf S).length + 2 ∧ t.size ≤ 1000000 ∧ t.list = L := by
  have asc' : Asc t.list := by rw [hL]; exact asc
  have few := rep_few w rp asc'
  have := slots_le w
  exact ⟨t, repD_of w rp, asc', bal, by omega, by omega, hL⟩
theorem vc_aw14 (K : KT) (h : K (.one (.at (vB true))) [] []) : vc C0 aAw14 Try.f28 [] [] (normK 0 K) := by
  refine Eq.mp (show ((((60 : Int) < 1 ∨ (65536 : Int) < 60) →
(K (SV.one (TV.at (At.val (Value.bool false)))) [] [])) ∧
(((1 : Int) ≤ 60) →
(((60 : Int) ≤ 65536) →
(∀ S : Arn, (((S) = (newS (Int.toNat 60))) → (∃ hs : List Int, (∃ t : Tr, ((upM S hs t 0) ∧ (4 * (Hn ((↑t.size : Int) + 1) + 2) ≤ S.free) ∧ (∀ S' : Arn, (∀ j : Int, (∀ o : Option Int, (((o) = (getE t.list 2)) → ((TrR S hs (insE t.list (2, 20)) (iB t.size) (5 * iB t.size + ht t + 1) S' j) → (∃ hs1 : List Int, (∃ t1 : Tr, (∃ v : Int, ((upM S' hs1 t1 j) ∧ ((getE t1.list 2) = (some (v))) ∧ (4 * (Hn (↑t1.size : Int) + 2) ≤ S'.free) ∧ (∀ S'1 : Arn, (∀ j1 : Int, ((TrR S' hs1 (flt (neK 2) t1.list) (dB t1.size) (5 * dB t1.size + ht t1 + 1) S'1 j1) → (brS (!o.isSome) ((brS (j != 0) ((brS (j1 == 0) ((brS (v == 20) (((inU j) ∧ (exW S'1) ∧ (S'1.reads < 4000000000000000000) ∧ (∀ S'2 : Arn, (((S'2) = (rdS S'1 (S'1.us j).toNat)) → (K (SV.one (TV.at (At.val (Value.bool ((S'1.nd j).size == 1))))) [] []))))) ((K (SV.one (TV.at (At.val (Value.bool false)))) [] [])))) ((K (SV.one (TV.at (At.val (Value.bool false)))) [] [])))) ((K (SV.one (TV.at (At.val (Value.bool false)))) [] [])))) ((K (SV.one (TV.at (At.val (Value.bool false)))) [] []))))))))))))))))))))))) = _ by kernel_rfl) ?_
  refine ⟨fun c => by omega, fun _ _ S e => ?_⟩
  have e60 : Int.toNat 60 = 60 := rfl
  rw [e60] at e
  have w : Wf S [] := by rw [e]; exact Wf.new (by omega) (by omega)
  have f : S.free = 60 := by rw [e]; exact newS_free 60
  have rd : S.reads = 0 := by rw [e]; rfl
  have h0 := Hn_rng 0
  have a0 : Hn (0 : Int) = 0 := by decide
  have a1 : Hn (1 : Int) = 1 := by decide
  have i0 : iB 0 = 1 := by have := iB_Hn 0; have : (iB 0 : Int) = 4 * Hn 0 + 1 := this; omega
  refine ⟨[], .nil, ⟨w, rfl, trivial, List.Pairwise.nil, by decide, by simp, by omega⟩, ?_, fun S1 j o eo t1 => ?_⟩
  · show 4 * (Hn 1 + 2) ≤ S.free; omega
  have f1 := t1.got.free w
  have q1 := t1.got.rd
  rw [show Tr.nil.size = 0 from rfl] at f1 q1
  rw [show ht Tr.nil = 0 from rfl] at q1
  obtain ⟨t, rp, lt, bt⟩ := t1.tree
  have lt : t.list = [(2, 20)] := lt
  have sz : t.size = 1 := by rw [← t.list_len, lt]; rfl
  have hj : j ≠ 0 := fun e => by
    rw [e] at rp
    have := rp.zero t1.got.wf
    rw [this] at sz; cases sz
  refine ⟨[j], t, 20, ⟨t1.got.wf, rp, bt, by rw [lt]; exact List.pairwise_singleton _ _, by omega, by simp, by omega⟩, by rw [lt]; rfl, ?_, fun S2 j2 t2 => ?_⟩
  · rw [sz]; show 4 * (Hn 1 + 2) ≤ S1.free; omega
  have q2 := t2.got.rd
  have db : (dB t.size : Int) ≤ 4 * Hn t.size + 4 := dB_Hn _
  rw [sz] at db q2
  have a1' : Hn ((1 : Nat) : Int) = 1 := a1
  have hh := Bal.height bt (by omega)
  rw [sz] at hh
  obtain ⟨u, ru, lu, bu⟩ := t2.tree
  have lu : u.list = [] := by rw [lu, lt]; rfl
  have zu : u.size = 0 := by rw [← u.list_len, lu]; rfl
  have hj2 : j2 = 0 := by
    cases u with
    | nil => exact ru
    | node a k v b => simp [Tr.size] at zu
  have rp2 : Rep S2 t j := rp.held t1.got.wf t2.got.stay (.inr (by simp))
  have eo : o = none := eo
  refine bt7 (by rw [eo]; rfl) (bt7 (by simp [hj]) (bt7 (by simp [hj2]) (bt7 rfl ⟨inU_of t2.got.wf rp2.us, ⟨_, t2.got.wf⟩, by omega, fun S3 _ => ?_⟩)))
  rw [rp2.size t2.got.wf, sz]
  exact h
theorem s_aw14 : SoundT C0 28 tAw14 := by
  refine .of Try.func28 (by decide) rfl fun args H K h hB => ?_
  unfold tAw14 at h
  split at h <;> try exact h.elim
  exact ⟨aAw14, ⟨frame C0.ok s_new _, frame C0.ok s_upIn _, frame C0.ok s_upDe _, frame C0.ok s_size _, trivial⟩, vc_aw14 K h⟩
end Go.Proofs.Ytmjnoiajenoinaa.Sx
end
