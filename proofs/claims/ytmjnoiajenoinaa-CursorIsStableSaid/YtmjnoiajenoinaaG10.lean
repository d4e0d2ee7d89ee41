/- A part of the proof. -/
import Derived.Test.YtmjnoiajenoinaaG7
import Derived.Test.YtmjnoiajenoinaaG9
import Derived.Test.YtmjnoiajenoinaaG5
import Derived.Test.YtmjnoiajenoinaaG4
section
/- The reference's Check of a dump, Clean and Sound. -/
namespace Go.Proofs.Ytmjnoiajenoinaa.Sx
open Go

/-KEEP Wf exW inU allU Arn.cap Arn.free alcD cntL kidsL slotsOf orderOf MarksR CleanD kidsU-/
structure XCk (d : List SlotT) (roots : List Int) where
  i : Nat
  m : List Bool
  h : i ≤ d.length ∧ MarksR d roots m
structure XCj (d : List SlotT) (roots : List Int) (P : Nat → Int → Prop) where
  i : Nat
  m : List Bool
  c : Int
  h : i < d.length ∧ MarksR d roots m ∧ P i c
abbrev bxSl (x : SlotT) : Chunk C0 := .box [.val (.bool x.alloc), vI x.count, vU x.gen, vI x.node.key, vI x.node.value, vU x.node.left, vU x.node.right, vI x.node.size, vI x.node.sum, vI x.node.min, vI x.node.max]
abbrev chK (d : List SlotT) (fl roots : List Int) (m : List Bool) : List (Chunk C0) := [.row false EC.slot d, .row false EC.u32 fl, .row false EC.u32 roots, .box [.slc 0, .slc 1], .row true EC.int (cntL (kidsL d) d.length), .row true EC.bool m, .row true EC.int (cntL fl d.length), .row true EC.int (cntL roots d.length), .row true EC.find []]
structure XIy (n : Nat) where
  i : Nat
  h : i < n
noncomputable def aChk (P0 P1 P2 P3 P4 : Nat → Int → Prop) (d : List SlotT) (fl roots : List Int) : Ann C0 := { Γ := [(67, frameT [] tInE), (138, frameT [] tMk), (139, frameT [] tCnt), (23, frameT [] tAlc), (113, frameT [] tKids)], quiet := [67, 138, 139, 23, 113], rounds := fun n => if n = 19 then 3 else 0, inv := fun n => match n with
  | 5 => some { X := XCk d roots, sl := [2, 6, 7, 8, 9, 5, 10], tf := fun x => [.one (.at (.ptr 3 0)), .one (.at (.slc 4)), .one (.at (.slc 5)), .one (.at (.slc 6)), .one (.at (.slc 7)), .one (.at (.slc 8)), vi .i64 x.i], hf := fun x => chK d fl roots x.m, μ := fun x => d.length - x.i }
  | 1011 => some { X := XCj d roots P4, sl := [2, 6, 7, 8, 9, 5, 10, 12, 13], tf := fun x => [.one (.at (.ptr 3 0)), .one (.at (.slc 4)), .one (.at (.slc 5)), .one (.at (.slc 6)), .one (.at (.slc 7)), .one (.at (.slc 8)), vi .i64 x.i, .one (.at (.ptr 9 0)), vi .i64 x.c], hf := fun x => chK d fl roots x.m ++ [bxSl (eS d x.i)], rel := fun T _ z => slotI T 10 z.i }
  | 1013 => some { X := XCj d roots P0, sl := [2, 6, 7, 8, 9, 5, 10, 12, 60], tf := fun x => [.one (.at (.ptr 3 0)), .one (.at (.slc 4)), .one (.at (.slc 5)), .one (.at (.slc 6)), .one (.at (.slc 7)), .one (.at (.slc 8)), vi .i64 x.i, .one (.at (.ptr 9 0)), vb false], hf := fun x => chK d fl roots x.m ++ [bxSl (eS d x.i)], rel := fun T _ z => slotI T 10 z.i }
  | 1025 => some { X := XCj d roots P1, sl := [2, 6, 7, 8, 9, 5, 10, 12, 17], tf := fun x => [.one (.at (.ptr 3 0)), .one (.at (.slc 4)), .one (.at (.slc 5)), .one (.at (.slc 6)), .one (.at (.slc 7)), .one (.at (.slc 8)), vi .i64 x.i, .one (.at (.ptr 9 0)), vi .i64 x.c], hf := fun x => chK d fl roots x.m ++ [bxSl (eS d x.i)], rel := fun T _ z => slotI T 10 z.i }
  | 1026 => some { X := XCj d roots P2, sl := [2, 6, 7, 8, 9, 5, 10, 12, 110], tf := fun x => [.one (.at (.ptr 3 0)), .one (.at (.slc 4)), .one (.at (.slc 5)), .one (.at (.slc 6)), .one (.at (.slc 7)), .one (.at (.slc 8)), vi .i64 x.i, .one (.at (.ptr 9 0)), vb false], hf := fun x => chK d fl roots x.m ++ [bxSl (eS d x.i)], rel := fun T _ z => slotI T 10 z.i }
  | 1028 => some { X := XCj d roots P3, sl := [2, 6, 7, 8, 9, 5, 10, 12, 15], tf := fun x => [.one (.at (.ptr 3 0)), .one (.at (.slc 4)), .one (.at (.slc 5)), .one (.at (.slc 6)), .one (.at (.slc 7)), .one (.at (.slc 8)), vi .i64 x.i, .one (.at (.ptr 9 0)), vi .i64 x.c], hf := fun x => chK d fl roots x.m ++ [bxSl (eS d x.i)], rel := fun T _ z => slotI T 10 z.i }
  | 1029 => some { X := XCj d roots P0, sl := [2, 6, 7, 8, 9, 5, 10, 12, 132], tf := fun x => [.one (.at (.ptr 3 0)), .one (.at (.slc 4)), .one (.at (.slc 5)), .one (.at (.slc 6)), .one (.at (.slc 7)), .one (.at (.slc 8)), vi .i64 x.i, .one (.at (.ptr 9 0)), vb false], hf := fun x => chK d fl roots x.m ++ [bxSl (eS d x.i)], rel := fun T _ z => slotI T 10 z.i }
  | 1031 => some { X := XCj d roots P0, sl := [2, 6, 7, 8, 9, 5, 10, 12, 149], tf := fun x => [.one (.at (.ptr 3 0)), .one (.at (.slc 4)), .one (.at (.slc 5)), .one (.at (.slc 6)), .one (.at (.slc 7)), .one (.at (.slc 8)), vi .i64 x.i, .one (.at (.ptr 9 0)), vb false], hf := fun x => chK d fl roots x.m ++ [bxSl (eS d x.i)], rel := fun T _ z => slotI T 10 z.i }
  | 33 => some { X := XIx fl.length, sl := [2, 5, 19], tf := fun x => [.one (.at (.ptr 3 0)), .one (.at (.slc 4)), vi .i64 x.i], hf := fun _ => [.row false EC.slot d, .row false EC.u32 fl, .row false EC.u32 roots, .box [.slc 0, .slc 1], .row true EC.find []], μ := fun x => fl.length - x.i }
  | 1036 => some { X := XIy fl.length, sl := [2, 5, 19, 180], tf := fun x => [.one (.at (.ptr 3 0)), .one (.at (.slc 4)), vi .i64 x.i, vb false], hf := fun _ => [.row false EC.slot d, .row false EC.u32 fl, .row false EC.u32 roots, .box [.slc 0, .slc 1], .row true EC.find []], rel := fun T _ z => slotI T 19 z.i }
  | 38 => some { X := XIx roots.length, sl := [2, 5, 20], tf := fun x => [.one (.at (.ptr 3 0)), .one (.at (.slc 4)), vi .i64 x.i], hf := fun _ => [.row false EC.slot d, .row false EC.u32 fl, .row false EC.u32 roots, .box [.slc 0, .slc 1], .row true EC.find []], μ := fun x => roots.length - x.i }
  | 1041 => some { X := XIy roots.length, sl := [2, 5, 20, 209], tf := fun x => [.one (.at (.ptr 3 0)), .one (.at (.slc 4)), vi .i64 x.i, vb false], hf := fun _ => [.row false EC.slot d, .row false EC.u32 fl, .row false EC.u32 roots, .box [.slc 0, .slc 1], .row true EC.find []], rel := fun T _ z => slotI T 20 z.i }
  | _ => none }
def tChk : Tfm C0 := fun args H K => match args, H with
  | [.agg [.slc 0, .slc 1], .at (.slc 2)], [.row false .slot d, .row false .u32 fl, .row false .u32 roots] => CleanD d fl roots ∧ kidsU d ∧ allU fl ∧ allU roots ∧ d.length ≤ 100000 ∧ fl.length ≤ 1000000 ∧ roots.length ≤ 1000000 ∧
    K (.one (.at (.slc 3))) [.row false EC.slot d, .row false EC.u32 fl, .row false EC.u32 roots, .row true EC.find []] []
  | _, _ => False
noncomputable def aCln : Ann C0 := { Γ := [(114, frameT [] tChk)] }
def tCln : Tfm C0 := fun args H K => match args, H with
  | [.agg [.slc 0, .slc 1], .at (.slc 2)], [.row false .slot d, .row false .u32 fl, .row false .u32 roots] => CleanD d fl roots ∧ kidsU d ∧ allU fl ∧ allU roots ∧ d.length ≤ 100000 ∧ fl.length ≤ 1000000 ∧ roots.length ≤ 1000000 ∧
    K (.one (.at (vB true))) [.row false EC.slot d, .row false EC.u32 fl, .row false EC.u32 roots] []
  | _, _ => False
noncomputable def aSound : Ann C0 := { Γ := [(21, frameT [] tDump), (68, frameT [] tCln)] }
def tSound : Tfm C0 := fun args H K => match args with
  | [.at (.ptr 0 0), .at (.slc 7)] => arMr H fun S rest => match rest with
    | [.row false .u32 roots] => ∃ hs, Wf S hs ∧ roots.Perm hs ∧ roots.length ≤ 1000000 ∧ K (.one (.at (vB true))) (chS S ++ [.row false EC.u32 roots]) []
    | _ => False
  | _ => False
def P0c (_ : Nat) (_ : Int) : Prop := True
def P4c (d : List SlotT) (i : Nat) (c : Int) : Prop := c = if (eS d i).alloc = true then 0 else 1
def P1c (d : List SlotT) (i : Nat) (c : Int) : Prop := (eS d i).alloc = true ∧ c = 1 + szD d (eS d i).node.left + szD d (eS d i).node.right
def P2c (d : List SlotT) (i : Nat) (_ : Int) : Prop := (eS d i).alloc = true
def P3c (d : List SlotT) (roots : List Int) (i : Nat) (c : Int) : Prop := c = if (eS d i).alloc = true then ((kidsL d).count ((i : Int) + 1) : Int) + (roots.count ((i : Int) + 1) : Int) else 0
theorem eS_sz {d : List SlotT} {fl roots : List Int} (_ : CleanD d fl roots) (hl : d.length ≤ 100000) {j : Int} (h : alcD d j = true) : 0 ≤ IntKind.u32.wrap (j - 1) ∧ IntKind.u32.wrap (j - 1) < (d.length : Int) ∧ (eS d (IntKind.u32.wrap (j - 1)).toNat).node.size = szD d j := by
  obtain ⟨a, b⟩ := alcD_rng h
  rw [wrap_u32 (x := j - 1) (by omega) (by omega)]
  refine ⟨by omega, by omega, ?_⟩
  unfold szD; rw [if_pos h]; rfl
theorem szD_no {d : List SlotT} {j : Int} (h : alcD d j = false) : szD d j = 0 := by unfold szD; rw [h]; rfl
theorem szD_rng {d : List SlotT} {fl roots : List Int} (hc : CleanD d fl roots) (j : Int) : 0 ≤ szD d j ∧ szD d j ≤ 4294967296 := by
  cases h : alcD d j with
  | false => rw [szD_no h]; omega
  | true =>
    obtain ⟨a, b⟩ := alcD_rng h
    unfold szD; rw [if_pos h]
    exact hc.zr (j - 1).toNat (by omega)
theorem vc_chk (d : List SlotT) (fl roots : List Int) (K : KT) (hc : CleanD d fl roots) (hk : kidsU d) (hfu : allU fl) (hru : allU roots) (hl : d.length ≤ 100000) (hf : fl.length ≤ 1000000) (hr : roots.length ≤ 1000000)
    (h : K (.one (.at (.slc 3))) [.row false EC.slot d, .row false EC.u32 fl, .row false EC.u32 roots, .row true EC.find []] []) :
    vc C0 (aChk P0c (P1c d) (P2c d) (P3c d roots) (P4c d) d fl roots) Try.f114 [.agg [.slc 0, .slc 1], .at (.slc 2)] [.row false EC.slot d, .row false EC.u32 fl, .row false EC.u32 roots] (normK 3 K) := by
  generalize hP0 : P0c = P0
  generalize hP1 : P1c d = P1
  generalize hP2 : P2c d = P2
  generalize hP3 : P3c d roots = P3
  generalize hP4 : P4c d = P4
  refine Eq.mp (show ((d.length ≤ 100000) ∧
(kidsU d) ∧
(∀ o : List Int, (((o) = (cntL (kidsL d) d.length)) → ((d.length ≤ 100000) ∧ (roots.length ≤ 1000000) ∧ (kidsU d) ∧ (allU roots) ∧ (∀ m : List Bool, ((MarksR d roots m) → ((0 ≤ (↑d.length : Int)) ∧ ((↑d.length : Int) ≤ 100000) ∧ (fl.length ≤ 1000000) ∧ (allU fl) ∧ (∀ o1 : List Int, (((o1) = (cntL fl (↑d.length : Int).toNat)) → ((0 ≤ (↑d.length : Int)) ∧ ((↑d.length : Int) ≤ 100000) ∧ (roots.length ≤ 1000000) ∧ (allU roots) ∧ (∀ o2 : List Int, (((o2) = (cntL roots (↑d.length : Int).toNat)) → ((∃ x : XCk d roots, (True ∧ (True ∧ True ∧ True ∧ True ∧ True ∧ True ∧ True ∧ ((Value.int IntKind.i64 0) = (Value.int IntKind.i64 ((↑x.i : Int)))) ∧ True) ∧ ((d) = (d)) ∧ ((fl) = (fl)) ∧ ((roots) = (roots)) ∧ (True ∧ True ∧ True) ∧ ((o) = (cntL (kidsL d) d.length)) ∧ ((m) = (x.m)) ∧ ((o1) = (cntL fl d.length)) ∧ ((o2) = (cntL roots d.length)) ∧ ((([] : List FindT) = [])) ∧ True)) ∧ (∀ x : XCk d roots, (True → (brS (decide ((↑x.i : Int) < (↑d.length : Int))) (((0 ≤ (↑x.i : Int)) ∧ ((↑x.i : Int) < (↑d.length : Int)) ∧ (brS ((eS d (↑x.i : Int).toNat).alloc) ((∃ x1 : XCj d roots P4, ((((↑x.i : Int)) = ((↑x1.i : Int))) ∧ (True ∧ True ∧ True ∧ True ∧ True ∧ True ∧ True ∧ ((Value.int IntKind.i64 ((↑x.i : Int))) = (Value.int IntKind.i64 ((↑x1.i : Int)))) ∧ ((Value.int IntKind.u32 (IntKind.u32.wrap (IntKind.i64.wrap ((↑x.i : Int) + 1)))) = (Value.int IntKind.u32 (IntKind.u32.wrap (IntKind.i64.wrap ((↑x.i : Int) + 1))))) ∧ True ∧
    ((Value.int IntKind.i64 0) = (Value.int IntKind.i64 (x1.c))) ∧ True) ∧ ((d) = (d)) ∧ ((fl) = (fl)) ∧ ((roots) = (roots)) ∧ (True ∧ True ∧ True) ∧ ((cntL (kidsL d) d.length) = (cntL (kidsL d) d.length)) ∧ ((x.m) = (x1.m)) ∧ ((cntL fl d.length) = (cntL fl d.length)) ∧ ((cntL roots d.length) = (cntL roots d.length)) ∧ ((([] : List FindT) = [])) ∧ (((Value.bool ((eS d (↑x.i : Int).toNat).alloc)) = (Value.bool ((eS d x1.i).alloc))) ∧ ((Value.int IntKind.i64 ((eS d (↑x.i : Int).toNat).count)) = (Value.int IntKind.i64 ((eS d x1.i).count))) ∧ ((Value.int IntKind.u32 ((eS d (↑x.i : Int).toNat).gen)) = (Value.int IntKind.u32 ((eS d x1.i).gen))) ∧ ((Value.int IntKind.i64 ((eS d (↑x.i : Int).toNat).node.key)) = (Value.int IntKind.i64 ((eS d x1.i).node.key))) ∧ ((Value.int IntKind.i64 ((eS d (↑x.i : Int).toNat).node.value)) = (Value.int IntKind.i64 ((eS d x1.i).node.value))) ∧ ((Value.int IntKind.u32 ((eS d (↑x.i : Int).toNat).node.left)) = (Value.int IntKind.u32 ((eS d x1.i).node.left))) ∧ ((Value.int IntKind.u32 ((eS d (↑x.i : Int).toNat).node.right)) = (Value.int IntKind.u32 ((eS d x1.i).node.right))) ∧ ((Value.int IntKind.i64 ((eS d (↑x.i : Int).toNat).node.size)) = (Value.int IntKind.i64 ((eS d x1.i).node.size))) ∧ ((Value.int IntKind.i64 ((eS d (↑x.i : Int).toNat).node.sum)) = (Value.int IntKind.i64 ((eS d x1.i).node.sum))) ∧ ((Value.int IntKind.i64 ((eS d (↑x.i : Int).toNat).node.min)) = (Value.int IntKind.i64 ((eS d x1.i).node.min))) ∧
    ((Value.int IntKind.i64 ((eS d (↑x.i : Int).toNat).node.max)) = (Value.int IntKind.i64 ((eS d x1.i).node.max))) ∧ True) ∧ True))) ((∃ x1 : XCj d roots P4, ((((↑x.i : Int)) = ((↑x1.i : Int))) ∧ (True ∧ True ∧ True ∧ True ∧ True ∧ True ∧ True ∧ ((Value.int IntKind.i64 ((↑x.i : Int))) = (Value.int IntKind.i64 ((↑x1.i : Int)))) ∧ ((Value.int IntKind.u32 (IntKind.u32.wrap (IntKind.i64.wrap ((↑x.i : Int) + 1)))) = (Value.int IntKind.u32 (IntKind.u32.wrap (IntKind.i64.wrap ((↑x.i : Int) + 1))))) ∧ True ∧ ((Value.int IntKind.i64 1) = (Value.int IntKind.i64 (x1.c))) ∧ True) ∧ ((d) = (d)) ∧ ((fl) = (fl)) ∧ ((roots) = (roots)) ∧ (True ∧ True ∧ True) ∧ ((cntL (kidsL d) d.length) = (cntL (kidsL d) d.length)) ∧ ((x.m) = (x1.m)) ∧ ((cntL fl d.length) = (cntL fl d.length)) ∧ ((cntL roots d.length) = (cntL roots d.length)) ∧ ((([] : List FindT) = [])) ∧ (((Value.bool ((eS d (↑x.i : Int).toNat).alloc)) = (Value.bool ((eS d x1.i).alloc))) ∧ ((Value.int IntKind.i64 ((eS d (↑x.i : Int).toNat).count)) = (Value.int IntKind.i64 ((eS d x1.i).count))) ∧ ((Value.int IntKind.u32 ((eS d (↑x.i : Int).toNat).gen)) = (Value.int IntKind.u32 ((eS d x1.i).gen))) ∧ ((Value.int IntKind.i64 ((eS d (↑x.i : Int).toNat).node.key)) = (Value.int IntKind.i64 ((eS d x1.i).node.key))) ∧ ((Value.int IntKind.i64 ((eS d (↑x.i : Int).toNat).node.value)) = (Value.int IntKind.i64 ((eS d x1.i).node.value))) ∧ ((Value.int IntKind.u32 ((eS d (↑x.i : Int).toNat).node.left)) = (Value.int IntKind.u32 ((eS d x1.i).node.left))) ∧
    ((Value.int IntKind.u32 ((eS d (↑x.i : Int).toNat).node.right)) = (Value.int IntKind.u32 ((eS d x1.i).node.right))) ∧ ((Value.int IntKind.i64 ((eS d (↑x.i : Int).toNat).node.size)) = (Value.int IntKind.i64 ((eS d x1.i).node.size))) ∧ ((Value.int IntKind.i64 ((eS d (↑x.i : Int).toNat).node.sum)) = (Value.int IntKind.i64 ((eS d x1.i).node.sum))) ∧ ((Value.int IntKind.i64 ((eS d (↑x.i : Int).toNat).node.min)) = (Value.int IntKind.i64 ((eS d x1.i).node.min))) ∧ ((Value.int IntKind.i64 ((eS d (↑x.i : Int).toNat).node.max)) = (Value.int IntKind.i64 ((eS d x1.i).node.max))) ∧ True) ∧ True)))) ∧ (∀ x1 : XCj d roots P4, ((((↑x.i : Int)) = ((↑x1.i : Int))) → ((0 ≤ (↑x1.i : Int)) ∧ ((↑x1.i : Int) < (↑(cntL fl d.length).length : Int)) ∧ (∃ x2 : XCj d roots P0, ((((↑x1.i : Int)) = ((↑x2.i : Int))) ∧ (True ∧ True ∧ True ∧ True ∧ True ∧ True ∧ True ∧ ((Value.int IntKind.i64 ((↑x1.i : Int))) = (Value.int IntKind.i64 ((↑x2.i : Int)))) ∧ ((Value.int IntKind.u32 (IntKind.u32.wrap (IntKind.i64.wrap ((↑x.i : Int) + 1)))) = (Value.int IntKind.u32 (IntKind.u32.wrap (IntKind.i64.wrap ((↑x.i : Int) + 1))))) ∧ True ∧ ((Value.int IntKind.i64 (x1.c)) = (Value.int IntKind.i64 (x1.c))) ∧ ((Value.int IntKind.i64 ((cntL fl d.length).getD (↑x1.i : Int).toNat 0)) = (Value.int IntKind.i64 ((cntL fl d.length).getD (↑x1.i : Int).toNat 0))) ∧ ((Value.bool ((cntL fl d.length).getD (↑x1.i : Int).toNat 0 != x1.c)) = (Value.bool false)) ∧ True) ∧ ((d) = (d)) ∧ ((fl) = (fl)) ∧ ((roots) = (roots)) ∧ (True ∧ True ∧
    True) ∧ ((cntL (kidsL d) d.length) = (cntL (kidsL d) d.length)) ∧ ((x1.m) = (x2.m)) ∧ ((cntL fl d.length) = (cntL fl d.length)) ∧ ((cntL roots d.length) = (cntL roots d.length)) ∧ ((([] : List FindT) = [])) ∧ (((Value.bool ((eS d x1.i).alloc)) = (Value.bool ((eS d x2.i).alloc))) ∧ ((Value.int IntKind.i64 ((eS d x1.i).count)) = (Value.int IntKind.i64 ((eS d x2.i).count))) ∧ ((Value.int IntKind.u32 ((eS d x1.i).gen)) = (Value.int IntKind.u32 ((eS d x2.i).gen))) ∧ ((Value.int IntKind.i64 ((eS d x1.i).node.key)) = (Value.int IntKind.i64 ((eS d x2.i).node.key))) ∧ ((Value.int IntKind.i64 ((eS d x1.i).node.value)) = (Value.int IntKind.i64 ((eS d x2.i).node.value))) ∧ ((Value.int IntKind.u32 ((eS d x1.i).node.left)) = (Value.int IntKind.u32 ((eS d x2.i).node.left))) ∧ ((Value.int IntKind.u32 ((eS d x1.i).node.right)) = (Value.int IntKind.u32 ((eS d x2.i).node.right))) ∧ ((Value.int IntKind.i64 ((eS d x1.i).node.size)) = (Value.int IntKind.i64 ((eS d x2.i).node.size))) ∧ ((Value.int IntKind.i64 ((eS d x1.i).node.sum)) = (Value.int IntKind.i64 ((eS d x2.i).node.sum))) ∧ ((Value.int IntKind.i64 ((eS d x1.i).node.min)) = (Value.int IntKind.i64 ((eS d x2.i).node.min))) ∧ ((Value.int IntKind.i64 ((eS d x1.i).node.max)) = (Value.int IntKind.i64 ((eS d x2.i).node.max))) ∧ True) ∧ True)) ∧ (∀ x2 : XCj d roots P0, ((((↑x1.i : Int)) = ((↑x2.i : Int))) → ((brS ((eS d x2.i).alloc) (((((0 : Int) ≤ 0) ∧ (0 < ((2 : Nat) : Int)) ∧ (inU (eS d x2.i).node.left) ∧ (d.length ≤ 1000000) ∧
    (brS (alcD d (eS d x2.i).node.left) ((((0 : Int) ≤ 0) ∧ (0 < ((2 : Nat) : Int)) ∧ (0 ≤ IntKind.u32.wrap ((eS d x2.i).node.left - 1)) ∧ (IntKind.u32.wrap ((eS d x2.i).node.left - 1) < (↑d.length : Int)) ∧ (0 ≤ IntKind.i64.wrap (0 + 1)) ∧ (IntKind.i64.wrap (0 + 1) < ((2 : Nat) : Int)) ∧ (inU (eS d x2.i).node.right) ∧ (d.length ≤ 1000000) ∧ (brS (alcD d (eS d x2.i).node.right) (((0 ≤ IntKind.i64.wrap (0 + 1)) ∧ (IntKind.i64.wrap (0 + 1) < ((2 : Nat) : Int)) ∧ (0 ≤ IntKind.u32.wrap ((eS d x2.i).node.right - 1)) ∧ (IntKind.u32.wrap ((eS d x2.i).node.right - 1) < (↑d.length : Int)) ∧ (∃ x3 : XCj d roots P1, ((((↑x2.i : Int)) = ((↑x3.i : Int))) ∧ (True ∧ True ∧ True ∧ True ∧ True ∧ True ∧ True ∧ ((Value.int IntKind.i64 ((↑x2.i : Int))) = (Value.int IntKind.i64 ((↑x3.i : Int)))) ∧ ((Value.int IntKind.u32 (IntKind.u32.wrap (IntKind.i64.wrap ((↑x.i : Int) + 1)))) = (Value.int IntKind.u32 (IntKind.u32.wrap (IntKind.i64.wrap ((↑x.i : Int) + 1))))) ∧ True ∧ ((Value.int IntKind.i64 (IntKind.i64.wrap (IntKind.i64.wrap (1 + (eS d (IntKind.u32.wrap ((eS d x2.i).node.left - 1)).toNat).node.size) + (eS d (IntKind.u32.wrap ((eS d x2.i).node.right - 1)).toNat).node.size))) = (Value.int IntKind.i64 (x3.c))) ∧ True) ∧ ((d) = (d)) ∧ ((fl) = (fl)) ∧ ((roots) = (roots)) ∧ (True ∧ True ∧ True) ∧ ((cntL (kidsL d) d.length) = (cntL (kidsL d) d.length)) ∧ ((x2.m) = (x3.m)) ∧ ((cntL fl d.length) = (cntL fl d.length)) ∧ ((cntL roots d.length) = (cntL roots d.length)) ∧ ((([] : List FindT) = [])) ∧
    (((Value.bool ((eS d x2.i).alloc)) = (Value.bool ((eS d x3.i).alloc))) ∧ ((Value.int IntKind.i64 ((eS d x2.i).count)) = (Value.int IntKind.i64 ((eS d x3.i).count))) ∧ ((Value.int IntKind.u32 ((eS d x2.i).gen)) = (Value.int IntKind.u32 ((eS d x3.i).gen))) ∧ ((Value.int IntKind.i64 ((eS d x2.i).node.key)) = (Value.int IntKind.i64 ((eS d x3.i).node.key))) ∧ ((Value.int IntKind.i64 ((eS d x2.i).node.value)) = (Value.int IntKind.i64 ((eS d x3.i).node.value))) ∧ ((Value.int IntKind.u32 ((eS d x2.i).node.left)) = (Value.int IntKind.u32 ((eS d x3.i).node.left))) ∧ ((Value.int IntKind.u32 ((eS d x2.i).node.right)) = (Value.int IntKind.u32 ((eS d x3.i).node.right))) ∧ ((Value.int IntKind.i64 ((eS d x2.i).node.size)) = (Value.int IntKind.i64 ((eS d x3.i).node.size))) ∧ ((Value.int IntKind.i64 ((eS d x2.i).node.sum)) = (Value.int IntKind.i64 ((eS d x3.i).node.sum))) ∧ ((Value.int IntKind.i64 ((eS d x2.i).node.min)) = (Value.int IntKind.i64 ((eS d x3.i).node.min))) ∧ ((Value.int IntKind.i64 ((eS d x2.i).node.max)) = (Value.int IntKind.i64 ((eS d x3.i).node.max))) ∧ True) ∧ True)))) (((0 ≤ IntKind.i64.wrap (0 + 1)) ∧ (IntKind.i64.wrap (0 + 1) < ((2 : Nat) : Int)) ∧ (brS ((eS d x2.i).node.right != 0) (((0 ≤ IntKind.i64.wrap (0 + 1)) ∧ (IntKind.i64.wrap (0 + 1) < ((2 : Nat) : Int)) ∧
    ((([] : List Ent).length + [{ kind := 2, slot := IntKind.u32.wrap (IntKind.i64.wrap ((↑x.i : Int) + 1)), want := 0, have_ := IntKind.i64.wrap (eS d x2.i).node.right : FindT }].length) * bytesOf C0 EC.find ≤ 140737488355328) ∧ (∃ x3 : XCj d roots P1, ((((↑x2.i : Int)) = ((↑x3.i : Int))) ∧ (True ∧ True ∧ True ∧ True ∧ True ∧ True ∧ True ∧ ((Value.int IntKind.i64 ((↑x2.i : Int))) = (Value.int IntKind.i64 ((↑x3.i : Int)))) ∧ ((Value.int IntKind.u32 (IntKind.u32.wrap (IntKind.i64.wrap ((↑x.i : Int) + 1)))) = (Value.int IntKind.u32 (IntKind.u32.wrap (IntKind.i64.wrap ((↑x.i : Int) + 1))))) ∧ True ∧ ((Value.int IntKind.i64 (IntKind.i64.wrap (1 + (eS d (IntKind.u32.wrap ((eS d x2.i).node.left - 1)).toNat).node.size))) = (Value.int IntKind.i64 (x3.c))) ∧ True) ∧ ((d) = (d)) ∧ ((fl) = (fl)) ∧ ((roots) = (roots)) ∧ (True ∧ True ∧ True) ∧ ((cntL (kidsL d) d.length) = (cntL (kidsL d) d.length)) ∧ ((x2.m) = (x3.m)) ∧ ((cntL fl d.length) = (cntL fl d.length)) ∧ ((cntL roots d.length) = (cntL roots d.length)) ∧ ([({ kind := 2, slot := IntKind.u32.wrap (IntKind.i64.wrap ((↑x.i : Int) + 1)), want := 0, have_ := IntKind.i64.wrap (eS d x2.i).node.right : FindT })] = []) ∧ (((Value.bool ((eS d x2.i).alloc)) = (Value.bool ((eS d x3.i).alloc))) ∧ ((Value.int IntKind.i64 ((eS d x2.i).count)) = (Value.int IntKind.i64 ((eS d x3.i).count))) ∧ ((Value.int IntKind.u32 ((eS d x2.i).gen)) = (Value.int IntKind.u32 ((eS d x3.i).gen))) ∧
    ((Value.int IntKind.i64 ((eS d x2.i).node.key)) = (Value.int IntKind.i64 ((eS d x3.i).node.key))) ∧ ((Value.int IntKind.i64 ((eS d x2.i).node.value)) = (Value.int IntKind.i64 ((eS d x3.i).node.value))) ∧ ((Value.int IntKind.u32 ((eS d x2.i).node.left)) = (Value.int IntKind.u32 ((eS d x3.i).node.left))) ∧ ((Value.int IntKind.u32 ((eS d x2.i).node.right)) = (Value.int IntKind.u32 ((eS d x3.i).node.right))) ∧ ((Value.int IntKind.i64 ((eS d x2.i).node.size)) = (Value.int IntKind.i64 ((eS d x3.i).node.size))) ∧ ((Value.int IntKind.i64 ((eS d x2.i).node.sum)) = (Value.int IntKind.i64 ((eS d x3.i).node.sum))) ∧ ((Value.int IntKind.i64 ((eS d x2.i).node.min)) = (Value.int IntKind.i64 ((eS d x3.i).node.min))) ∧ ((Value.int IntKind.i64 ((eS d x2.i).node.max)) = (Value.int IntKind.i64 ((eS d x3.i).node.max))) ∧ True) ∧ True)))) ((∃ x3 : XCj d roots P1, ((((↑x2.i : Int)) = ((↑x3.i : Int))) ∧ (True ∧ True ∧ True ∧ True ∧ True ∧ True ∧ True ∧ ((Value.int IntKind.i64 ((↑x2.i : Int))) = (Value.int IntKind.i64 ((↑x3.i : Int)))) ∧ ((Value.int IntKind.u32 (IntKind.u32.wrap (IntKind.i64.wrap ((↑x.i : Int) + 1)))) = (Value.int IntKind.u32 (IntKind.u32.wrap (IntKind.i64.wrap ((↑x.i : Int) + 1))))) ∧ True ∧ ((Value.int IntKind.i64 (IntKind.i64.wrap (1 + (eS d (IntKind.u32.wrap ((eS d x2.i).node.left - 1)).toNat).node.size))) = (Value.int IntKind.i64 (x3.c))) ∧ True) ∧ ((d) = (d)) ∧ ((fl) = (fl)) ∧ ((roots) = (roots)) ∧ (True ∧ True ∧ True) ∧ ((cntL (kidsL d) d.length) = (cntL (kidsL d) d.length)) ∧
    ((x2.m) = (x3.m)) ∧ ((cntL fl d.length) = (cntL fl d.length)) ∧ ((cntL roots d.length) = (cntL roots d.length)) ∧ ((([] : List FindT) = [])) ∧ (((Value.bool ((eS d x2.i).alloc)) = (Value.bool ((eS d x3.i).alloc))) ∧ ((Value.int IntKind.i64 ((eS d x2.i).count)) = (Value.int IntKind.i64 ((eS d x3.i).count))) ∧ ((Value.int IntKind.u32 ((eS d x2.i).gen)) = (Value.int IntKind.u32 ((eS d x3.i).gen))) ∧ ((Value.int IntKind.i64 ((eS d x2.i).node.key)) = (Value.int IntKind.i64 ((eS d x3.i).node.key))) ∧ ((Value.int IntKind.i64 ((eS d x2.i).node.value)) = (Value.int IntKind.i64 ((eS d x3.i).node.value))) ∧ ((Value.int IntKind.u32 ((eS d x2.i).node.left)) = (Value.int IntKind.u32 ((eS d x3.i).node.left))) ∧ ((Value.int IntKind.u32 ((eS d x2.i).node.right)) = (Value.int IntKind.u32 ((eS d x3.i).node.right))) ∧ ((Value.int IntKind.i64 ((eS d x2.i).node.size)) = (Value.int IntKind.i64 ((eS d x3.i).node.size))) ∧ ((Value.int IntKind.i64 ((eS d x2.i).node.sum)) = (Value.int IntKind.i64 ((eS d x3.i).node.sum))) ∧ ((Value.int IntKind.i64 ((eS d x2.i).node.min)) = (Value.int IntKind.i64 ((eS d x3.i).node.min))) ∧ ((Value.int IntKind.i64 ((eS d x2.i).node.max)) = (Value.int IntKind.i64 ((eS d x3.i).node.max))) ∧ True) ∧ True))))))))) ((((0 : Int) ≤ 0) ∧ (0 < ((2 : Nat) : Int)) ∧ (brS ((eS d x2.i).node.left != 0) ((((0 : Int) ≤ 0) ∧ (0 < ((2 : Nat) : Int)) ∧
    ((([] : List Ent).length + [{ kind := 2, slot := IntKind.u32.wrap (IntKind.i64.wrap ((↑x.i : Int) + 1)), want := 0, have_ := IntKind.i64.wrap (eS d x2.i).node.left : FindT }].length) * bytesOf C0 EC.find ≤ 140737488355328) ∧ (0 ≤ IntKind.i64.wrap (0 + 1)) ∧ (IntKind.i64.wrap (0 + 1) < ((2 : Nat) : Int)) ∧ (inU (eS d x2.i).node.right) ∧ (d.length ≤ 1000000) ∧ (brS (alcD d (eS d x2.i).node.right) (((0 ≤ IntKind.i64.wrap (0 + 1)) ∧ (IntKind.i64.wrap (0 + 1) < ((2 : Nat) : Int)) ∧ (0 ≤ IntKind.u32.wrap ((eS d x2.i).node.right - 1)) ∧ (IntKind.u32.wrap ((eS d x2.i).node.right - 1) < (↑d.length : Int)) ∧ (∃ x3 : XCj d roots P1, ((((↑x2.i : Int)) = ((↑x3.i : Int))) ∧ (True ∧ True ∧ True ∧ True ∧ True ∧ True ∧ True ∧ ((Value.int IntKind.i64 ((↑x2.i : Int))) = (Value.int IntKind.i64 ((↑x3.i : Int)))) ∧ ((Value.int IntKind.u32 (IntKind.u32.wrap (IntKind.i64.wrap ((↑x.i : Int) + 1)))) = (Value.int IntKind.u32 (IntKind.u32.wrap (IntKind.i64.wrap ((↑x.i : Int) + 1))))) ∧ True ∧ ((Value.int IntKind.i64 (IntKind.i64.wrap (1 + (eS d (IntKind.u32.wrap ((eS d x2.i).node.right - 1)).toNat).node.size))) = (Value.int IntKind.i64 (x3.c))) ∧ True) ∧ ((d) = (d)) ∧ ((fl) = (fl)) ∧ ((roots) = (roots)) ∧ (True ∧ True ∧ True) ∧ ((cntL (kidsL d) d.length) = (cntL (kidsL d) d.length)) ∧ ((x2.m) = (x3.m)) ∧ ((cntL fl d.length) = (cntL fl d.length)) ∧ ((cntL roots d.length) = (cntL roots d.length)) ∧
    ([({ kind := 2, slot := IntKind.u32.wrap (IntKind.i64.wrap ((↑x.i : Int) + 1)), want := 0, have_ := IntKind.i64.wrap (eS d x2.i).node.left : FindT })] = []) ∧ (((Value.bool ((eS d x2.i).alloc)) = (Value.bool ((eS d x3.i).alloc))) ∧ ((Value.int IntKind.i64 ((eS d x2.i).count)) = (Value.int IntKind.i64 ((eS d x3.i).count))) ∧ ((Value.int IntKind.u32 ((eS d x2.i).gen)) = (Value.int IntKind.u32 ((eS d x3.i).gen))) ∧ ((Value.int IntKind.i64 ((eS d x2.i).node.key)) = (Value.int IntKind.i64 ((eS d x3.i).node.key))) ∧ ((Value.int IntKind.i64 ((eS d x2.i).node.value)) = (Value.int IntKind.i64 ((eS d x3.i).node.value))) ∧ ((Value.int IntKind.u32 ((eS d x2.i).node.left)) = (Value.int IntKind.u32 ((eS d x3.i).node.left))) ∧ ((Value.int IntKind.u32 ((eS d x2.i).node.right)) = (Value.int IntKind.u32 ((eS d x3.i).node.right))) ∧ ((Value.int IntKind.i64 ((eS d x2.i).node.size)) = (Value.int IntKind.i64 ((eS d x3.i).node.size))) ∧ ((Value.int IntKind.i64 ((eS d x2.i).node.sum)) = (Value.int IntKind.i64 ((eS d x3.i).node.sum))) ∧ ((Value.int IntKind.i64 ((eS d x2.i).node.min)) = (Value.int IntKind.i64 ((eS d x3.i).node.min))) ∧ ((Value.int IntKind.i64 ((eS d x2.i).node.max)) = (Value.int IntKind.i64 ((eS d x3.i).node.max))) ∧ True) ∧ True)))) (((0 ≤ IntKind.i64.wrap (0 + 1)) ∧ (IntKind.i64.wrap (0 + 1) < ((2 : Nat) : Int)) ∧ (brS ((eS d x2.i).node.right != 0) (((0 ≤ IntKind.i64.wrap (0 + 1)) ∧ (IntKind.i64.wrap (0 + 1) < ((2 : Nat) : Int)) ∧
    (([{ kind := 2, slot := IntKind.u32.wrap (IntKind.i64.wrap ((↑x.i : Int) + 1)), want := 0, have_ := IntKind.i64.wrap (eS d x2.i).node.left : FindT }].length + [{ kind := 2, slot := IntKind.u32.wrap (IntKind.i64.wrap ((↑x.i : Int) + 1)), want := 0, have_ := IntKind.i64.wrap (eS d x2.i).node.right : FindT }].length) * bytesOf C0 EC.find ≤ 140737488355328) ∧ (∃ x3 : XCj d roots P1, ((((↑x2.i : Int)) = ((↑x3.i : Int))) ∧ (True ∧ True ∧ True ∧ True ∧ True ∧ True ∧ True ∧ ((Value.int IntKind.i64 ((↑x2.i : Int))) = (Value.int IntKind.i64 ((↑x3.i : Int)))) ∧ ((Value.int IntKind.u32 (IntKind.u32.wrap (IntKind.i64.wrap ((↑x.i : Int) + 1)))) = (Value.int IntKind.u32 (IntKind.u32.wrap (IntKind.i64.wrap ((↑x.i : Int) + 1))))) ∧ True ∧ ((Value.int IntKind.i64 1) = (Value.int IntKind.i64 (x3.c))) ∧ True) ∧ ((d) = (d)) ∧ ((fl) = (fl)) ∧ ((roots) = (roots)) ∧ (True ∧ True ∧ True) ∧ ((cntL (kidsL d) d.length) = (cntL (kidsL d) d.length)) ∧ ((x2.m) = (x3.m)) ∧ ((cntL fl d.length) = (cntL fl d.length)) ∧ ((cntL roots d.length) = (cntL roots d.length)) ∧ ([({ kind := 2, slot := IntKind.u32.wrap (IntKind.i64.wrap ((↑x.i : Int) + 1)), want := 0, have_ := IntKind.i64.wrap (eS d x2.i).node.left : FindT }), ({ kind := 2, slot := IntKind.u32.wrap (IntKind.i64.wrap ((↑x.i : Int) + 1)), want := 0, have_ := IntKind.i64.wrap (eS d x2.i).node.right : FindT })] = []) ∧ (((Value.bool ((eS d x2.i).alloc)) = (Value.bool ((eS d x3.i).alloc))) ∧
    ((Value.int IntKind.i64 ((eS d x2.i).count)) = (Value.int IntKind.i64 ((eS d x3.i).count))) ∧ ((Value.int IntKind.u32 ((eS d x2.i).gen)) = (Value.int IntKind.u32 ((eS d x3.i).gen))) ∧ ((Value.int IntKind.i64 ((eS d x2.i).node.key)) = (Value.int IntKind.i64 ((eS d x3.i).node.key))) ∧ ((Value.int IntKind.i64 ((eS d x2.i).node.value)) = (Value.int IntKind.i64 ((eS d x3.i).node.value))) ∧ ((Value.int IntKind.u32 ((eS d x2.i).node.left)) = (Value.int IntKind.u32 ((eS d x3.i).node.left))) ∧ ((Value.int IntKind.u32 ((eS d x2.i).node.right)) = (Value.int IntKind.u32 ((eS d x3.i).node.right))) ∧ ((Value.int IntKind.i64 ((eS d x2.i).node.size)) = (Value.int IntKind.i64 ((eS d x3.i).node.size))) ∧ ((Value.int IntKind.i64 ((eS d x2.i).node.sum)) = (Value.int IntKind.i64 ((eS d x3.i).node.sum))) ∧ ((Value.int IntKind.i64 ((eS d x2.i).node.min)) = (Value.int IntKind.i64 ((eS d x3.i).node.min))) ∧ ((Value.int IntKind.i64 ((eS d x2.i).node.max)) = (Value.int IntKind.i64 ((eS d x3.i).node.max))) ∧ True) ∧ True)))) ((∃ x3 : XCj d roots P1, ((((↑x2.i : Int)) = ((↑x3.i : Int))) ∧ (True ∧ True ∧ True ∧ True ∧ True ∧ True ∧ True ∧ ((Value.int IntKind.i64 ((↑x2.i : Int))) = (Value.int IntKind.i64 ((↑x3.i : Int)))) ∧ ((Value.int IntKind.u32 (IntKind.u32.wrap (IntKind.i64.wrap ((↑x.i : Int) + 1)))) = (Value.int IntKind.u32 (IntKind.u32.wrap (IntKind.i64.wrap ((↑x.i : Int) + 1))))) ∧ True ∧ ((Value.int IntKind.i64 1) = (Value.int IntKind.i64 (x3.c))) ∧ True) ∧ ((d) = (d)) ∧ ((fl) = (fl)) ∧
    ((roots) = (roots)) ∧ (True ∧ True ∧ True) ∧ ((cntL (kidsL d) d.length) = (cntL (kidsL d) d.length)) ∧ ((x2.m) = (x3.m)) ∧ ((cntL fl d.length) = (cntL fl d.length)) ∧ ((cntL roots d.length) = (cntL roots d.length)) ∧ ([({ kind := 2, slot := IntKind.u32.wrap (IntKind.i64.wrap ((↑x.i : Int) + 1)), want := 0, have_ := IntKind.i64.wrap (eS d x2.i).node.left : FindT })] = []) ∧ (((Value.bool ((eS d x2.i).alloc)) = (Value.bool ((eS d x3.i).alloc))) ∧ ((Value.int IntKind.i64 ((eS d x2.i).count)) = (Value.int IntKind.i64 ((eS d x3.i).count))) ∧ ((Value.int IntKind.u32 ((eS d x2.i).gen)) = (Value.int IntKind.u32 ((eS d x3.i).gen))) ∧ ((Value.int IntKind.i64 ((eS d x2.i).node.key)) = (Value.int IntKind.i64 ((eS d x3.i).node.key))) ∧ ((Value.int IntKind.i64 ((eS d x2.i).node.value)) = (Value.int IntKind.i64 ((eS d x3.i).node.value))) ∧ ((Value.int IntKind.u32 ((eS d x2.i).node.left)) = (Value.int IntKind.u32 ((eS d x3.i).node.left))) ∧ ((Value.int IntKind.u32 ((eS d x2.i).node.right)) = (Value.int IntKind.u32 ((eS d x3.i).node.right))) ∧ ((Value.int IntKind.i64 ((eS d x2.i).node.size)) = (Value.int IntKind.i64 ((eS d x3.i).node.size))) ∧ ((Value.int IntKind.i64 ((eS d x2.i).node.sum)) = (Value.int IntKind.i64 ((eS d x3.i).node.sum))) ∧ ((Value.int IntKind.i64 ((eS d x2.i).node.min)) = (Value.int IntKind.i64 ((eS d x3.i).node.min))) ∧ ((Value.int IntKind.i64 ((eS d x2.i).node.max)) = (Value.int IntKind.i64 ((eS d x3.i).node.max))) ∧ True) ∧ True))))))))) (((0 ≤ IntKind.i64.wrap (0 + 1)) ∧
    (IntKind.i64.wrap (0 + 1) < ((2 : Nat) : Int)) ∧ (inU (eS d x2.i).node.right) ∧ (d.length ≤ 1000000) ∧ (brS (alcD d (eS d x2.i).node.right) (((0 ≤ IntKind.i64.wrap (0 + 1)) ∧ (IntKind.i64.wrap (0 + 1) < ((2 : Nat) : Int)) ∧ (0 ≤ IntKind.u32.wrap ((eS d x2.i).node.right - 1)) ∧ (IntKind.u32.wrap ((eS d x2.i).node.right - 1) < (↑d.length : Int)) ∧ (∃ x3 : XCj d roots P1, ((((↑x2.i : Int)) = ((↑x3.i : Int))) ∧ (True ∧ True ∧ True ∧ True ∧ True ∧ True ∧ True ∧ ((Value.int IntKind.i64 ((↑x2.i : Int))) = (Value.int IntKind.i64 ((↑x3.i : Int)))) ∧ ((Value.int IntKind.u32 (IntKind.u32.wrap (IntKind.i64.wrap ((↑x.i : Int) + 1)))) = (Value.int IntKind.u32 (IntKind.u32.wrap (IntKind.i64.wrap ((↑x.i : Int) + 1))))) ∧ True ∧ ((Value.int IntKind.i64 (IntKind.i64.wrap (1 + (eS d (IntKind.u32.wrap ((eS d x2.i).node.right - 1)).toNat).node.size))) = (Value.int IntKind.i64 (x3.c))) ∧ True) ∧ ((d) = (d)) ∧ ((fl) = (fl)) ∧ ((roots) = (roots)) ∧ (True ∧ True ∧ True) ∧ ((cntL (kidsL d) d.length) = (cntL (kidsL d) d.length)) ∧ ((x2.m) = (x3.m)) ∧ ((cntL fl d.length) = (cntL fl d.length)) ∧ ((cntL roots d.length) = (cntL roots d.length)) ∧ ((([] : List FindT) = [])) ∧ (((Value.bool ((eS d x2.i).alloc)) = (Value.bool ((eS d x3.i).alloc))) ∧ ((Value.int IntKind.i64 ((eS d x2.i).count)) = (Value.int IntKind.i64 ((eS d x3.i).count))) ∧ ((Value.int IntKind.u32 ((eS d x2.i).gen)) = (Value.int IntKind.u32 ((eS d x3.i).gen))) ∧
    ((Value.int IntKind.i64 ((eS d x2.i).node.key)) = (Value.int IntKind.i64 ((eS d x3.i).node.key))) ∧ ((Value.int IntKind.i64 ((eS d x2.i).node.value)) = (Value.int IntKind.i64 ((eS d x3.i).node.value))) ∧ ((Value.int IntKind.u32 ((eS d x2.i).node.left)) = (Value.int IntKind.u32 ((eS d x3.i).node.left))) ∧ ((Value.int IntKind.u32 ((eS d x2.i).node.right)) = (Value.int IntKind.u32 ((eS d x3.i).node.right))) ∧ ((Value.int IntKind.i64 ((eS d x2.i).node.size)) = (Value.int IntKind.i64 ((eS d x3.i).node.size))) ∧ ((Value.int IntKind.i64 ((eS d x2.i).node.sum)) = (Value.int IntKind.i64 ((eS d x3.i).node.sum))) ∧ ((Value.int IntKind.i64 ((eS d x2.i).node.min)) = (Value.int IntKind.i64 ((eS d x3.i).node.min))) ∧ ((Value.int IntKind.i64 ((eS d x2.i).node.max)) = (Value.int IntKind.i64 ((eS d x3.i).node.max))) ∧ True) ∧ True)))) (((0 ≤ IntKind.i64.wrap (0 + 1)) ∧ (IntKind.i64.wrap (0 + 1) < ((2 : Nat) : Int)) ∧ (brS ((eS d x2.i).node.right != 0) (((0 ≤ IntKind.i64.wrap (0 + 1)) ∧ (IntKind.i64.wrap (0 + 1) < ((2 : Nat) : Int)) ∧ ((([] : List Ent).length + [{ kind := 2, slot := IntKind.u32.wrap (IntKind.i64.wrap ((↑x.i : Int) + 1)), want := 0, have_ := IntKind.i64.wrap (eS d x2.i).node.right : FindT }].length) * bytesOf C0 EC.find ≤ 140737488355328) ∧ (∃ x3 : XCj d roots P1, ((((↑x2.i : Int)) = ((↑x3.i : Int))) ∧ (True ∧ True ∧ True ∧ True ∧ True ∧ True ∧ True ∧ ((Value.int IntKind.i64 ((↑x2.i : Int))) = (Value.int IntKind.i64 ((↑x3.i : Int)))) ∧
    ((Value.int IntKind.u32 (IntKind.u32.wrap (IntKind.i64.wrap ((↑x.i : Int) + 1)))) = (Value.int IntKind.u32 (IntKind.u32.wrap (IntKind.i64.wrap ((↑x.i : Int) + 1))))) ∧ True ∧ ((Value.int IntKind.i64 1) = (Value.int IntKind.i64 (x3.c))) ∧ True) ∧ ((d) = (d)) ∧ ((fl) = (fl)) ∧ ((roots) = (roots)) ∧ (True ∧ True ∧ True) ∧ ((cntL (kidsL d) d.length) = (cntL (kidsL d) d.length)) ∧ ((x2.m) = (x3.m)) ∧ ((cntL fl d.length) = (cntL fl d.length)) ∧ ((cntL roots d.length) = (cntL roots d.length)) ∧ ([({ kind := 2, slot := IntKind.u32.wrap (IntKind.i64.wrap ((↑x.i : Int) + 1)), want := 0, have_ := IntKind.i64.wrap (eS d x2.i).node.right : FindT })] = []) ∧ (((Value.bool ((eS d x2.i).alloc)) = (Value.bool ((eS d x3.i).alloc))) ∧ ((Value.int IntKind.i64 ((eS d x2.i).count)) = (Value.int IntKind.i64 ((eS d x3.i).count))) ∧ ((Value.int IntKind.u32 ((eS d x2.i).gen)) = (Value.int IntKind.u32 ((eS d x3.i).gen))) ∧ ((Value.int IntKind.i64 ((eS d x2.i).node.key)) = (Value.int IntKind.i64 ((eS d x3.i).node.key))) ∧ ((Value.int IntKind.i64 ((eS d x2.i).node.value)) = (Value.int IntKind.i64 ((eS d x3.i).node.value))) ∧ ((Value.int IntKind.u32 ((eS d x2.i).node.left)) = (Value.int IntKind.u32 ((eS d x3.i).node.left))) ∧ ((Value.int IntKind.u32 ((eS d x2.i).node.right)) = (Value.int IntKind.u32 ((eS d x3.i).node.right))) ∧ ((Value.int IntKind.i64 ((eS d x2.i).node.size)) = (Value.int IntKind.i64 ((eS d x3.i).node.size))) ∧
    ((Value.int IntKind.i64 ((eS d x2.i).node.sum)) = (Value.int IntKind.i64 ((eS d x3.i).node.sum))) ∧ ((Value.int IntKind.i64 ((eS d x2.i).node.min)) = (Value.int IntKind.i64 ((eS d x3.i).node.min))) ∧ ((Value.int IntKind.i64 ((eS d x2.i).node.max)) = (Value.int IntKind.i64 ((eS d x3.i).node.max))) ∧ True) ∧ True)))) ((∃ x3 : XCj d roots P1, ((((↑x2.i : Int)) = ((↑x3.i : Int))) ∧ (True ∧ True ∧ True ∧ True ∧ True ∧ True ∧ True ∧ ((Value.int IntKind.i64 ((↑x2.i : Int))) = (Value.int IntKind.i64 ((↑x3.i : Int)))) ∧ ((Value.int IntKind.u32 (IntKind.u32.wrap (IntKind.i64.wrap ((↑x.i : Int) + 1)))) = (Value.int IntKind.u32 (IntKind.u32.wrap (IntKind.i64.wrap ((↑x.i : Int) + 1))))) ∧ True ∧ ((Value.int IntKind.i64 1) = (Value.int IntKind.i64 (x3.c))) ∧ True) ∧ ((d) = (d)) ∧ ((fl) = (fl)) ∧ ((roots) = (roots)) ∧ (True ∧ True ∧ True) ∧ ((cntL (kidsL d) d.length) = (cntL (kidsL d) d.length)) ∧ ((x2.m) = (x3.m)) ∧ ((cntL fl d.length) = (cntL fl d.length)) ∧ ((cntL roots d.length) = (cntL roots d.length)) ∧ ((([] : List FindT) = [])) ∧ (((Value.bool ((eS d x2.i).alloc)) = (Value.bool ((eS d x3.i).alloc))) ∧ ((Value.int IntKind.i64 ((eS d x2.i).count)) = (Value.int IntKind.i64 ((eS d x3.i).count))) ∧ ((Value.int IntKind.u32 ((eS d x2.i).gen)) = (Value.int IntKind.u32 ((eS d x3.i).gen))) ∧ ((Value.int IntKind.i64 ((eS d x2.i).node.key)) = (Value.int IntKind.i64 ((eS d x3.i).node.key))) ∧ ((Value.int IntKind.i64 ((eS d x2.i).node.value)) = (Value.int IntKind.i64 ((eS d x3.i).node.value))) ∧
    ((Value.int IntKind.u32 ((eS d x2.i).node.left)) = (Value.int IntKind.u32 ((eS d x3.i).node.left))) ∧ ((Value.int IntKind.u32 ((eS d x2.i).node.right)) = (Value.int IntKind.u32 ((eS d x3.i).node.right))) ∧ ((Value.int IntKind.i64 ((eS d x2.i).node.size)) = (Value.int IntKind.i64 ((eS d x3.i).node.size))) ∧ ((Value.int IntKind.i64 ((eS d x2.i).node.sum)) = (Value.int IntKind.i64 ((eS d x3.i).node.sum))) ∧ ((Value.int IntKind.i64 ((eS d x2.i).node.min)) = (Value.int IntKind.i64 ((eS d x3.i).node.min))) ∧ ((Value.int IntKind.i64 ((eS d x2.i).node.max)) = (Value.int IntKind.i64 ((eS d x3.i).node.max))) ∧ True) ∧ True)))))))))))))) ∧ (∀ x3 : XCj d roots P1, ((((↑x2.i : Int)) = ((↑x3.i : Int))) → ((∃ x4 : XCj d roots P2, ((((↑x3.i : Int)) = ((↑x4.i : Int))) ∧ (True ∧ True ∧ True ∧ True ∧ True ∧ True ∧ True ∧ ((Value.int IntKind.i64 ((↑x3.i : Int))) = (Value.int IntKind.i64 ((↑x4.i : Int)))) ∧ ((Value.int IntKind.u32 (IntKind.u32.wrap (IntKind.i64.wrap ((↑x.i : Int) + 1)))) = (Value.int IntKind.u32 (IntKind.u32.wrap (IntKind.i64.wrap ((↑x.i : Int) + 1))))) ∧ True ∧ ((Value.int IntKind.i64 (x3.c)) = (Value.int IntKind.i64 (x3.c))) ∧ ((Value.bool (x3.c != (eS d x3.i).node.size)) = (Value.bool false)) ∧ True) ∧ ((d) = (d)) ∧ ((fl) = (fl)) ∧ ((roots) = (roots)) ∧ (True ∧ True ∧ True) ∧ ((cntL (kidsL d) d.length) = (cntL (kidsL d) d.length)) ∧ ((x3.m) = (x4.m)) ∧ ((cntL fl d.length) = (cntL fl d.length)) ∧ ((cntL roots d.length) = (cntL roots d.length)) ∧ ((([] : List FindT) = [])) ∧
    (((Value.bool ((eS d x3.i).alloc)) = (Value.bool ((eS d x4.i).alloc))) ∧ ((Value.int IntKind.i64 ((eS d x3.i).count)) = (Value.int IntKind.i64 ((eS d x4.i).count))) ∧ ((Value.int IntKind.u32 ((eS d x3.i).gen)) = (Value.int IntKind.u32 ((eS d x4.i).gen))) ∧ ((Value.int IntKind.i64 ((eS d x3.i).node.key)) = (Value.int IntKind.i64 ((eS d x4.i).node.key))) ∧ ((Value.int IntKind.i64 ((eS d x3.i).node.value)) = (Value.int IntKind.i64 ((eS d x4.i).node.value))) ∧ ((Value.int IntKind.u32 ((eS d x3.i).node.left)) = (Value.int IntKind.u32 ((eS d x4.i).node.left))) ∧ ((Value.int IntKind.u32 ((eS d x3.i).node.right)) = (Value.int IntKind.u32 ((eS d x4.i).node.right))) ∧ ((Value.int IntKind.i64 ((eS d x3.i).node.size)) = (Value.int IntKind.i64 ((eS d x4.i).node.size))) ∧ ((Value.int IntKind.i64 ((eS d x3.i).node.sum)) = (Value.int IntKind.i64 ((eS d x4.i).node.sum))) ∧ ((Value.int IntKind.i64 ((eS d x3.i).node.min)) = (Value.int IntKind.i64 ((eS d x4.i).node.min))) ∧ ((Value.int IntKind.i64 ((eS d x3.i).node.max)) = (Value.int IntKind.i64 ((eS d x4.i).node.max))) ∧ True) ∧ True)) ∧ (∀ x4 : XCj d roots P2, ((((↑x3.i : Int)) = ((↑x4.i : Int))) → ((0 ≤ (↑x4.i : Int)) ∧ ((↑x4.i : Int) < (↑(cntL (kidsL d) d.length).length : Int)) ∧ (0 ≤ (↑x4.i : Int)) ∧ ((↑x4.i : Int) < (↑(cntL roots d.length).length : Int)) ∧ (∃ x5 : XCj d roots P3, ((((↑x2.i : Int)) = ((↑x5.i : Int))) ∧ (True ∧ True ∧ True ∧ True ∧ True ∧ True ∧ True ∧
    ((Value.int IntKind.i64 ((↑x4.i : Int))) = (Value.int IntKind.i64 ((↑x5.i : Int)))) ∧ ((Value.int IntKind.u32 (IntKind.u32.wrap (IntKind.i64.wrap ((↑x.i : Int) + 1)))) = (Value.int IntKind.u32 (IntKind.u32.wrap (IntKind.i64.wrap ((↑x.i : Int) + 1))))) ∧ True ∧ ((Value.int IntKind.i64 (IntKind.i64.wrap ((cntL (kidsL d) d.length).getD (↑x4.i : Int).toNat 0 + (cntL roots d.length).getD (↑x4.i : Int).toNat 0))) = (Value.int IntKind.i64 (x5.c))) ∧ True) ∧ ((d) = (d)) ∧ ((fl) = (fl)) ∧ ((roots) = (roots)) ∧ (True ∧ True ∧ True) ∧ ((cntL (kidsL d) d.length) = (cntL (kidsL d) d.length)) ∧ ((x4.m) = (x5.m)) ∧ ((cntL fl d.length) = (cntL fl d.length)) ∧ ((cntL roots d.length) = (cntL roots d.length)) ∧ ((([] : List FindT) = [])) ∧ (((Value.bool ((eS d x4.i).alloc)) = (Value.bool ((eS d x5.i).alloc))) ∧ ((Value.int IntKind.i64 ((eS d x4.i).count)) = (Value.int IntKind.i64 ((eS d x5.i).count))) ∧ ((Value.int IntKind.u32 ((eS d x4.i).gen)) = (Value.int IntKind.u32 ((eS d x5.i).gen))) ∧ ((Value.int IntKind.i64 ((eS d x4.i).node.key)) = (Value.int IntKind.i64 ((eS d x5.i).node.key))) ∧ ((Value.int IntKind.i64 ((eS d x4.i).node.value)) = (Value.int IntKind.i64 ((eS d x5.i).node.value))) ∧ ((Value.int IntKind.u32 ((eS d x4.i).node.left)) = (Value.int IntKind.u32 ((eS d x5.i).node.left))) ∧ ((Value.int IntKind.u32 ((eS d x4.i).node.right)) = (Value.int IntKind.u32 ((eS d x5.i).node.right))) ∧ ((Value.int IntKind.i64 ((eS d x4.i).node.size)) = (Value.int IntKind.i64 ((eS d x5.i).node.size))) ∧
    ((Value.int IntKind.i64 ((eS d x4.i).node.sum)) = (Value.int IntKind.i64 ((eS d x5.i).node.sum))) ∧ ((Value.int IntKind.i64 ((eS d x4.i).node.min)) = (Value.int IntKind.i64 ((eS d x5.i).node.min))) ∧ ((Value.int IntKind.i64 ((eS d x4.i).node.max)) = (Value.int IntKind.i64 ((eS d x5.i).node.max))) ∧ True) ∧ True)))))))))) ((∃ x3 : XCj d roots P3, ((((↑x2.i : Int)) = ((↑x3.i : Int))) ∧ (True ∧ True ∧ True ∧ True ∧ True ∧ True ∧ True ∧ ((Value.int IntKind.i64 ((↑x2.i : Int))) = (Value.int IntKind.i64 ((↑x3.i : Int)))) ∧ ((Value.int IntKind.u32 (IntKind.u32.wrap (IntKind.i64.wrap ((↑x.i : Int) + 1)))) = (Value.int IntKind.u32 (IntKind.u32.wrap (IntKind.i64.wrap ((↑x.i : Int) + 1))))) ∧ True ∧ ((Value.int IntKind.i64 0) = (Value.int IntKind.i64 (x3.c))) ∧ True) ∧ ((d) = (d)) ∧ ((fl) = (fl)) ∧ ((roots) = (roots)) ∧ (True ∧ True ∧ True) ∧ ((cntL (kidsL d) d.length) = (cntL (kidsL d) d.length)) ∧ ((x2.m) = (x3.m)) ∧ ((cntL fl d.length) = (cntL fl d.length)) ∧ ((cntL roots d.length) = (cntL roots d.length)) ∧ ((([] : List FindT) = [])) ∧ (((Value.bool ((eS d x2.i).alloc)) = (Value.bool ((eS d x3.i).alloc))) ∧ ((Value.int IntKind.i64 ((eS d x2.i).count)) = (Value.int IntKind.i64 ((eS d x3.i).count))) ∧ ((Value.int IntKind.u32 ((eS d x2.i).gen)) = (Value.int IntKind.u32 ((eS d x3.i).gen))) ∧ ((Value.int IntKind.i64 ((eS d x2.i).node.key)) = (Value.int IntKind.i64 ((eS d x3.i).node.key))) ∧
    ((Value.int IntKind.i64 ((eS d x2.i).node.value)) = (Value.int IntKind.i64 ((eS d x3.i).node.value))) ∧ ((Value.int IntKind.u32 ((eS d x2.i).node.left)) = (Value.int IntKind.u32 ((eS d x3.i).node.left))) ∧ ((Value.int IntKind.u32 ((eS d x2.i).node.right)) = (Value.int IntKind.u32 ((eS d x3.i).node.right))) ∧ ((Value.int IntKind.i64 ((eS d x2.i).node.size)) = (Value.int IntKind.i64 ((eS d x3.i).node.size))) ∧ ((Value.int IntKind.i64 ((eS d x2.i).node.sum)) = (Value.int IntKind.i64 ((eS d x3.i).node.sum))) ∧ ((Value.int IntKind.i64 ((eS d x2.i).node.min)) = (Value.int IntKind.i64 ((eS d x3.i).node.min))) ∧ ((Value.int IntKind.i64 ((eS d x2.i).node.max)) = (Value.int IntKind.i64 ((eS d x3.i).node.max))) ∧ True) ∧ True)))) ∧ (∀ x3 : XCj d roots P3, ((((↑x2.i : Int)) = ((↑x3.i : Int))) → ((∃ x4 : XCj d roots P0, ((((↑x3.i : Int)) = ((↑x4.i : Int))) ∧ (True ∧ True ∧ True ∧ True ∧ True ∧ True ∧ True ∧ ((Value.int IntKind.i64 ((↑x3.i : Int))) = (Value.int IntKind.i64 ((↑x4.i : Int)))) ∧ ((Value.int IntKind.u32 (IntKind.u32.wrap (IntKind.i64.wrap ((↑x.i : Int) + 1)))) = (Value.int IntKind.u32 (IntKind.u32.wrap (IntKind.i64.wrap ((↑x.i : Int) + 1))))) ∧ True ∧ ((Value.int IntKind.i64 (x3.c)) = (Value.int IntKind.i64 (x3.c))) ∧ ((Value.bool (x3.c != (eS d x3.i).count)) = (Value.bool false)) ∧ True) ∧ ((d) = (d)) ∧ ((fl) = (fl)) ∧ ((roots) = (roots)) ∧ (True ∧ True ∧ True) ∧ ((cntL (kidsL d) d.length) = (cntL (kidsL d) d.length)) ∧ ((x3.m) = (x4.m)) ∧
    ((cntL fl d.length) = (cntL fl d.length)) ∧ ((cntL roots d.length) = (cntL roots d.length)) ∧ ((([] : List FindT) = [])) ∧ (((Value.bool ((eS d x3.i).alloc)) = (Value.bool ((eS d x4.i).alloc))) ∧ ((Value.int IntKind.i64 ((eS d x3.i).count)) = (Value.int IntKind.i64 ((eS d x4.i).count))) ∧ ((Value.int IntKind.u32 ((eS d x3.i).gen)) = (Value.int IntKind.u32 ((eS d x4.i).gen))) ∧ ((Value.int IntKind.i64 ((eS d x3.i).node.key)) = (Value.int IntKind.i64 ((eS d x4.i).node.key))) ∧ ((Value.int IntKind.i64 ((eS d x3.i).node.value)) = (Value.int IntKind.i64 ((eS d x4.i).node.value))) ∧ ((Value.int IntKind.u32 ((eS d x3.i).node.left)) = (Value.int IntKind.u32 ((eS d x4.i).node.left))) ∧ ((Value.int IntKind.u32 ((eS d x3.i).node.right)) = (Value.int IntKind.u32 ((eS d x4.i).node.right))) ∧ ((Value.int IntKind.i64 ((eS d x3.i).node.size)) = (Value.int IntKind.i64 ((eS d x4.i).node.size))) ∧ ((Value.int IntKind.i64 ((eS d x3.i).node.sum)) = (Value.int IntKind.i64 ((eS d x4.i).node.sum))) ∧ ((Value.int IntKind.i64 ((eS d x3.i).node.min)) = (Value.int IntKind.i64 ((eS d x4.i).node.min))) ∧ ((Value.int IntKind.i64 ((eS d x3.i).node.max)) = (Value.int IntKind.i64 ((eS d x4.i).node.max))) ∧ True) ∧ True)) ∧ (∀ x4 : XCj d roots P0, ((((↑x3.i : Int)) = ((↑x4.i : Int))) → ((brS ((eS d x4.i).alloc) (((0 ≤ (↑x4.i : Int)) ∧ ((↑x4.i : Int) < (↑x4.m.length : Int)) ∧ (∃ x5 : XCj d roots P0, ((((↑x4.i : Int)) = ((↑x5.i : Int))) ∧ (True ∧ True ∧ True ∧ True ∧ True ∧ True ∧ True ∧
    ((Value.int IntKind.i64 ((↑x4.i : Int))) = (Value.int IntKind.i64 ((↑x5.i : Int)))) ∧ ((Value.int IntKind.u32 (IntKind.u32.wrap (IntKind.i64.wrap ((↑x.i : Int) + 1)))) = (Value.int IntKind.u32 (IntKind.u32.wrap (IntKind.i64.wrap ((↑x.i : Int) + 1))))) ∧ True ∧ ((Value.bool (!x4.m.getD (↑x4.i : Int).toNat false)) = (Value.bool false)) ∧ True) ∧ ((d) = (d)) ∧ ((fl) = (fl)) ∧ ((roots) = (roots)) ∧ (True ∧ True ∧ True) ∧ ((cntL (kidsL d) d.length) = (cntL (kidsL d) d.length)) ∧ ((x4.m) = (x5.m)) ∧ ((cntL fl d.length) = (cntL fl d.length)) ∧ ((cntL roots d.length) = (cntL roots d.length)) ∧ ((([] : List FindT) = [])) ∧ (((Value.bool ((eS d x4.i).alloc)) = (Value.bool ((eS d x5.i).alloc))) ∧ ((Value.int IntKind.i64 ((eS d x4.i).count)) = (Value.int IntKind.i64 ((eS d x5.i).count))) ∧ ((Value.int IntKind.u32 ((eS d x4.i).gen)) = (Value.int IntKind.u32 ((eS d x5.i).gen))) ∧ ((Value.int IntKind.i64 ((eS d x4.i).node.key)) = (Value.int IntKind.i64 ((eS d x5.i).node.key))) ∧ ((Value.int IntKind.i64 ((eS d x4.i).node.value)) = (Value.int IntKind.i64 ((eS d x5.i).node.value))) ∧ ((Value.int IntKind.u32 ((eS d x4.i).node.left)) = (Value.int IntKind.u32 ((eS d x5.i).node.left))) ∧ ((Value.int IntKind.u32 ((eS d x4.i).node.right)) = (Value.int IntKind.u32 ((eS d x5.i).node.right))) ∧ ((Value.int IntKind.i64 ((eS d x4.i).node.size)) = (Value.int IntKind.i64 ((eS d x5.i).node.size))) ∧ ((Value.int IntKind.i64 ((eS d x4.i).node.sum)) = (Value.int IntKind.i64 ((eS d x5.i).node.sum))) ∧
    ((Value.int IntKind.i64 ((eS d x4.i).node.min)) = (Value.int IntKind.i64 ((eS d x5.i).node.min))) ∧ ((Value.int IntKind.i64 ((eS d x4.i).node.max)) = (Value.int IntKind.i64 ((eS d x5.i).node.max))) ∧ True) ∧ True)))) ((∃ x5 : XCj d roots P0, ((((↑x4.i : Int)) = ((↑x5.i : Int))) ∧ (True ∧ True ∧ True ∧ True ∧ True ∧ True ∧ True ∧ ((Value.int IntKind.i64 ((↑x4.i : Int))) = (Value.int IntKind.i64 ((↑x5.i : Int)))) ∧ ((Value.int IntKind.u32 (IntKind.u32.wrap (IntKind.i64.wrap ((↑x.i : Int) + 1)))) = (Value.int IntKind.u32 (IntKind.u32.wrap (IntKind.i64.wrap ((↑x.i : Int) + 1))))) ∧ True ∧ ((Value.bool false) = (Value.bool false)) ∧ True) ∧ ((d) = (d)) ∧ ((fl) = (fl)) ∧ ((roots) = (roots)) ∧ (True ∧ True ∧ True) ∧ ((cntL (kidsL d) d.length) = (cntL (kidsL d) d.length)) ∧ ((x4.m) = (x5.m)) ∧ ((cntL fl d.length) = (cntL fl d.length)) ∧ ((cntL roots d.length) = (cntL roots d.length)) ∧ ((([] : List FindT) = [])) ∧ (((Value.bool ((eS d x4.i).alloc)) = (Value.bool ((eS d x5.i).alloc))) ∧ ((Value.int IntKind.i64 ((eS d x4.i).count)) = (Value.int IntKind.i64 ((eS d x5.i).count))) ∧ ((Value.int IntKind.u32 ((eS d x4.i).gen)) = (Value.int IntKind.u32 ((eS d x5.i).gen))) ∧ ((Value.int IntKind.i64 ((eS d x4.i).node.key)) = (Value.int IntKind.i64 ((eS d x5.i).node.key))) ∧ ((Value.int IntKind.i64 ((eS d x4.i).node.value)) = (Value.int IntKind.i64 ((eS d x5.i).node.value))) ∧ ((Value.int IntKind.u32 ((eS d x4.i).node.left)) = (Value.int IntKind.u32 ((eS d x5.i).node.left))) ∧
    ((Value.int IntKind.u32 ((eS d x4.i).node.right)) = (Value.int IntKind.u32 ((eS d x5.i).node.right))) ∧ ((Value.int IntKind.i64 ((eS d x4.i).node.size)) = (Value.int IntKind.i64 ((eS d x5.i).node.size))) ∧ ((Value.int IntKind.i64 ((eS d x4.i).node.sum)) = (Value.int IntKind.i64 ((eS d x5.i).node.sum))) ∧ ((Value.int IntKind.i64 ((eS d x4.i).node.min)) = (Value.int IntKind.i64 ((eS d x5.i).node.min))) ∧ ((Value.int IntKind.i64 ((eS d x4.i).node.max)) = (Value.int IntKind.i64 ((eS d x5.i).node.max))) ∧ True) ∧ True)))) ∧ (∀ x5 : XCj d roots P0, ((((↑x4.i : Int)) = ((↑x5.i : Int))) → (∃ x' : XCk d roots, (True ∧ ((True ∧ True ∧ True ∧ True ∧ True ∧ True ∧ True ∧ ((Value.int IntKind.i64 (IntKind.i64.wrap ((↑x5.i : Int) + 1))) = (Value.int IntKind.i64 ((↑x'.i : Int)))) ∧ True) ∧ ((d) = (d)) ∧ ((fl) = (fl)) ∧ ((roots) = (roots)) ∧ (True ∧ True ∧ True) ∧ ((cntL (kidsL d) d.length) = (cntL (kidsL d) d.length)) ∧ ((x5.m) = (x'.m)) ∧ ((cntL fl d.length) = (cntL fl d.length)) ∧ ((cntL roots d.length) = (cntL roots d.length)) ∧ ((([] : List FindT) = [])) ∧ True) ∧ (d.length - x'.i < d.length - x.i))))))))))))))))))) (((∃ x1 : XIx fl.length, (True ∧ (True ∧ True ∧ True ∧ ((Value.int IntKind.i64 0) = (Value.int IntKind.i64 ((↑x1.i : Int)))) ∧ True) ∧ ((d) = (d)) ∧ ((fl) = (fl)) ∧ ((roots) = (roots)) ∧ (True ∧ True ∧ True) ∧ ((([] : List FindT) = [])) ∧ True)) ∧ (∀ x1 : XIx fl.length, (True → (brS (decide ((↑x1.i : Int) < (↑fl.length : Int))) ((((0 ≤ (↑x1.i : Int)) ∧
    ((↑x1.i : Int) < (↑fl.length : Int)) ∧ (brS (decide (fl.getD (↑x1.i : Int).toNat 0 < 1)) ((∃ x2 : XIy fl.length, ((((↑x1.i : Int)) = ((↑x2.i : Int))) ∧ (True ∧ True ∧ True ∧ ((Value.int IntKind.i64 ((↑x1.i : Int))) = (Value.int IntKind.i64 ((↑x2.i : Int)))) ∧ ((Value.bool true) = (Value.bool false)) ∧ True) ∧ ((d) = (d)) ∧ ((fl) = (fl)) ∧ ((roots) = (roots)) ∧ (True ∧ True ∧ True) ∧ ((([] : List FindT) = [])) ∧ True))) (((0 ≤ (↑x1.i : Int)) ∧ ((↑x1.i : Int) < (↑fl.length : Int)) ∧ (∃ x2 : XIy fl.length, ((((↑x1.i : Int)) = ((↑x2.i : Int))) ∧ (True ∧ True ∧ True ∧ ((Value.int IntKind.i64 ((↑x1.i : Int))) = (Value.int IntKind.i64 ((↑x2.i : Int)))) ∧ ((Value.bool (decide (IntKind.u64.wrap (fl.getD (↑x1.i : Int).toNat 0) > IntKind.u64.wrap (↑d.length : Int)))) = (Value.bool false)) ∧ True) ∧ ((d) = (d)) ∧ ((fl) = (fl)) ∧ ((roots) = (roots)) ∧ (True ∧ True ∧ True) ∧ ((([] : List FindT) = [])) ∧ True)))))) ∧ (∀ x2 : XIy fl.length, ((((↑x1.i : Int)) = ((↑x2.i : Int))) → (∃ x' : XIx fl.length, (True ∧ ((True ∧ True ∧ True ∧ ((Value.int IntKind.i64 (IntKind.i64.wrap ((↑x2.i : Int) + 1))) = (Value.int IntKind.i64 ((↑x'.i : Int)))) ∧ True) ∧ ((d) = (d)) ∧ ((fl) = (fl)) ∧ ((roots) = (roots)) ∧ (True ∧ True ∧ True) ∧ ((([] : List FindT) = [])) ∧ True) ∧ (fl.length - x'.i < fl.length - x1.i))))))) (((∃ x2 : XIx roots.length, (True ∧ (True ∧ True ∧ True ∧ ((Value.int IntKind.i64 0) = (Value.int IntKind.i64 ((↑x2.i : Int)))) ∧ True) ∧ ((d) = (d)) ∧ ((fl) = (fl)) ∧ ((roots) = (roots)) ∧
    (True ∧ True ∧ True) ∧ ((([] : List FindT) = [])) ∧ True)) ∧ (∀ x2 : XIx roots.length, (True → (brS (decide ((↑x2.i : Int) < (↑roots.length : Int))) ((((0 ≤ (↑x2.i : Int)) ∧ ((↑x2.i : Int) < (↑roots.length : Int)) ∧ (brS (roots.getD (↑x2.i : Int).toNat 0 != 0) (((0 ≤ (↑x2.i : Int)) ∧ ((↑x2.i : Int) < (↑roots.length : Int)) ∧ (inU (roots.getD (↑x2.i : Int).toNat 0)) ∧ (d.length ≤ 1000000) ∧ (∃ x3 : XIy roots.length, ((((↑x2.i : Int)) = ((↑x3.i : Int))) ∧ (True ∧ True ∧ True ∧ ((Value.int IntKind.i64 ((↑x2.i : Int))) = (Value.int IntKind.i64 ((↑x3.i : Int)))) ∧ ((Value.bool (!alcD d (roots.getD (↑x2.i : Int).toNat 0))) = (Value.bool false)) ∧ True) ∧ ((d) = (d)) ∧ ((fl) = (fl)) ∧ ((roots) = (roots)) ∧ (True ∧ True ∧ True) ∧ ((([] : List FindT) = [])) ∧ True)))) ((∃ x3 : XIy roots.length, ((((↑x2.i : Int)) = ((↑x3.i : Int))) ∧ (True ∧ True ∧ True ∧ ((Value.int IntKind.i64 ((↑x2.i : Int))) = (Value.int IntKind.i64 ((↑x3.i : Int)))) ∧ ((Value.bool false) = (Value.bool false)) ∧ True) ∧ ((d) = (d)) ∧ ((fl) = (fl)) ∧ ((roots) = (roots)) ∧ (True ∧ True ∧ True) ∧ ((([] : List FindT) = [])) ∧ True))))) ∧ (∀ x3 : XIy roots.length, ((((↑x2.i : Int)) = ((↑x3.i : Int))) → (∃ x' : XIx roots.length, (True ∧ ((True ∧ True ∧ True ∧ ((Value.int IntKind.i64 (IntKind.i64.wrap ((↑x3.i : Int) + 1))) = (Value.int IntKind.i64 ((↑x'.i : Int)))) ∧ True) ∧ ((d) = (d)) ∧ ((fl) = (fl)) ∧ ((roots) = (roots)) ∧ (True ∧ True ∧ True) ∧ ((([] : List FindT) = [])) ∧ True) ∧
    (roots.length - x'.i < roots.length - x2.i))))))) ((K (SV.one (TV.at (At.slc 3))) [(Chunk.row false (EC.slot) (d)), (Chunk.row false (EC.u32) (fl)), (Chunk.row false (EC.u32) (roots)), (Chunk.row true (EC.find) [])] [])))))))))))))))))))))))))))) = _ by kernel_rfl) ?_
  subst hP0 hP1 hP2 hP3 hP4
  refine ⟨hl, hk, fun o eo => ⟨hl, hr, hk, hru, fun m hm => ⟨by omega, by omega, hf, hfu, fun o1 e1 => ⟨by omega, by omega, hr, hru, fun o2 e2 => ⟨⟨⟨0, m, Nat.zero_le _, hm⟩, ?_⟩, fun x _ => ?_⟩⟩⟩⟩⟩
  · (repeat' first | exact trivial | exact rfl | exact eo | exact e1 | exact e2 | refine And.intro ?_ ?_)
  obtain ⟨i, m, hi, hm⟩ := x
  dsimp only
  refine brS_of (fun c => ?_) fun c => ?_
  · have c : i < d.length := by have := of_decide_eq_true c; omega
    refine ⟨by omega, by omega, brS_of (fun a => ⟨⟨i, m, 0, c, hm, (if_pos a).symm⟩, ?_⟩) fun a => ⟨⟨i, m, 1, c, hm, (if_neg (fun z => by rw [show (eS d i).alloc = false from a] at z; cases z)).symm⟩, ?_⟩, fun x1 e1 => ?_⟩
    · (repeat' first | exact trivial | exact rfl | refine And.intro ?_ ?_)
    · (repeat' first | exact trivial | exact rfl | refine And.intro ?_ ?_)
    obtain ⟨i1, m1, c1, hi1, hm1, p1⟩ := x1
    have e1 : (i : Int) = (i1 : Int) := e1
    have e1 : i = i1 := by omega
    subst e1
    dsimp only
    have b1 : ((cntL fl d.length).getD i 0 != c1) = false := by
      rw [cntL_get fl _ _ c, hc.free i c, show c1 = _ from p1]
      show (((if (eS d i).alloc = true then (0 : Nat) else 1 : Nat) : Int) != if (eS d i).alloc = true then (0 : Int) else 1) = false
      cases (eS d i).alloc <;> rfl
    refine ⟨by omega, by rw [cntL_len]; omega, ⟨⟨i, m1, 0, c, hm1, trivial⟩, ?_⟩, fun x2 e2 => ?_⟩
    · (repeat' first | exact trivial | exact rfl | exact congrArg Value.bool b1 | refine And.intro ?_ ?_)
    obtain ⟨i2, m2, c2, hi2, hm2, p2⟩ := x2
    have e2 : (i : Int) = (i2 : Int) := e2
    have e2 : i = i2 := by omega
    subst e2
    dsimp only
    have hmem : eS d i ∈ d := by unfold eS; rw [List.getD_eq_getElem?_getD, List.getElem?_eq_getElem c]; exact List.getElem_mem c
    obtain ⟨kl, kr⟩ := hk _ hmem
    refine ⟨brS_of (fun a => ⟨?_, fun x3 e3 => ?_⟩) fun a => ⟨⟨i, m2, 0, c, hm2, (if_neg (fun z => by rw [show (eS d i).alloc = false from a] at z; cases z)).symm⟩, ?_⟩, fun x3 e3 => ?_⟩
    · have sl := szD_rng hc (eS d i).node.left
      have sr := szD_rng hc (eS d i).node.right
      have il := hc.left i c a
      have ir := hc.right i c a
      have dl : d.length ≤ 1000000 := by omega
      have w1 : (0 : Int) ≤ IntKind.i64.wrap (0 + 1) := by decide
      have w2 : IntKind.i64.wrap (0 + 1) < ((2 : Nat) : Int) := by decide
      refine ⟨by decide, by decide, kl, dl, brS_of (fun al => ?_) fun al => ?_⟩
      · obtain ⟨q1, q2, q3⟩ := eS_sz hc hl al
        refine ⟨by decide, by decide, q1, q2, w1, w2, kr, dl, brS_of (fun ar => ?_) fun ar => ?_⟩
        · obtain ⟨t1, t2, t3⟩ := eS_sz hc hl ar
          refine ⟨w1, w2, t1, t2, ⟨i, m2, _, c, hm2, a, rfl⟩, ?_⟩
          have v : IntKind.i64.wrap (IntKind.i64.wrap (1 + (eS d (IntKind.u32.wrap ((eS d i).node.left - 1)).toNat).node.size) + (eS d (IntKind.u32.wrap ((eS d i).node.right - 1)).toNat).node.size) = 1 + szD d (eS d i).node.left + szD d (eS d i).node.right := by
            rw [q3, t3, wrap_id (x := 1 + szD d (eS d i).node.left) (by omega) (by omega), wrap_id (by omega) (by omega)]
          (repeat' first | exact trivial | exact rfl | exact congrArg (Value.int IntKind.i64) v | refine And.intro ?_ ?_)
        · have z := szD_no ar
          refine ⟨w1, w2, brS_of (fun f => ?_) fun f => ⟨⟨i, m2, _, c, hm2, a, rfl⟩, ?_⟩⟩
          · exfalso
            rcases ir with e | e
            · rw [show (eS d i).node.right = 0 from e] at f; cases f
            · rw [show alcD d (eS d i).node.right = true from e] at ar; cases ar
          · have v : IntKind.i64.wrap (1 + (eS d (IntKind.u32.wrap ((eS d i).node.left - 1)).toNat).node.size) = 1 + szD d (eS d i).node.left + szD d (eS d i).node.right := by
              rw [q3, z, wrap_id (x := 1 + szD d (eS d i).node.left) (by omega) (by omega)]; omega
            (repeat' first | exact trivial | exact rfl | exact congrArg (Value.int IntKind.i64) v | refine And.intro ?_ ?_)
      · have z1 := szD_no al
        refine ⟨by decide, by decide, brS_of (fun f => ?_) fun f => ⟨w1, w2, kr, dl, brS_of (fun ar => ?_) fun ar => ?_⟩⟩
        · exfalso
          rcases il with e | e
          · rw [show (eS d i).node.left = 0 from e] at f; cases f
          · rw [show alcD d (eS d i).node.left = true from e] at al; cases al
        · obtain ⟨t1, t2, t3⟩ := eS_sz hc hl ar
          refine ⟨w1, w2, t1, t2, ⟨i, m2, _, c, hm2, a, rfl⟩, ?_⟩
          have v : IntKind.i64.wrap (1 + (eS d (IntKind.u32.wrap ((eS d i).node.right - 1)).toNat).node.size) = 1 + szD d (eS d i).node.left + szD d (eS d i).node.right := by
            rw [t3, z1, wrap_id (x := 1 + szD d (eS d i).node.right) (by omega) (by omega)]; omega
          (repeat' first | exact trivial | exact rfl | exact congrArg (Value.int IntKind.i64) v | refine And.intro ?_ ?_)
        · have z := szD_no ar
          refine ⟨w1, w2, brS_of (fun f => ?_) fun f => ⟨⟨i, m2, _, c, hm2, a, rfl⟩, ?_⟩⟩
          · exfalso
            rcases ir with e | e
            · rw [show (eS d i).node.right = 0 from e] at f; cases f
            · rw [show alcD d (eS d i).node.right = true from e] at ar; cases ar
          · have v : 1 = 1 + szD d (eS d i).node.left + szD d (eS d i).node.right := by omega
            (repeat' first | exact trivial | exact rfl | exact congrArg (Value.int IntKind.i64) v | refine And.intro ?_ ?_)
    · obtain ⟨i3, m3, c3, hi3, hm3, a3, p3⟩ := x3
      have e3 : (i : Int) = (i3 : Int) := e3
      have e3 : i = i3 := by omega
      subst e3
      dsimp only
      have b3 : (c3 != (eS d i).node.size) = false := by
        have := hc.size i c a3
        rw [p3, show (eS d i).node.size = _ from this]; simp
      refine ⟨⟨⟨i, m3, 0, c, hm3, a3⟩, ?_⟩, fun x4 e4 => ?_⟩
      · (repeat' first | exact trivial | exact rfl | exact congrArg Value.bool b3 | refine And.intro ?_ ?_)
      obtain ⟨i4, m4, c4, hi4, hm4, p4⟩ := x4
      have e4 : (i : Int) = (i4 : Int) := e4
      have e4 : i = i4 := by omega
      subst e4
      dsimp only
      refine ⟨by omega, by rw [cntL_len]; omega, by omega, by rw [cntL_len]; omega, ⟨i, m4, _, c, hm4, rfl⟩, ?_⟩
      have v : IntKind.i64.wrap ((cntL (kidsL d) d.length).getD i 0 + (cntL roots d.length).getD i 0) = if (eS d i).alloc = true then ((kidsL d).count ((i : Int) + 1) : Int) + (roots.count ((i : Int) + 1) : Int) else 0 := by
        have k1 := cntL_rng (kidsL d) d.length i c
        have k2 := cntL_rng roots d.length i c
        have k3 := kidsL_len d
        rw [wrap_id (by omega) (by omega), cntL_get _ _ _ c, cntL_get _ _ _ c, if_pos a3]
      (repeat' first | exact trivial | exact rfl | exact congrArg (Value.int IntKind.i64) v | refine And.intro ?_ ?_)
    · (repeat' first | exact trivial | exact rfl | refine And.intro ?_ ?_)
    obtain ⟨i3, m3, c3, hi3, hm3, p3⟩ := x3
    have e3 : (i : Int) = (i3 : Int) := e3
    have e3 : i = i3 := by omega
    subst e3
    dsimp only
    have b3 : (c3 != (eS d i).count) = false := by
      have := hc.count i c
      rw [show c3 = _ from p3, show (eS d i).count = _ from this]; simp
    refine ⟨⟨⟨i, m3, 0, c, hm3, trivial⟩, ?_⟩, fun x4 e4 => ?_⟩
    · (repeat' first | exact trivial | exact rfl | exact congrArg Value.bool b3 | refine And.intro ?_ ?_)
    obtain ⟨i4, m4, c4, hi4, hm4, p4⟩ := x4
    have e4 : (i : Int) = (i4 : Int) := e4
    have e4 : i = i4 := by omega
    subst e4
    dsimp only
    refine ⟨brS_of (fun a => ⟨by omega, by rw [hm4.len]; omega, ⟨i, m4, 0, c, hm4, trivial⟩, ?_⟩) fun a => ⟨⟨i, m4, 0, c, hm4, trivial⟩, ?_⟩, fun x5 e5 => ?_⟩
    · have b4 : (!m4.getD i false) = false := by rw [hc.mark m4 hm4 i c a]; rfl
      (repeat' first | exact trivial | exact rfl | exact congrArg Value.bool b4 | refine And.intro ?_ ?_)
    · (repeat' first | exact trivial | exact rfl | refine And.intro ?_ ?_)
    obtain ⟨i5, m5, c5, hi5, hm5, p5⟩ := x5
    have e5 : (i : Int) = (i5 : Int) := e5
    have e5 : i = i5 := by omega
    subst e5
    dsimp only
    refine ⟨⟨i + 1, m5, c, hm5⟩, ?_⟩
    have v : IntKind.i64.wrap ((i : Int) + 1) = ((i + 1 : Nat) : Int) := by rw [wrap_id (by omega) (by omega)]; rfl
    (repeat' first | exact trivial | exact rfl | exact congrArg (Value.int IntKind.i64) v | refine And.intro ?_ ?_)
    show d.length - (i + 1) < d.length - i
    omega
  · refine ⟨⟨⟨0, Nat.zero_le _⟩, ?_⟩, fun x _ => ?_⟩
    · (repeat' first | exact trivial | exact rfl | refine And.intro ?_ ?_)
    obtain ⟨j, hj⟩ := x
    dsimp only
    refine brS_of (fun c => ?_) fun _ => ?_
    · have c : j < fl.length := by have := of_decide_eq_true c; omega
      have hx : fl.getD j 0 ∈ fl := by rw [List.getD_eq_getElem?_getD, List.getElem?_eq_getElem c]; exact List.getElem_mem c
      have hg := hc.rng _ hx
      obtain ⟨u1, u2⟩ := hfu _ hx
      refine ⟨⟨by omega, by omega, brS_of (fun f => ?_) fun _ => ⟨by omega, by omega, ⟨j, c⟩, ?_⟩⟩, fun y e => ?_⟩
      · have f : fl.getD j 0 < 1 := of_decide_eq_true f
        omega
      · have b : decide (IntKind.u64.wrap (fl.getD j 0) > IntKind.u64.wrap (d.length : Int)) = false := by
          rw [wrap_u64 (x := fl.getD j 0) u1 (by omega), wrap_u64 (x := (d.length : Int)) (by omega) (by omega)]
          exact decide_eq_false (by omega)
        (repeat' first | exact trivial | exact rfl | exact congrArg Value.bool b | refine And.intro ?_ ?_)
      · obtain ⟨j1, hj1⟩ := y
        have e : (j : Int) = (j1 : Int) := e
        have e : j = j1 := by omega
        subst e
        dsimp only
        refine ⟨⟨j + 1, c⟩, ?_⟩
        have v : IntKind.i64.wrap ((j : Int) + 1) = ((j + 1 : Nat) : Int) := by rw [wrap_id (by omega) (by omega)]; rfl
        (repeat' first | exact trivial | exact rfl | exact congrArg (Value.int IntKind.i64) v | refine And.intro ?_ ?_)
        show fl.length - (j + 1) < fl.length - j
        omega
    · refine ⟨⟨⟨0, Nat.zero_le _⟩, ?_⟩, fun x _ => ?_⟩
      · (repeat' first | exact trivial | exact rfl | refine And.intro ?_ ?_)
      obtain ⟨j, hj⟩ := x
      dsimp only
      refine brS_of (fun c => ?_) fun _ => h
      have c : j < roots.length := by have := of_decide_eq_true c; omega
      have hx : roots.getD j 0 ∈ roots := by rw [List.getD_eq_getElem?_getD, List.getElem?_eq_getElem c]; exact List.getElem_mem c
      have hg := hc.held _ hx
      refine ⟨⟨by omega, by omega, brS_of (fun f => ⟨by omega, by omega, hru _ hx, by omega, ⟨j, c⟩, ?_⟩) fun _ => ⟨⟨j, c⟩, ?_⟩⟩, fun y e => ?_⟩
      · have b : (!alcD d (roots.getD j 0)) = false := by
          rcases hg with e | e
          · have f : (roots.getD j 0 != 0) = true := f
            rw [e] at f; cases f
          · rw [e]; rfl
        (repeat' first | exact trivial | exact rfl | exact congrArg Value.bool b | refine And.intro ?_ ?_)
      · (repeat' first | exact trivial | exact rfl | refine And.intro ?_ ?_)
      · obtain ⟨j1, hj1⟩ := y
        have e : (j : Int) = (j1 : Int) := e
        have e : j = j1 := by omega
        subst e
        dsimp only
        refine ⟨⟨j + 1, c⟩, ?_⟩
        have v : IntKind.i64.wrap ((j : Int) + 1) = ((j + 1 : Nat) : Int) := by rw [wrap_id (by omega) (by omega)]; rfl
        (repeat' first | exact trivial | exact rfl | exact congrArg (Value.int IntKind.i64) v | refine And.intro ?_ ?_)
        show roots.length - (j + 1) < roots.length - j
        omega
theorem s_chk : SoundT C0 114 tChk := by
  refine .of Try.func114 (by decide) rfl fun args H K h hB => ?_
  unfold tChk at h
  split at h <;> try exact h.elim
  rename_i d fl roots
  obtain ⟨h1, h2, h3, h4, h5, h6, h7, h⟩ := h
  exact ⟨aChk P0c (P1c d) (P2c d) (P3c d roots) (P4c d) d fl roots, ⟨frame C0.ok s_ine _, frame C0.ok s_mk _, frame C0.ok s_cnt _, frame C0.ok s_alc _, frame C0.ok s_kids _, trivial⟩, vc_chk d fl roots K h1 h2 h3 h4 h5 h6 h7 h⟩
theorem s_cln : SoundT C0 68 tCln := by
  refine .of Try.func68 (by decide) rfl fun args H K h hB => ?_
  unfold tCln at h
  split at h <;> try exact h.elim
  rename_i d fl roots
  exact ⟨aCln, ⟨frame C0.ok s_chk _, trivial⟩, Eq.mp (show ((CleanD d fl roots) ∧
(kidsU d) ∧
(allU fl) ∧
(allU roots) ∧
(d.length ≤ 100000) ∧
(fl.length ≤ 1000000) ∧
(roots.length ≤ 1000000) ∧
(K (SV.one (TV.at (At.val (Value.bool true)))) [(Chunk.row false (EC.slot) (d)), (Chunk.row false (EC.u32) (fl)), (Chunk.row false (EC.u32) (roots))] [])) = _ by kernel_rfl) h⟩
theorem vc_sound (S : Arn) (roots hs : List Int) (K : KT) (w : Wf S hs) (p : roots.Perm hs) (hr : roots.length ≤ 1000000) (h : K (.one (.at (vB true))) (chS S ++ [.row false EC.u32 roots]) []) :
    vc C0 aSound Try.f27 [.at (.ptr 0 0), .at (.slc 7)] (chS S ++ [.row false EC.u32 roots]) (normK 8 K) := by
  refine Eq.mp (show ((exW S) ∧
(∀ d : List SlotT, (∀ o : List Int, (((d) = (slotsOf S)) → (((o) = (orderOf S)) → ((CleanD d o roots) ∧ (kidsU d) ∧ (allU o) ∧ (allU roots) ∧ (d.length ≤ 100000) ∧ (o.length ≤ 1000000) ∧ (roots.length ≤ 1000000) ∧ (K (SV.one (TV.at (At.val (Value.bool true)))) [(Chunk.box [(At.ptr 1 0), (At.slc 2), (At.slc 3), (At.val (Value.int IntKind.u64 (S.reads)))]), (Chunk.box [(At.slc 4), (At.slc 5), (At.slc 6), (At.val (Value.int IntKind.u32 (S.fresh)))]), (Chunk.row true (EC.node) (S.nodes)), (Chunk.row true (EC.int) (S.counts)), (Chunk.row true (EC.bool) (S.used)), (Chunk.row true (EC.u32) (S.gen)), (Chunk.row true (EC.u32) (S.rel)), (Chunk.row false (EC.u32) (roots))] []))))))) = _ by kernel_rfl) ?_
  have nc : ncap S ≤ 65537 := by have := w.n2; unfold ncap; omega
  have ol := order_len w
  have ku := kidsU_slots w
  have cs := clean_slots w p
  have sl := slotsOf_len S
  refine ⟨⟨hs, w⟩, fun d o ed eo => ?_⟩
  subst ed eo
  refine ⟨cs, ku, fun x hx => ?_, fun x hx => Wf.inU_held w (p.mem_iff.1 hx), by omega, by omega, hr, h⟩
  have := ((order_mem w x).1 hx).1
  exact ⟨by omega, by omega⟩
theorem s_sound : SoundT C0 27 tSound := by
  refine .of Try.func27 (by decide) rfl fun args H K h hB => ?_
  unfold tSound at h
  split at h <;> try exact h.elim
  unfold arMr at h
  split at h <;> try exact h.elim
  split at h <;> try exact h.elim
  rename_i rd fr nd ct us gn rl _ roots
  obtain ⟨hs, w, p, hr, h⟩ := h
  exact ⟨aSound, ⟨frame C0.ok s_dump _, frame C0.ok s_cln _, trivial⟩, vc_sound ⟨us, gn, rl, fr, nd, ct, rd⟩ roots hs K w p hr h⟩
end Go.Proofs.Ytmjnoiajenoinaa.Sx
end
section
/- The law that Close gives the reference back once. -/
namespace Go.Proofs.Ytmjnoiajenoinaa.Sx
open Go

/-KEEP Wf exW inU live Arn.cap Arn.free Rep rdS Tr.size Tr.list PlantR betE listE newS opS relC keepC Kept List.Perm Asc-/
def tCl_next : Tfm C0 := fun args H K => match args with
  | [.at (.ptr 0 0)] => cuM H fun c S => c.closed = true ∧ K (.tup [entO none, .at (vI 6)]) (chC c S) [0, 1]
  | _ => False
def tCl_find : Tfm C0 := fun args H K => match args with
  | [.at (.ptr 0 0), .at (.val (.int .i64 _))] => cuM H fun c S => c.closed = true ∧ K (.tup [entO none, .at (vI 6)]) (chC c S) [0, 1]
  | _ => False
abbrev L20 (raw : List Ent) : List Ent := listE raw 60
abbrev W20 (raw : List Ent) : List Ent := betE (listE raw 60) (-9223372036854775808) 9223372036854775807
structure XCs (P : Arn → Cur → Int → Nat → Prop) where
  S : Arn
  c : Cur
  k : Int
  j : Nat
  h : P S c k j
noncomputable def aCs (P1 P2 : Arn → Cur → Int → Nat → Prop) (raw : List Ent) (ml : List MoveT) : Ann C0 := { Γ := [(36, frameT [] tLst), (37, frameT [] tGrow), (39, frameT [] tAwake24), (40, frameT [] tOpenL), (27, frameT [] tSound), (41, frameT [] tO24), (44, frameT [] tMv), (14, frameT [] tRelease), (43, frameT [] tCu_close), (18, frameT [] tFree), (35, frameT [] tCap), (42, frameT [] tCl_next), (82, frameT [] tCl_next), (89, frameT [] tCl_find), (92, frameT [] tCu_entry), (94, frameT [] tCu_rew)], inv := fun n => match n with
  | 10 => some { X := XCs P1, sl := [9, 10, 11, 13, 15, 16], tf := fun x => [.one (.at (.slc 2)), .one (.at (.ptr 4 0)), vi .u32 x.c.root, .one (.at (.ptr 3 0)), .one (.at (.ptr 12 0)), vi .i64 x.j], hf := fun x => [.row false EC.ent raw, .row false EC.move ml, .row false EC.ent (L20 raw), bxC 4 x.c] ++ chSk 4 x.S ++ [.row false EC.ent (W20 raw), .box [.slc 11, vI x.k, vB false]], μ := fun x => 20 - x.j }
  | 1013 => some { X := XCs P2, sl := [9, 10, 11, 13, 15, 16, 17, 18], tf := fun x => [.one (.at (.slc 2)), .one (.at (.ptr 4 0)), vi .u32 x.c.root, .one (.at (.ptr 3 0)), .one (.at (.ptr 12 0)), vi .i64 x.j, .one (.at (.ptr 13 0)), vb true], hf := fun x => [.row false EC.ent raw, .row false EC.move ml, .row false EC.ent (L20 raw), bxC 4 x.c] ++ chSk 4 x.S ++ [.row false EC.ent (W20 raw), .box [.any, .any, .any], .box [.slc 11, vI x.k, vB false]], rel := fun T _ x => slotI T 16 x.j }
  | _ => none }
def tCs : Tfm C0 := fun args H K => match args, H with
  | [.at (.slc 0), .at (.val (.int .u64 t)), .at (.slc 1), .at (.val (.int .i64 _))], [.row false .ent raw, .row false .move ml] => 0 ≤ t ∧ K (.one (.at (vB true))) [.row false EC.ent raw, .row false EC.move ml] []
  | _, _ => False
def PCs (raw : List Ent) (S : Arn) (c : Cur) (k : Int) (j : Nat) : Prop := (∃ t, Wf S [c.root, c.root] ∧ Rep S t c.root ∧ t.list = L20 raw) ∧ c.closed = false ∧ c.lo = -9223372036854775808 ∧ c.hi = 9223372036854775807 ∧ relC (W20 raw) c k ∧ 0 ≤ S.reads ∧ S.reads ≤ 1000 * (j + 1) ∧ j ≤ 20
def PCt (raw : List Ent) (S : Arn) (c : Cur) (k : Int) (j : Nat) : Prop := (∃ t, Wf S [c.root, c.root] ∧ Rep S t c.root ∧ t.list = L20 raw) ∧ c.closed = false ∧ c.lo = -9223372036854775808 ∧ c.hi = 9223372036854775807 ∧ relC (W20 raw) c k ∧ 0 ≤ S.reads ∧ S.reads ≤ 1000 * (j + 2) ∧ j < 20
end Go.Proofs.Ytmjnoiajenoinaa.Sx
end
section
/- How high a balanced tree is at most, and how many nodes a listing reads. No program in sight. -/
namespace Go.Proofs.Ytmjnoiajenoinaa
open Go

/-- The least weights of trees of the heights 0 to 80. -/
def wtsL : List Int := [1, 2, 3, 4, 6, 8, 11, 15, 20, 27, 36, 48, 64, 86, 115, 154, 206, 275, 367, 490, 654, 872, 1163, 1551, 2068, 2758, 3678, 4904, 6539, 8719, 11626, 15502, 20670, 27560, 36747, 48996, 65328, 87104, 116139, 154852, 206470, 275294, 367059, 489412, 652550, 870067, 1160090, 1546787, 2062383, 2749844, 3666459, 4888612, 6518150, 8690867, 11587823, 15450431, 20600575, 27467434, 36623246, 48830995, 65107994, 86810659, 115747546, 154330062, 205773416, 274364555, 365819407, 487759210, 650345614, 867127486, 1156169982, 1541559976, 2055413302, 2740551070, 3654068094, 4872090792, 6496121056, 8661494742, 11548659656, 15398212875, 20530950500]
def wt (h : Nat) : Int := wtsL.getD h 0
def hnC : List Int → Int → Int → Int
  | [], h, _ => h
  | w :: l, h, k => if w - 1 ≤ k then hnC l (h + 1) k else h
/-- The greatest height of a tree with k keys. -/
def Hn (k : Int) : Int := hnC (wtsL.drop 1) 0 k
theorem wt_step : ∀ h < 80, wt (h + 1) = wt h + (wt h + 2) / 3 := by decide
theorem hnC_le : ∀ (l : List Int) (h k : Int), h ≤ hnC l h k
  | [], _, _ => Int.le_refl _
  | w :: l, h, k => by
    unfold hnC
    split
    · have := hnC_le l (h + 1) k; omega
    · exact Int.le_refl _
theorem hnC_ge : ∀ (l : List Int) (h k : Int) (m : Nat), m ≤ l.length → (∀ i < m, l.getD i 0 - 1 ≤ k) → h + m ≤ hnC l h k
  | [], h, k, m, hm, _ => by have : m = 0 := by simpa using hm
                             subst this; show h + 0 ≤ h; omega
  | w :: l, h, k, 0, _, _ => by have := hnC_le (w :: l) h k; show h + 0 ≤ _; omega
  | w :: l, h, k, m + 1, hm, hk => by
    have h0 := hk 0 (by omega)
    unfold hnC
    rw [if_pos (by simpa using h0)]
    have := hnC_ge l (h + 1) k m (by simpa using hm) (fun i hi => by have := hk (i + 1) (by omega); simpa using this)
    omega
theorem hnC_up : ∀ (l : List Int) (h k : Int), hnC l h k ≤ h + l.length
  | [], h, k => by show h ≤ h + 0; omega
  | w :: l, h, k => by
    unfold hnC
    have := hnC_up l (h + 1) k
    rw [List.length_cons]
    split <;> omega
theorem Hn_rng (k : Int) : 0 ≤ Hn k ∧ Hn k ≤ 80 := by
  have h1 := hnC_le (wtsL.drop 1) 0 k
  have h2 := hnC_up (wtsL.drop 1) 0 k
  have h3 : (wtsL.drop 1).length = 80 := rfl
  unfold Hn
  omega
def ht : Tr → Nat
  | .nil => 0
  | .node l _ _ r => 1 + (if ht l ≤ ht r then ht r else ht l)
theorem bal_wt : ∀ (t : Tr) (h : Nat), t.Bal → h ≤ 80 → h ≤ ht t → wt h ≤ t.size + 1
  | t, 0, _, _, _ => by have : wt 0 = 1 := rfl
                        rw [this]; omega
  | .nil, h + 1, _, _, hh => by simp [ht] at hh
  | .node l k v r, h + 1, hb, h8, hh => by
    obtain ⟨b0, bl, br⟩ := hb
    unfold balN at b0
    have hs : ((Tr.node l k v r).size : Int) = 1 + l.size + r.size := by simp [Tr.size]
    have st := wt_step h (by omega)
    have hh : h + 1 ≤ 1 + (if ht l ≤ ht r then ht r else ht l) := hh
    by_cases c : ht l ≤ ht r
    · rw [if_pos c] at hh
      have := bal_wt r h br (by omega) (by omega)
      omega
    · rw [if_neg c] at hh
      have := bal_wt l h bl (by omega) (by omega)
      omega
/-- A balanced tree is no higher than its number of keys allows. -/
theorem Bal.height {t : Tr} (hb : t.Bal) (hs : t.size ≤ 1000000) : (ht t : Int) ≤ Hn t.size := by
  have h80 : ht t ≤ 80 := by
    by_cases c : ht t ≤ 80
    · exact c
    · have := bal_wt t 80 hb (Nat.le_refl _) (by omega)
      have e : wt 80 = 20530950500 := rfl
      omega
  have hl : (wtsL.drop 1).length = 80 := rfl
  have := hnC_ge (wtsL.drop 1) 0 t.size (ht t) (by omega) (fun i hi => by
    have e : (wtsL.drop 1).getD i 0 = wt (i + 1) := by simp [wt, List.getD_eq_getElem?_getD]
    have := bal_wt t (i + 1) hb (by omega) (by omega)
    rw [e]; omega)
  unfold Hn
  omega

/-! ### Reads of a listing by keys -/
theorem ht_l (l r : Tr) (k v : Int) : 1 + ht l ≤ ht (.node l k v r) := by rw [ht]; split <;> omega
theorem ht_r (l r : Tr) (k v : Int) : 1 + ht r ≤ ht (.node l k v r) := by rw [ht]; split <;> omega
/-! ### Reads of a listing by places -/
end Go.Proofs.Ytmjnoiajenoinaa
end
section
/- The greatest height of a balanced tree, and few reads. -/
namespace Go.Proofs.Ytmjnoiajenoinaa.Sx
open Go

/-KEEP Wf exW inU wtsL-/
noncomputable def aWts : Ann C0 := { Γ := [], rounds := fun n => if n = 4 then 82 else 0 }
def tWts : Tfm C0 := fun args H K => match args, H with
  | [], [] => K (.one (.agg (wtsL.map fun n => vI n))) [] []
  | _, _ => False
def wC : Nat → Int → Prop → Prop
  | 0, _, Q => Q
  | n + 1, h, Q => (0 ≤ IntKind.i64.wrap (h - 1)) ∧ (IntKind.i64.wrap (h - 1) < ((81 : Nat) : Int)) ∧ (0 ≤ IntKind.i64.wrap (h - 1)) ∧ (IntKind.i64.wrap (h - 1) < ((81 : Nat) : Int)) ∧ (0 ≤ h) ∧ (h < ((81 : Nat) : Int)) ∧ wC n (IntKind.i64.wrap (h + 1)) Q
theorem wC_of : ∀ (n : Nat) (h : Int) (Q : Prop), 1 ≤ h → h + n ≤ 81 → Q → wC n h Q
  | 0, _, _, _, _, q => q
  | n + 1, h, Q, h1, h2, q => by
    have e1 := wrap_id (x := h - 1) (by omega) (by omega)
    have e2 := wrap_id (x := h + 1) (by omega) (by omega)
    unfold wC
    rw [e1, e2]
    exact ⟨by omega, by omega, by omega, by omega, by omega, by omega, wC_of n (h + 1) Q (by omega) (by omega) q⟩
theorem s_wts : SoundT C0 146 tWts := by
  refine .of Try.func146 (by decide) rfl fun args H K h hB => ?_
  unfold tWts at h
  split at h <;> try exact h.elim
  refine ⟨aWts, trivial, Eq.mp (show ((0 : Int) ≤ 0 ∧ (0 : Int) < ((81 : Nat) : Int) ∧ wC 80 1 (K (.one (.agg (wtsL.map fun n => vI n))) [] [])) = _ by kernel_rfl) ?_⟩
  exact ⟨by decide, by decide, wC_of 80 1 _ (by decide) (by decide) h⟩
noncomputable def aMh : Ann C0 := { Γ := [(146, frameT [] tWts)], rounds := fun n => if n = 5 then 82 else 0 }
def mhC (k : Int) (Q : Int → Prop) : List Int → Int → Prop
  | [], h => Q h
  | w :: l, h => (0 ≤ IntKind.i64.wrap (h + 1)) ∧ (IntKind.i64.wrap (h + 1) < ((81 : Nat) : Int)) ∧ brS (decide (IntKind.i64.wrap (w - 1) ≤ k)) (mhC k Q l (IntKind.i64.wrap (h + 1))) (Q h)
theorem mhC_of {k : Int} {Q : Int → Prop} : ∀ (l : List Int) (h : Int), 0 ≤ h → h + l.length ≤ 80 → (∀ w ∈ l, 0 ≤ w ∧ w ≤ 1000000000000) → Q (hnC l h k) → mhC k Q l h
  | [], _, _, _, _, q => q
  | w :: l, h, h1, h2, h3, q => by
    have hw := h3 w (by simp)
    have hl : (w :: l).length = l.length + 1 := rfl
    unfold mhC
    rw [wrap_id (x := h + 1) (by omega) (by omega), wrap_id (x := w - 1) (by omega) (by omega)]
    unfold hnC at q
    refine ⟨by omega, by omega, brS_of (fun c => ?_) fun c => ?_⟩
    · rw [if_pos (of_decide_eq_true c)] at q
      exact mhC_of l (h + 1) (by omega) (by omega) (fun x hx => h3 x (by simp [hx])) q
    · rw [if_neg (of_decide_eq_false c)] at q; exact q
def tMh : Tfm C0 := fun args H K => match args, H with
  | [.at (.val (.int .i64 k))], [] => 0 ≤ k ∧ k ≤ 2147483647 ∧ ∀ h, h = Hn k → K (.one (.at (vI h))) [] []
  | _, _ => False
theorem s_mh : SoundT C0 124 tMh := by
  refine .of Try.func124 (by decide) rfl fun args H K h hB => ?_
  unfold tMh at h
  split at h <;> try exact h.elim
  rename_i k
  obtain ⟨h1, h2, h⟩ := h
  refine ⟨aMh, ⟨frame C0.ok s_wts _, trivial⟩, Eq.mp (show (brS (decide (k < 0)) (K (.one (.at (vI (-1)))) [] []) (brS (decide (k > 2147483647)) (K (.one (.at (vI (-1)))) [] []) (mhC k (fun h => K (.one (.at (vI h))) [] []) (wtsL.drop 1) 0))) = _ by kernel_rfl) ?_⟩
  refine brS_of (fun c => by have := of_decide_eq_true c; omega) fun _ => brS_of (fun c => by have := of_decide_eq_true c; omega) fun _ => mhC_of _ 0 (by decide) (by decide) (by decide) (h _ rfl)
noncomputable def aHt : Ann C0 := { Γ := [(124, frameT [] tMh)] }
def tWi : Tfm C0 := fun args H K => match args with
  | [.at (.ptr 0 0), .at (.val (.int .u64 r)), .at (.val (.int .i64 m))] => arM H fun S => 0 ≤ r ∧ r ≤ S.reads ∧ S.reads ≤ 4000000000000000000 ∧ S.reads - r ≤ m ∧ m ≤ 4000000000000000000 ∧ K (.one (.at (vB true))) (chS S) []
  | _ => False
end Go.Proofs.Ytmjnoiajenoinaa.Sx
end
section
/- What joining trees costs, and that one rotation is enough. No program in sight. -/
namespace Go.Proofs.Ytmjnoiajenoinaa
open Go

/-! ### The greatest height of a weight -/
/-- The greatest h whose least weight is at most w. -/
def gN (w : Nat) : Nat := (Hn ((w : Int) - 1)).toNat
theorem hnC_spec : ∀ (l : List Int) (h k : Int) (i : Nat), (i : Int) < hnC l h k - h → l.getD i 0 - 1 ≤ k
  | [], h, k, i, hi => by simp [hnC] at hi; omega
  | w :: l, h, k, i, hi => by
    unfold hnC at hi
    split at hi
    · rename_i c
      cases i with
      | zero => simpa using c
      | succ i => have := hnC_spec l (h + 1) k i (by omega); simpa using this
    · omega
theorem wtsL_drop (i : Nat) : (wtsL.drop 1).getD i 0 = wt (i + 1) := by simp [wt, List.getD_eq_getElem?_getD]
theorem gN_rng (w : Nat) : gN w ≤ 80 := by have := Hn_rng ((w : Int) - 1); unfold gN; omega
theorem gN_Hn (w : Nat) : (gN w : Int) = Hn ((w : Int) - 1) := by have := Hn_rng ((w : Int) - 1); unfold gN; omega
theorem gN_size (n : Nat) : (gN (n + 1) : Int) = Hn n := by rw [gN_Hn]; congr 1; omega
theorem gN_wt {w : Nat} (hw : 1 ≤ w) : wt (gN w) ≤ w := by
  have h0 := Hn_rng ((w : Int) - 1)
  have e := gN_Hn w
  cases h : gN w with
  | zero => have : wt 0 = 1 := rfl
            rw [this]; omega
  | succ g =>
    have := hnC_spec (wtsL.drop 1) 0 ((w : Int) - 1) g (by unfold Hn at e; omega)
    rw [wtsL_drop] at this
    omega
theorem wt_mono1 : ∀ h < 80, wt h < wt (h + 1) := by decide
theorem wt_mono : ∀ {i j : Nat}, i ≤ j → j ≤ 80 → wt i ≤ wt j := by
  intro i j h
  induction h with
  | refl => intro _; exact Int.le_refl _
  | @step m h ih => intro hj; have := ih (by omega); have := wt_mono1 m (by omega); show wt i ≤ wt (m + 1); omega
theorem gN_le {w h : Nat} (h8 : h ≤ 80) (hw : wt h ≤ w) : h ≤ gN w := by
  have hl : (wtsL.drop 1).length = 80 := rfl
  have := hnC_ge (wtsL.drop 1) 0 ((w : Int) - 1) h (by omega) (fun i hi => by
    rw [wtsL_drop]
    have := wt_mono (show i + 1 ≤ h by omega) h8
    omega)
  have e := gN_Hn w
  unfold Hn at e
  omega
theorem gN_mono {v w : Nat} (hv : 1 ≤ v) (h : v ≤ w) : gN v ≤ gN w := gN_le (gN_rng v) (by have := gN_wt hv; omega)
theorem gN_small {w : Nat} (hw : 1 ≤ w) (h : w ≤ 1000000) : gN w ≤ 60 := by
  by_cases c : gN w ≤ 60
  · exact c
  · have h1 := gN_wt hw
    have h2 := wt_mono (show 61 ≤ gN w by omega) (gN_rng w)
    have : wt 61 = 86810659 := rfl
    omega
theorem gN_step {m w : Nat} (hm : 1 ≤ m) (h : 4 * m ≤ 3 * w) (hw : w ≤ 1000000) : gN m + 1 ≤ gN w := by
  have h1 := gN_small hm (by omega)
  have h2 := gN_wt hm
  have h3 := wt_step (gN m) (by omega)
  exact gN_le (by omega) (by omega)
theorem wt_step4 : ∀ h < 77, 4 ≤ h → wt (h + 4) ≤ 4 * wt h - 2 := by decide
theorem gN_step4 {r w : Nat} (hr : 5 ≤ r) (h : 4 * r ≤ w + 2) (hw : w ≤ 1000000) : gN r + 4 ≤ gN w := by
  have h1 := gN_small (w := r) (by omega) (by omega)
  have h2 := gN_wt (w := r) (by omega)
  have h3 : 3 ≤ gN r := gN_le (by decide) (by have : wt 3 = 4 := rfl
                                              omega)
  by_cases c : gN r = 3
  · rw [c]; exact gN_le (by decide) (by have : wt (3 + 4) = 15 := rfl
                                        omega)
  · have := wt_step4 (gN r) (by omega) (by omega)
    exact gN_le (by omega) (by omega)

/-! ### How often a join goes down -/
def dsc (w v : Nat) : Nat := if h : w ≤ 3 * v then 0 else 1 + dsc (3 * w / 4) v
termination_by w
decreasing_by omega
theorem dsc_zero {w v : Nat} (h : w ≤ 3 * v) : dsc w v = 0 := by rw [dsc, dif_pos h]
theorem dsc_succ {w v : Nat} (h : ¬ w ≤ 3 * v) : dsc w v = 1 + dsc (3 * w / 4) v := by rw [dsc, dif_neg h]
theorem dsc_mono (v : Nat) : ∀ (n w w' : Nat), w' < n → w ≤ w' → dsc w v ≤ dsc w' v := by
  intro n
  induction n with
  | zero => intro w w' h; omega
  | succ n ih =>
    intro w w' hn h
    by_cases c : w ≤ 3 * v
    · rw [dsc_zero c]; exact Nat.zero_le _
    · rw [dsc_succ c, dsc_succ (show ¬ w' ≤ 3 * v by omega)]
      have := ih (3 * w / 4) (3 * w' / 4) (by omega) (by omega)
      omega
theorem dsc_one {w v : Nat} (h : w ≤ 3 * v + 3) (hv : 2 ≤ v) : dsc w v ≤ 1 := by
  by_cases c : w ≤ 3 * v
  · rw [dsc_zero c]; omega
  · rw [dsc_succ c, dsc_zero (by omega)]; omega
theorem dsc_two {w : Nat} (h : w ≤ 6) : dsc w 1 ≤ 2 := by
  by_cases c : w ≤ 3
  · rw [dsc_zero (by omega)]; omega
  · rw [dsc_succ (by omega)]
    by_cases d : 3 * w / 4 ≤ 3
    · rw [dsc_zero (by omega)]; omega
    · rw [dsc_succ (by omega), dsc_zero (by omega)]; omega
theorem dsc_tiny {w : Nat} (h : w ≤ 5) : dsc w 1 ≤ 1 := by
  by_cases c : w ≤ 3
  · rw [dsc_zero (by omega)]; omega
  · rw [dsc_succ (by omega), dsc_zero (by omega)]; omega
/-- What a join of trees of these sizes may need. -/
def jB (a b : Nat) : Nat := 1 + 3 * (dsc (a + 1) (b + 1) + dsc (b + 1) (a + 1))
theorem jB_pos (a b : Nat) : 1 ≤ jB a b := by unfold jB; omega
theorem jB_comm (a b : Nat) : jB a b = jB b a := by unfold jB; omega
theorem jB_bal {a b : Nat} (h : balN a b) : jB a b = 1 := by
  unfold balN at h
  unfold jB
  rw [dsc_zero (by omega), dsc_zero (by omega)]
theorem jB_down {s m r : Nat} (h : balN s m) (hb : ¬ balN ((s + m + 1 : Nat) : Int) r) (hg : r < s + m + 1) : jB m r + 3 ≤ jB (s + m + 1) r := by
  unfold balN at h hb
  unfold jB
  rw [dsc_zero (w := r + 1) (by omega), dsc_zero (w := r + 1) (by omega), dsc_succ (w := s + m + 1 + 1) (by omega)]
  have := dsc_mono (r + 1) (3 * (s + m + 1 + 1) / 4 + 1) (m + 1) (3 * (s + m + 1 + 1) / 4) (by omega) (by omega)
  omega
/-! ### Rotations -/
def near (a b : Nat) : Prop := 3 * (b + 1) ≤ 13 * (a + 1) ∧ 3 * (a + 1) ≤ 13 * (b + 1)
theorem join_near {s m r : Nat} (h : balN s m) (hb : ¬ balN ((s + m + 1 : Nat) : Int) r) (hg : r < s + m + 1) : near s (m + r + 1) := by
  unfold balN at h hb
  unfold near
  omega
theorem rot_nil {a s : Nat} (hn : near a (0 + s + 1)) (h1 : balN (0 : Nat) s) (_ : ¬ balN a ((0 + s + 1 : Nat) : Int)) (hlt : a < 0 + s + 1) : balN a (0 : Nat) ∧ balN ((a + 0 + 1 : Nat) : Int) s := by
  unfold balN at *
  unfold near at hn
  omega
theorem rot_two {a s x y : Nat} (hn : near a (x + y + 1 + s + 1)) (h1 : balN ((x + y + 1 : Nat) : Int) s) (h2 : balN x y) (hb : ¬ balN a ((x + y + 1 + s + 1 : Nat) : Int)) (hlt : a < x + y + 1 + s + 1)
    (hc : ¬ (balN a ((x + y + 1 : Nat) : Int) ∧ balN ((a + (x + y + 1) + 1 : Nat) : Int) s)) : balN a x ∧ balN y s ∧ balN ((a + x + 1 : Nat) : Int) ((y + s + 1 : Nat) : Int) := by
  unfold balN at *
  unfold near at hn
  omega
theorem near_comm {a b : Nat} (h : near a b) : near b a := ⟨h.2, h.1⟩
theorem balN_comm {a b : Int} (h : balN a b) : balN b a := ⟨h.2, h.1⟩
/-! ### States between -/
variable {S S' S1 S2 : Arn} {hs h1 h2 hs1 hs2 : List Int}
structure Got (S : Arn) (hs : List Int) (mk rd : Nat) (S' : Arn) (hs' : List Int) : Prop where
  wf : Wf S' hs'
  stay : Stay S S' hs
  len : S'.used.length = S.used.length
  nu : S'.nu ≤ S.nu + mk
  rd0 : S.reads ≤ S'.reads
  rd : S'.reads ≤ S.reads + rd
theorem Got.free {m r : Nat} (h : Got S hs m r S' hs1) (w : Wf S hs2) : S.free ≤ S'.free + m := by
  have a := w.free_nonneg.2.2.2
  have b := h.wf.free_nonneg.2.2.2
  have c : S'.cap = S.cap := by unfold Arn.cap; rw [h.len]
  have := h.nu
  omega
theorem Got.seq {h : List Int} {m1 r1 m2 r2 : Nat} (a : Got S h1 m1 r1 S1 hs1) (b : Got S1 h2 m2 r2 S2 hs2) (e1 : ∀ i ∈ h, i ∈ h1) (e2 : ∀ i ∈ h, i ∈ h2) : Got S h (m1 + m2) (r1 + r2) S2 hs2 where
  wf := b.wf
  stay := (a.stay.mono e1).trans (b.stay.mono e2)
  len := b.len.trans a.len
  nu := by have := a.nu; have := b.nu; omega
  rd0 := Int.le_trans a.rd0 b.rd0
  rd := by have := a.rd; have := b.rd; omega
theorem Got.mono {m r m' r' : Nat} (a : Got S hs m r S' hs1) (h1 : m ≤ m') (h2 : r ≤ r') : Got S hs m' r' S' hs1 where
  wf := a.wf
  stay := a.stay
  len := a.len
  nu := by have := a.nu; omega
  rd0 := a.rd0
  rd := by have := a.rd; omega
theorem Got.perm {m r : Nat} (a : Got S hs m r S' hs1) (p : hs1.Perm hs2) : Got S hs m r S' hs2 := ⟨a.wf.perm p, a.stay, a.len, a.nu, a.rd0, a.rd⟩
theorem Got.rds (w : Wf S hs1) {n : Nat} (hn : S.reads + n ≤ 4000000000000000000) : Got S hs 0 n (rdS S n) hs1 where
  wf := w.rd hn
  stay := stay_rd S n hs
  len := rfl
  nu := Nat.le_refl _
  rd0 := by show S.reads ≤ S.reads + n; omega
  rd := Int.le_refl _
theorem Got.refl (w : Wf S hs1) : Got S hs 0 0 S hs1 := ⟨w, Stay.refl _ _, rfl, Nat.le_refl _, Int.le_refl _, by omega⟩
theorem Got.node {k v : Int} {tl tr : Tr} {i : Int} (n : NodeR S hs k v tl tr S' i) : Got S hs 1 0 S' (i :: hs) := ⟨n.wf, n.stay, n.len, by rw [n.nu]; exact Nat.le_refl _, by rw [n.rds]; exact Int.le_refl _, by rw [n.rds]; omega⟩
/-- A balanced tree with these entries is made, and held. -/
structure TrR (S : Arn) (hs : List Int) (L : List Ent) (mk rd : Nat) (S' : Arn) (i : Int) : Prop where
  got : Got S hs mk rd S' (i :: hs)
  tree : ∃ t, Rep S' t i ∧ t.list = L ∧ t.Bal
theorem TrR.mono {L : List Ent} {m r m' r' : Nat} {i : Int} (a : TrR S hs L m r S' i) (h1 : m ≤ m') (h2 : r ≤ r') : TrR S hs L m' r' S' i := ⟨a.got.mono h1 h2, a.tree⟩
end Go.Proofs.Ytmjnoiajenoinaa
end
section
/- Taking a node apart, holding and giving back a tree. No program in sight. -/
namespace Go.Proofs.Ytmjnoiajenoinaa
open Go

variable {S S' S1 S2 : Arn} {hs h1 h2 hs1 hs2 : List Int}

theorem countP_le : ∀ (l m : List Bool), l.length = m.length → (∀ i : Nat, m.getD i false = true → l.getD i false = true) → m.countP id ≤ l.countP id
  | [], [], _, _ => Nat.le_refl _
  | [], _ :: _, h, _ => by simp at h
  | _ :: _, [], h, _ => by simp at h
  | a :: l, b :: m, h, hi => by
    have h0 := hi 0
    have ih := countP_le l m (by simpa using h) (fun i => by simpa using hi (i + 1))
    simp at h0
    rw [List.countP_cons, List.countP_cons]
    cases a <;> cases b <;> simp_all <;> omega
theorem Kept.nu_le (k : Kept S S') : S'.nu ≤ S.nu := by
  unfold Arn.nu
  refine countP_le _ _ k.len.symm fun i hi => ?_
  have := (k.kp (i : Int) (by unfold Arn.us; simpa using hi)).1
  unfold Arn.us at this
  simpa using this
/-- One more reference to a tree that may be empty. -/
def retL (S : Arn) (i : Int) : Arn := if i = 0 then S else retA S i
theorem retL_flds (S : Arn) (i : Int) : (retL S i).reads = S.reads ∧ (retL S i).used = S.used ∧ (∀ j, (retL S i).us j = S.us j) ∧ (∀ j, (retL S i).nd j = S.nd j) ∧ (∀ j, (retL S i).gn j = S.gn j) := by
  unfold retL; split <;> exact ⟨rfl, rfl, fun _ => rfl, fun _ => rfl, fun _ => rfl⟩
theorem retL_wf (w : Wf S hs) {i : Int} (hi : i = 0 ∨ S.us i = true) (hl : hs.length ≤ 999999990) : Wf (retL S i) (i :: hs) := by
  unfold retL
  split
  · rename_i e; subst e; exact w.zero_cons (by omega)
  · rename_i e; exact w.ret (hi.resolve_left e) (by omega)
theorem retL_got (w : Wf S hs1) {i : Int} (hi : i = 0 ∨ S.us i = true) (hl : hs1.length ≤ 999999990) : Got S hs 0 0 (retL S i) (i :: hs1) := by
  obtain ⟨a, b, c, d, e⟩ := retL_flds S i
  exact ⟨retL_wf w hi hl, stay_same c d e hs, by rw [b], by unfold Arn.nu; rw [b]; exact Nat.le_refl _, by rw [a]; exact Int.le_refl _, by rw [a]; omega⟩
theorem Rep.retL {t : Tr} {i j : Int} (h : Rep S t i) : Rep (retL S j) t i := Rep.same (retL_flds S j).2.2.1 (retL_flds S j).2.2.2.1 h
/-- A tree is given back. -/
theorem rel_got {i : Int} (w : Wf S (i :: hs1)) (w' : Wf S' hs1) (k : Kept S S') : Got S hs1 0 0 S' hs1 := ⟨w', k.stay w w', k.len, k.nu_le, by rw [k.rds]; exact Int.le_refl _, by rw [k.rds]; omega⟩
/-- A node is taken apart. -/
structure OpnR (S : Arn) (hs : List Int) (a : Tr) (k v : Int) (b : Tr) (S' : Arn) (l r : Int) : Prop where
  got : Got S hs 0 1 S' (l :: r :: hs)
  repl : Rep S' a l
  repr : Rep S' b r
theorem opn_wf {i : Int} {a b : Tr} {k v : Int} (w : Wf S (i :: hs)) (hr : Rep S (.node a k v b) i) (hl : hs.length ≤ 900000000) (hrd : S.reads + 1 ≤ 4000000000000000000) :
    Wf (rdS S 1) (i :: hs) ∧ Wf (retL (rdS S 1) (S.nd i).left) ((S.nd i).left :: i :: hs) ∧ Wf (retL (retL (rdS S 1) (S.nd i).left) (S.nd i).right) (i :: (S.nd i).left :: (S.nd i).right :: hs) := by
  have w1 : Wf (rdS S 1) (i :: hs) := w.rd (by omega)
  have hk := w.kid i hr.1
  have w2 := retL_wf w1 (i := (S.nd i).left) hk.1 (by simp; omega)
  have w3 := retL_wf w2 (i := (S.nd i).right) (by rw [(retL_flds _ _).2.2.1]; exact hk.2) (by simp; omega)
  refine ⟨w1, w2, w3.perm ?_⟩
  refine (List.Perm.swap _ _ _).trans ?_
  refine ((List.Perm.swap _ _ _).cons _).trans ?_
  exact List.Perm.swap _ _ _
theorem opn_ok {i : Int} {a b : Tr} {k v : Int} (w : Wf S (i :: hs)) (hr : Rep S (.node a k v b) i) (hl : hs.length ≤ 900000000) (hrd : S.reads + 1 ≤ 4000000000000000000)
    (w' : Wf S' ((S.nd i).left :: (S.nd i).right :: hs)) (kp : Kept (retL (retL (rdS S 1) (S.nd i).left) (S.nd i).right) S') : OpnR S hs a k v b S' (S.nd i).left (S.nd i).right := by
  obtain ⟨w1, w2, w3⟩ := opn_wf w hr hl hrd
  have hk := w.kid i hr.1
  have g1 : Got S hs 0 1 (rdS S 1) (i :: hs) := Got.rds w (by omega)
  have g2 : Got (rdS S 1) hs 0 0 _ _ := retL_got (hs := hs) w1 (i := (S.nd i).left) hk.1 (by simp; omega)
  have g3 : Got (retL (rdS S 1) (S.nd i).left) hs 0 0 _ _ := retL_got (hs := hs) w2 (i := (S.nd i).right) (by rw [(retL_flds _ _).2.2.1]; exact hk.2) (by simp; omega)
  have g4 := rel_got w3 w' kp
  refine ⟨(((g1.seq g2 (h := hs) (fun _ h => h) (fun _ h => h)).seq g3 (fun _ h => h) (fun _ h => h)).seq g4 (fun _ h => h) (fun _ h => by simp [h])), ?_, ?_⟩
  · have h1 : Rep (retL (retL (rdS S 1) (S.nd i).left) (S.nd i).right) a (S.nd i).left := (Rep.same (S := S) (S' := rdS S 1) (fun _ => rfl) (fun _ => rfl) hr.2.2.2.1).retL.retL
    exact h1.held w3 (kp.stay w3 w') (.inr (by simp))
  · have h1 : Rep (retL (retL (rdS S 1) (S.nd i).left) (S.nd i).right) b (S.nd i).right := (Rep.same (S := S) (S' := rdS S 1) (fun _ => rfl) (fun _ => rfl) hr.2.2.2.2).retL.retL
    exact h1.held w3 (kp.stay w3 w') (.inr (by simp))
theorem perm_rot {α : Type} (a b c : α) (l : List α) : (a :: b :: c :: l).Perm (c :: a :: b :: l) := ((List.Perm.swap c b l).cons a).trans (List.Perm.swap c a (b :: l))
theorem perm_tor {α : Type} (a b c : α) (l : List α) : (a :: b :: c :: l).Perm (b :: c :: a :: l) := (perm_rot b c a l).symm
theorem Got.rdn {m r n k : Nat} (a : Got S hs m r S1 hs1) (hn : n ≤ k) (hb : S1.reads + n ≤ 4000000000000000000) : Got S hs m (r + k) (rdS S1 n) hs1 :=
  (a.seq (Got.rds (hs := hs) a.wf hb) (fun _ h => h) (fun _ h => h)).mono (by omega) (by omega)
theorem Rep.rdn {t : Tr} {i : Int} {n : Nat} (h : Rep S t i) : Rep (rdS S n) t i := Rep.same (S := S) (S' := rdS S n) (fun _ => rfl) (fun _ => rfl) h
/-! ### Rotations on the arena -/
section
variable {S0 S3 S4 : Arn} {A M B x y : Tr} {k1 v1 k2 v2 k3 v3 u m w i j q ix iy : Int} {r0 : Nat}
theorem single_okL (g : Got S0 hs 0 r0 S (u :: m :: w :: hs)) (n1 : NodeR S (w :: hs) k1 v1 A M S2 i) (n2 : NodeR S2 hs k2 v2 (.node A k1 v1 M) B S3 j)
    (bA : A.Bal) (bM : M.Bal) (bB : B.Bal) (c1 : balN A.size M.size) (c2 : balN ((A.size + M.size + 1 : Nat) : Int) B.size) : TrR S0 hs (A.list ++ (k1, v1) :: (M.list ++ (k2, v2) :: B.list)) 3 (r0 + 1) S3 j where
  got := ((g.seq (Got.node n1) (h := hs) (fun _ h => h) (fun _ h => by simp [h])).seq (Got.node n2) (fun _ h => h) (fun _ h => h)).mono (by omega) (by omega)
  tree := ⟨_, n2.rep, by simp [Tr.list], by
    refine ⟨?_, ⟨c1, bA, bM⟩, bB⟩
    have e : ((Tr.node A k1 v1 M).size : Int) = ((A.size + M.size + 1 : Nat) : Int) := by simp [Tr.size]; omega
    rw [e]; exact c2⟩
theorem single_okR (g : Got S0 hs 0 r0 S (u :: m :: w :: hs)) (n1 : NodeR S (u :: hs) k2 v2 M B S2 i) (n2 : NodeR S2 hs k1 v1 A (.node M k2 v2 B) S3 j)
    (bA : A.Bal) (bM : M.Bal) (bB : B.Bal) (c1 : balN M.size B.size) (c2 : balN A.size ((M.size + B.size + 1 : Nat) : Int)) : TrR S0 hs (A.list ++ (k1, v1) :: (M.list ++ (k2, v2) :: B.list)) 3 (r0 + 1) S3 j where
  got := ((g.seq (Got.node n1) (h := hs) (fun _ h => h) (fun _ h => by simp [h])).seq (Got.node n2) (fun _ h => h) (fun _ h => h)).mono (by omega) (by omega)
  tree := ⟨_, n2.rep, by simp [Tr.list], by
    refine ⟨?_, bA, ⟨c1, bM, bB⟩⟩
    have e : ((Tr.node M k2 v2 B).size : Int) = ((M.size + B.size + 1 : Nat) : Int) := by simp [Tr.size]; omega
    rw [e]; exact c2⟩
theorem double_ok (g : Got S0 hs 0 r0 S (u :: m :: w :: hs)) (o : OpnR S (u :: w :: hs) x k3 v3 y S1 ix iy) (n1 : NodeR S1 (iy :: w :: hs) k1 v1 A x S2 i) (n2 : NodeR S2 (i :: hs) k2 v2 y B S3 j)
    (n3 : NodeR S3 hs k3 v3 (.node A k1 v1 x) (.node y k2 v2 B) S4 q) (bA : A.Bal) (bx : x.Bal) (bY : y.Bal) (bB : B.Bal) (c1 : balN A.size x.size) (c2 : balN y.size B.size) (c3 : balN ((A.size + x.size + 1 : Nat) : Int) ((y.size + B.size + 1 : Nat) : Int)) :
    TrR S0 hs (A.list ++ (k1, v1) :: (x.list ++ (k3, v3) :: (y.list ++ (k2, v2) :: B.list))) 3 (r0 + 1) S4 q where
  got := ((((g.seq o.got (h := hs) (fun _ h => h) (fun _ h => by simp [h])).seq (Got.node n1) (h := hs) (fun _ h => h) (fun _ h => by simp [h])).seq (Got.node n2) (h := hs) (fun _ h => h) (fun _ h => by simp [h])).seq (Got.node n3) (fun _ h => h) (fun _ h => h)).mono (by omega) (by omega)
  tree := ⟨_, n3.rep, by simp [Tr.list], by
    refine ⟨?_, ⟨c1, bA, bx⟩, ⟨c2, bY, bB⟩⟩
    have e : ((Tr.node A k1 v1 x).size : Int) = ((A.size + x.size + 1 : Nat) : Int) := by simp [Tr.size]; omega
    have e2 : ((Tr.node y k2 v2 B).size : Int) = ((y.size + B.size + 1 : Nat) : Int) := by simp [Tr.size]; omega
    rw [e, e2]; exact c3⟩
end
end Go.Proofs.Ytmjnoiajenoinaa
end
section
/- Lists and costs of taking trees apart and putting them together. No program in sight. -/
namespace Go.Proofs.Ytmjnoiajenoinaa
open Go

/-! ### Lists -/
theorem asc_parts {a b : List Ent} {k v : Int} (h : Asc (a ++ (k, v) :: b)) : Asc a ∧ Asc b ∧ (∀ x ∈ a, x.1 < k) ∧ (∀ x ∈ b, k < x.1) :=
  ⟨Srt.left h, (Srt.right h).tail, fun x hx => (List.pairwise_append.1 h).2.2 x hx (k, v) (by simp), fun x hx => (Srt.right h).head x hx⟩
theorem asc_join {a b : List Ent} {k v : Int} (h1 : Asc a) (h2 : Asc b) (h3 : ∀ x ∈ a, x.1 < k) (h4 : ∀ x ∈ b, k < x.1) : Asc (a ++ (k, v) :: b) := by
  refine List.pairwise_append.2 ⟨h1, Srt.cons h2 h4, fun x hx y hy => ?_⟩
  rcases List.mem_cons.1 hy with rfl | hy
  · exact h3 x hx
  · have := h3 x hx; have := h4 y hy; omega
theorem insE_left {a b : List Ent} {k v : Int} {e : Ent} (h : Asc (a ++ (k, v) :: b)) (he : e.1 < k) : insE (a ++ (k, v) :: b) e = insE a e ++ (k, v) :: b := by
  induction a with
  | nil =>
    rw [List.nil_append, insE_cons h, if_pos he]
    simp [insE, insGo]
  | cons x a ih =>
    have ha : Asc (x :: a) := Srt.left h
    have h' : Asc (x :: (a ++ (k, v) :: b)) := h
    rw [List.cons_append, insE_cons h', insE_cons ha, ih h'.tail]
    split
    · rfl
    · split <;> rfl
theorem insE_right {a b : List Ent} {k v : Int} {e : Ent} (h : Asc (a ++ (k, v) :: b)) (he : k < e.1) : insE (a ++ (k, v) :: b) e = a ++ (k, v) :: insE b e := by
  induction a with
  | nil =>
    rw [List.nil_append, insE_cons h, if_neg (by show ¬ e.1 < k; omega), if_neg (by show ¬ k = e.1; omega)]
    rfl
  | cons x a ih =>
    have h' : Asc (x :: (a ++ (k, v) :: b)) := h
    have hx : x.1 < k := (asc_parts h).2.2.1 x (by simp)
    rw [List.cons_append, insE_cons h', if_neg (by omega), if_neg (by omega), ih h'.tail]
    rfl
theorem insE_at {a b : List Ent} {v : Int} {e : Ent} (h : Asc (a ++ (e.1, v) :: b)) : insE (a ++ (e.1, v) :: b) e = a ++ e :: b := by
  induction a with
  | nil =>
    rw [List.nil_append, insE_cons h, if_neg (by show ¬ e.1 < e.1; omega), if_pos rfl]
    rfl
  | cons x a ih =>
    have h' : Asc (x :: (a ++ (e.1, v) :: b)) := h
    have hx : x.1 < e.1 := (asc_parts h).2.2.1 x (by simp)
    rw [List.cons_append, insE_cons h', if_neg (by omega), if_neg (by omega), ih h'.tail]
    rfl
/-- The entries whose keys pass a test that is of one mind on either side. -/
def flt (p : Int → Bool) (l : List Ent) : List Ent := l.filter fun x => p x.1
theorem flt_all {p : Int → Bool} {l : List Ent} (h : ∀ x ∈ l, p x.1 = true) : flt p l = l := List.filter_eq_self.2 h
theorem flt_node {p : Int → Bool} (a b : List Ent) (k v : Int) : flt p (a ++ (k, v) :: b) = flt p a ++ (if p k then (k, v) :: flt p b else flt p b) := by
  unfold flt
  rw [List.filter_append, List.filter_cons]
theorem flt_asc {p : Int → Bool} {l : List Ent} (h : Asc l) : Asc (flt p l) := List.Pairwise.filter _ h
theorem flt_mem {p : Int → Bool} {l : List Ent} {x : Ent} (h : x ∈ flt p l) : x ∈ l := (List.mem_filter.1 h).1
theorem flt_len {p : Int → Bool} {l : List Ent} : (flt p l).length ≤ l.length := List.length_filter_le _ _
theorem getE_left {a b : List Ent} {k v q : Int} (h : Asc (a ++ (k, v) :: b)) (hq : q < k) : getE (a ++ (k, v) :: b) q = getE a q := by
  obtain ⟨_, _, _, h4⟩ := asc_parts h
  rw [getE_fnd, getE_fnd, fnd_append, fnd_cons, if_neg (by show ¬ k = q; omega), fnd_of_lt (l := b) (fun x hx => by have := h4 x hx; omega)]
  simp
theorem getE_right {a b : List Ent} {k v q : Int} (h : Asc (a ++ (k, v) :: b)) (hq : k < q) : getE (a ++ (k, v) :: b) q = getE b q := by
  obtain ⟨_, _, h3, _⟩ := asc_parts h
  rw [getE_fnd, getE_fnd, fnd_append, fnd_cons, if_neg (by show ¬ k = q; omega), fnd_of_gt (l := a) (fun x hx => by have := h3 x hx; omega)]
  simp
theorem getE_at {a b : List Ent} {k v : Int} (h : Asc (a ++ (k, v) :: b)) : getE (a ++ (k, v) :: b) k = some v := by
  obtain ⟨_, _, h3, _⟩ := asc_parts h
  rw [getE_fnd, fnd_append, fnd_cons, if_pos rfl, fnd_of_gt (l := a) (fun x hx => by have := h3 x hx; omega)]
  simp

/-! ### Costs -/
theorem w0 : wt 0 = 1 := rfl
theorem w2 : wt 2 = 3 := rfl
theorem w3 : wt 3 = 4 := rfl
theorem w4 : wt 4 = 6 := rfl
theorem w5 : wt 5 = 8 := rfl
theorem w6 : wt 6 = 11 := rfl
theorem jB_less {l c : Nat} (h : balN l c) (hc : 2 ≤ c) : jB l (c - 1) ≤ 4 := by
  unfold balN at h
  unfold jB
  rw [dsc_zero (w := c - 1 + 1) (by omega)]
  have := dsc_one (w := l + 1) (v := c - 1 + 1) (by omega) (by omega)
  omega
theorem jB_nil {l : Nat} (h : balN l 1) : jB l 0 ≤ 7 := by
  unfold balN at h
  unfold jB
  rw [dsc_zero (w := 0 + 1) (by omega)]
  have := dsc_two (w := l + 1) (by omega)
  show 1 + 3 * (dsc (l + 1) 1 + 0) ≤ 7
  omega
theorem jB_more {l c : Nat} (h : balN l c) : jB l (c + 1) ≤ 4 := by
  unfold balN at h
  unfold jB
  rw [dsc_zero (w := l + 1) (by omega)]
  by_cases hl : l = 0
  · subst hl
    have := dsc_tiny (w := c + 1 + 1) (by omega)
    show 1 + 3 * (0 + dsc (c + 1 + 1) 1) ≤ 4
    omega
  · have := dsc_one (w := c + 1 + 1) (v := l + 1) (by omega) (by omega)
    omega
/-- What taking off the last entry may need. -/
def pB (n : Nat) : Nat := if n ≤ 3 then n else gN (n + 1) + 3
theorem pB_g (n : Nat) : pB n ≤ gN (n + 1) + 3 := by
  unfold pB
  split <;> omega
theorem pB_pos {n : Nat} (h : 1 ≤ n) : 1 ≤ pB n := by unfold pB; split <;> omega
theorem pB_step {l r : Nat} (h : balN l r) (hr : 1 ≤ r) (hz : l + r + 1 ≤ 900000) : pB r + jB l (r - 1) ≤ pB (l + r + 1) := by
  have hb := h
  unfold balN at hb
  by_cases r1 : r = 1
  · subst r1
    have p1 : pB 1 = 1 := rfl
    rw [p1]
    have j : jB l (1 - 1) = 1 + 3 * (dsc (l + 1) 1 + dsc 1 (l + 1)) := rfl
    rw [j, dsc_zero (w := 1) (by omega)]
    by_cases c1 : l ≤ 2
    · rw [dsc_zero (by omega)]
      unfold pB; split
      · omega
      · omega
    · have : pB (l + 1 + 1) = gN (l + 1 + 1 + 1) + 3 := by unfold pB; rw [if_neg (by omega)]
      rw [this]
      by_cases c2 : l ≤ 4
      · have := dsc_tiny (w := l + 1) (by omega)
        have := gN_le (w := l + 1 + 1 + 1) (h := 4) (by decide) (by rw [w4]; omega)
        omega
      · have := dsc_two (w := l + 1) (by omega)
        have := gN_le (w := l + 1 + 1 + 1) (h := 5) (by decide) (by rw [w5]; omega)
        omega
  · by_cases c : l + 1 ≤ 3 * r
    · have j : jB l (r - 1) = 1 := by
        unfold jB
        rw [dsc_zero (by omega), dsc_zero (by omega)]
      rw [j]
      by_cases r3 : r ≤ 3
      · have : pB r = r := by unfold pB; rw [if_pos r3]
        rw [this]
        unfold pB
        split
        · omega
        · have := gN_le (w := l + r + 1 + 1) (h := 3) (by decide) (by rw [w3]; omega)
          omega
      · have e1 : pB r = gN (r + 1) + 3 := by unfold pB; rw [if_neg r3]
        have e2 : pB (l + r + 1) = gN (l + r + 1 + 1) + 3 := by unfold pB; rw [if_neg (by omega)]
        have := gN_step (m := r + 1) (w := l + r + 1 + 1) (by omega) (by omega) (by omega)
        omega
    · have j := jB_less h (show 2 ≤ r by omega)
      have e2 : pB (l + r + 1) = gN (l + r + 1 + 1) + 3 := by unfold pB; rw [if_neg (by omega)]
      by_cases r3 : r ≤ 3
      · have e1 : pB r = r := by unfold pB; rw [if_pos r3]
        by_cases r2 : r = 2
        · have := gN_le (w := l + r + 1 + 1) (h := 5) (by decide) (by rw [w5]; omega)
          omega
        · have := gN_le (w := l + r + 1 + 1) (h := 6) (by decide) (by rw [w6]; omega)
          omega
      · have e1 : pB r = gN (r + 1) + 3 := by unfold pB; rw [if_neg r3]
        have := gN_step4 (r := r + 1) (w := l + r + 1 + 1) (by omega) (by omega) (by omega)
        omega
/-- What a concatenation may need. -/
def cB (l r : Nat) : Nat := if l = 0 ∨ r = 0 then 0 else pB l + jB (l - 1) r
theorem cB_bal {l r : Nat} (h : balN l r) (hz : l + r ≤ 800000) : cB l r ≤ 4 * gN (l + r + 2) := by
  unfold cB
  split
  · omega
  · have h1 := pB_g l
    have h5 : jB (l - 1) r ≤ 7 := by
      rw [jB_comm]
      by_cases c : l = 1
      · subst c; exact jB_nil (balN_comm h)
      · have := jB_less (balN_comm h) (show 2 ≤ l by omega); omega
    have hb := h
    unfold balN at hb
    have h3 := gN_step (m := l + 1) (w := l + r + 2) (by omega) (by omega) (by omega)
    have h4 := gN_le (w := l + r + 2) (h := 3) (by decide) (by rw [w3]; omega)
    omega
/-- What an insertion and a deletion may need. -/
def iB (n : Nat) : Nat := 4 * gN (n + 1) + 1
def dB (n : Nat) : Nat := if n ≤ 1 then 1 else 4 * gN (n + 1) + 4
theorem iB_step {l c : Nat} (h : balN l c) (hz : l + c ≤ 800000) : iB c + 4 ≤ iB (l + c + 1) := by
  unfold balN at h
  unfold iB
  have := gN_step (m := c + 1) (w := l + c + 1 + 1) (by omega) (by omega) (by omega)
  omega
theorem dB_le (n : Nat) : dB n ≤ 4 * gN (n + 1) + 4 := by unfold dB; split <;> omega
theorem dB_pos (n : Nat) : 1 ≤ dB n := by unfold dB; split <;> omega
theorem dB_step {l c : Nat} (h : balN l c) (hc : 1 ≤ c) (hz : l + c ≤ 800000) : dB c + jB l (c - 1) ≤ dB (l + c + 1) := by
  have hb := h
  unfold balN at hb
  have e : dB (l + c + 1) = 4 * gN (l + c + 1 + 1) + 4 := by unfold dB; rw [if_neg (by omega)]
  rw [e]
  by_cases c1 : c = 1
  · subst c1
    have j := jB_nil h
    have e1 : dB 1 = 1 := rfl
    have := gN_le (w := l + 1 + 1 + 1) (h := 2) (by decide) (by rw [w2]; omega)
    rw [e1]
    show 1 + jB l 0 ≤ _
    omega
  · have j := jB_less h (show 2 ≤ c by omega)
    have e1 : dB c = 4 * gN (c + 1) + 4 := by unfold dB; rw [if_neg (by omega)]
    have := gN_step (m := c + 1) (w := l + c + 1 + 1) (by omega) (by omega) (by omega)
    omega
theorem dB_found {l r : Nat} (h : balN l r) (hz : l + r ≤ 800000) : cB l r + 1 ≤ dB (l + r + 1) := by
  unfold dB
  split
  · have e1 : l = 0 := by omega
    subst e1
    unfold cB; simp
  · have := cB_bal h hz
    have e : l + r + 1 + 1 = l + r + 2 := rfl
    rw [e]
    omega
/-- What a cut may need: on the way down, and for what comes out. -/
def sB (n : Nat) (out : Nat) : Nat := gN (n + 1) + 3 * gN (out + 1) + 1
theorem insE_ge {l : List Ent} (e : Ent) (h : Asc l) : l.length ≤ (insE l e).length := by
  induction l with
  | nil => exact Nat.zero_le _
  | cons x l ih =>
    rw [insE_cons h]
    have := ih h.tail
    split
    · simp
    · split <;> simp <;> omega
def hasK (l : List Ent) (k : Int) : Prop := ∃ v, (k, v) ∈ l
def neK (key : Int) (q : Int) : Bool := decide (q ≠ key)
theorem flt_ne_len {l : List Ent} {k : Int} (h : Asc l) (hk : hasK l k) : (flt (neK k) l).length + 1 = l.length := by
  induction l with
  | nil => obtain ⟨v, hv⟩ := hk; simp at hv
  | cons x l ih =>
    obtain ⟨v, hv⟩ := hk
    have hh := h.head
    unfold flt at ih ⊢
    rw [List.filter_cons]
    by_cases e : x.1 = k
    · have : (l.filter fun x => neK k x.1) = l := List.filter_eq_self.2 fun y hy => by have := hh y hy; simp [neK]; omega
      simp [neK, e]
      simpa [neK] using this
    · have hm : (k, v) ∈ l := by
        rcases List.mem_cons.1 hv with q | q
        · exact absurd (congrArg Prod.fst q).symm e
        · exact q
      have := ih h.tail ⟨v, hm⟩
      simp [neK, e] at this ⊢
      omega
theorem Got.of_zero {S S' : Arn} {hs hs1 : List Int} {m r : Nat} (a : Got S hs m r S' (0 :: hs1)) : Got S hs m r S' hs1 := ⟨a.wf.of_zero, a.stay, a.len, a.nu, a.rd0, a.rd⟩
theorem flt_upR {p : Int → Bool} {a b : List Ent} {k v : Int} (hb : ∀ x ∈ b, p x.1 = true) (hk : p k = true) : flt p (a ++ (k, v) :: b) = flt p a ++ (k, v) :: b := by
  rw [flt_node, flt_all hb, hk]; simp
theorem flt_upL {p : Int → Bool} {a b : List Ent} {k v : Int} (ha : ∀ x ∈ a, p x.1 = true) (hk : p k = true) : flt p (a ++ (k, v) :: b) = a ++ (k, v) :: flt p b := by
  rw [flt_node, flt_all ha, hk]; simp
end Go.Proofs.Ytmjnoiajenoinaa
end
