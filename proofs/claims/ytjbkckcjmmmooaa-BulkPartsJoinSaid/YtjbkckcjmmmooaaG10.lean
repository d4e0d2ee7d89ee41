/- A part of the proof. -/
import Derived.Test.YtjbkckcjmmmooaaG9
import Derived.Test.YtjbkckcjmmmooaaG5
import Derived.Test.YtjbkckcjmmmooaaG7
import Derived.Test.YtjbkckcjmmmooaaG8
section
/- The reference's Check of a dump, Clean and Sound. -/
namespace Go.Proofs.Ytjbkckcjmmmooaa.Sx
open Go

/-KEEP Wf exW inU allU Arn.cap Arn.free alcD cntL kidsL slotsOf orderOf MarksR CleanD kidsU-/
structure XCk (d : List SlotT) (roots : List Int) where
  i : Nat
  m : List Bool
  h : i ≤ d.length ∧ MarksR d roots m
structure XCj (d : List SlotT) (roots : List Int) (P : Nat → Int → Prop) where
  i : Nat
  m : List Bool
  c : Int
  h : i < d.length ∧ MarksR d roots m ∧ P i c
abbrev bxSl (x : SlotT) : Chunk C0 := .box [.val (.bool x.alloc), vI x.count, vU x.gen, vI x.node.key, vI x.node.value, vU x.node.left, vU x.node.right, vI x.node.size, vI x.node.sum, vI x.node.min, vI x.node.max]
abbrev chK (d : List SlotT) (fl roots : List Int) (m : List Bool) : List (Chunk C0) := [.row false EC.slot d, .row false EC.u32 fl, .row false EC.u32 roots, .box [.slc 0, .slc 1], .row true EC.int (cntL (kidsL d) d.length), .row true EC.bool m, .row true EC.int (cntL fl d.length), .row true EC.int (cntL roots d.length), .row true EC.find []]
structure XIy (n : Nat) where
  i : Nat
  h : i < n
noncomputable def aChk (P0 P1 P2 P3 P4 : Nat → Int → Prop) (d : List SlotT) (fl roots : List Int) : Ann C0 := { Γ := [(128, frameT [] tInE), (129, frameT [] tMk), (130, frameT [] tCnt), (110, frameT [] tAlc), (131, frameT [] tKids)], quiet := [128, 129, 130, 110, 131], rounds := fun n => if n = 19 then 3 else 0, inv := fun n => match n with
  | 5 => some { X := XCk d roots, sl := [2, 6, 7, 8, 9, 5, 10], tf := fun x => [.one (.at (.ptr 3 0)), .one (.at (.slc 4)), .one (.at (.slc 5)), .one (.at (.slc 6)), .one (.at (.slc 7)), .one (.at (.slc 8)), vi .i64 x.i], hf := fun x => chK d fl roots x.m, μ := fun x => d.length - x.i }
  | 1011 => some { X := XCj d roots P4, sl := [2, 6, 7, 8, 9, 5, 10, 12, 13], tf := fun x => [.one (.at (.ptr 3 0)), .one (.at (.slc 4)), .one (.at (.slc 5)), .one (.at (.slc 6)), .one (.at (.slc 7)), .one (.at (.slc 8)), vi .i64 x.i, .one (.at (.ptr 9 0)), vi .i64 x.c], hf := fun x => chK d fl roots x.m ++ [bxSl (eS d x.i)], rel := fun T _ z => slotI T 10 z.i }
  | 1013 => some { X := XCj d roots P0, sl := [2, 6, 7, 8, 9, 5, 10, 12, 60], tf := fun x => [.one (.at (.ptr 3 0)), .one (.at (.slc 4)), .one (.at (.slc 5)), .one (.at (.slc 6)), .one (.at (.slc 7)), .one (.at (.slc 8)), vi .i64 x.i, .one (.at (.ptr 9 0)), vb false], hf := fun x => chK d fl roots x.m ++ [bxSl (eS d x.i)], rel := fun T _ z => slotI T 10 z.i }
  | 1025 => some { X := XCj d roots P1, sl := [2, 6, 7, 8, 9, 5, 10, 12, 17], tf := fun x => [.one (.at (.ptr 3 0)), .one (.at (.slc 4)), .one (.at (.slc 5)), .one (.at (.slc 6)), .one (.at (.slc 7)), .one (.at (.slc 8)), vi .i64 x.i, .one (.at (.ptr 9 0)), vi .i64 x.c], hf := fun x => chK d fl roots x.m ++ [bxSl (eS d x.i)], rel := fun T _ z => slotI T 10 z.i }
  | 1026 => some { X := XCj d roots P2, sl := [2, 6, 7, 8, 9, 5, 10, 12, 110], tf := fun x => [.one (.at (.ptr 3 0)), .one (.at (.slc 4)), .one (.at (.slc 5)), .one (.at (.slc 6)), .one (.at (.slc 7)), .one (.at (.slc 8)), vi .i64 x.i, .one (.at (.ptr 9 0)), vb false], hf := fun x => chK d fl roots x.m ++ [bxSl (eS d x.i)], rel := fun T _ z => slotI T 10 z.i }
  | 1028 => some { X := XCj d roots P3, sl := [2, 6, 7, 8, 9, 5, 10, 12, 15], tf := fun x => [.one (.at (.ptr 3 0)), .one (.at (.slc 4)), .one (.at (.slc 5)), .one (.at (.slc 6)), .one (.at (.slc 7)), .one (.at (.slc 8)), vi .i64 x.i, .one (.at (.ptr 9 0)), vi .i64 x.c], hf := fun x => chK d fl roots x.m ++ [bxSl (eS d x.i)], rel := fun T _ z => slotI T 10 z.i }
  | 1029 => some { X := XCj d roots P0, sl := [2, 6, 7, 8, 9, 5, 10, 12, 132], tf := fun x => [.one (.at (.ptr 3 0)), .one (.at (.slc 4)), .one (.at (.slc 5)), .one (.at (.slc 6)), .one (.at (.slc 7)), .one (.at (.slc 8)), vi .i64 x.i, .one (.at (.ptr 9 0)), vb false], hf := fun x => chK d fl roots x.m ++ [bxSl (eS d x.i)], rel := fun T _ z => slotI T 10 z.i }
  | 1031 => some { X := XCj d roots P0, sl := [2, 6, 7, 8, 9, 5, 10, 12, 149], tf := fun x => [.one (.at (.ptr 3 0)), .one (.at (.slc 4)), .one (.at (.slc 5)), .one (.at (.slc 6)), .one (.at (.slc 7)), .one (.at (.slc 8)), vi .i64 x.i, .one (.at (.ptr 9 0)), vb false], hf := fun x => chK d fl roots x.m ++ [bxSl (eS d x.i)], rel := fun T _ z => slotI T 10 z.i }
  | 33 => some { X := XIx fl.length, sl := [2, 5, 19], tf := fun x => [.one (.at (.ptr 3 0)), .one (.at (.slc 4)), vi .i64 x.i], hf := fun _ => [.row false EC.slot d, .row false EC.u32 fl, .row false EC.u32 roots, .box [.slc 0, .slc 1], .row true EC.find []], μ := fun x => fl.length - x.i }
  | 1036 => some { X := XIy fl.length, sl := [2, 5, 19, 180], tf := fun x => [.one (.at (.ptr 3 0)), .one (.at (.slc 4)), vi .i64 x.i, vb false], hf := fun _ => [.row false EC.slot d, .row false EC.u32 fl, .row false EC.u32 roots, .box [.slc 0, .slc 1], .row true EC.find []], rel := fun T _ z => slotI T 19 z.i }
  | 38 => some { X := XIx roots.length, sl := [2, 5, 20], tf := fun x => [.one (.at (.ptr 3 0)), .one (.at (.slc 4)), vi .i64 x.i], hf := fun _ => [.row false EC.slot d, .row false EC.u32 fl, .row false EC.u32 roots, .box [.slc 0, .slc 1], .row true EC.find []], μ := fun x => roots.length - x.i }
  | 1041 => some { X := XIy roots.length, sl := [2, 5, 20, 209], tf := fun x => [.one (.at (.ptr 3 0)), .one (.at (.slc 4)), vi .i64 x.i, vb false], hf := fun _ => [.row false EC.slot d, .row false EC.u32 fl, .row false EC.u32 roots, .box [.slc 0, .slc 1], .row true EC.find []], rel := fun T _ z => slotI T 20 z.i }
  | _ => none }
def tChk : Tfm C0 := fun args H K => match args, H with
  | [.agg [.slc 0, .slc 1], .at (.slc 2)], [.row false .slot d, .row false .u32 fl, .row false .u32 roots] => CleanD d fl roots ∧ kidsU d ∧ allU fl ∧ allU roots ∧ d.length ≤ 100000 ∧ fl.length ≤ 1000000 ∧ roots.length ≤ 1000000 ∧
    K (.one (.at (.slc 3))) [.row false EC.slot d, .row false EC.u32 fl, .row false EC.u32 roots, .row true EC.find []] []
  | _, _ => False
noncomputable def aCln : Ann C0 := { Γ := [(109, frameT [] tChk)] }
def tCln : Tfm C0 := fun args H K => match args, H with
  | [.agg [.slc 0, .slc 1], .at (.slc 2)], [.row false .slot d, .row false .u32 fl, .row false .u32 roots] => CleanD d fl roots ∧ kidsU d ∧ allU fl ∧ allU roots ∧ d.length ≤ 100000 ∧ fl.length ≤ 1000000 ∧ roots.length ≤ 1000000 ∧
    K (.one (.at (vB true))) [.row false EC.slot d, .row false EC.u32 fl, .row false EC.u32 roots] []
  | _, _ => False
noncomputable def aSound : Ann C0 := { Γ := [(30, frameT [] tDump), (80, frameT [] tCln)] }
def tSound : Tfm C0 := fun args H K => match args with
  | [.at (.ptr 0 0), .at (.slc 7)] => arMr H fun S rest => match rest with
    | [.row false .u32 roots] => ∃ hs, Wf S hs ∧ roots.Perm hs ∧ roots.length ≤ 1000000 ∧ K (.one (.at (vB true))) (chS S ++ [.row false EC.u32 roots]) []
    | _ => False
  | _ => False
def P0c (_ : Nat) (_ : Int) : Prop := True
def P4c (d : List SlotT) (i : Nat) (c : Int) : Prop := c = if (eS d i).alloc = true then 0 else 1
def P1c (d : List SlotT) (i : Nat) (c : Int) : Prop := (eS d i).alloc = true ∧ c = 1 + szD d (eS d i).node.left + szD d (eS d i).node.right
def P2c (d : List SlotT) (i : Nat) (_ : Int) : Prop := (eS d i).alloc = true
def P3c (d : List SlotT) (roots : List Int) (i : Nat) (c : Int) : Prop := c = if (eS d i).alloc = true then ((kidsL d).count ((i : Int) + 1) : Int) + (roots.count ((i : Int) + 1) : Int) else 0
theorem eS_sz {d : List SlotT} {fl roots : List Int} (_ : CleanD d fl roots) (hl : d.length ≤ 100000) {j : Int} (h : alcD d j = true) : 0 ≤ IntKind.u32.wrap (j - 1) ∧ IntKind.u32.wrap (j - 1) < (d.length : Int) ∧ (eS d (IntKind.u32.wrap (j - 1)).toNat).node.size = szD d j := by
  obtain ⟨a, b⟩ := alcD_rng h
  rw [wrap_u32 (x := j - 1) (by omega) (by omega)]
  refine ⟨by omega, by omega, ?_⟩
  unfold szD; rw [if_pos h]; rfl
theorem szD_no {d : List SlotT} {j : Int} (h : alcD d j = false) : szD d j = 0 := by unfold szD; rw [h]; rfl
theorem szD_rng {d : List SlotT} {fl roots : List Int} (hc : CleanD d fl roots) (j : Int) : 0 ≤ szD d j ∧ szD d j ≤ 4294967296 := by
  cases h : alcD d j with
  | false => rw [szD_no h]; omega
  | true =>
    obtain ⟨a, b⟩ := alcD_rng h
    unfold szD; rw [if_pos h]
    exact hc.zr (j - 1).toNat (by omega)
theorem vc_chk (d : List SlotT) (fl roots : List Int) (K : KT) (hc : CleanD d fl roots) (hk : kidsU d) (hfu : allU fl) (hru : allU roots) (hl : d.length ≤ 100000) (hf : fl.length ≤ 1000000) (hr : roots.length ≤ 1000000)
    (h : K (.one (.at (.slc 3))) [.row false EC.slot d, .row false EC.u32 fl, .row false EC.u32 roots, .row true EC.find []] []) :
    vc C0 (aChk P0c (P1c d) (P2c d) (P3c d roots) (P4c d) d fl roots) Try.f109 [.agg [.slc 0, .slc 1], .at (.slc 2)] [.row false EC.slot d, .row false EC.u32 fl, .row false EC.u32 roots] (normK 3 K) := by
  generalize hP0 : P0c = P0
  generalize hP1 : P1c d = P1
  generalize hP2 : P2c d = P2
  generalize hP3 : P3c d roots = P3
  generalize hP4 : P4c d = P4
  refine Eq.mp (show ((d.length ≤ 100000) ∧
(kidsU d) ∧
(∀ o : List Int, (((o) = (cntL (kidsL d) d.length)) → ((d.length ≤ 100000) ∧ (roots.length ≤ 1000000) ∧ (kidsU d) ∧ (allU roots) ∧ (∀ m : List Bool, ((MarksR d roots m) → ((0 ≤ (↑d.length : Int)) ∧ ((↑d.length : Int) ≤ 100000) ∧ (fl.length ≤ 1000000) ∧ (allU fl) ∧ (∀ o1 : List Int, (((o1) = (cntL fl (↑d.length : Int).toNat)) → ((0 ≤ (↑d.length : Int)) ∧ ((↑d.length : Int) ≤ 100000) ∧ (roots.length ≤ 1000000) ∧ (allU roots) ∧ (∀ o2 : List Int, (((o2) = (cntL roots (↑d.length : Int).toNat)) → ((∃ x : XCk d roots, (True ∧ (True ∧ True ∧ True ∧ True ∧ True ∧ True ∧ True ∧ ((Value.int IntKind.i64 0) = (Value.int IntKind.i64 ((↑x.i : Int)))) ∧ True) ∧ ((d) = (d)) ∧ ((fl) = (fl)) ∧ ((roots) = (roots)) ∧ (True ∧ True ∧ True) ∧ ((o) = (cntL (kidsL d) d.length)) ∧ ((m) = (x.m)) ∧ ((o1) = (cntL fl d.length)) ∧ ((o2) = (cntL roots d.length)) ∧ ((([] : List FindT) = [])) ∧ True)) ∧ (∀ x : XCk d roots, (True → (brS (decide ((↑x.i : Int) < (↑d.length : Int))) (((0 ≤ (↑x.i : Int)) ∧ ((↑x.i : Int) < (↑d.length : Int)) ∧ (brS ((eS d (↑x.i : Int).toNat).alloc) ((∃ x1 : XCj d roots P4, ((((↑x.i : Int)) = ((↑x1.i : Int))) ∧ (True ∧ True ∧ True ∧ True ∧ True ∧ True ∧ True ∧ ((Value.int IntKind.i64 ((↑x.i : Int))) = (Value.int IntKind.i64 ((↑x1.i : Int)))) ∧ ((Value.int IntKind.u32 (IntKind.u32.wrap (IntKind.i64.wrap ((↑x.i : Int) + 1)))) = (Value.int IntKind.u32 (IntKind.u32.wrap (IntKind.i64.wrap ((↑x.i : Int) + 1))))) ∧ True ∧
    ((Value.int IntKind.i64 0) = (Value.int IntKind.i64 (x1.c))) ∧ True) ∧ ((d) = (d)) ∧ ((fl) = (fl)) ∧ ((roots) = (roots)) ∧ (True ∧ True ∧ True) ∧ ((cntL (kidsL d) d.length) = (cntL (kidsL d) d.length)) ∧ ((x.m) = (x1.m)) ∧ ((cntL fl d.length) = (cntL fl d.length)) ∧ ((cntL roots d.length) = (cntL roots d.length)) ∧ ((([] : List FindT) = [])) ∧ (((Value.bool ((eS d (↑x.i : Int).toNat).alloc)) = (Value.bool ((eS d x1.i).alloc))) ∧ ((Value.int IntKind.i64 ((eS d (↑x.i : Int).toNat).count)) = (Value.int IntKind.i64 ((eS d x1.i).count))) ∧ ((Value.int IntKind.u32 ((eS d (↑x.i : Int).toNat).gen)) = (Value.int IntKind.u32 ((eS d x1.i).gen))) ∧ ((Value.int IntKind.i64 ((eS d (↑x.i : Int).toNat).node.key)) = (Value.int IntKind.i64 ((eS d x1.i).node.key))) ∧ ((Value.int IntKind.i64 ((eS d (↑x.i : Int).toNat).node.value)) = (Value.int IntKind.i64 ((eS d x1.i).node.value))) ∧ ((Value.int IntKind.u32 ((eS d (↑x.i : Int).toNat).node.left)) = (Value.int IntKind.u32 ((eS d x1.i).node.left))) ∧ ((Value.int IntKind.u32 ((eS d (↑x.i : Int).toNat).node.right)) = (Value.int IntKind.u32 ((eS d x1.i).node.right))) ∧ ((Value.int IntKind.i64 ((eS d (↑x.i : Int).toNat).node.size)) = (Value.int IntKind.i64 ((eS d x1.i).node.size))) ∧ ((Value.int IntKind.i64 ((eS d (↑x.i : Int).toNat).node.sum)) = (Value.int IntKind.i64 ((eS d x1.i).node.sum))) ∧ ((Value.int IntKind.i64 ((eS d (↑x.i : Int).toNat).node.min)) = (Value.int IntKind.i64 ((eS d x1.i).node.min))) ∧
    ((Value.int IntKind.i64 ((eS d (↑x.i : Int).toNat).node.max)) = (Value.int IntKind.i64 ((eS d x1.i).node.max))) ∧ True) ∧ True))) ((∃ x1 : XCj d roots P4, ((((↑x.i : Int)) = ((↑x1.i : Int))) ∧ (True ∧ True ∧ True ∧ True ∧ True ∧ True ∧ True ∧ ((Value.int IntKind.i64 ((↑x.i : Int))) = (Value.int IntKind.i64 ((↑x1.i : Int)))) ∧ ((Value.int IntKind.u32 (IntKind.u32.wrap (IntKind.i64.wrap ((↑x.i : Int) + 1)))) = (Value.int IntKind.u32 (IntKind.u32.wrap (IntKind.i64.wrap ((↑x.i : Int) + 1))))) ∧ True ∧ ((Value.int IntKind.i64 1) = (Value.int IntKind.i64 (x1.c))) ∧ True) ∧ ((d) = (d)) ∧ ((fl) = (fl)) ∧ ((roots) = (roots)) ∧ (True ∧ True ∧ True) ∧ ((cntL (kidsL d) d.length) = (cntL (kidsL d) d.length)) ∧ ((x.m) = (x1.m)) ∧ ((cntL fl d.length) = (cntL fl d.length)) ∧ ((cntL roots d.length) = (cntL roots d.length)) ∧ ((([] : List FindT) = [])) ∧ (((Value.bool ((eS d (↑x.i : Int).toNat).alloc)) = (Value.bool ((eS d x1.i).alloc))) ∧ ((Value.int IntKind.i64 ((eS d (↑x.i : Int).toNat).count)) = (Value.int IntKind.i64 ((eS d x1.i).count))) ∧ ((Value.int IntKind.u32 ((eS d (↑x.i : Int).toNat).gen)) = (Value.int IntKind.u32 ((eS d x1.i).gen))) ∧ ((Value.int IntKind.i64 ((eS d (↑x.i : Int).toNat).node.key)) = (Value.int IntKind.i64 ((eS d x1.i).node.key))) ∧ ((Value.int IntKind.i64 ((eS d (↑x.i : Int).toNat).node.value)) = (Value.int IntKind.i64 ((eS d x1.i).node.value))) ∧ ((Value.int IntKind.u32 ((eS d (↑x.i : Int).toNat).node.left)) = (Value.int IntKind.u32 ((eS d x1.i).node.left))) ∧
    ((Value.int IntKind.u32 ((eS d (↑x.i : Int).toNat).node.right)) = (Value.int IntKind.u32 ((eS d x1.i).node.right))) ∧ ((Value.int IntKind.i64 ((eS d (↑x.i : Int).toNat).node.size)) = (Value.int IntKind.i64 ((eS d x1.i).node.size))) ∧ ((Value.int IntKind.i64 ((eS d (↑x.i : Int).toNat).node.sum)) = (Value.int IntKind.i64 ((eS d x1.i).node.sum))) ∧ ((Value.int IntKind.i64 ((eS d (↑x.i : Int).toNat).node.min)) = (Value.int IntKind.i64 ((eS d x1.i).node.min))) ∧ ((Value.int IntKind.i64 ((eS d (↑x.i : Int).toNat).node.max)) = (Value.int IntKind.i64 ((eS d x1.i).node.max))) ∧ True) ∧ True)))) ∧ (∀ x1 : XCj d roots P4, ((((↑x.i : Int)) = ((↑x1.i : Int))) → ((0 ≤ (↑x1.i : Int)) ∧ ((↑x1.i : Int) < (↑(cntL fl d.length).length : Int)) ∧ (∃ x2 : XCj d roots P0, ((((↑x1.i : Int)) = ((↑x2.i : Int))) ∧ (True ∧ True ∧ True ∧ True ∧ True ∧ True ∧ True ∧ ((Value.int IntKind.i64 ((↑x1.i : Int))) = (Value.int IntKind.i64 ((↑x2.i : Int)))) ∧ ((Value.int IntKind.u32 (IntKind.u32.wrap (IntKind.i64.wrap ((↑x.i : Int) + 1)))) = (Value.int IntKind.u32 (IntKind.u32.wrap (IntKind.i64.wrap ((↑x.i : Int) + 1))))) ∧ True ∧ ((Value.int IntKind.i64 (x1.c)) = (Value.int IntKind.i64 (x1.c))) ∧ ((Value.int IntKind.i64 ((cntL fl d.length).getD (↑x1.i : Int).toNat 0)) = (Value.int IntKind.i64 ((cntL fl d.length).getD (↑x1.i : Int).toNat 0))) ∧ ((Value.bool ((cntL fl d.length).getD (↑x1.i : Int).toNat 0 != x1.c)) = (Value.bool false)) ∧ True) ∧ ((d) = (d)) ∧ ((fl) = (fl)) ∧ ((roots) = (roots)) ∧ (True ∧ True ∧
    True) ∧ ((cntL (kidsL d) d.length) = (cntL (kidsL d) d.length)) ∧ ((x1.m) = (x2.m)) ∧ ((cntL fl d.length) = (cntL fl d.length)) ∧ ((cntL roots d.length) = (cntL roots d.length)) ∧ ((([] : List FindT) = [])) ∧ (((Value.bool ((eS d x1.i).alloc)) = (Value.bool ((eS d x2.i).alloc))) ∧ ((Value.int IntKind.i64 ((eS d x1.i).count)) = (Value.int IntKind.i64 ((eS d x2.i).count))) ∧ ((Value.int IntKind.u32 ((eS d x1.i).gen)) = (Value.int IntKind.u32 ((eS d x2.i).gen))) ∧ ((Value.int IntKind.i64 ((eS d x1.i).node.key)) = (Value.int IntKind.i64 ((eS d x2.i).node.key))) ∧ ((Value.int IntKind.i64 ((eS d x1.i).node.value)) = (Value.int IntKind.i64 ((eS d x2.i).node.value))) ∧ ((Value.int IntKind.u32 ((eS d x1.i).node.left)) = (Value.int IntKind.u32 ((eS d x2.i).node.left))) ∧ ((Value.int IntKind.u32 ((eS d x1.i).node.right)) = (Value.int IntKind.u32 ((eS d x2.i).node.right))) ∧ ((Value.int IntKind.i64 ((eS d x1.i).node.size)) = (Value.int IntKind.i64 ((eS d x2.i).node.size))) ∧ ((Value.int IntKind.i64 ((eS d x1.i).node.sum)) = (Value.int IntKind.i64 ((eS d x2.i).node.sum))) ∧ ((Value.int IntKind.i64 ((eS d x1.i).node.min)) = (Value.int IntKind.i64 ((eS d x2.i).node.min))) ∧ ((Value.int IntKind.i64 ((eS d x1.i).node.max)) = (Value.int IntKind.i64 ((eS d x2.i).node.max))) ∧ True) ∧ True)) ∧ (∀ x2 : XCj d roots P0, ((((↑x1.i : Int)) = ((↑x2.i : Int))) → ((brS ((eS d x2.i).alloc) (((((0 : Int) ≤ 0) ∧ (0 < ((2 : Nat) : Int)) ∧ (inU (eS d x2.i).node.left) ∧ (d.length ≤ 1000000) ∧
    (brS (alcD d (eS d x2.i).node.left) ((((0 : Int) ≤ 0) ∧ (0 < ((2 : Nat) : Int)) ∧ (0 ≤ IntKind.u32.wrap ((eS d x2.i).node.left - 1)) ∧ (IntKind.u32.wrap ((eS d x2.i).node.left - 1) < (↑d.length : Int)) ∧ (0 ≤ IntKind.i64.wrap (0 + 1)) ∧ (IntKind.i64.wrap (0 + 1) < ((2 : Nat) : Int)) ∧ (inU (eS d x2.i).node.right) ∧ (d.length ≤ 1000000) ∧ (brS (alcD d (eS d x2.i).node.right) (((0 ≤ IntKind.i64.wrap (0 + 1)) ∧ (IntKind.i64.wrap (0 + 1) < ((2 : Nat) : Int)) ∧ (0 ≤ IntKind.u32.wrap ((eS d x2.i).node.right - 1)) ∧ (IntKind.u32.wrap ((eS d x2.i).node.right - 1) < (↑d.length : Int)) ∧ (∃ x3 : XCj d roots P1, ((((↑x2.i : Int)) = ((↑x3.i : Int))) ∧ (True ∧ True ∧ True ∧ True ∧ True ∧ True ∧ True ∧ ((Value.int IntKind.i64 ((↑x2.i : Int))) = (Value.int IntKind.i64 ((↑x3.i : Int)))) ∧ ((Value.int IntKind.u32 (IntKind.u32.wrap (IntKind.i64.wrap ((↑x.i : Int) + 1)))) = (Value.int IntKind.u32 (IntKind.u32.wrap (IntKind.i64.wrap ((↑x.i : Int) + 1))))) ∧ True ∧ ((Value.int IntKind.i64 (IntKind.i64.wrap (IntKind.i64.wrap (1 + (eS d (IntKind.u32.wrap ((eS d x2.i).node.left - 1)).toNat).node.size) + (eS d (IntKind.u32.wrap ((eS d x2.i).node.right - 1)).toNat).node.size))) = (Value.int IntKind.i64 (x3.c))) ∧ True) ∧ ((d) = (d)) ∧ ((fl) = (fl)) ∧ ((roots) = (roots)) ∧ (True ∧ True ∧ True) ∧ ((cntL (kidsL d) d.length) = (cntL (kidsL d) d.length)) ∧ ((x2.m) = (x3.m)) ∧ ((cntL fl d.length) = (cntL fl d.length)) ∧ ((cntL roots d.length) = (cntL roots d.length)) ∧ ((([] : List FindT) = [])) ∧
    (((Value.bool ((eS d x2.i).alloc)) = (Value.bool ((eS d x3.i).alloc))) ∧ ((Value.int IntKind.i64 ((eS d x2.i).count)) = (Value.int IntKind.i64 ((eS d x3.i).count))) ∧ ((Value.int IntKind.u32 ((eS d x2.i).gen)) = (Value.int IntKind.u32 ((eS d x3.i).gen))) ∧ ((Value.int IntKind.i64 ((eS d x2.i).node.key)) = (Value.int IntKind.i64 ((eS d x3.i).node.key))) ∧ ((Value.int IntKind.i64 ((eS d x2.i).node.value)) = (Value.int IntKind.i64 ((eS d x3.i).node.value))) ∧ ((Value.int IntKind.u32 ((eS d x2.i).node.left)) = (Value.int IntKind.u32 ((eS d x3.i).node.left))) ∧ ((Value.int IntKind.u32 ((eS d x2.i).node.right)) = (Value.int IntKind.u32 ((eS d x3.i).node.right))) ∧ ((Value.int IntKind.i64 ((eS d x2.i).node.size)) = (Value.int IntKind.i64 ((eS d x3.i).node.size))) ∧ ((Value.int IntKind.i64 ((eS d x2.i).node.sum)) = (Value.int IntKind.i64 ((eS d x3.i).node.sum))) ∧ ((Value.int IntKind.i64 ((eS d x2.i).node.min)) = (Value.int IntKind.i64 ((eS d x3.i).node.min))) ∧ ((Value.int IntKind.i64 ((eS d x2.i).node.max)) = (Value.int IntKind.i64 ((eS d x3.i).node.max))) ∧ True) ∧ True)))) (((0 ≤ IntKind.i64.wrap (0 + 1)) ∧ (IntKind.i64.wrap (0 + 1) < ((2 : Nat) : Int)) ∧ (brS ((eS d x2.i).node.right != 0) (((0 ≤ IntKind.i64.wrap (0 + 1)) ∧ (IntKind.i64.wrap (0 + 1) < ((2 : Nat) : Int)) ∧
    ((([] : List Ent).length + [{ kind := 2, slot := IntKind.u32.wrap (IntKind.i64.wrap ((↑x.i : Int) + 1)), want := 0, have_ := IntKind.i64.wrap (eS d x2.i).node.right : FindT }].length) * bytesOf C0 EC.find ≤ 140737488355328) ∧ (∃ x3 : XCj d roots P1, ((((↑x2.i : Int)) = ((↑x3.i : Int))) ∧ (True ∧ True ∧ True ∧ True ∧ True ∧ True ∧ True ∧ ((Value.int IntKind.i64 ((↑x2.i : Int))) = (Value.int IntKind.i64 ((↑x3.i : Int)))) ∧ ((Value.int IntKind.u32 (IntKind.u32.wrap (IntKind.i64.wrap ((↑x.i : Int) + 1)))) = (Value.int IntKind.u32 (IntKind.u32.wrap (IntKind.i64.wrap ((↑x.i : Int) + 1))))) ∧ True ∧ ((Value.int IntKind.i64 (IntKind.i64.wrap (1 + (eS d (IntKind.u32.wrap ((eS d x2.i).node.left - 1)).toNat).node.size))) = (Value.int IntKind.i64 (x3.c))) ∧ True) ∧ ((d) = (d)) ∧ ((fl) = (fl)) ∧ ((roots) = (roots)) ∧ (True ∧ True ∧ True) ∧ ((cntL (kidsL d) d.length) = (cntL (kidsL d) d.length)) ∧ ((x2.m) = (x3.m)) ∧ ((cntL fl d.length) = (cntL fl d.length)) ∧ ((cntL roots d.length) = (cntL roots d.length)) ∧ ([({ kind := 2, slot := IntKind.u32.wrap (IntKind.i64.wrap ((↑x.i : Int) + 1)), want := 0, have_ := IntKind.i64.wrap (eS d x2.i).node.right : FindT })] = []) ∧ (((Value.bool ((eS d x2.i).alloc)) = (Value.bool ((eS d x3.i).alloc))) ∧ ((Value.int IntKind.i64 ((eS d x2.i).count)) = (Value.int IntKind.i64 ((eS d x3.i).count))) ∧ ((Value.int IntKind.u32 ((eS d x2.i).gen)) = (Value.int IntKind.u32 ((eS d x3.i).gen))) ∧
    ((Value.int IntKind.i64 ((eS d x2.i).node.key)) = (Value.int IntKind.i64 ((eS d x3.i).node.key))) ∧ ((Value.int IntKind.i64 ((eS d x2.i).node.value)) = (Value.int IntKind.i64 ((eS d x3.i).node.value))) ∧ ((Value.int IntKind.u32 ((eS d x2.i).node.left)) = (Value.int IntKind.u32 ((eS d x3.i).node.left))) ∧ ((Value.int IntKind.u32 ((eS d x2.i).node.right)) = (Value.int IntKind.u32 ((eS d x3.i).node.right))) ∧ ((Value.int IntKind.i64 ((eS d x2.i).node.size)) = (Value.int IntKind.i64 ((eS d x3.i).node.size))) ∧ ((Value.int IntKind.i64 ((eS d x2.i).node.sum)) = (Value.int IntKind.i64 ((eS d x3.i).node.sum))) ∧ ((Value.int IntKind.i64 ((eS d x2.i).node.min)) = (Value.int IntKind.i64 ((eS d x3.i).node.min))) ∧ ((Value.int IntKind.i64 ((eS d x2.i).node.max)) = (Value.int IntKind.i64 ((eS d x3.i).node.max))) ∧ True) ∧ True)))) ((∃ x3 : XCj d roots P1, ((((↑x2.i : Int)) = ((↑x3.i : Int))) ∧ (True ∧ True ∧ True ∧ True ∧ True ∧ True ∧ True ∧ ((Value.int IntKind.i64 ((↑x2.i : Int))) = (Value.int IntKind.i64 ((↑x3.i : Int)))) ∧ ((Value.int IntKind.u32 (IntKind.u32.wrap (IntKind.i64.wrap ((↑x.i : Int) + 1)))) = (Value.int IntKind.u32 (IntKind.u32.wrap (IntKind.i64.wrap ((↑x.i : Int) + 1))))) ∧ True ∧ ((Value.int IntKind.i64 (IntKind.i64.wrap (1 + (eS d (IntKind.u32.wrap ((eS d x2.i).node.left - 1)).toNat).node.size))) = (Value.int IntKind.i64 (x3.c))) ∧ True) ∧ ((d) = (d)) ∧ ((fl) = (fl)) ∧ ((roots) = (roots)) ∧ (True ∧ True ∧ True) ∧ ((cntL (kidsL d) d.length) = (cntL (kidsL d) d.length)) ∧
    ((x2.m) = (x3.m)) ∧ ((cntL fl d.length) = (cntL fl d.length)) ∧ ((cntL roots d.length) = (cntL roots d.length)) ∧ ((([] : List FindT) = [])) ∧ (((Value.bool ((eS d x2.i).alloc)) = (Value.bool ((eS d x3.i).alloc))) ∧ ((Value.int IntKind.i64 ((eS d x2.i).count)) = (Value.int IntKind.i64 ((eS d x3.i).count))) ∧ ((Value.int IntKind.u32 ((eS d x2.i).gen)) = (Value.int IntKind.u32 ((eS d x3.i).gen))) ∧ ((Value.int IntKind.i64 ((eS d x2.i).node.key)) = (Value.int IntKind.i64 ((eS d x3.i).node.key))) ∧ ((Value.int IntKind.i64 ((eS d x2.i).node.value)) = (Value.int IntKind.i64 ((eS d x3.i).node.value))) ∧ ((Value.int IntKind.u32 ((eS d x2.i).node.left)) = (Value.int IntKind.u32 ((eS d x3.i).node.left))) ∧ ((Value.int IntKind.u32 ((eS d x2.i).node.right)) = (Value.int IntKind.u32 ((eS d x3.i).node.right))) ∧ ((Value.int IntKind.i64 ((eS d x2.i).node.size)) = (Value.int IntKind.i64 ((eS d x3.i).node.size))) ∧ ((Value.int IntKind.i64 ((eS d x2.i).node.sum)) = (Value.int IntKind.i64 ((eS d x3.i).node.sum))) ∧ ((Value.int IntKind.i64 ((eS d x2.i).node.min)) = (Value.int IntKind.i64 ((eS d x3.i).node.min))) ∧ ((Value.int IntKind.i64 ((eS d x2.i).node.max)) = (Value.int IntKind.i64 ((eS d x3.i).node.max))) ∧ True) ∧ True))))))))) ((((0 : Int) ≤ 0) ∧ (0 < ((2 : Nat) : Int)) ∧ (brS ((eS d x2.i).node.left != 0) ((((0 : Int) ≤ 0) ∧ (0 < ((2 : Nat) : Int)) ∧
    ((([] : List Ent).length + [{ kind := 2, slot := IntKind.u32.wrap (IntKind.i64.wrap ((↑x.i : Int) + 1)), want := 0, have_ := IntKind.i64.wrap (eS d x2.i).node.left : FindT }].length) * bytesOf C0 EC.find ≤ 140737488355328) ∧ (0 ≤ IntKind.i64.wrap (0 + 1)) ∧ (IntKind.i64.wrap (0 + 1) < ((2 : Nat) : Int)) ∧ (inU (eS d x2.i).node.right) ∧ (d.length ≤ 1000000) ∧ (brS (alcD d (eS d x2.i).node.right) (((0 ≤ IntKind.i64.wrap (0 + 1)) ∧ (IntKind.i64.wrap (0 + 1) < ((2 : Nat) : Int)) ∧ (0 ≤ IntKind.u32.wrap ((eS d x2.i).node.right - 1)) ∧ (IntKind.u32.wrap ((eS d x2.i).node.right - 1) < (↑d.length : Int)) ∧ (∃ x3 : XCj d roots P1, ((((↑x2.i : Int)) = ((↑x3.i : Int))) ∧ (True ∧ True ∧ True ∧ True ∧ True ∧ True ∧ True ∧ ((Value.int IntKind.i64 ((↑x2.i : Int))) = (Value.int IntKind.i64 ((↑x3.i : Int)))) ∧ ((Value.int IntKind.u32 (IntKind.u32.wrap (IntKind.i64.wrap ((↑x.i : Int) + 1)))) = (Value.int IntKind.u32 (IntKind.u32.wrap (IntKind.i64.wrap ((↑x.i : Int) + 1))))) ∧ True ∧ ((Value.int IntKind.i64 (IntKind.i64.wrap (1 + (eS d (IntKind.u32.wrap ((eS d x2.i).node.right - 1)).toNat).node.size))) = (Value.int IntKind.i64 (x3.c))) ∧ True) ∧ ((d) = (d)) ∧ ((fl) = (fl)) ∧ ((roots) = (roots)) ∧ (True ∧ True ∧ True) ∧ ((cntL (kidsL d) d.length) = (cntL (kidsL d) d.length)) ∧ ((x2.m) = (x3.m)) ∧ ((cntL fl d.length) = (cntL fl d.length)) ∧ ((cntL roots d.length) = (cntL roots d.length)) ∧
    ([({ kind := 2, slot := IntKind.u32.wrap (IntKind.i64.wrap ((↑x.i : Int) + 1)), want := 0, have_ := IntKind.i64.wrap (eS d x2.i).node.left : FindT })] = []) ∧ (((Value.bool ((eS d x2.i).alloc)) = (Value.bool ((eS d x3.i).alloc))) ∧ ((Value.int IntKind.i64 ((eS d x2.i).count)) = (Value.int IntKind.i64 ((eS d x3.i).count))) ∧ ((Value.int IntKind.u32 ((eS d x2.i).gen)) = (Value.int IntKind.u32 ((eS d x3.i).gen))) ∧ ((Value.int IntKind.i64 ((eS d x2.i).node.key)) = (Value.int IntKind.i64 ((eS d x3.i).node.key))) ∧ ((Value.int IntKind.i64 ((eS d x2.i).node.value)) = (Value.int IntKind.i64 ((eS d x3.i).node.value))) ∧ ((Value.int IntKind.u32 ((eS d x2.i).node.left)) = (Value.int IntKind.u32 ((eS d x3.i).node.left))) ∧ ((Value.int IntKind.u32 ((eS d x2.i).node.right)) = (Value.int IntKind.u32 ((eS d x3.i).node.right))) ∧ ((Value.int IntKind.i64 ((eS d x2.i).node.size)) = (Value.int IntKind.i64 ((eS d x3.i).node.size))) ∧ ((Value.int IntKind.i64 ((eS d x2.i).node.sum)) = (Value.int IntKind.i64 ((eS d x3.i).node.sum))) ∧ ((Value.int IntKind.i64 ((eS d x2.i).node.min)) = (Value.int IntKind.i64 ((eS d x3.i).node.min))) ∧ ((Value.int IntKind.i64 ((eS d x2.i).node.max)) = (Value.int IntKind.i64 ((eS d x3.i).node.max))) ∧ True) ∧ True)))) (((0 ≤ IntKind.i64.wrap (0 + 1)) ∧ (IntKind.i64.wrap (0 + 1) < ((2 : Nat) : Int)) ∧ (brS ((eS d x2.i).node.right != 0) (((0 ≤ IntKind.i64.wrap (0 + 1)) ∧ (IntKind.i64.wrap (0 + 1) < ((2 : Nat) : Int)) ∧
    (([{ kind := 2, slot := IntKind.u32.wrap (IntKind.i64.wrap ((↑x.i : Int) + 1)), want := 0, have_ := IntKind.i64.wrap (eS d x2.i).node.left : FindT }].length + [{ kind := 2, slot := IntKind.u32.wrap (IntKind.i64.wrap ((↑x.i : Int) + 1)), want := 0, have_ := IntKind.i64.wrap (eS d x2.i).node.right : FindT }].length) * bytesOf C0 EC.find ≤ 140737488355328) ∧ (∃ x3 : XCj d roots P1, ((((↑x2.i : Int)) = ((↑x3.i : Int))) ∧ (True ∧ True ∧ True ∧ True ∧ True ∧ True ∧ True ∧ ((Value.int IntKind.i64 ((↑x2.i : Int))) = (Value.int IntKind.i64 ((↑x3.i : Int)))) ∧ ((Value.int IntKind.u32 (IntKind.u32.wrap (IntKind.i64.wrap ((↑x.i : Int) + 1)))) = (Value.int IntKind.u32 (IntKind.u32.wrap (IntKind.i64.wrap ((↑x.i : Int) + 1))))) ∧ True ∧ ((Value.int IntKind.i64 1) = (Value.int IntKind.i64 (x3.c))) ∧ True) ∧ ((d) = (d)) ∧ ((fl) = (fl)) ∧ ((roots) = (roots)) ∧ (True ∧ True ∧ True) ∧ ((cntL (kidsL d) d.length) = (cntL (kidsL d) d.length)) ∧ ((x2.m) = (x3.m)) ∧ ((cntL fl d.length) = (cntL fl d.length)) ∧ ((cntL roots d.length) = (cntL roots d.length)) ∧ ([({ kind := 2, slot := IntKind.u32.wrap (IntKind.i64.wrap ((↑x.i : Int) + 1)), want := 0, have_ := IntKind.i64.wrap (eS d x2.i).node.left : FindT }), ({ kind := 2, slot := IntKind.u32.wrap (IntKind.i64.wrap ((↑x.i : Int) + 1)), want := 0, have_ := IntKind.i64.wrap (eS d x2.i).node.right : FindT })] = []) ∧ (((Value.bool ((eS d x2.i).alloc)) = (Value.bool ((eS d x3.i).alloc))) ∧
    ((Value.int IntKind.i64 ((eS d x2.i).count)) = (Value.int IntKind.i64 ((eS d x3.i).count))) ∧ ((Value.int IntKind.u32 ((eS d x2.i).gen)) = (Value.int IntKind.u32 ((eS d x3.i).gen))) ∧ ((Value.int IntKind.i64 ((eS d x2.i).node.key)) = (Value.int IntKind.i64 ((eS d x3.i).node.key))) ∧ ((Value.int IntKind.i64 ((eS d x2.i).node.value)) = (Value.int IntKind.i64 ((eS d x3.i).node.value))) ∧ ((Value.int IntKind.u32 ((eS d x2.i).node.left)) = (Value.int IntKind.u32 ((eS d x3.i).node.left))) ∧ ((Value.int IntKind.u32 ((eS d x2.i).node.right)) = (Value.int IntKind.u32 ((eS d x3.i).node.right))) ∧ ((Value.int IntKind.i64 ((eS d x2.i).node.size)) = (Value.int IntKind.i64 ((eS d x3.i).node.size))) ∧ ((Value.int IntKind.i64 ((eS d x2.i).node.sum)) = (Value.int IntKind.i64 ((eS d x3.i).node.sum))) ∧ ((Value.int IntKind.i64 ((eS d x2.i).node.min)) = (Value.int IntKind.i64 ((eS d x3.i).node.min))) ∧ ((Value.int IntKind.i64 ((eS d x2.i).node.max)) = (Value.int IntKind.i64 ((eS d x3.i).node.max))) ∧ True) ∧ True)))) ((∃ x3 : XCj d roots P1, ((((↑x2.i : Int)) = ((↑x3.i : Int))) ∧ (True ∧ True ∧ True ∧ True ∧ True ∧ True ∧ True ∧ ((Value.int IntKind.i64 ((↑x2.i : Int))) = (Value.int IntKind.i64 ((↑x3.i : Int)))) ∧ ((Value.int IntKind.u32 (IntKind.u32.wrap (IntKind.i64.wrap ((↑x.i : Int) + 1)))) = (Value.int IntKind.u32 (IntKind.u32.wrap (IntKind.i64.wrap ((↑x.i : Int) + 1))))) ∧ True ∧ ((Value.int IntKind.i64 1) = (Value.int IntKind.i64 (x3.c))) ∧ True) ∧ ((d) = (d)) ∧ ((fl) = (fl)) ∧
    ((roots) = (roots)) ∧ (True ∧ True ∧ True) ∧ ((cntL (kidsL d) d.length) = (cntL (kidsL d) d.length)) ∧ ((x2.m) = (x3.m)) ∧ ((cntL fl d.length) = (cntL fl d.length)) ∧ ((cntL roots d.length) = (cntL roots d.length)) ∧ ([({ kind := 2, slot := IntKind.u32.wrap (IntKind.i64.wrap ((↑x.i : Int) + 1)), want := 0, have_ := IntKind.i64.wrap (eS d x2.i).node.left : FindT })] = []) ∧ (((Value.bool ((eS d x2.i).alloc)) = (Value.bool ((eS d x3.i).alloc))) ∧ ((Value.int IntKind.i64 ((eS d x2.i).count)) = (Value.int IntKind.i64 ((eS d x3.i).count))) ∧ ((Value.int IntKind.u32 ((eS d x2.i).gen)) = (Value.int IntKind.u32 ((eS d x3.i).gen))) ∧ ((Value.int IntKind.i64 ((eS d x2.i).node.key)) = (Value.int IntKind.i64 ((eS d x3.i).node.key))) ∧ ((Value.int IntKind.i64 ((eS d x2.i).node.value)) = (Value.int IntKind.i64 ((eS d x3.i).node.value))) ∧ ((Value.int IntKind.u32 ((eS d x2.i).node.left)) = (Value.int IntKind.u32 ((eS d x3.i).node.left))) ∧ ((Value.int IntKind.u32 ((eS d x2.i).node.right)) = (Value.int IntKind.u32 ((eS d x3.i).node.right))) ∧ ((Value.int IntKind.i64 ((eS d x2.i).node.size)) = (Value.int IntKind.i64 ((eS d x3.i).node.size))) ∧ ((Value.int IntKind.i64 ((eS d x2.i).node.sum)) = (Value.int IntKind.i64 ((eS d x3.i).node.sum))) ∧ ((Value.int IntKind.i64 ((eS d x2.i).node.min)) = (Value.int IntKind.i64 ((eS d x3.i).node.min))) ∧ ((Value.int IntKind.i64 ((eS d x2.i).node.max)) = (Value.int IntKind.i64 ((eS d x3.i).node.max))) ∧ True) ∧ True))))))))) (((0 ≤ IntKind.i64.wrap (0 + 1)) ∧
    (IntKind.i64.wrap (0 + 1) < ((2 : Nat) : Int)) ∧ (inU (eS d x2.i).node.right) ∧ (d.length ≤ 1000000) ∧ (brS (alcD d (eS d x2.i).node.right) (((0 ≤ IntKind.i64.wrap (0 + 1)) ∧ (IntKind.i64.wrap (0 + 1) < ((2 : Nat) : Int)) ∧ (0 ≤ IntKind.u32.wrap ((eS d x2.i).node.right - 1)) ∧ (IntKind.u32.wrap ((eS d x2.i).node.right - 1) < (↑d.length : Int)) ∧ (∃ x3 : XCj d roots P1, ((((↑x2.i : Int)) = ((↑x3.i : Int))) ∧ (True ∧ True ∧ True ∧ True ∧ True ∧ True ∧ True ∧ ((Value.int IntKind.i64 ((↑x2.i : Int))) = (Value.int IntKind.i64 ((↑x3.i : Int)))) ∧ ((Value.int IntKind.u32 (IntKind.u32.wrap (IntKind.i64.wrap ((↑x.i : Int) + 1)))) = (Value.int IntKind.u32 (IntKind.u32.wrap (IntKind.i64.wrap ((↑x.i : Int) + 1))))) ∧ True ∧ ((Value.int IntKind.i64 (IntKind.i64.wrap (1 + (eS d (IntKind.u32.wrap ((eS d x2.i).node.right - 1)).toNat).node.size))) = (Value.int IntKind.i64 (x3.c))) ∧ True) ∧ ((d) = (d)) ∧ ((fl) = (fl)) ∧ ((roots) = (roots)) ∧ (True ∧ True ∧ True) ∧ ((cntL (kidsL d) d.length) = (cntL (kidsL d) d.length)) ∧ ((x2.m) = (x3.m)) ∧ ((cntL fl d.length) = (cntL fl d.length)) ∧ ((cntL roots d.length) = (cntL roots d.length)) ∧ ((([] : List FindT) = [])) ∧ (((Value.bool ((eS d x2.i).alloc)) = (Value.bool ((eS d x3.i).alloc))) ∧ ((Value.int IntKind.i64 ((eS d x2.i).count)) = (Value.int IntKind.i64 ((eS d x3.i).count))) ∧ ((Value.int IntKind.u32 ((eS d x2.i).gen)) = (Value.int IntKind.u32 ((eS d x3.i).gen))) ∧
    ((Value.int IntKind.i64 ((eS d x2.i).node.key)) = (Value.int IntKind.i64 ((eS d x3.i).node.key))) ∧ ((Value.int IntKind.i64 ((eS d x2.i).node.value)) = (Value.int IntKind.i64 ((eS d x3.i).node.value))) ∧ ((Value.int IntKind.u32 ((eS d x2.i).node.left)) = (Value.int IntKind.u32 ((eS d x3.i).node.left))) ∧ ((Value.int IntKind.u32 ((eS d x2.i).node.right)) = (Value.int IntKind.u32 ((eS d x3.i).node.right))) ∧ ((Value.int IntKind.i64 ((eS d x2.i).node.size)) = (Value.int IntKind.i64 ((eS d x3.i).node.size))) ∧ ((Value.int IntKind.i64 ((eS d x2.i).node.sum)) = (Value.int IntKind.i64 ((eS d x3.i).node.sum))) ∧ ((Value.int IntKind.i64 ((eS d x2.i).node.min)) = (Value.int IntKind.i64 ((eS d x3.i).node.min))) ∧ ((Value.int IntKind.i64 ((eS d x2.i).node.max)) = (Value.int IntKind.i64 ((eS d x3.i).node.max))) ∧ True) ∧ True)))) (((0 ≤ IntKind.i64.wrap (0 + 1)) ∧ (IntKind.i64.wrap (0 + 1) < ((2 : Nat) : Int)) ∧ (brS ((eS d x2.i).node.right != 0) (((0 ≤ IntKind.i64.wrap (0 + 1)) ∧ (IntKind.i64.wrap (0 + 1) < ((2 : Nat) : Int)) ∧ ((([] : List Ent).length + [{ kind := 2, slot := IntKind.u32.wrap (IntKind.i64.wrap ((↑x.i : Int) + 1)), want := 0, have_ := IntKind.i64.wrap (eS d x2.i).node.right : FindT }].length) * bytesOf C0 EC.find ≤ 140737488355328) ∧ (∃ x3 : XCj d roots P1, ((((↑x2.i : Int)) = ((↑x3.i : Int))) ∧ (True ∧ True ∧ True ∧ True ∧ True ∧ True ∧ True ∧ ((Value.int IntKind.i64 ((↑x2.i : Int))) = (Value.int IntKind.i64 ((↑x3.i : Int)))) ∧
    ((Value.int IntKind.u32 (IntKind.u32.wrap (IntKind.i64.wrap ((↑x.i : Int) + 1)))) = (Value.int IntKind.u32 (IntKind.u32.wrap (IntKind.i64.wrap ((↑x.i : Int) + 1))))) ∧ True ∧ ((Value.int IntKind.i64 1) = (Value.int IntKind.i64 (x3.c))) ∧ True) ∧ ((d) = (d)) ∧ ((fl) = (fl)) ∧ ((roots) = (roots)) ∧ (True ∧ True ∧ True) ∧ ((cntL (kidsL d) d.length) = (cntL (kidsL d) d.length)) ∧ ((x2.m) = (x3.m)) ∧ ((cntL fl d.length) = (cntL fl d.length)) ∧ ((cntL roots d.length) = (cntL roots d.length)) ∧ ([({ kind := 2, slot := IntKind.u32.wrap (IntKind.i64.wrap ((↑x.i : Int) + 1)), want := 0, have_ := IntKind.i64.wrap (eS d x2.i).node.right : FindT })] = []) ∧ (((Value.bool ((eS d x2.i).alloc)) = (Value.bool ((eS d x3.i).alloc))) ∧ ((Value.int IntKind.i64 ((eS d x2.i).count)) = (Value.int IntKind.i64 ((eS d x3.i).count))) ∧ ((Value.int IntKind.u32 ((eS d x2.i).gen)) = (Value.int IntKind.u32 ((eS d x3.i).gen))) ∧ ((Value.int IntKind.i64 ((eS d x2.i).node.key)) = (Value.int IntKind.i64 ((eS d x3.i).node.key))) ∧ ((Value.int IntKind.i64 ((eS d x2.i).node.value)) = (Value.int IntKind.i64 ((eS d x3.i).node.value))) ∧ ((Value.int IntKind.u32 ((eS d x2.i).node.left)) = (Value.int IntKind.u32 ((eS d x3.i).node.left))) ∧ ((Value.int IntKind.u32 ((eS d x2.i).node.right)) = (Value.int IntKind.u32 ((eS d x3.i).node.right))) ∧ ((Value.int IntKind.i64 ((eS d x2.i).node.size)) = (Value.int IntKind.i64 ((eS d x3.i).node.size))) ∧
    ((Value.int IntKind.i64 ((eS d x2.i).node.sum)) = (Value.int IntKind.i64 ((eS d x3.i).node.sum))) ∧ ((Value.int IntKind.i64 ((eS d x2.i).node.min)) = (Value.int IntKind.i64 ((eS d x3.i).node.min))) ∧ ((Value.int IntKind.i64 ((eS d x2.i).node.max)) = (Value.int IntKind.i64 ((eS d x3.i).node.max))) ∧ True) ∧ True)))) ((∃ x3 : XCj d roots P1, ((((↑x2.i : Int)) = ((↑x3.i : Int))) ∧ (True ∧ True ∧ True ∧ True ∧ True ∧ True ∧ True ∧ ((Value.int IntKind.i64 ((↑x2.i : Int))) = (Value.int IntKind.i64 ((↑x3.i : Int)))) ∧ ((Value.int IntKind.u32 (IntKind.u32.wrap (IntKind.i64.wrap ((↑x.i : Int) + 1)))) = (Value.int IntKind.u32 (IntKind.u32.wrap (IntKind.i64.wrap ((↑x.i : Int) + 1))))) ∧ True ∧ ((Value.int IntKind.i64 1) = (Value.int IntKind.i64 (x3.c))) ∧ True) ∧ ((d) = (d)) ∧ ((fl) = (fl)) ∧ ((roots) = (roots)) ∧ (True ∧ True ∧ True) ∧ ((cntL (kidsL d) d.length) = (cntL (kidsL d) d.length)) ∧ ((x2.m) = (x3.m)) ∧ ((cntL fl d.length) = (cntL fl d.length)) ∧ ((cntL roots d.length) = (cntL roots d.length)) ∧ ((([] : List FindT) = [])) ∧ (((Value.bool ((eS d x2.i).alloc)) = (Value.bool ((eS d x3.i).alloc))) ∧ ((Value.int IntKind.i64 ((eS d x2.i).count)) = (Value.int IntKind.i64 ((eS d x3.i).count))) ∧ ((Value.int IntKind.u32 ((eS d x2.i).gen)) = (Value.int IntKind.u32 ((eS d x3.i).gen))) ∧ ((Value.int IntKind.i64 ((eS d x2.i).node.key)) = (Value.int IntKind.i64 ((eS d x3.i).node.key))) ∧ ((Value.int IntKind.i64 ((eS d x2.i).node.value)) = (Value.int IntKind.i64 ((eS d x3.i).node.value))) ∧
    ((Value.int IntKind.u32 ((eS d x2.i).node.left)) = (Value.int IntKind.u32 ((eS d x3.i).node.left))) ∧ ((Value.int IntKind.u32 ((eS d x2.i).node.right)) = (Value.int IntKind.u32 ((eS d x3.i).node.right))) ∧ ((Value.int IntKind.i64 ((eS d x2.i).node.size)) = (Value.int IntKind.i64 ((eS d x3.i).node.size))) ∧ ((Value.int IntKind.i64 ((eS d x2.i).node.sum)) = (Value.int IntKind.i64 ((eS d x3.i).node.sum))) ∧ ((Value.int IntKind.i64 ((eS d x2.i).node.min)) = (Value.int IntKind.i64 ((eS d x3.i).node.min))) ∧ ((Value.int IntKind.i64 ((eS d x2.i).node.max)) = (Value.int IntKind.i64 ((eS d x3.i).node.max))) ∧ True) ∧ True)))))))))))))) ∧ (∀ x3 : XCj d roots P1, ((((↑x2.i : Int)) = ((↑x3.i : Int))) → ((∃ x4 : XCj d roots P2, ((((↑x3.i : Int)) = ((↑x4.i : Int))) ∧ (True ∧ True ∧ True ∧ True ∧ True ∧ True ∧ True ∧ ((Value.int IntKind.i64 ((↑x3.i : Int))) = (Value.int IntKind.i64 ((↑x4.i : Int)))) ∧ ((Value.int IntKind.u32 (IntKind.u32.wrap (IntKind.i64.wrap ((↑x.i : Int) + 1)))) = (Value.int IntKind.u32 (IntKind.u32.wrap (IntKind.i64.wrap ((↑x.i : Int) + 1))))) ∧ True ∧ ((Value.int IntKind.i64 (x3.c)) = (Value.int IntKind.i64 (x3.c))) ∧ ((Value.bool (x3.c != (eS d x3.i).node.size)) = (Value.bool false)) ∧ True) ∧ ((d) = (d)) ∧ ((fl) = (fl)) ∧ ((roots) = (roots)) ∧ (True ∧ True ∧ True) ∧ ((cntL (kidsL d) d.length) = (cntL (kidsL d) d.length)) ∧ ((x3.m) = (x4.m)) ∧ ((cntL fl d.length) = (cntL fl d.length)) ∧ ((cntL roots d.length) = (cntL roots d.length)) ∧ ((([] : List FindT) = [])) ∧
    (((Value.bool ((eS d x3.i).alloc)) = (Value.bool ((eS d x4.i).alloc))) ∧ ((Value.int IntKind.i64 ((eS d x3.i).count)) = (Value.int IntKind.i64 ((eS d x4.i).count))) ∧ ((Value.int IntKind.u32 ((eS d x3.i).gen)) = (Value.int IntKind.u32 ((eS d x4.i).gen))) ∧ ((Value.int IntKind.i64 ((eS d x3.i).node.key)) = (Value.int IntKind.i64 ((eS d x4.i).node.key))) ∧ ((Value.int IntKind.i64 ((eS d x3.i).node.value)) = (Value.int IntKind.i64 ((eS d x4.i).node.value))) ∧ ((Value.int IntKind.u32 ((eS d x3.i).node.left)) = (Value.int IntKind.u32 ((eS d x4.i).node.left))) ∧ ((Value.int IntKind.u32 ((eS d x3.i).node.right)) = (Value.int IntKind.u32 ((eS d x4.i).node.right))) ∧ ((Value.int IntKind.i64 ((eS d x3.i).node.size)) = (Value.int IntKind.i64 ((eS d x4.i).node.size))) ∧ ((Value.int IntKind.i64 ((eS d x3.i).node.sum)) = (Value.int IntKind.i64 ((eS d x4.i).node.sum))) ∧ ((Value.int IntKind.i64 ((eS d x3.i).node.min)) = (Value.int IntKind.i64 ((eS d x4.i).node.min))) ∧ ((Value.int IntKind.i64 ((eS d x3.i).node.max)) = (Value.int IntKind.i64 ((eS d x4.i).node.max))) ∧ True) ∧ True)) ∧ (∀ x4 : XCj d roots P2, ((((↑x3.i : Int)) = ((↑x4.i : Int))) → ((0 ≤ (↑x4.i : Int)) ∧ ((↑x4.i : Int) < (↑(cntL (kidsL d) d.length).length : Int)) ∧ (0 ≤ (↑x4.i : Int)) ∧ ((↑x4.i : Int) < (↑(cntL roots d.length).length : Int)) ∧ (∃ x5 : XCj d roots P3, ((((↑x2.i : Int)) = ((↑x5.i : Int))) ∧ (True ∧ True ∧ True ∧ True ∧ True ∧ True ∧ True ∧
    ((Value.int IntKind.i64 ((↑x4.i : Int))) = (Value.int IntKind.i64 ((↑x5.i : Int)))) ∧ ((Value.int IntKind.u32 (IntKind.u32.wrap (IntKind.i64.wrap ((↑x.i : Int) + 1)))) = (Value.int IntKind.u32 (IntKind.u32.wrap (IntKind.i64.wrap ((↑x.i : Int) + 1))))) ∧ True ∧ ((Value.int IntKind.i64 (IntKind.i64.wrap ((cntL (kidsL d) d.length).getD (↑x4.i : Int).toNat 0 + (cntL roots d.length).getD (↑x4.i : Int).toNat 0))) = (Value.int IntKind.i64 (x5.c))) ∧ True) ∧ ((d) = (d)) ∧ ((fl) = (fl)) ∧ ((roots) = (roots)) ∧ (True ∧ True ∧ True) ∧ ((cntL (kidsL d) d.length) = (cntL (kidsL d) d.length)) ∧ ((x4.m) = (x5.m)) ∧ ((cntL fl d.length) = (cntL fl d.length)) ∧ ((cntL roots d.length) = (cntL roots d.length)) ∧ ((([] : List FindT) = [])) ∧ (((Value.bool ((eS d x4.i).alloc)) = (Value.bool ((eS d x5.i).alloc))) ∧ ((Value.int IntKind.i64 ((eS d x4.i).count)) = (Value.int IntKind.i64 ((eS d x5.i).count))) ∧ ((Value.int IntKind.u32 ((eS d x4.i).gen)) = (Value.int IntKind.u32 ((eS d x5.i).gen))) ∧ ((Value.int IntKind.i64 ((eS d x4.i).node.key)) = (Value.int IntKind.i64 ((eS d x5.i).node.key))) ∧ ((Value.int IntKind.i64 ((eS d x4.i).node.value)) = (Value.int IntKind.i64 ((eS d x5.i).node.value))) ∧ ((Value.int IntKind.u32 ((eS d x4.i).node.left)) = (Value.int IntKind.u32 ((eS d x5.i).node.left))) ∧ ((Value.int IntKind.u32 ((eS d x4.i).node.right)) = (Value.int IntKind.u32 ((eS d x5.i).node.right))) ∧ ((Value.int IntKind.i64 ((eS d x4.i).node.size)) = (Value.int IntKind.i64 ((eS d x5.i).node.size))) ∧
    ((Value.int IntKind.i64 ((eS d x4.i).node.sum)) = (Value.int IntKind.i64 ((eS d x5.i).node.sum))) ∧ ((Value.int IntKind.i64 ((eS d x4.i).node.min)) = (Value.int IntKind.i64 ((eS d x5.i).node.min))) ∧ ((Value.int IntKind.i64 ((eS d x4.i).node.max)) = (Value.int IntKind.i64 ((eS d x5.i).node.max))) ∧ True) ∧ True)))))))))) ((∃ x3 : XCj d roots P3, ((((↑x2.i : Int)) = ((↑x3.i : Int))) ∧ (True ∧ True ∧ True ∧ True ∧ True ∧ True ∧ True ∧ ((Value.int IntKind.i64 ((↑x2.i : Int))) = (Value.int IntKind.i64 ((↑x3.i : Int)))) ∧ ((Value.int IntKind.u32 (IntKind.u32.wrap (IntKind.i64.wrap ((↑x.i : Int) + 1)))) = (Value.int IntKind.u32 (IntKind.u32.wrap (IntKind.i64.wrap ((↑x.i : Int) + 1))))) ∧ True ∧ ((Value.int IntKind.i64 0) = (Value.int IntKind.i64 (x3.c))) ∧ True) ∧ ((d) = (d)) ∧ ((fl) = (fl)) ∧ ((roots) = (roots)) ∧ (True ∧ True ∧ True) ∧ ((cntL (kidsL d) d.length) = (cntL (kidsL d) d.length)) ∧ ((x2.m) = (x3.m)) ∧ ((cntL fl d.length) = (cntL fl d.length)) ∧ ((cntL roots d.length) = (cntL roots d.length)) ∧ ((([] : List FindT) = [])) ∧ (((Value.bool ((eS d x2.i).alloc)) = (Value.bool ((eS d x3.i).alloc))) ∧ ((Value.int IntKind.i64 ((eS d x2.i).count)) = (Value.int IntKind.i64 ((eS d x3.i).count))) ∧ ((Value.int IntKind.u32 ((eS d x2.i).gen)) = (Value.int IntKind.u32 ((eS d x3.i).gen))) ∧ ((Value.int IntKind.i64 ((eS d x2.i).node.key)) = (Value.int IntKind.i64 ((eS d x3.i).node.key))) ∧
    ((Value.int IntKind.i64 ((eS d x2.i).node.value)) = (Value.int IntKind.i64 ((eS d x3.i).node.value))) ∧ ((Value.int IntKind.u32 ((eS d x2.i).node.left)) = (Value.int IntKind.u32 ((eS d x3.i).node.left))) ∧ ((Value.int IntKind.u32 ((eS d x2.i).node.right)) = (Value.int IntKind.u32 ((eS d x3.i).node.right))) ∧ ((Value.int IntKind.i64 ((eS d x2.i).node.size)) = (Value.int IntKind.i64 ((eS d x3.i).node.size))) ∧ ((Value.int IntKind.i64 ((eS d x2.i).node.sum)) = (Value.int IntKind.i64 ((eS d x3.i).node.sum))) ∧ ((Value.int IntKind.i64 ((eS d x2.i).node.min)) = (Value.int IntKind.i64 ((eS d x3.i).node.min))) ∧ ((Value.int IntKind.i64 ((eS d x2.i).node.max)) = (Value.int IntKind.i64 ((eS d x3.i).node.max))) ∧ True) ∧ True)))) ∧ (∀ x3 : XCj d roots P3, ((((↑x2.i : Int)) = ((↑x3.i : Int))) → ((∃ x4 : XCj d roots P0, ((((↑x3.i : Int)) = ((↑x4.i : Int))) ∧ (True ∧ True ∧ True ∧ True ∧ True ∧ True ∧ True ∧ ((Value.int IntKind.i64 ((↑x3.i : Int))) = (Value.int IntKind.i64 ((↑x4.i : Int)))) ∧ ((Value.int IntKind.u32 (IntKind.u32.wrap (IntKind.i64.wrap ((↑x.i : Int) + 1)))) = (Value.int IntKind.u32 (IntKind.u32.wrap (IntKind.i64.wrap ((↑x.i : Int) + 1))))) ∧ True ∧ ((Value.int IntKind.i64 (x3.c)) = (Value.int IntKind.i64 (x3.c))) ∧ ((Value.bool (x3.c != (eS d x3.i).count)) = (Value.bool false)) ∧ True) ∧ ((d) = (d)) ∧ ((fl) = (fl)) ∧ ((roots) = (roots)) ∧ (True ∧ True ∧ True) ∧ ((cntL (kidsL d) d.length) = (cntL (kidsL d) d.length)) ∧ ((x3.m) = (x4.m)) ∧
    ((cntL fl d.length) = (cntL fl d.length)) ∧ ((cntL roots d.length) = (cntL roots d.length)) ∧ ((([] : List FindT) = [])) ∧ (((Value.bool ((eS d x3.i).alloc)) = (Value.bool ((eS d x4.i).alloc))) ∧ ((Value.int IntKind.i64 ((eS d x3.i).count)) = (Value.int IntKind.i64 ((eS d x4.i).count))) ∧ ((Value.int IntKind.u32 ((eS d x3.i).gen)) = (Value.int IntKind.u32 ((eS d x4.i).gen))) ∧ ((Value.int IntKind.i64 ((eS d x3.i).node.key)) = (Value.int IntKind.i64 ((eS d x4.i).node.key))) ∧ ((Value.int IntKind.i64 ((eS d x3.i).node.value)) = (Value.int IntKind.i64 ((eS d x4.i).node.value))) ∧ ((Value.int IntKind.u32 ((eS d x3.i).node.left)) = (Value.int IntKind.u32 ((eS d x4.i).node.left))) ∧ ((Value.int IntKind.u32 ((eS d x3.i).node.right)) = (Value.int IntKind.u32 ((eS d x4.i).node.right))) ∧ ((Value.int IntKind.i64 ((eS d x3.i).node.size)) = (Value.int IntKind.i64 ((eS d x4.i).node.size))) ∧ ((Value.int IntKind.i64 ((eS d x3.i).node.sum)) = (Value.int IntKind.i64 ((eS d x4.i).node.sum))) ∧ ((Value.int IntKind.i64 ((eS d x3.i).node.min)) = (Value.int IntKind.i64 ((eS d x4.i).node.min))) ∧ ((Value.int IntKind.i64 ((eS d x3.i).node.max)) = (Value.int IntKind.i64 ((eS d x4.i).node.max))) ∧ True) ∧ True)) ∧ (∀ x4 : XCj d roots P0, ((((↑x3.i : Int)) = ((↑x4.i : Int))) → ((brS ((eS d x4.i).alloc) (((0 ≤ (↑x4.i : Int)) ∧ ((↑x4.i : Int) < (↑x4.m.length : Int)) ∧ (∃ x5 : XCj d roots P0, ((((↑x4.i : Int)) = ((↑x5.i : Int))) ∧ (True ∧ True ∧ True ∧ True ∧ True ∧ True ∧ True ∧
    ((Value.int IntKind.i64 ((↑x4.i : Int))) = (Value.int IntKind.i64 ((↑x5.i : Int)))) ∧ ((Value.int IntKind.u32 (IntKind.u32.wrap (IntKind.i64.wrap ((↑x.i : Int) + 1)))) = (Value.int IntKind.u32 (IntKind.u32.wrap (IntKind.i64.wrap ((↑x.i : Int) + 1))))) ∧ True ∧ ((Value.bool (!x4.m.getD (↑x4.i : Int).toNat false)) = (Value.bool false)) ∧ True) ∧ ((d) = (d)) ∧ ((fl) = (fl)) ∧ ((roots) = (roots)) ∧ (True ∧ True ∧ True) ∧ ((cntL (kidsL d) d.length) = (cntL (kidsL d) d.length)) ∧ ((x4.m) = (x5.m)) ∧ ((cntL fl d.length) = (cntL fl d.length)) ∧ ((cntL roots d.length) = (cntL roots d.length)) ∧ ((([] : List FindT) = [])) ∧ (((Value.bool ((eS d x4.i).alloc)) = (Value.bool ((eS d x5.i).alloc))) ∧ ((Value.int IntKind.i64 ((eS d x4.i).count)) = (Value.int IntKind.i64 ((eS d x5.i).count))) ∧ ((Value.int IntKind.u32 ((eS d x4.i).gen)) = (Value.int IntKind.u32 ((eS d x5.i).gen))) ∧ ((Value.int IntKind.i64 ((eS d x4.i).node.key)) = (Value.int IntKind.i64 ((eS d x5.i).node.key))) ∧ ((Value.int IntKind.i64 ((eS d x4.i).node.value)) = (Value.int IntKind.i64 ((eS d x5.i).node.value))) ∧ ((Value.int IntKind.u32 ((eS d x4.i).node.left)) = (Value.int IntKind.u32 ((eS d x5.i).node.left))) ∧ ((Value.int IntKind.u32 ((eS d x4.i).node.right)) = (Value.int IntKind.u32 ((eS d x5.i).node.right))) ∧ ((Value.int IntKind.i64 ((eS d x4.i).node.size)) = (Value.int IntKind.i64 ((eS d x5.i).node.size))) ∧ ((Value.int IntKind.i64 ((eS d x4.i).node.sum)) = (Value.int IntKind.i64 ((eS d x5.i).node.sum))) ∧
    ((Value.int IntKind.i64 ((eS d x4.i).node.min)) = (Value.int IntKind.i64 ((eS d x5.i).node.min))) ∧ ((Value.int IntKind.i64 ((eS d x4.i).node.max)) = (Value.int IntKind.i64 ((eS d x5.i).node.max))) ∧ True) ∧ True)))) ((∃ x5 : XCj d roots P0, ((((↑x4.i : Int)) = ((↑x5.i : Int))) ∧ (True ∧ True ∧ True ∧ True ∧ True ∧ True ∧ True ∧ ((Value.int IntKind.i64 ((↑x4.i : Int))) = (Value.int IntKind.i64 ((↑x5.i : Int)))) ∧ ((Value.int IntKind.u32 (IntKind.u32.wrap (IntKind.i64.wrap ((↑x.i : Int) + 1)))) = (Value.int IntKind.u32 (IntKind.u32.wrap (IntKind.i64.wrap ((↑x.i : Int) + 1))))) ∧ True ∧ ((Value.bool false) = (Value.bool false)) ∧ True) ∧ ((d) = (d)) ∧ ((fl) = (fl)) ∧ ((roots) = (roots)) ∧ (True ∧ True ∧ True) ∧ ((cntL (kidsL d) d.length) = (cntL (kidsL d) d.length)) ∧ ((x4.m) = (x5.m)) ∧ ((cntL fl d.length) = (cntL fl d.length)) ∧ ((cntL roots d.length) = (cntL roots d.length)) ∧ ((([] : List FindT) = [])) ∧ (((Value.bool ((eS d x4.i).alloc)) = (Value.bool ((eS d x5.i).alloc))) ∧ ((Value.int IntKind.i64 ((eS d x4.i).count)) = (Value.int IntKind.i64 ((eS d x5.i).count))) ∧ ((Value.int IntKind.u32 ((eS d x4.i).gen)) = (Value.int IntKind.u32 ((eS d x5.i).gen))) ∧ ((Value.int IntKind.i64 ((eS d x4.i).node.key)) = (Value.int IntKind.i64 ((eS d x5.i).node.key))) ∧ ((Value.int IntKind.i64 ((eS d x4.i).node.value)) = (Value.int IntKind.i64 ((eS d x5.i).node.value))) ∧ ((Value.int IntKind.u32 ((eS d x4.i).node.left)) = (Value.int IntKind.u32 ((eS d x5.i).node.left))) ∧
    ((Value.int IntKind.u32 ((eS d x4.i).node.right)) = (Value.int IntKind.u32 ((eS d x5.i).node.right))) ∧ ((Value.int IntKind.i64 ((eS d x4.i).node.size)) = (Value.int IntKind.i64 ((eS d x5.i).node.size))) ∧ ((Value.int IntKind.i64 ((eS d x4.i).node.sum)) = (Value.int IntKind.i64 ((eS d x5.i).node.sum))) ∧ ((Value.int IntKind.i64 ((eS d x4.i).node.min)) = (Value.int IntKind.i64 ((eS d x5.i).node.min))) ∧ ((Value.int IntKind.i64 ((eS d x4.i).node.max)) = (Value.int IntKind.i64 ((eS d x5.i).node.max))) ∧ True) ∧ True)))) ∧ (∀ x5 : XCj d roots P0, ((((↑x4.i : Int)) = ((↑x5.i : Int))) → (∃ x' : XCk d roots, (True ∧ ((True ∧ True ∧ True ∧ True ∧ True ∧ True ∧ True ∧ ((Value.int IntKind.i64 (IntKind.i64.wrap ((↑x5.i : Int) + 1))) = (Value.int IntKind.i64 ((↑x'.i : Int)))) ∧ True) ∧ ((d) = (d)) ∧ ((fl) = (fl)) ∧ ((roots) = (roots)) ∧ (True ∧ True ∧ True) ∧ ((cntL (kidsL d) d.length) = (cntL (kidsL d) d.length)) ∧ ((x5.m) = (x'.m)) ∧ ((cntL fl d.length) = (cntL fl d.length)) ∧ ((cntL roots d.length) = (cntL roots d.length)) ∧ ((([] : List FindT) = [])) ∧ True) ∧ (d.length - x'.i < d.length - x.i))))))))))))))))))) (((∃ x1 : XIx fl.length, (True ∧ (True ∧ True ∧ True ∧ ((Value.int IntKind.i64 0) = (Value.int IntKind.i64 ((↑x1.i : Int)))) ∧ True) ∧ ((d) = (d)) ∧ ((fl) = (fl)) ∧ ((roots) = (roots)) ∧ (True ∧ True ∧ True) ∧ ((([] : List FindT) = [])) ∧ True)) ∧ (∀ x1 : XIx fl.length, (True → (brS (decide ((↑x1.i : Int) < (↑fl.length : Int))) ((((0 ≤ (↑x1.i : Int)) ∧
    ((↑x1.i : Int) < (↑fl.length : Int)) ∧ (brS (decide (fl.getD (↑x1.i : Int).toNat 0 < 1)) ((∃ x2 : XIy fl.length, ((((↑x1.i : Int)) = ((↑x2.i : Int))) ∧ (True ∧ True ∧ True ∧ ((Value.int IntKind.i64 ((↑x1.i : Int))) = (Value.int IntKind.i64 ((↑x2.i : Int)))) ∧ ((Value.bool true) = (Value.bool false)) ∧ True) ∧ ((d) = (d)) ∧ ((fl) = (fl)) ∧ ((roots) = (roots)) ∧ (True ∧ True ∧ True) ∧ ((([] : List FindT) = [])) ∧ True))) (((0 ≤ (↑x1.i : Int)) ∧ ((↑x1.i : Int) < (↑fl.length : Int)) ∧ (∃ x2 : XIy fl.length, ((((↑x1.i : Int)) = ((↑x2.i : Int))) ∧ (True ∧ True ∧ True ∧ ((Value.int IntKind.i64 ((↑x1.i : Int))) = (Value.int IntKind.i64 ((↑x2.i : Int)))) ∧ ((Value.bool (decide (IntKind.u64.wrap (fl.getD (↑x1.i : Int).toNat 0) > IntKind.u64.wrap (↑d.length : Int)))) = (Value.bool false)) ∧ True) ∧ ((d) = (d)) ∧ ((fl) = (fl)) ∧ ((roots) = (roots)) ∧ (True ∧ True ∧ True) ∧ ((([] : List FindT) = [])) ∧ True)))))) ∧ (∀ x2 : XIy fl.length, ((((↑x1.i : Int)) = ((↑x2.i : Int))) → (∃ x' : XIx fl.length, (True ∧ ((True ∧ True ∧ True ∧ ((Value.int IntKind.i64 (IntKind.i64.wrap ((↑x2.i : Int) + 1))) = (Value.int IntKind.i64 ((↑x'.i : Int)))) ∧ True) ∧ ((d) = (d)) ∧ ((fl) = (fl)) ∧ ((roots) = (roots)) ∧ (True ∧ True ∧ True) ∧ ((([] : List FindT) = [])) ∧ True) ∧ (fl.length - x'.i < fl.length - x1.i))))))) (((∃ x2 : XIx roots.length, (True ∧ (True ∧ True ∧ True ∧ ((Value.int IntKind.i64 0) = (Value.int IntKind.i64 ((↑x2.i : Int)))) ∧ True) ∧ ((d) = (d)) ∧ ((fl) = (fl)) ∧ ((roots) = (roots)) ∧
    (True ∧ True ∧ True) ∧ ((([] : List FindT) = [])) ∧ True)) ∧ (∀ x2 : XIx roots.length, (True → (brS (decide ((↑x2.i : Int) < (↑roots.length : Int))) ((((0 ≤ (↑x2.i : Int)) ∧ ((↑x2.i : Int) < (↑roots.length : Int)) ∧ (brS (roots.getD (↑x2.i : Int).toNat 0 != 0) (((0 ≤ (↑x2.i : Int)) ∧ ((↑x2.i : Int) < (↑roots.length : Int)) ∧ (inU (roots.getD (↑x2.i : Int).toNat 0)) ∧ (d.length ≤ 1000000) ∧ (∃ x3 : XIy roots.length, ((((↑x2.i : Int)) = ((↑x3.i : Int))) ∧ (True ∧ True ∧ True ∧ ((Value.int IntKind.i64 ((↑x2.i : Int))) = (Value.int IntKind.i64 ((↑x3.i : Int)))) ∧ ((Value.bool (!alcD d (roots.getD (↑x2.i : Int).toNat 0))) = (Value.bool false)) ∧ True) ∧ ((d) = (d)) ∧ ((fl) = (fl)) ∧ ((roots) = (roots)) ∧ (True ∧ True ∧ True) ∧ ((([] : List FindT) = [])) ∧ True)))) ((∃ x3 : XIy roots.length, ((((↑x2.i : Int)) = ((↑x3.i : Int))) ∧ (True ∧ True ∧ True ∧ ((Value.int IntKind.i64 ((↑x2.i : Int))) = (Value.int IntKind.i64 ((↑x3.i : Int)))) ∧ ((Value.bool false) = (Value.bool false)) ∧ True) ∧ ((d) = (d)) ∧ ((fl) = (fl)) ∧ ((roots) = (roots)) ∧ (True ∧ True ∧ True) ∧ ((([] : List FindT) = [])) ∧ True))))) ∧ (∀ x3 : XIy roots.length, ((((↑x2.i : Int)) = ((↑x3.i : Int))) → (∃ x' : XIx roots.length, (True ∧ ((True ∧ True ∧ True ∧ ((Value.int IntKind.i64 (IntKind.i64.wrap ((↑x3.i : Int) + 1))) = (Value.int IntKind.i64 ((↑x'.i : Int)))) ∧ True) ∧ ((d) = (d)) ∧ ((fl) = (fl)) ∧ ((roots) = (roots)) ∧ (True ∧ True ∧ True) ∧ ((([] : List FindT) = [])) ∧ True) ∧
    (roots.length - x'.i < roots.length - x2.i))))))) ((K (SV.one (TV.at (At.slc 3))) [(Chunk.row false (EC.slot) (d)), (Chunk.row false (EC.u32) (fl)), (Chunk.row false (EC.u32) (roots)), (Chunk.row true (EC.find) [])] [])))))))))))))))))))))))))))) = _ by kernel_rfl) ?_
  subst hP0 hP1 hP2 hP3 hP4
  refine ⟨hl, hk, fun o eo => ⟨hl, hr, hk, hru, fun m hm => ⟨by omega, by omega, hf, hfu, fun o1 e1 => ⟨by omega, by omega, hr, hru, fun o2 e2 => ⟨⟨⟨0, m, Nat.zero_le _, hm⟩, ?_⟩, fun x _ => ?_⟩⟩⟩⟩⟩
  · (repeat' first | exact trivial | exact rfl | exact eo | exact e1 | exact e2 | refine And.intro ?_ ?_)
  obtain ⟨i, m, hi, hm⟩ := x
  dsimp only
  refine brS_of (fun c => ?_) fun c => ?_
  · have c : i < d.length := by have := of_decide_eq_true c; omega
    refine ⟨by omega, by omega, brS_of (fun a => ⟨⟨i, m, 0, c, hm, (if_pos a).symm⟩, ?_⟩) fun a => ⟨⟨i, m, 1, c, hm, (if_neg (fun z => by rw [show (eS d i).alloc = false from a] at z; cases z)).symm⟩, ?_⟩, fun x1 e1 => ?_⟩
    · (repeat' first | exact trivial | exact rfl | refine And.intro ?_ ?_)
    · (repeat' first | exact trivial | exact rfl | refine And.intro ?_ ?_)
    obtain ⟨i1, m1, c1, hi1, hm1, p1⟩ := x1
    have e1 : (i : Int) = (i1 : Int) := e1
    have e1 : i = i1 := by omega
    subst e1
    dsimp only
    have b1 : ((cntL fl d.length).getD i 0 != c1) = false := by
      rw [cntL_get fl _ _ c, hc.free i c, show c1 = _ from p1]
      show (((if (eS d i).alloc = true then (0 : Nat) else 1 : Nat) : Int) != if (eS d i).alloc = true then (0 : Int) else 1) = false
      cases (eS d i).alloc <;> rfl
    refine ⟨by omega, by rw [cntL_len]; omega, ⟨⟨i, m1, 0, c, hm1, trivial⟩, ?_⟩, fun x2 e2 => ?_⟩
    · (repeat' first | exact trivial | exact rfl | exact congrArg Value.bool b1 | refine And.intro ?_ ?_)
    obtain ⟨i2, m2, c2, hi2, hm2, p2⟩ := x2
    have e2 : (i : Int) = (i2 : Int) := e2
    have e2 : i = i2 := by omega
    subst e2
    dsimp only
    have hmem : eS d i ∈ d := by unfold eS; rw [List.getD_eq_getElem?_getD, List.getElem?_eq_getElem c]; exact List.getElem_mem c
    obtain ⟨kl, kr⟩ := hk _ hmem
    refine ⟨brS_of (fun a => ⟨?_, fun x3 e3 => ?_⟩) fun a => ⟨⟨i, m2, 0, c, hm2, (if_neg (fun z => by rw [show (eS d i).alloc = false from a] at z; cases z)).symm⟩, ?_⟩, fun x3 e3 => ?_⟩
    · have sl := szD_rng hc (eS d i).node.left
      have sr := szD_rng hc (eS d i).node.right
      have il := hc.left i c a
      have ir := hc.right i c a
      have dl : d.length ≤ 1000000 := by omega
      have w1 : (0 : Int) ≤ IntKind.i64.wrap (0 + 1) := by decide
      have w2 : IntKind.i64.wrap (0 + 1) < ((2 : Nat) : Int) := by decide
      refine ⟨by decide, by decide, kl, dl, brS_of (fun al => ?_) fun al => ?_⟩
      · obtain ⟨q1, q2, q3⟩ := eS_sz hc hl al
        refine ⟨by decide, by decide, q1, q2, w1, w2, kr, dl, brS_of (fun ar => ?_) fun ar => ?_⟩
        · obtain ⟨t1, t2, t3⟩ := eS_sz hc hl ar
          refine ⟨w1, w2, t1, t2, ⟨i, m2, _, c, hm2, a, rfl⟩, ?_⟩
          have v : IntKind.i64.wrap (IntKind.i64.wrap (1 + (eS d (IntKind.u32.wrap ((eS d i).node.left - 1)).toNat).node.size) + (eS d (IntKind.u32.wrap ((eS d i).node.right - 1)).toNat).node.size) = 1 + szD d (eS d i).node.left + szD d (eS d i).node.right := by
            rw [q3, t3, wrap_id (x := 1 + szD d (eS d i).node.left) (by omega) (by omega), wrap_id (by omega) (by omega)]
          (repeat' first | exact trivial | exact rfl | exact congrArg (Value.int IntKind.i64) v | refine And.intro ?_ ?_)
        · have z := szD_no ar
          refine ⟨w1, w2, brS_of (fun f => ?_) fun f => ⟨⟨i, m2, _, c, hm2, a, rfl⟩, ?_⟩⟩
          · exfalso
            rcases ir with e | e
            · rw [show (eS d i).node.right = 0 from e] at f; cases f
            · rw [show alcD d (eS d i).node.right = true from e] at ar; cases ar
          · have v : IntKind.i64.wrap (1 + (eS d (IntKind.u32.wrap ((eS d i).node.left - 1)).toNat).node.size) = 1 + szD d (eS d i).node.left + szD d (eS d i).node.right := by
              rw [q3, z, wrap_id (x := 1 + szD d (eS d i).node.left) (by omega) (by omega)]; omega
            (repeat' first | exact trivial | exact rfl | exact congrArg (Value.int IntKind.i64) v | refine And.intro ?_ ?_)
      · have z1 := szD_no al
        refine ⟨by decide, by decide, brS_of (fun f => ?_) fun f => ⟨w1, w2, kr, dl, brS_of (fun ar => ?_) fun ar => ?_⟩⟩
        · exfalso
          rcases il with e | e
          · rw [show (eS d i).node.left = 0 from e] at f; cases f
          · rw [show alcD d (eS d i).node.left = true from e] at al; cases al
        · obtain ⟨t1, t2, t3⟩ := eS_sz hc hl ar
          refine ⟨w1, w2, t1, t2, ⟨i, m2, _, c, hm2, a, rfl⟩, ?_⟩
          have v : IntKind.i64.wrap (1 + (eS d (IntKind.u32.wrap ((eS d i).node.right - 1)).toNat).node.size) = 1 + szD d (eS d i).node.left + szD d (eS d i).node.right := by
            rw [t3, z1, wrap_id (x := 1 + szD d (eS d i).node.right) (by omega) (by omega)]; omega
          (repeat' first | exact trivial | exact rfl | exact congrArg (Value.int IntKind.i64) v | refine And.intro ?_ ?_)
        · have z := szD_no ar
          refine ⟨w1, w2, brS_of (fun f => ?_) fun f => ⟨⟨i, m2, _, c, hm2, a, rfl⟩, ?_⟩⟩
          · exfalso
            rcases ir with e | e
            · rw [show (eS d i).node.right = 0 from e] at f; cases f
            · rw [show alcD d (eS d i).node.right = true from e] at ar; cases ar
          · have v : 1 = 1 + szD d (eS d i).node.left + szD d (eS d i).node.right := by omega
            (repeat' first | exact trivial | exact rfl | exact congrArg (Value.int IntKind.i64) v | refine And.intro ?_ ?_)
    · obtain ⟨i3, m3, c3, hi3, hm3, a3, p3⟩ := x3
      have e3 : (i : Int) = (i3 : Int) := e3
      have e3 : i = i3 := by omega
      subst e3
      dsimp only
      have b3 : (c3 != (eS d i).node.size) = false := by
        have := hc.size i c a3
        rw [p3, show (eS d i).node.size = _ from this]; simp
      refine ⟨⟨⟨i, m3, 0, c, hm3, a3⟩, ?_⟩, fun x4 e4 => ?_⟩
      · (repeat' first | exact trivial | exact rfl | exact congrArg Value.bool b3 | refine And.intro ?_ ?_)
      obtain ⟨i4, m4, c4, hi4, hm4, p4⟩ := x4
      have e4 : (i : Int) = (i4 : Int) := e4
      have e4 : i = i4 := by omega
      subst e4
      dsimp only
      refine ⟨by omega, by rw [cntL_len]; omega, by omega, by rw [cntL_len]; omega, ⟨i, m4, _, c, hm4, rfl⟩, ?_⟩
      have v : IntKind.i64.wrap ((cntL (kidsL d) d.length).getD i 0 + (cntL roots d.length).getD i 0) = if (eS d i).alloc = true then ((kidsL d).count ((i : Int) + 1) : Int) + (roots.count ((i : Int) + 1) : Int) else 0 := by
        have k1 := cntL_rng (kidsL d) d.length i c
        have k2 := cntL_rng roots d.length i c
        have k3 := kidsL_len d
        rw [wrap_id (by omega) (by omega), cntL_get _ _ _ c, cntL_get _ _ _ c, if_pos a3]
      (repeat' first | exact trivial | exact rfl | exact congrArg (Value.int IntKind.i64) v | refine And.intro ?_ ?_)
    · (repeat' first | exact trivial | exact rfl | refine And.intro ?_ ?_)
    obtain ⟨i3, m3, c3, hi3, hm3, p3⟩ := x3
    have e3 : (i : Int) = (i3 : Int) := e3
    have e3 : i = i3 := by omega
    subst e3
    dsimp only
    have b3 : (c3 != (eS d i).count) = false := by
      have := hc.count i c
      rw [show c3 = _ from p3, show (eS d i).count = _ from this]; simp
    refine ⟨⟨⟨i, m3, 0, c, hm3, trivial⟩, ?_⟩, fun x4 e4 => ?_⟩
    · (repeat' first | exact trivial | exact rfl | exact congrArg Value.bool b3 | refine And.intro ?_ ?_)
    obtain ⟨i4, m4, c4, hi4, hm4, p4⟩ := x4
    have e4 : (i : Int) = (i4 : Int) := e4
    have e4 : i = i4 := by omega
    subst e4
    dsimp only
    refine ⟨brS_of (fun a => ⟨by omega, by rw [hm4.len]; omega, ⟨i, m4, 0, c, hm4, trivial⟩, ?_⟩) fun a => ⟨⟨i, m4, 0, c, hm4, trivial⟩, ?_⟩, fun x5 e5 => ?_⟩
    · have b4 : (!m4.getD i false) = false := by rw [hc.mark m4 hm4 i c a]; rfl
      (repeat' first | exact trivial | exact rfl | exact congrArg Value.bool b4 | refine And.intro ?_ ?_)
    · (repeat' first | exact trivial | exact rfl | refine And.intro ?_ ?_)
    obtain ⟨i5, m5, c5, hi5, hm5, p5⟩ := x5
    have e5 : (i : Int) = (i5 : Int) := e5
    have e5 : i = i5 := by omega
    subst e5
    dsimp only
    refine ⟨⟨i + 1, m5, c, hm5⟩, ?_⟩
    have v : IntKind.i64.wrap ((i : Int) + 1) = ((i + 1 : Nat) : Int) := by rw [wrap_id (by omega) (by omega)]; rfl
    (repeat' first | exact trivial | exact rfl | exact congrArg (Value.int IntKind.i64) v | refine And.intro ?_ ?_)
    show d.length - (i + 1) < d.length - i
    omega
  · refine ⟨⟨⟨0, Nat.zero_le _⟩, ?_⟩, fun x _ => ?_⟩
    · (repeat' first | exact trivial | exact rfl | refine And.intro ?_ ?_)
    obtain ⟨j, hj⟩ := x
    dsimp only
    refine brS_of (fun c => ?_) fun _ => ?_
    · have c : j < fl.length := by have := of_decide_eq_true c; omega
      have hx : fl.getD j 0 ∈ fl := by rw [List.getD_eq_getElem?_getD, List.getElem?_eq_getElem c]; exact List.getElem_mem c
      have hg := hc.rng _ hx
      obtain ⟨u1, u2⟩ := hfu _ hx
      refine ⟨⟨by omega, by omega, brS_of (fun f => ?_) fun _ => ⟨by omega, by omega, ⟨j, c⟩, ?_⟩⟩, fun y e => ?_⟩
      · have f : fl.getD j 0 < 1 := of_decide_eq_true f
        omega
      · have b : decide (IntKind.u64.wrap (fl.getD j 0) > IntKind.u64.wrap (d.length : Int)) = false := by
          rw [wrap_u64 (x := fl.getD j 0) u1 (by omega), wrap_u64 (x := (d.length : Int)) (by omega) (by omega)]
          exact decide_eq_false (by omega)
        (repeat' first | exact trivial | exact rfl | exact congrArg Value.bool b | refine And.intro ?_ ?_)
      · obtain ⟨j1, hj1⟩ := y
        have e : (j : Int) = (j1 : Int) := e
        have e : j = j1 := by omega
        subst e
        dsimp only
        refine ⟨⟨j + 1, c⟩, ?_⟩
        have v : IntKind.i64.wrap ((j : Int) + 1) = ((j + 1 : Nat) : Int) := by rw [wrap_id (by omega) (by omega)]; rfl
        (repeat' first | exact trivial | exact rfl | exact congrArg (Value.int IntKind.i64) v | refine And.intro ?_ ?_)
        show fl.length - (j + 1) < fl.length - j
        omega
    · refine ⟨⟨⟨0, Nat.zero_le _⟩, ?_⟩, fun x _ => ?_⟩
      · (repeat' first | exact trivial | exact rfl | refine And.intro ?_ ?_)
      obtain ⟨j, hj⟩ := x
      dsimp only
      refine brS_of (fun c => ?_) fun _ => h
      have c : j < roots.length := by have := of_decide_eq_true c; omega
      have hx : roots.getD j 0 ∈ roots := by rw [List.getD_eq_getElem?_getD, List.getElem?_eq_getElem c]; exact List.getElem_mem c
      have hg := hc.held _ hx
      refine ⟨⟨by omega, by omega, brS_of (fun f => ⟨by omega, by omega, hru _ hx, by omega, ⟨j, c⟩, ?_⟩) fun _ => ⟨⟨j, c⟩, ?_⟩⟩, fun y e => ?_⟩
      · have b : (!alcD d (roots.getD j 0)) = false := by
          rcases hg with e | e
          · have f : (roots.getD j 0 != 0) = true := f
            rw [e] at f; cases f
          · rw [e]; rfl
        (repeat' first | exact trivial | exact rfl | exact congrArg Value.bool b | refine And.intro ?_ ?_)
      · (repeat' first | exact trivial | exact rfl | refine And.intro ?_ ?_)
      · obtain ⟨j1, hj1⟩ := y
        have e : (j : Int) = (j1 : Int) := e
        have e : j = j1 := by omega
        subst e
        dsimp only
        refine ⟨⟨j + 1, c⟩, ?_⟩
        have v : IntKind.i64.wrap ((j : Int) + 1) = ((j + 1 : Nat) : Int) := by rw [wrap_id (by omega) (by omega)]; rfl
        (repeat' first | exact trivial | exact rfl | exact congrArg (Value.int IntKind.i64) v | refine And.intro ?_ ?_)
        show roots.length - (j + 1) < roots.length - j
        omega
theorem s_chk : SoundT C0 109 tChk := by
  refine .of Try.func109 (by decide) rfl fun args H K h hB => ?_
  unfold tChk at h
  split at h <;> try exact h.elim
  rename_i d fl roots
  obtain ⟨h1, h2, h3, h4, h5, h6, h7, h⟩ := h
  exact ⟨aChk P0c (P1c d) (P2c d) (P3c d roots) (P4c d) d fl roots, ⟨frame C0.ok s_ine _, frame C0.ok s_mk _, frame C0.ok s_cnt _, frame C0.ok s_alc _, frame C0.ok s_kids _, trivial⟩, vc_chk d fl roots K h1 h2 h3 h4 h5 h6 h7 h⟩
theorem s_cln : SoundT C0 80 tCln := by
  refine .of Try.func80 (by decide) rfl fun args H K h hB => ?_
  unfold tCln at h
  split at h <;> try exact h.elim
  rename_i d fl roots
  exact ⟨aCln, ⟨frame C0.ok s_chk _, trivial⟩, Eq.mp (show ((CleanD d fl roots) ∧
(kidsU d) ∧
(allU fl) ∧
(allU roots) ∧
(d.length ≤ 100000) ∧
(fl.length ≤ 1000000) ∧
(roots.length ≤ 1000000) ∧
(K (SV.one (TV.at (At.val (Value.bool true)))) [(Chunk.row false (EC.slot) (d)), (Chunk.row false (EC.u32) (fl)), (Chunk.row false (EC.u32) (roots))] [])) = _ by kernel_rfl) h⟩
theorem vc_sound (S : Arn) (roots hs : List Int) (K : KT) (w : Wf S hs) (p : roots.Perm hs) (hr : roots.length ≤ 1000000) (h : K (.one (.at (vB true))) (chS S ++ [.row false EC.u32 roots]) []) :
    vc C0 aSound Try.f31 [.at (.ptr 0 0), .at (.slc 7)] (chS S ++ [.row false EC.u32 roots]) (normK 8 K) := by
  refine Eq.mp (show ((exW S) ∧
(∀ d : List SlotT, (∀ o : List Int, (((d) = (slotsOf S)) → (((o) = (orderOf S)) → ((CleanD d o roots) ∧ (kidsU d) ∧ (allU o) ∧ (allU roots) ∧ (d.length ≤ 100000) ∧ (o.length ≤ 1000000) ∧ (roots.length ≤ 1000000) ∧ (K (SV.one (TV.at (At.val (Value.bool true)))) [(Chunk.box [(At.ptr 1 0), (At.slc 2), (At.slc 3), (At.val (Value.int IntKind.u64 (S.reads)))]), (Chunk.box [(At.slc 4), (At.slc 5), (At.slc 6), (At.val (Value.int IntKind.u32 (S.fresh)))]), (Chunk.row true (EC.node) (S.nodes)), (Chunk.row true (EC.int) (S.counts)), (Chunk.row true (EC.bool) (S.used)), (Chunk.row true (EC.u32) (S.gen)), (Chunk.row true (EC.u32) (S.rel)), (Chunk.row false (EC.u32) (roots))] []))))))) = _ by kernel_rfl) ?_
  have nc : ncap S ≤ 65537 := by have := w.n2; unfold ncap; omega
  have ol := order_len w
  have ku := kidsU_slots w
  have cs := clean_slots w p
  have sl := slotsOf_len S
  refine ⟨⟨hs, w⟩, fun d o ed eo => ?_⟩
  subst ed eo
  refine ⟨cs, ku, fun x hx => ?_, fun x hx => Wf.inU_held w (p.mem_iff.1 hx), by omega, by omega, hr, h⟩
  have := ((order_mem w x).1 hx).1
  exact ⟨by omega, by omega⟩
theorem s_sound : SoundT C0 31 tSound := by
  refine .of Try.func31 (by decide) rfl fun args H K h hB => ?_
  unfold tSound at h
  split at h <;> try exact h.elim
  unfold arMr at h
  split at h <;> try exact h.elim
  split at h <;> try exact h.elim
  rename_i rd fr nd ct us gn rl _ roots
  obtain ⟨hs, w, p, hr, h⟩ := h
  exact ⟨aSound, ⟨frame C0.ok s_dump _, frame C0.ok s_cln _, trivial⟩, vc_sound ⟨us, gn, rl, fr, nd, ct, rd⟩ roots hs K w p hr h⟩
end Go.Proofs.Ytjbkckcjmmmooaa.Sx
end
section
/- The reference's trees over a dump: nodes, balance, height, list, order, Check, Tree. -/
namespace Go.Proofs.Ytjbkckcjmmmooaa.Sx
open Go

/-KEEP Wf exW inU alcD slotsOf orderOf ndD RepD Asc Tr.Bal Tr.size Tr.list ht balB lastK anyK gtL ShpT-/
def ndD (d : List SlotT) (i : Int) : NodeT := if alcD d i = true then (sltD d i).node else NodeT.zero
def lastK : Tr → Int → Int
  | .nil, x => x
  | .node _ k _ r, _ => lastK r k
def anyK : Tr → Bool → Bool
  | .nil, b => b
  | .node _ _ _ _, _ => true
def gtL (x : Int) (l : List Ent) : Prop := ∀ y ∈ l, x < y.1
/-- An index of a dump stands for a tree. -/
def RepD (d : List SlotT) : Tr → Int → Prop
  | .nil, i => i = 0
  | .node l k v r, i => alcD d i = true ∧ (ndD d i).key = k ∧ (ndD d i).value = v ∧ (ndD d i).size = 1 + l.size + r.size ∧ RepD d l (ndD d i).left ∧ RepD d r (ndD d i).right
noncomputable def aAlcG : Ann C0 := { Γ := [(110, frameT [] tAlc)] }
def tNd : Tfm C0 := fun args H K => match args, H with
  | [.agg [.slc 0, .slc 1], .at (.val (.int .u32 i))], [.row false .slot d, .row false .u32 fl] => inU i ∧ d.length ≤ 1000000 ∧ ∀ n, n = ndD d i → K (.one (nodeA n)) [.row false EC.slot d, .row false EC.u32 fl] []
  | _, _ => False
def tBl7 (n : Nat) : Tfm C0 := fun args H K => match args, H with
  | [.agg [.slc 0, .slc 1], .at (.val (.int .u32 i))], [.row false .slot d, .row false .u32 fl] => d.length ≤ 1000000 ∧ (∃ t, RepD d t i ∧ t.Bal ∧ t.size < n ∧ t.size ≤ 1000000) ∧ K (.one (.at (vB true))) [.row false EC.slot d, .row false EC.u32 fl] []
  | _, _ => False
noncomputable def aBl7 (n : Nat) : Ann C0 := { quiet := [82, 48, 112], Γ := [(82, frameT [] tNd), (48, frameT [] tBal), (112, frameT [] (tBl7 n))] }
def tHt7 (n : Nat) : Tfm C0 := fun args H K => match args, H with
  | [.agg [.slc 0, .slc 1], .at (.val (.int .u32 i))], [.row false .slot d, .row false .u32 fl] => d.length ≤ 1000000 ∧ ∃ t, RepD d t i ∧ t.size < n ∧ t.size ≤ 1000000 ∧ ∀ h, h = (ht t : Int) → K (.one (.at (vI h))) [.row false EC.slot d, .row false EC.u32 fl] []
  | _, _ => False
def tLi7 (n : Nat) : Tfm C0 := fun args H K => match args, H with
  | [.agg [.slc 0, .slc 1], .at (.val (.int .u32 i))], [.row false .slot d, .row false .u32 fl] => d.length ≤ 1000000 ∧ ∃ t, RepD d t i ∧ t.size < n ∧ t.size ≤ 1000000 ∧ ∀ r, r = t.list → K (.one (.at (.slc 2))) [.row false EC.slot d, .row false EC.u32 fl, .row true EC.ent r] []
  | _, _ => False
noncomputable def aLi7 (n : Nat) : Ann C0 := { quiet := [82, 36], Γ := [(82, frameT [] tNd), (36, frameT [] (tLi7 n))] }
def tOr7 (n : Nat) : Tfm C0 := fun args H K => match args, H with
  | [.at (.ptr 0 0), .at (.val (.int .u32 i))], [.box [.slc 1, .slc 2, .val (.int .i64 last), .val (.bool any), .val (.int .i64 most)], .row false .slot d, .row false .u32 fl] => d.length ≤ 1000000 ∧ ∃ t, RepD d t i ∧ Asc t.list ∧ t.size < n ∧ (t.size : Int) ≤ most ∧ most ≤ 10000000 ∧ (any = true → gtL last t.list) ∧
    ∀ la an mo, la = lastK t last → an = anyK t any → mo = most - t.size → K (.one (.at (vB true))) [.box [.slc 1, .slc 2, vI la, vB an, vI mo], .row false EC.slot d, .row false EC.u32 fl] [0]
  | _, _ => False
noncomputable def aOr7 (n : Nat) : Ann C0 := { Γ := [(82, frameT [] tNd), (111, frameT [] (tOr7 n))] }
noncomputable def aCk7 (n : Nat) : Ann C0 := { Γ := [(110, frameT [] tAlc), (111, frameT [] (tOr7 n)), (112, frameT [] (tBl7 n))] }
def tCk7 : Tfm C0 := fun args H K => match args, H with
  | [.agg [.slc 0, .slc 1], .at (.val (.int .u32 i))], [.row false .slot d, .row false .u32 fl] => d.length ≤ 1000000 ∧ (∃ t, RepD d t i ∧ Asc t.list ∧ t.Bal ∧ t.size ≤ 2 * d.length + 2 ∧ t.size ≤ 1000000) ∧ K (.one (.at (vI 0))) [.row false EC.slot d, .row false EC.u32 fl] []
  | _, _ => False
noncomputable def aTr7 (n : Nat) (l : List Ent) (d : List SlotT) (fl : List Int) : Ann C0 := { Γ := [(81, frameT [] tCk7), (82, frameT [] tNd), (36, frameT [] (tLi7 n))], inv := fun k => match k with
  | 7 => some { X := XIx l.length, sl := [8, 3, 7], tf := fun x => [vi .i64 x.i, .one (.at (.ptr 3 0)), .one (.at (.slc 4))], hf := fun _ => [.row false EC.slot d, .row false EC.u32 fl, .row false EC.ent l, .box [.slc 0, .slc 1], .row true EC.ent l], μ := fun x => l.length - x.i }
  | _ => none }
def tTr7 : Tfm C0 := fun args H K => match args, H with
  | [.agg [.slc 0, .slc 1], .at (.val (.int .u32 i)), .at (.slc 2)], [.row false .slot d, .row false .u32 fl, .row false .ent l] => d.length ≤ 1000000 ∧ (∃ t, RepD d t i ∧ Asc t.list ∧ t.Bal ∧ t.size ≤ 2 * d.length + 2 ∧ t.size ≤ 1000000 ∧ t.list = l) ∧ K (.one (.at (vB true))) [.row false EC.slot d, .row false EC.u32 fl, .row false EC.ent l] []
  | _, _ => False
theorem bt7 {b : Bool} {t f : Prop} (h : b = true) (ht : t) : brS b t f := by rw [h]; exact ht
theorem bf7 {b : Bool} {t f : Prop} (h : b = false) (hf : f) : brS b t f := by rw [h]; exact hf
theorem RepD.inU {d : List SlotT} {t : Tr} {i : Int} (h : RepD d t i) (hl : d.length ≤ 1000000) : inU i := by
  cases t with
  | nil => have : i = 0 := h; rw [this]; exact ⟨by omega, by omega⟩
  | node l k v r => have := alcD_rng h.1; exact ⟨by omega, by omega⟩
theorem RepD.sz {d : List SlotT} {t : Tr} {i : Int} (h : RepD d t i) : (ndD d i).size = t.size := by
  cases t with
  | nil =>
    have : i = 0 := h
    unfold ndD
    rw [this, alcD_lo (by omega)]; rfl
  | node l k v r => rw [h.2.2.2.1]; simp [Tr.size]
theorem RepD.ne {d : List SlotT} {l r : Tr} {k v i : Int} (h : RepD d (.node l k v r) i) : i ≠ 0 := by have := alcD_rng h.1; omega
/-! ### From the arena to its dump -/
end Go.Proofs.Ytjbkckcjmmmooaa.Sx
end
section
/- Range, Slice and List; Build. -/
namespace Go.Proofs.Ytjbkckcjmmmooaa.Sx
open Go

/-KEEP Wf exW inU live Arn.cap Arn.free maxSize mkNode makeS relA nxt NodeR BuildR Rep lk pl rdS Tr.size rangeR sliceR ne0-/
def tLkA : Tfm C0 := fun args H K => match args with
  | [.at (.ptr 0 0), .at (.val (.int .u32 i)), .at (.val (.int .i64 lo)), .at (.val (.int .i64 hi))] => lsM H fun lim S out => ∃ hs t, Wf S hs ∧ Rep S t i ∧ t.size ≤ 1000000 ∧ out.length + t.size ≤ 3000000 ∧ S.reads + t.size ≤ 3000000000000000000 ∧
    ∀ S' out', S' = rdS S (lk t lo hi (room lim out)).2 → out' = out ++ (lk t lo hi (room lim out)).1 → K (.tup []) (chL lim S' out') [0, 1, 2]
  | _ => False
theorem s_lkA : SoundT C0 124 tLkA := (s_lk 1000001).weak fun args H K h => by
  unfold tLkA at h
  unfold tLk
  split at h <;> try exact h.elim
  unfold lsM at h ⊢
  split at h <;> try exact h.elim
  obtain ⟨hs, t, h1, h2, h3, h4⟩ := h
  exact ⟨hs, t, h1, h2, by omega, h3, h4⟩
def tPlA : Tfm C0 := fun args H K => match args with
  | [.at (.ptr 0 0), .at (.val (.int .u32 i)), .at (.val (.int .i64 x)), .at (.val (.int .i64 y))] => lsM H fun lim S out => ∃ hs t, Wf S hs ∧ Rep S t i ∧ t.size ≤ 1000000 ∧ out.length + t.size ≤ 3000000 ∧ S.reads + 2 * t.size ≤ 3000000000000000000 ∧ 0 ≤ x ∧ y ≤ t.size ∧
    ∀ S' out', S' = rdS S (pl t x y).2 → out' = out ++ (pl t x y).1 → K (.tup []) (chL lim S' out') [0, 1, 2]
  | _ => False
def rangeR (t : Tr) (lo hi lim : Int) : List Ent × Nat := if lim ≤ 0 ∨ hi < lo then ([], 0) else lk t lo hi lim.toNat
def sliceR (t : Tr) (x y : Int) : List Ent × Nat := if x < 0 ∨ y < x then ([], 0) else if (t.size : Int) < y then ([], ne0 t) else ((pl t x y).1, ne0 t + (pl t x y).2)
noncomputable def aRange : Ann C0 := { Γ := [(124, frameT [] tLkA)] }
def tRange : Tfm C0 := fun args H K => match args with
  | [.at (.ptr 0 0), .at (.val (.int .u32 i)), .at (.val (.int .i64 lo)), .at (.val (.int .i64 hi)), .at (.val (.int .i64 lim))] => arM H fun S => ∃ hs t, Wf S hs ∧ Rep S t i ∧ t.size ≤ 1000000 ∧ S.reads + t.size ≤ 3000000000000000000 ∧
    ∀ S' (out : List Ent), S' = rdS S (rangeR t lo hi lim).2 → out = (rangeR t lo hi lim).1 → K (.one (.at (.slc 7))) (chS S' ++ [.row true EC.ent out]) [0]
  | _ => False
def tSlice : Tfm C0 := fun args H K => match args with
  | [.at (.ptr 0 0), .at (.val (.int .u32 i)), .at (.val (.int .i64 x)), .at (.val (.int .i64 y))] => arM H fun S => ∃ hs t, Wf S hs ∧ Rep S t i ∧ t.size ≤ 1000000 ∧ S.reads + 2 * t.size ≤ 2000000000000000000 ∧
    ∀ S' (out : List Ent), S' = rdS S (sliceR t x y).2 → out = (sliceR t x y).1 → K (.one (.at (.slc 7))) (chS S' ++ [.row true EC.ent out]) [0]
  | _ => False
noncomputable def aList : Ann C0 := { Γ := [(99, frameT [] tRange)] }
def tList : Tfm C0 := fun args H K => match args with
  | [.at (.ptr 0 0), .at (.val (.int .u32 i))] => arM H fun S => ∃ hs t, Wf S hs ∧ Rep S t i ∧ t.size ≤ 1000000 ∧ S.reads + t.size ≤ 3000000000000000000 ∧
    ∀ S' (out : List Ent), S' = rdS S (rangeR t (-9223372036854775808) 9223372036854775807 2147483647).2 → out = (rangeR t (-9223372036854775808) 9223372036854775807 2147483647).1 → K (.one (.at (.slc 7))) (chS S' ++ [.row true EC.ent out]) [0]
  | _ => False
def tNodeW : Tfm C0 := fun args H K => match args with
  | [.at (.ptr 0 0), .at (.val (.int .u32 l)), .agg [.val (.int .i64 k), .val (.int .i64 v)], .at (.val (.int .u32 r))] => arM H fun S => ∃ hs tl tr, Wf S (l :: r :: hs) ∧ Rep S tl l ∧ Rep S tr r ∧ tl.size + tr.size ≤ 1000000 ∧ 0 < S.free ∧ hs.length ≤ 900000000 ∧
    ∀ S' i, NodeR S hs k v tl tr S' i → K (.one (.at (vU i))) (chS S') W7
  | _ => False
noncomputable def aNodeW : Ann C0 := { Γ := [(101, frameT [] tMakeOk), (29, frameT [] tGive)] }
def tBld (n : Nat) : Tfm C0 := fun args H K => match args with
  | [.at (.ptr 0 0), .at (.slc 7)] => arMr H fun S rest => match rest with
    | [.row false .ent l] => ∃ hs, Wf S hs ∧ l.length < n ∧ l.length ≤ 100000 ∧ (l.length : Int) ≤ S.free ∧ hs.length + l.length ≤ 800000000 ∧ ∀ S' i, BuildR S hs l S' i → K (.one (.at (vU i))) (chS S' ++ [.row false EC.ent l]) W7
    | _ => False
  | _ => False
structure XBld (P : Arn → Int → Prop) where
  S : Arn
  i : Int
  h : P S i
noncomputable def aBld (n : Nat) (l : List Ent) (P : Arn → Int → Prop) : Ann C0 := { Γ := [(120, frameT [] (tBld n)), (106, frameT [] tNodeW)], inv := fun k => match k with
  | 1005 => some { X := XBld P, sl := [6], tf := fun x => [vi .u32 x.i], hf := fun x => chS x.S ++ [.row false EC.ent l], wr := W7 }
  | _ => none }
theorem vc_range (S : Arn) (i lo hi lim : Int) (K : KT) (hs : List Int) (t : Tr) (hw : Wf S hs) (hr : Rep S t i) (h1 : t.size ≤ 1000000) (h2 : S.reads + t.size ≤ 3000000000000000000)
    (h : ∀ S' (out : List Ent), S' = rdS S (rangeR t lo hi lim).2 → out = (rangeR t lo hi lim).1 → K (.one (.at (.slc 7))) (chS S' ++ [.row true EC.ent out]) [0]) :
    vc C0 aRange Try.f99 [.at (.ptr 0 0), .at (vU i), .at (vI lo), .at (vI hi), .at (vI lim)] (chS S) (normK 7 (wideK [0] K)) := by
  refine Eq.mp (show (brS (decide (lim ≤ 0)) ((K (SV.one (TV.at (At.slc 7))) [(Chunk.box [(At.ptr 1 0), (At.slc 2), (At.slc 3), (At.val (Value.int IntKind.u64 (S.reads)))]), (Chunk.box [(At.slc 4), (At.slc 5), (At.slc 6), (At.val (Value.int IntKind.u32 (S.fresh)))]), (Chunk.row true (EC.node) (S.nodes)), (Chunk.row true (EC.int) (S.counts)), (Chunk.row true (EC.bool) (S.used)), (Chunk.row true (EC.u32) (S.gen)), (Chunk.row true (EC.u32) (S.rel)), (Chunk.row true (EC.ent) [])] [0])) ((brS (decide (lo > hi)) ((K (SV.one (TV.at (At.slc 7))) [(Chunk.box [(At.ptr 1 0), (At.slc 2), (At.slc 3), (At.val (Value.int IntKind.u64 (S.reads)))]), (Chunk.box [(At.slc 4), (At.slc 5), (At.slc 6), (At.val (Value.int IntKind.u32 (S.fresh)))]), (Chunk.row true (EC.node) (S.nodes)), (Chunk.row true (EC.int) (S.counts)), (Chunk.row true (EC.bool) (S.used)), (Chunk.row true (EC.u32) (S.gen)), (Chunk.row true (EC.u32) (S.rel)), (Chunk.row true (EC.ent) [])] [0])) ((∃ hs : List Int, (∃ t : Tr, ((Wf S hs) ∧ (Rep S t i) ∧ (t.size ≤ 1000000) ∧ (([] : List Ent).length + t.size ≤ 3000000) ∧ (S.reads + (↑t.size : Int) ≤ 3000000000000000000) ∧ (∀ S' : Arn, (∀ out' : List Ent, (((S') = (rdS S (lk t lo hi (room lim [])).snd)) → (((out') = ([] ++ (lk t lo hi (room lim [])).fst)) →
    (K (SV.one (TV.at (At.slc 7))) [(Chunk.box [(At.ptr 1 0), (At.slc 2), (At.slc 3), (At.val (Value.int IntKind.u64 (S'.reads)))]), (Chunk.box [(At.slc 4), (At.slc 5), (At.slc 6), (At.val (Value.int IntKind.u32 (S'.fresh)))]), (Chunk.row true (EC.node) (S'.nodes)), (Chunk.row true (EC.int) (S'.counts)), (Chunk.row true (EC.bool) (S'.used)), (Chunk.row true (EC.u32) (S'.gen)), (Chunk.row true (EC.u32) (S'.rel)), (Chunk.row true (EC.ent) (out'))] [0])))))))))))) = _ by kernel_rfl) ?_
  refine brS_of (fun c => ?_) fun c => brS_of (fun d => ?_) fun d => ?_
  · have c : lim ≤ 0 := of_decide_eq_true c
    exact h S [] (by rw [rangeR, if_pos (.inl c)]; exact (rdS_zero S).symm) (by rw [rangeR, if_pos (.inl c)])
  · have d : hi < lo := of_decide_eq_true d
    exact h S [] (by rw [rangeR, if_pos (.inr d)]; exact (rdS_zero S).symm) (by rw [rangeR, if_pos (.inr d)])
  · have c : ¬ lim ≤ 0 := of_decide_eq_false c
    have d : ¬ hi < lo := of_decide_eq_false d
    have e : rangeR t lo hi lim = lk t lo hi (room lim []) := by rw [rangeR, if_neg (by omega)]; unfold room; simp
    rw [e] at h
    exact ⟨hs, t, hw, hr, h1, by simp; omega, h2, fun S' out e1 e2 => h S' out e1 (by simpa using e2)⟩
theorem s_range : SoundT C0 99 tRange := by
  refine .ofW [0] Try.func99 (by decide) rfl fun args H K h hB => ?_
  unfold tRange at h
  split at h <;> try exact h.elim
  unfold arM at h
  split at h <;> try exact h.elim
  rename_i i lo hi lim _ rd fr nd ct us gn rl
  obtain ⟨hs, t, h1, h2, h3, h4, h5⟩ := h
  exact ⟨aRange, ⟨frame C0.ok s_lkA _, trivial⟩, vc_range ⟨us, gn, rl, fr, nd, ct, rd⟩ i lo hi lim K hs t h1 h2 h3 h4 h5⟩
theorem s_list : SoundT C0 62 tList := by
  refine .ofW [0] Try.func62 (by decide) rfl fun args H K h hB => ?_
  unfold tList at h
  split at h <;> try exact h.elim
  unfold arM at h
  split at h <;> try exact h.elim
  rename_i i _ rd fr nd ct us gn rl
  generalize hS : (⟨us, gn, rl, fr, nd, ct, rd⟩ : Arn) = S at h
  have e : [Chunk.box [At.ptr 1 0, At.slc 2, At.slc 3, vU64 rd], .box [.slc 4, .slc 5, .slc 6, vU fr], .row true EC.node nd, .row true EC.int ct, .row true EC.bool us, .row true EC.u32 gn, .row true EC.u32 rl] = chS S := by rw [← hS]
  refine ⟨aList, ⟨frame C0.ok s_range _, trivial⟩, ?_⟩
  show vc C0 aList _ _ [Chunk.box [At.ptr 1 0, At.slc 2, At.slc 3, vU64 rd], .box [.slc 4, .slc 5, .slc 6, vU fr], .row true EC.node nd, .row true EC.int ct, .row true EC.bool us, .row true EC.u32 gn, .row true EC.u32 rl] (normK 7 (wideK [0] K))
  rw [e]
  exact Eq.mp (show (∃ hs : List Int, (∃ t : Tr, ((Wf S hs) ∧ (Rep S t i) ∧ (t.size ≤ 1000000) ∧ (S.reads + (↑t.size : Int) ≤ 3000000000000000000) ∧ (∀ S' : Arn, (∀ out : List Ent, (((S') = (rdS S (rangeR t (-9223372036854775808) 9223372036854775807 2147483647).snd)) → (((out) = ((rangeR t (-9223372036854775808) 9223372036854775807 2147483647).fst)) → (K (SV.one (TV.at (At.slc 7))) [(Chunk.box [(At.ptr 1 0), (At.slc 2), (At.slc 3), (At.val (Value.int IntKind.u64 (S'.reads)))]), (Chunk.box [(At.slc 4), (At.slc 5), (At.slc 6), (At.val (Value.int IntKind.u32 (S'.fresh)))]), (Chunk.row true (EC.node) (S'.nodes)), (Chunk.row true (EC.int) (S'.counts)), (Chunk.row true (EC.bool) (S'.used)), (Chunk.row true (EC.u32) (S'.gen)), (Chunk.row true (EC.u32) (S'.rel)), (Chunk.row true (EC.ent) (out))] [0])))))))) = _ by kernel_rfl) h
theorem vc_nodeW (S : Arn) (l k v r : Int) (K : KT) (hs : List Int) (tl tr : Tr) (hw : Wf S (l :: r :: hs)) (h1 : Rep S tl l) (h2 : Rep S tr r) (h3 : tl.size + tr.size ≤ 1000000) (h4 : 0 < S.free) (h5 : hs.length ≤ 900000000)
    (h : ∀ S' i, NodeR S hs k v tl tr S' i → K (.one (.at (vU i))) (chS S') W7) :
    vc C0 aNodeW Try.f106 [.at (.ptr 0 0), .at (vU l), .agg [vI k, vI v], .at (vU r)] (chS S) (normK 7 (wideK W7 K)) := by
  refine Eq.mp (show ((exW S) ∧
(live S l) ∧
(live S r) ∧
((mkNode S k v l r).size ≤ maxSize) ∧
(0 < S.free) ∧
(∀ S' : Arn, (∀ i : Int, (((S') = (makeS S k v l r)) → (((i) = (nxt S)) → (∃ hs : List Int, ((Wf S' (l :: hs)) ∧ (((S'.us l) = true) → (1 ≤ S'.indeg l)) ∧ (∀ S'1 : Arn, (((S'1) = (relA S' l)) → (∃ hs1 : List Int, ((Wf S'1 (r :: hs1)) ∧ (((S'1.us r) = true) → (1 ≤ S'1.indeg r)) ∧ (∀ S'2 : Arn, (((S'2) = (relA S'1 r)) → (K (SV.one (TV.at (At.val (Value.int IntKind.u32 (i))))) [(Chunk.box [(At.ptr 1 0), (At.slc 2), (At.slc 3), (At.val (Value.int IntKind.u64 (S'2.reads)))]), (Chunk.box [(At.slc 4), (At.slc 5), (At.slc 6), (At.val (Value.int IntKind.u32 (S'2.fresh)))]), (Chunk.row true (EC.node) (S'2.nodes)), (Chunk.row true (EC.int) (S'2.counts)), (Chunk.row true (EC.bool) (S'2.used)), (Chunk.row true (EC.u32) (S'2.gen)), (Chunk.row true (EC.u32) (S'2.rel))] [0, 1, 2, 3, 4, 5, 6])))))))))))))) = _ by kernel_rfl) ?_
  have hz : (mkNode S k v l r).size ≤ maxSize := by rw [mk_size hw h1 h2]; unfold maxSize; omega
  obtain ⟨t1, t2, t3, t4⟩ := node_two (k := k) (v := v) hw h4 hz (by omega)
  refine ⟨⟨_, hw⟩, hw.held l (by simp), hw.held r (by simp), hz, h4, fun S1 i e1 e2 => ?_⟩
  subst e1
  refine ⟨_, t1, t2, fun S2 e3 => ?_⟩
  subst e3
  refine ⟨_, t3, t4, fun S3 e4 => h S3 i ?_⟩
  rw [e4, e2]
  exact node_ok hw h4 hz (by omega) h1 h2
theorem s_nodeW : SoundT C0 106 tNodeW := by
  refine .ofW W7 Try.func106 (by decide) rfl fun args H K h hB => ?_
  unfold tNodeW at h
  split at h <;> try exact h.elim
  unfold arM at h
  split at h <;> try exact h.elim
  rename_i l k v r _ rd fr nd ct us gn rl
  obtain ⟨hs, tl, tr, h1, h2, h3, h4, h5, h6, h7⟩ := h
  exact ⟨aNodeW, ⟨frame C0.ok s_makeOk _, frame C0.ok s_give _, trivial⟩, vc_nodeW ⟨us, gn, rl, fr, nd, ct, rd⟩ l k v r K hs tl tr h1 h2 h3 h4 h5 h6 h7⟩
theorem vc_bld (n : Nat) (S : Arn) (l : List Ent) (K : KT) (hs : List Int) (hw : Wf S hs) (h1 : l.length < n + 1) (h2 : l.length ≤ 100000) (h3 : (l.length : Int) ≤ S.free) (h4 : hs.length + l.length ≤ 800000000) (h : ∀ S' i, BuildR S hs l S' i → K (.one (.at (vU i))) (chS S' ++ [.row false EC.ent l]) W7) :
    vc C0 (aBld n l (BuildR S hs (l.take (l.length / 2)))) Try.f120 [.at (.ptr 0 0), .at (.slc 7)] (chS S ++ [.row false EC.ent l]) (normK 8 (wideK W7 K)) := by
  generalize hP : BuildR S hs (l.take (l.length / 2)) = P
  refine Eq.mp (show (brS ((↑l.length : Int) == 0) ((K (SV.one (TV.at (At.val (Value.int IntKind.u32 0)))) [(Chunk.box [(At.ptr 1 0), (At.slc 2), (At.slc 3), (At.val (Value.int IntKind.u64 (S.reads)))]), (Chunk.box [(At.slc 4), (At.slc 5), (At.slc 6), (At.val (Value.int IntKind.u32 (S.fresh)))]), (Chunk.row true (EC.node) (S.nodes)), (Chunk.row true (EC.int) (S.counts)), (Chunk.row true (EC.bool) (S.used)), (Chunk.row true (EC.u32) (S.gen)), (Chunk.row true (EC.u32) (S.rel)), (Chunk.row false (EC.ent) (l))] [0, 1, 2, 3, 4, 5, 6])) (((((0 : Int) ≤ 0) ∧ (0 ≤ IntKind.i64.wrap ((↑l.length : Int).tdiv 2)) ∧ (IntKind.i64.wrap ((↑l.length : Int).tdiv 2) ≤ (↑l.length : Int)) ∧ (∃ hs : List Int, ((Wf S hs) ∧ ((List.drop (Int.toNat 0) (List.take (IntKind.i64.wrap ((↑l.length : Int).tdiv 2)).toNat l)).length < n) ∧ ((List.drop (Int.toNat 0) (List.take (IntKind.i64.wrap ((↑l.length : Int).tdiv 2)).toNat l)).length ≤ 100000) ∧ ((↑(List.drop (Int.toNat 0) (List.take (IntKind.i64.wrap ((↑l.length : Int).tdiv 2)).toNat l)).length : Int) ≤ S.free) ∧ (hs.length + (List.drop (Int.toNat 0) (List.take (IntKind.i64.wrap ((↑l.length : Int).tdiv 2)).toNat l)).length ≤ 800000000) ∧ (∀ S' : Arn, (∀ i : Int, ((BuildR S hs (List.drop (Int.toNat 0) (List.take (IntKind.i64.wrap ((↑l.length : Int).tdiv 2)).toNat l)) S' i) → (∃ x : XBld P, (True ∧ (True ∧ True ∧ ((Value.int IntKind.i64 (IntKind.i64.wrap ((↑l.length : Int).tdiv 2))) = (Value.int IntKind.i64 (IntKind.i64.wrap ((↑l.length : Int).tdiv 2)))) ∧
    ((Value.int IntKind.u32 (i)) = (Value.int IntKind.u32 (x.i))) ∧ True) ∧ (True ∧ True ∧ True ∧ ((Value.int IntKind.u64 (S'.reads)) = (Value.int IntKind.u64 (x.S.reads))) ∧ True) ∧ (True ∧ True ∧ True ∧ ((Value.int IntKind.u32 (S'.fresh)) = (Value.int IntKind.u32 (x.S.fresh))) ∧ True) ∧ ((S'.nodes) = (x.S.nodes)) ∧ ((S'.counts) = (x.S.counts)) ∧ ((S'.used) = (x.S.used)) ∧ ((S'.gen) = (x.S.gen)) ∧ ((S'.rel) = (x.S.rel)) ∧ ((l) = (l)) ∧ True)))))))) ∧ (∀ x : XBld P, (True → ((0 ≤ IntKind.i64.wrap ((↑l.length : Int).tdiv 2)) ∧ (IntKind.i64.wrap ((↑l.length : Int).tdiv 2) < (↑l.length : Int)) ∧ (0 ≤ IntKind.i64.wrap (IntKind.i64.wrap ((↑l.length : Int).tdiv 2) + 1)) ∧ (IntKind.i64.wrap (IntKind.i64.wrap ((↑l.length : Int).tdiv 2) + 1) ≤ (↑l.length : Int)) ∧ ((↑l.length : Int) ≤ (↑l.length : Int)) ∧ (∃ hs : List Int, ((Wf x.S hs) ∧ ((List.drop (IntKind.i64.wrap (IntKind.i64.wrap ((↑l.length : Int).tdiv 2) + 1)).toNat (List.take (↑l.length : Int).toNat l)).length < n) ∧ ((List.drop (IntKind.i64.wrap (IntKind.i64.wrap ((↑l.length : Int).tdiv 2) + 1)).toNat (List.take (↑l.length : Int).toNat l)).length ≤ 100000) ∧ ((↑(List.drop (IntKind.i64.wrap (IntKind.i64.wrap ((↑l.length : Int).tdiv 2) + 1)).toNat (List.take (↑l.length : Int).toNat l)).length : Int) ≤ x.S.free) ∧ (hs.length + (List.drop (IntKind.i64.wrap (IntKind.i64.wrap ((↑l.length : Int).tdiv 2) + 1)).toNat (List.take (↑l.length : Int).toNat l)).length ≤ 800000000) ∧ (∀ S' : Arn, (∀ i : Int,
    ((BuildR x.S hs (List.drop (IntKind.i64.wrap (IntKind.i64.wrap ((↑l.length : Int).tdiv 2) + 1)).toNat (List.take (↑l.length : Int).toNat l)) S' i) → (∃ hs1 : List Int, (∃ tl : Tr, (∃ tr : Tr, ((Wf S' (x.i :: i :: hs1)) ∧ (Rep S' tl x.i) ∧ (Rep S' tr i) ∧ (tl.size + tr.size ≤ 1000000) ∧ (0 < S'.free) ∧ (hs1.length ≤ 900000000) ∧ (∀ S'1 : Arn, (∀ i1 : Int, ((NodeR S' hs1 (l.getD (IntKind.i64.wrap ((↑l.length : Int).tdiv 2)).toNat (0, 0)).fst (l.getD (IntKind.i64.wrap ((↑l.length : Int).tdiv 2)).toNat (0, 0)).snd tl tr S'1 i1) → (K (SV.one (TV.at (At.val (Value.int IntKind.u32 (i1))))) [(Chunk.box [(At.ptr 1 0), (At.slc 2), (At.slc 3), (At.val (Value.int IntKind.u64 (S'1.reads)))]), (Chunk.box [(At.slc 4), (At.slc 5), (At.slc 6), (At.val (Value.int IntKind.u32 (S'1.fresh)))]), (Chunk.row true (EC.node) (S'1.nodes)), (Chunk.row true (EC.int) (S'1.counts)), (Chunk.row true (EC.bool) (S'1.used)), (Chunk.row true (EC.u32) (S'1.gen)), (Chunk.row true (EC.u32) (S'1.rel)), (Chunk.row false (EC.ent) (l))] [0, 1, 2, 3, 4, 5, 6]))))))))))))))))))) = _ by kernel_rfl) ?_
  subst hP
  refine brS_of (fun c => ?_) fun c => ?_
  · have e : l = [] := List.length_eq_zero_iff.1 (by simpa using c)
    have hr : BuildR S hs l S 0 := by rw [e]; exact ⟨hw.zero_cons (by omega), ⟨.nil, rfl, rfl⟩, Stay.refl _ _, rfl, rfl, rfl⟩
    exact h S 0 hr
  have c : ¬ (l.length : Int) = 0 := by simpa using c
  have hm : IntKind.i64.wrap ((l.length : Int).tdiv 2) = ((l.length / 2 : Nat) : Int) := by rw [Int.tdiv_eq_ediv_of_nonneg (by omega), wrap_id (by omega) (by omega)]; omega
  have hm1 : IntKind.i64.wrap (((l.length / 2 : Nat) : Int) + 1) = ((l.length / 2 + 1 : Nat) : Int) := by rw [wrap_id (by omega) (by omega)]; omega
  rw [hm, hm1]
  have ea : List.drop (Int.toNat 0) (List.take ((l.length / 2 : Nat) : Int).toNat l) = l.take (l.length / 2) := rfl
  have eb : List.drop ((l.length / 2 + 1 : Nat) : Int).toNat (List.take ((l.length : Nat) : Int).toNat l) = l.drop (l.length / 2 + 1) := by
    rw [show ((l.length : Nat) : Int).toNat = l.length by omega, List.take_length]; rfl
  rw [ea, eb]
  have la : (l.take (l.length / 2)).length = l.length / 2 := by simp; omega
  have lb : (l.drop (l.length / 2 + 1)).length = l.length - (l.length / 2 + 1) := by simp
  have hf := hw.free_nonneg
  refine ⟨⟨by decide, by omega, by omega, hs, hw, by omega, by omega, by omega, by omega, fun S1 i r1 => ⟨⟨S1, i, r1⟩, ?_⟩⟩, fun x _ => ?_⟩
  · (repeat' first | exact trivial | exact rfl | refine And.intro ?_ ?_)
  · have r1 := x.h
    have hf1 := r1.wf.free_nonneg
    have n1 := r1.nu
    have c1 : x.S.cap = S.cap := by unfold Arn.cap; rw [r1.len]
    refine ⟨by omega, by omega, by omega, by omega, by omega, x.i :: hs, r1.wf, by omega, by omega, by omega, by simp; omega, fun S2 ir r2 => ?_⟩
    have hf2 := r2.wf.free_nonneg
    have n2 := r2.nu
    have c2 : S2.cap = x.S.cap := by unfold Arn.cap; rw [r2.len]
    have hw2 : Wf S2 (x.i :: ir :: hs) := r2.wf.perm (List.Perm.swap _ _ _)
    obtain ⟨tl, q1, q2⟩ := r1.rep
    obtain ⟨tr, q3, q4⟩ := r2.rep
    have q1' : Rep S2 tl x.i := q1.held r1.wf r2.stay (.inr (by simp))
    have s1 : tl.size = l.length / 2 := by rw [← tl.list_len, q2.list, la]
    have s2 : tr.size = l.length - (l.length / 2 + 1) := by rw [← tr.list_len, q4.list, lb]
    refine ⟨hs, tl, tr, hw2, q1', q3, by omega, by omega, by omega, fun S3 i nr => h S3 i ⟨nr.wf, ⟨_, nr.rep, by omega, rfl, q2, q4⟩, ?_, ?_, ?_, ?_⟩⟩
    · exact (r1.stay.trans (r2.stay.mono (by simp_all))).trans nr.stay
    · rw [nr.len, r2.len, r1.len]
    · rw [nr.rds, r2.rds, r1.rds]
    · rw [nr.nu, n2, n1]; omega
theorem s_bld : ∀ n, SoundT C0 120 (tBld n) := by
  intro n
  induction n with
  | zero =>
    refine .of Try.func120 (by decide) rfl fun args H K h hB => ?_
    exfalso
    unfold tBld at h
    split at h <;> try exact h.elim
    unfold arMr at h
    split at h <;> try exact h.elim
    split at h <;> try exact h.elim
    obtain ⟨_, _, h1, _⟩ := h
    omega
  | succ n ih =>
    refine .ofW W7 Try.func120 (by decide) rfl fun args H K h hB => ?_
    unfold tBld at h
    split at h <;> try exact h.elim
    unfold arMr at h
    split at h <;> try exact h.elim
    split at h <;> try exact h.elim
    rename_i _ rd fr nd ct us gn rl _ l
    obtain ⟨hs, h1, h2, h3, h4, h5, h6⟩ := h
    refine ⟨_, ?_, vc_bld n ⟨us, gn, rl, fr, nd, ct, rd⟩ l K hs h1 h2 h3 h4 h5 h6⟩
    exact ⟨frame C0.ok ih _, frame C0.ok s_nodeW _, trivial⟩
end Go.Proofs.Ytjbkckcjmmmooaa.Sx
end
section
/- Build, Grow, and the example of the chapter on bulk operations. -/
namespace Go.Proofs.Ytjbkckcjmmmooaa.Sx
open Go

/-KEEP Wf exW inU live Arn.cap Arn.free Rep rdS Tr.size BuildR PlantR rangeR newS ascB-/
def tBldA : Tfm C0 := fun args H K => match args with
  | [.at (.ptr 0 0), .at (.slc 7)] => arMr H fun S rest => match rest with
    | [.row false .ent l] => ∃ hs, Wf S hs ∧ l.length ≤ 100000 ∧ (l.length : Int) ≤ S.free ∧ hs.length + l.length ≤ 800000000 ∧ ∀ S' i, BuildR S hs l S' i → K (.one (.at (vU i))) (chS S' ++ [.row false EC.ent l]) W7
    | _ => False
  | _ => False
theorem s_bldA : SoundT C0 120 tBldA := (s_bld 100001).weak fun args H K h => by
  unfold tBldA at h
  unfold tBld
  split at h <;> try exact h.elim
  unfold arMr at h ⊢
  split at h <;> try exact h.elim
  split at h <;> try exact h.elim
  obtain ⟨hs, h1, h2, h3, h4, h5⟩ := h
  exact ⟨hs, h1, by omega, h2, h3, h4, h5⟩
noncomputable def aBuild (S : Arn) (l : List Ent) : Ann C0 := { Γ := [(22, frameT [] tFree), (120, frameT [] tBldA)], inv := fun n => match n with
  | 2 => some { X := XA l, sl := [6], tf := fun x => [vi .i64 x.i], hf := fun _ => chS S ++ [.row false EC.ent l], μ := fun x => l.length - x.i }
  | _ => none }
def tBuild : Tfm C0 := fun args H K => match args with
  | [.at (.ptr 0 0), .at (.slc 7)] => arMr H fun S rest => match rest with
    | [.row false .ent l] => ∃ hs, Wf S hs ∧ l.length ≤ 100000 ∧ hs.length + l.length ≤ 800000000 ∧ (ascB l = false → K (.tup [.at (vU 0), .at (vI 7)]) (chS S ++ [.row false EC.ent l]) W7) ∧
      (ascB l = true → S.free < l.length → K (.tup [.at (vU 0), .at (vI 2)]) (chS S ++ [.row false EC.ent l]) W7) ∧
      (ascB l = true → (l.length : Int) ≤ S.free → ∀ S' i, BuildR S hs l S' i → K (.tup [.at (vU i), .at (vI 0)]) (chS S' ++ [.row false EC.ent l]) W7)
    | _ => False
  | _ => False
abbrev chSk (k : Nat) (S : Arn) : List (Chunk C0) := [.box [.ptr (k + 1) 0, .slc (k + 2), .slc (k + 3), vU64 S.reads], .box [.slc (k + 4), .slc (k + 5), .slc (k + 6), vU S.fresh], .row true EC.node S.nodes, .row true EC.int S.counts, .row true EC.bool S.used, .row true EC.u32 S.gen, .row true EC.u32 S.rel]
noncomputable def aGrow : Ann C0 := { Γ := [(25, frameT [] tNew), (64, frameT [] tPlantA)] }
def tGrow : Tfm C0 := fun args H K => match args, H with
  | [.at (.slc 0), .at (.val (.int .u64 t)), .at (.val (.int .i64 sp))], [.row false .ent l] => 0 ≤ t ∧ 1 ≤ sp ∧ sp ≤ 30000 ∧ l.length ≤ 30000 ∧ ∀ S' i, PlantR (newS ((l.length : Int) + sp).toNat) [] l S' i → K (.tup [.at (.ptr 1 0), .at (vU i), .at (vB true)]) ([.row false EC.ent l] ++ chSk 1 S') []
  | _, _ => False
noncomputable def aAwake15 : Ann C0 := { Γ := [(25, frameT [] tNew), (93, frameT [] tBuild), (49, frameT [] tNode), (62, frameT [] tList)] }
def tAwake15 : Tfm C0 := fun args H K => match args, H with
  | [], [] => K (.one (.at (vB true))) [] []
  | _, _ => False
theorem vc_build (S : Arn) (l : List Ent) (K : KT) (hs : List Int) (hw : Wf S hs) (h1 : l.length ≤ 100000) (h2 : hs.length + l.length ≤ 800000000) (ha : ascB l = false → K (.tup [.at (vU 0), .at (vI 7)]) (chS S ++ [.row false EC.ent l]) W7)
    (hb : ascB l = true → S.free < l.length → K (.tup [.at (vU 0), .at (vI 2)]) (chS S ++ [.row false EC.ent l]) W7) (hc : ascB l = true → (l.length : Int) ≤ S.free → ∀ S' i, BuildR S hs l S' i → K (.tup [.at (vU i), .at (vI 0)]) (chS S' ++ [.row false EC.ent l]) W7) :
    vc C0 (aBuild S l) Try.f93 [.at (.ptr 0 0), .at (.slc 7)] (chS S ++ [.row false EC.ent l]) (normK 8 (wideK W7 K)) := by
  refine Eq.mp (show ((∃ x : XA l, (True ∧ (True ∧ True ∧ ((Value.int IntKind.i64 1) = (Value.int IntKind.i64 ((↑x.i : Int)))) ∧ True) ∧ (True ∧ True ∧ True ∧ ((Value.int IntKind.u64 (S.reads)) = (Value.int IntKind.u64 (S.reads))) ∧ True) ∧ (True ∧ True ∧ True ∧ ((Value.int IntKind.u32 (S.fresh)) = (Value.int IntKind.u32 (S.fresh))) ∧ True) ∧ ((S.nodes) = (S.nodes)) ∧ ((S.counts) = (S.counts)) ∧ ((S.used) = (S.used)) ∧ ((S.gen) = (S.gen)) ∧ ((S.rel) = (S.rel)) ∧ ((l) = (l)) ∧ True)) ∧
(∀ x : XA l, (True → (brS (decide ((↑x.i : Int) < (↑l.length : Int))) (((0 ≤ (↑x.i : Int)) ∧ ((↑x.i : Int) < (↑l.length : Int)) ∧ (0 ≤ IntKind.i64.wrap ((↑x.i : Int) - 1)) ∧ (IntKind.i64.wrap ((↑x.i : Int) - 1) < (↑l.length : Int)) ∧ (brS (decide ((eA l x.i).fst ≤ (l.getD (IntKind.i64.wrap ((↑x.i : Int) - 1)).toNat (0, 0)).fst)) ((K (SV.tup [(TV.at (At.val (Value.int IntKind.u32 0))), (TV.at (At.val (Value.int IntKind.i64 7)))]) [(Chunk.box [(At.ptr 1 0), (At.slc 2), (At.slc 3), (At.val (Value.int IntKind.u64 (S.reads)))]), (Chunk.box [(At.slc 4), (At.slc 5), (At.slc 6), (At.val (Value.int IntKind.u32 (S.fresh)))]), (Chunk.row true (EC.node) (S.nodes)), (Chunk.row true (EC.int) (S.counts)), (Chunk.row true (EC.bool) (S.used)), (Chunk.row true (EC.u32) (S.gen)), (Chunk.row true (EC.u32) (S.rel)), (Chunk.row false (EC.ent) (l))] [0, 1, 2, 3, 4, 5, 6])) ((∃ x' : XA l, (True ∧ ((True ∧ True ∧ ((Value.int IntKind.i64 (IntKind.i64.wrap ((↑x.i : Int) + 1))) = (Value.int IntKind.i64 ((↑x'.i : Int)))) ∧ True) ∧ (True ∧ True ∧
    True ∧ ((Value.int IntKind.u64 (S.reads)) = (Value.int IntKind.u64 (S.reads))) ∧ True) ∧ (True ∧ True ∧ True ∧ ((Value.int IntKind.u32 (S.fresh)) = (Value.int IntKind.u32 (S.fresh))) ∧ True) ∧ ((S.nodes) = (S.nodes)) ∧ ((S.counts) = (S.counts)) ∧ ((S.used) = (S.used)) ∧ ((S.gen) = (S.gen)) ∧ ((S.rel) = (S.rel)) ∧ ((l) = (l)) ∧ True) ∧ (l.length - x'.i < l.length - x.i))))))) (((exW S) ∧ (brS (decide (S.free < (↑l.length : Int))) ((K (SV.tup [(TV.at (At.val (Value.int IntKind.u32 0))), (TV.at (At.val (Value.int IntKind.i64 2)))]) [(Chunk.box [(At.ptr 1 0), (At.slc 2), (At.slc 3), (At.val (Value.int IntKind.u64 (S.reads)))]), (Chunk.box [(At.slc 4), (At.slc 5), (At.slc 6), (At.val (Value.int IntKind.u32 (S.fresh)))]), (Chunk.row true (EC.node) (S.nodes)), (Chunk.row true (EC.int) (S.counts)), (Chunk.row true (EC.bool) (S.used)), (Chunk.row true (EC.u32) (S.gen)), (Chunk.row true (EC.u32) (S.rel)), (Chunk.row false (EC.ent) (l))] [0, 1, 2, 3, 4, 5, 6])) ((∃ hs : List Int, ((Wf S hs) ∧ (l.length ≤ 100000) ∧ ((↑l.length : Int) ≤ S.free) ∧ (hs.length + l.length ≤ 800000000) ∧ (∀ S' : Arn, (∀ i : Int, ((BuildR S hs l S' i) →
    (K (SV.tup [(TV.at (At.val (Value.int IntKind.u32 (i)))), (TV.at (At.val (Value.int IntKind.i64 0)))]) [(Chunk.box [(At.ptr 1 0), (At.slc 2), (At.slc 3), (At.val (Value.int IntKind.u64 (S'.reads)))]), (Chunk.box [(At.slc 4), (At.slc 5), (At.slc 6), (At.val (Value.int IntKind.u32 (S'.fresh)))]), (Chunk.row true (EC.node) (S'.nodes)), (Chunk.row true (EC.int) (S'.counts)), (Chunk.row true (EC.bool) (S'.used)), (Chunk.row true (EC.u32) (S'.gen)), (Chunk.row true (EC.u32) (S'.rel)), (Chunk.row false (EC.ent) (l))] [0, 1, 2, 3, 4, 5, 6])))))))))))))) = _ by kernel_rfl) ?_
  refine ⟨⟨⟨1, by omega, by omega, by simp⟩, ?_⟩, fun x _ => brS_of (fun hi => ?_) fun hi => ?_⟩
  · (repeat' first | exact trivial | exact rfl | refine And.intro ?_ ?_)
  · have hi : x.i < l.length := by have := of_decide_eq_true hi; omega
    have h1' := x.h.1
    have hs' := x.split hi
    have e : ((x.i : Int) - 1).toNat = x.i - 1 := by omega
    rw [wrap_id (x := (x.i : Int) - 1) (by omega) (by omega), e]
    refine ⟨by omega, by omega, by omega, by omega, brS_of (fun hd => ?_) fun hd => ?_⟩
    · refine ha ?_
      rw [Bool.eq_false_iff]
      intro hh
      have := (hs'.1 hh).1
      have hd := of_decide_eq_true hd
      simp [eA] at hd this
      omega
    · refine ⟨⟨x.i + 1, by omega, by omega, ?_⟩, ?_⟩
      · rw [ascB, decide_eq_true_eq] at hs'
        rw [hs', Nat.add_sub_cancel]
        refine ⟨fun h => h.2, fun h => ⟨?_, h⟩⟩
        have hd := of_decide_eq_false hd
        simp [eA] at hd ⊢
        omega
      · (repeat' first | exact trivial | exact rfl | refine And.intro ?_ ?_)
        · rw [wrap_id (by omega) (by omega)]; congr 1
        · show l.length - (x.i + 1) < l.length - x.i
          omega
  · have e := x.fin (by have := of_decide_eq_false hi; omega)
    refine ⟨⟨_, hw⟩, brS_of (fun d => hb e (of_decide_eq_true d)) fun d => ⟨hs, hw, h1, by have := of_decide_eq_false d; omega, h2, fun S' i hr => hc e (by have := of_decide_eq_false d; omega) S' i hr⟩⟩
theorem s_build : SoundT C0 93 tBuild := by
  refine .ofW W7 Try.func93 (by decide) rfl fun args H K h hB => ?_
  unfold tBuild at h
  split at h <;> try exact h.elim
  unfold arMr at h
  split at h <;> try exact h.elim
  split at h <;> try exact h.elim
  rename_i _ rd fr nd ct us gn rl _ l
  obtain ⟨hs, h1, h2, h3, h4, h5, h6⟩ := h
  exact ⟨aBuild ⟨us, gn, rl, fr, nd, ct, rd⟩ l, ⟨frame C0.ok s_free _, frame C0.ok s_bldA _, trivial⟩, vc_build ⟨us, gn, rl, fr, nd, ct, rd⟩ l K hs h1 h2 h3 h4 h5 h6⟩
theorem new_free {c : Nat} (_ : 1 ≤ c) (_ : c ≤ 65536) : (newS c).free = c := by
  unfold Arn.free Arn.cap newS; simp
theorem vc_grow (l : List Ent) (t sp : Int) (K : KT) (h1 : 0 ≤ t) (h2 : 1 ≤ sp) (h3 : sp ≤ 30000) (h4 : l.length ≤ 30000) (h : ∀ S' i, PlantR (newS ((l.length : Int) + sp).toNat) [] l S' i → K (.tup [.at (.ptr 1 0), .at (vU i), .at (vB true)]) ([.row false EC.ent l] ++ chSk 1 S') []) :
    vc C0 aGrow Try.f17 [.at (.slc 0), .at (vU64 t), .at (vI sp)] [.row false EC.ent l] (normK 1 K) := by
  refine Eq.mp (show (((IntKind.i64.wrap ((↑l.length : Int) + sp) < 1 ∨ 65536 < IntKind.i64.wrap ((↑l.length : Int) + sp)) →
(K (SV.tup [(TV.at (At.val (Value.pointer none))), (TV.at (At.val (Value.int IntKind.u32 0))), (TV.at (At.val (Value.bool false)))]) [(Chunk.row false (EC.ent) (l))] [])) ∧
((1 ≤ IntKind.i64.wrap ((↑l.length : Int) + sp)) →
((IntKind.i64.wrap ((↑l.length : Int) + sp) ≤ 65536) →
(∀ S : Arn, (((S) = (newS (IntKind.i64.wrap ((↑l.length : Int) + sp)).toNat)) → (∃ hs : List Int, ((Wf S hs) ∧ (l.length ≤ 100000) ∧ ((↑l.length : Int) ≤ S.free) ∧ (hs.length + l.length ≤ 900000000) ∧ (0 ≤ t) ∧ (∀ S' : Arn, (∀ i : Int, ((PlantR S hs l S' i) → (K (SV.tup [(TV.at (At.ptr 1 0)), (TV.at (At.val (Value.int IntKind.u32 (i)))), (TV.at (At.val (Value.bool true)))]) [(Chunk.row false (EC.ent) (l)), (Chunk.box [(At.ptr 2 0), (At.slc 3), (At.slc 4), (At.val (Value.int IntKind.u64 (S'.reads)))]), (Chunk.box [(At.slc 5), (At.slc 6), (At.slc 7), (At.val (Value.int IntKind.u32 (S'.fresh)))]), (Chunk.row true (EC.node) (S'.nodes)), (Chunk.row true (EC.int) (S'.counts)), (Chunk.row true (EC.bool) (S'.used)), (Chunk.row true (EC.u32) (S'.gen)), (Chunk.row true (EC.u32) (S'.rel))] []))))))))))) = _ by kernel_rfl) ?_
  rw [wrap_id (x := (l.length : Int) + sp) (by omega) (by omega)]
  refine ⟨fun c => by omega, fun _ _ S hS => ?_⟩
  subst hS
  refine ⟨[], Wf.new (by omega) (by omega), by omega, ?_, by simp; omega, h1, h⟩
  rw [new_free (by omega) (by omega)]; omega
theorem s_grow : SoundT C0 17 tGrow := by
  refine .of Try.func17 (by decide) rfl fun args H K h hB => ?_
  unfold tGrow at h
  split at h <;> try exact h.elim
  rename_i t sp l
  obtain ⟨h1, h2, h3, h4, h5⟩ := h
  exact ⟨aGrow, ⟨frame C0.ok s_new _, frame C0.ok s_plantA _, trivial⟩, vc_grow l t sp K h1 h2 h3 h4 h5⟩
theorem range_all {t : Tr} (ha : Asc t.list) (hk : ∀ x ∈ t.list, -9223372036854775808 ≤ x.1 ∧ x.1 ≤ 9223372036854775807) (hs : t.size ≤ 1000000) : (rangeR t (-9223372036854775808) 9223372036854775807 2147483647).1 = t.list := by
  rw [rangeR, if_neg (by omega), lk_spec t _ _ _ ha, betE_all hk, List.take_of_length_le (by rw [t.list_len]; show t.size ≤ 2147483647; omega)]
theorem vc_awake15 (K : KT) (h : K (.one (.at (vB true))) [] []) : vc C0 aAwake15 Try.f57 [] [] (normK 0 K) := by
  refine Eq.mp (show ((((8 : Int) < 1 ∨ (65536 : Int) < 8) →
(K (SV.one (TV.at (At.val (Value.bool false)))) [] [])) ∧
(((1 : Int) ≤ 8) →
(((8 : Int) ≤ 65536) →
(∀ S : Arn, (((S) = (newS (Int.toNat 8))) → (∃ hs : List Int, ((Wf S hs) ∧ (([(1, 0), (2, 0), (3, 0), (4, 0)] : List Ent).length ≤ 100000) ∧ (hs.length + ([(1, 0), (2, 0), (3, 0), (4, 0)] : List Ent).length ≤ 800000000) ∧ ((true = false) → ((inU 0) ∧ (exW S) ∧ (S.reads < 4000000000000000000) ∧ (∀ S' : Arn, (((S') = (rdS S (S.us 0).toNat)) → (K (SV.one (TV.at (At.val (Value.bool false)))) [] []))))) ∧ ((true = true) → ((S.free < (↑([(1, 0), (2, 0), (3, 0), (4, 0)] : List Ent).length : Int)) → ((inU 0) ∧ (exW S) ∧ (S.reads < 4000000000000000000) ∧ (∀ S' : Arn, (((S') = (rdS S (S.us 0).toNat)) → (K (SV.one (TV.at (At.val (Value.bool false)))) [] [])))))) ∧ ((true = true) → (((↑([(1, 0), (2, 0), (3, 0), (4, 0)] : List Ent).length : Int) ≤ S.free) → (∀ S' : Arn, (∀ i : Int, ((BuildR S hs ([(1, 0), (2, 0), (3, 0), (4, 0)] : List Ent) S' i) → ((inU i) ∧ (exW S') ∧ (S'.reads < 4000000000000000000) ∧ (∀ S'1 : Arn, (((S'1) = (rdS S' (S'.us i).toNat)) → (brS (S'.us i) ((brS ((S'.nd i).key == 3) ((brS ((S'.nd i).size == 4) ((∃ hs1 : List Int, (∃ t : Tr, ((Wf S'1 hs1) ∧ (Rep S'1 t i) ∧ (t.size ≤ 1000000) ∧ (S'1.reads + (↑t.size : Int) ≤ 3000000000000000000) ∧ (∀ S'2 : Arn, (∀ out : List Ent, (((S'2) = (rdS S'1 (rangeR t (-9223372036854775808) 9223372036854775807 2147483647).snd)) →
    (((out) = ((rangeR t (-9223372036854775808) 9223372036854775807 2147483647).fst)) → (K (SV.one (TV.at (At.val (Value.bool ((↑out.length : Int) == 4))))) [] []))))))))) ((K (SV.one (TV.at (At.val (Value.bool false)))) [] [])))) ((K (SV.one (TV.at (At.val (Value.bool false)))) [] [])))) ((K (SV.one (TV.at (At.val (Value.bool false)))) [] [])))))))))))))))))) = _ by kernel_rfl) ?_
  refine ⟨fun c => by omega, fun _ _ S hS => ?_⟩
  have hS : S = newS 8 := hS
  have hw : Wf S [] := by rw [hS]; exact Wf.new (by decide) (by decide)
  have hf : S.free = 8 := by rw [hS]; rfl
  refine ⟨[], hw, by decide, by decide, fun c => (by cases c), fun _ c => ?_, fun _ _ S1 i hr => ?_⟩
  · rw [hf] at c; exact absurd c (by decide)
  · obtain ⟨t, r1, r2⟩ := hr.rep
    have hlist := r2.list
    have hsize : t.size = 4 := by rw [← t.list_len, hlist]; rfl
    have hsz := r1.size hr.wf
    have hrd : S1.reads = 0 := by rw [hr.rds, hS]; rfl
    cases t with
    | nil => simp [Tr.size] at hsize
    | node a k v b =>
      have hu := r1.1
      have hk : (S1.nd i).key = 3 := by
        rw [r1.2.1]
        have := r2.2.1
        exact (congrArg Prod.fst this).symm
      refine ⟨inU_of hr.wf (.inr hu), ⟨_, hr.wf⟩, by rw [hrd]; decide, fun S2 e2 => ?_⟩
      rw [hu] at e2 ⊢
      have e2 : S2 = rdS S1 1 := e2
      refine brS_of (fun _ => ?_) fun c => by cases c
      rw [hk]
      refine brS_of (fun _ => ?_) fun c => by simp at c
      rw [hsz, hsize]
      refine brS_of (fun _ => ?_) fun c => by simp at c
      have hw2 : Wf S2 [i] := by rw [e2]; exact hr.wf.rd (by rw [hrd]; decide)
      refine ⟨_, Tr.node a k v b, hw2, by rw [e2]; exact rep_rd r1 1, by omega, by rw [e2, hsize]; show S1.reads + ((1 : Nat) : Int) + 4 ≤ _; rw [hrd]; decide, fun S3 out e3 e4 => ?_⟩
      rw [range_all (by rw [hlist]; decide) (by rw [hlist]; intro x hx; simp at hx; rcases hx with rfl | rfl | rfl | rfl <;> decide) (by omega), hlist] at e4
      have e5 : ((out.length : Int) == 4) = true := by rw [e4]; rfl
      rw [e5]
      exact h
theorem s_awake15 : SoundT C0 57 tAwake15 := by
  refine .of Try.func57 (by decide) rfl fun args H K h hB => ?_
  unfold tAwake15 at h
  split at h <;> try exact h.elim
  exact ⟨aAwake15, ⟨frame C0.ok s_new _, frame C0.ok s_build _, frame C0.ok s_node _, frame C0.ok s_list _, trivial⟩, vc_awake15 K h⟩
end Go.Proofs.Ytjbkckcjmmmooaa.Sx
end
section
/- What the update laws share: Kept, spare, awake, lengths of dumps. -/
namespace Go.Proofs.Ytjbkckcjmmmooaa.Sx
open Go

/-KEEP Wf exW inU live Arn.cap Arn.free Rep rdS Tr.size Tr.list alcD slotsOf orderOf PlantR newS insE flt getE TrR upM Hn-/
/-- Every slot that is allocated in d is so in e, with the same node and generation. -/
def keptD (d e : List SlotT) : Prop := d.length = e.length ∧ ∀ i : Nat, i < d.length → (eS d i).alloc = true → (eS e i).alloc = true ∧ (eS e i).node = (eS d i).node ∧ (eS e i).gen = (eS d i).gen
structure XKp (d : List SlotT) where
  i : Nat
  h : i ≤ d.length
noncomputable def aKp (d e : List SlotT) (fl gl : List Int) : Ann C0 := { Γ := [], inv := fun n => match n with
  | 4 => some { X := XKp d, sl := [5, 2, 3], tf := fun x => [vi .i64 x.i, .one (.at (.ptr 4 0)), .one (.at (.ptr 5 0))], hf := fun _ => [.row false EC.slot d, .row false EC.u32 fl, .row false EC.slot e, .row false EC.u32 gl, .box [.slc 0, .slc 1], .box [.slc 2, .slc 3]], μ := fun x => d.length - x.i }
  | _ => none }
def tKept : Tfm C0 := fun args H K => match args, H with
  | [.agg [.slc 0, .slc 1], .agg [.slc 2, .slc 3]], [.row false .slot d, .row false .u32 fl, .row false .slot e, .row false .u32 gl] => keptD d e ∧ d.length ≤ 1000000 ∧ K (.one (.at (vB true))) [.row false EC.slot d, .row false EC.u32 fl, .row false EC.slot e, .row false EC.u32 gl] []
  | _, _ => False
def tSpare : Tfm C0 := fun args H K => match args, H with
  | [.at (.val (.int .u16 n)), .at (.val (.int .i64 need))], [] => 0 ≤ n ∧ n ≤ 65535 ∧ 0 ≤ need ∧ need ≤ 60000 ∧ ∀ s, 0 ≤ s → s ≤ need + 8 → K (.one (.at (vI s))) [] []
  | _, _ => False
noncomputable def aAw14 : Ann C0 := { Γ := [(25, frameT [] tNew), (21, frameT [] tUpIn), (20, frameT [] tUpDe), (61, frameT [] tSize)] }
def tAw14 : Tfm C0 := fun args H K => match args, H with
  | [], [] => K (.one (.at (vB true))) [] []
  | _, _ => False
theorem plant_free {S : Arn} {hs : List Int} {l : List Ent} {c : Nat} {i : Int} (hp : PlantR (newS c) hs l S i) : S.free = c - l.length := by
  have h1 := hp.wf.free_nonneg.2.2.2
  have h2 : S.cap = c := by unfold Arn.cap; rw [hp.len]; simp [newS]
  have h3 : (newS c).nu = 0 := by simp [Arn.nu, newS, List.countP_replicate]
  have := hp.nu
  omega
end Go.Proofs.Ytjbkckcjmmmooaa.Sx
end
section
/- What the join laws share: awake, spare, tree, pair. -/
namespace Go.Proofs.Ytjbkckcjmmmooaa.Sx
open Go

/-KEEP Wf exW inU live Arn.cap Arn.free Rep rdS retL Tr.size Tr.list Tr.Bal balN jB cB gN TrR Got flt ltK gtK getE Asc Hn ht entO List.head? List.getLast? PlantR newS slotsOf orderOf RepD jnM upM ordB-/
noncomputable def aTree13 : Ann C0 := { Γ := [(30, frameT [] tDump), (32, frameT [] tTr7)] }
def tTree13 : Tfm C0 := fun args H K => match args with
  | [.at (.ptr 0 0), .at (.val (.int .u32 i)), .at (.slc 7)] => arMr H fun S rest => match rest with
    | [.row false .ent l] => (∃ hs t, Wf S hs ∧ Rep S t i ∧ t.list = l ∧ t.Bal ∧ Asc l) ∧ K (.one (.at (vB true))) (chS S ++ [.row false EC.ent l]) []
    | _ => False
  | _ => False
noncomputable def aPair13 : Ann C0 := { Γ := [(15, frameT [] tMod), (25, frameT [] tNew), (64, frameT [] tPlantA)] }
noncomputable def aAw13 : Ann C0 := { Γ := [(17, frameT [] tGrow), (43, frameT [] tJjOk), (42, frameT [] tJsOk), (61, frameT [] tSize)] }
def tAw13 : Tfm C0 := fun args H K => match args, H with
  | [], [] => K (.one (.at (vB true))) [] []
  | _, _ => False
/-- Two trees in a new arena. -/
structure PairR (c : Nat) (lx ly : List Ent) (S : Arn) (x y : Int) : Prop where
  wf : Wf S [x, y]
  rx : ∃ t, Rep S t x ∧ t.list = lx ∧ t.Bal
  ry : ∃ t, Rep S t y ∧ t.list = ly ∧ t.Bal
  rds : S.reads = 0
  free : S.free = c - lx.length - ly.length
abbrev chPr (raw l lx ly : List Ent) (S : Arn) : List (Chunk C0) := [.row false EC.ent raw, .row false EC.ent l, .box [.ptr 5 0, .slc 6, .slc 7, vU64 S.reads], .row false EC.ent lx, .row false EC.ent ly, .box [.slc 8, .slc 9, .slc 10, vU S.fresh], .row true EC.node S.nodes, .row true EC.int S.counts, .row true EC.bool S.used, .row true EC.u32 S.gen, .row true EC.u32 S.rel]
def tPair13 : Tfm C0 := fun args H K => match args, H with
  | [.at (.slc 1), .at (.val (.int .i64 _)), .at (.val (.int .i64 _)), .at (.val (.int .u64 t)), .at (.val (.int .i64 sp))], [.row false .ent raw, .row true .ent l] => l.length ≤ 1000 ∧ 0 ≤ t ∧ 0 ≤ sp ∧ sp ≤ 20000 ∧
    ∀ S x y p q, p ≤ q → q ≤ l.length → PairR (l.length + 1 + sp).toNat (l.take p) (l.drop q) S x y → K (.tup [.at (.ptr 2 0), .at (vU x), .at (vU y), .at (.slc 3), .at (.slc 4), .at (vB true)]) (chPr raw l (l.take p) (l.drop q) S) []
  | _, _ => False
end Go.Proofs.Ytjbkckcjmmmooaa.Sx
end
section
/- The laws that Join undoes Split, and that Split splits. -/
namespace Go.Proofs.Ytjbkckcjmmmooaa.Sx
open Go

/-KEEP Wf exW inU live Arn.cap Arn.free Rep rdS retL Tr.size Tr.list Tr.Bal balN jB cB gN TrR Got flt ltK gtK getE Asc Hn ht entO List.head? List.getLast? PlantR newS slotsOf orderOf RepD jnM upM ordB listE Kept List.Perm-/
structure XJr (P : List Int → Nat → Arn → Prop) where
  S : Arn
  n : Nat
  L : List Int
  h : P L n S
noncomputable def aJu (raw : List Ent) (P : List Int → Nat → Arn → Prop) : Ann C0 := { quiet := [44, 22, 33], Γ := [(34, frameT [] tLst), (17, frameT [] tGrow), (41, frameT [] tAw13), (15, frameT [] tMod), (42, frameT [] tJsOk), (43, frameT [] tJjOk), (44, frameT [] tTree13), (29, frameT [] tRel), (22, frameT [] tFree), (33, frameT [] tCap)], inv := fun n => match n with
  | 13 => some { X := XJr P, sl := [8, 92, 90], tf := fun x => [.one (.at (.ptr 1 0)), vi .i64 x.n, .one (.at (.slc 8))], hf := fun x => [.row false EC.ent raw] ++ chSk 1 x.S ++ [.row true EC.u32 x.L], μ := fun x => 4 - x.n }
  | _ => none }
def tJu : Tfm C0 := fun args H K => match args, H with
  | [.at (.slc 0), .at (.val (.int .u64 t)), .at (.val (.int .i64 _))], [.row false .ent raw] => 0 ≤ t ∧ K (.one (.at (vB true))) [.row false EC.ent raw] []
  | _, _ => False
theorem Hn_ge (n m : Nat) (h : n ≤ m) : Hn n ≤ Hn m := by
  have a := gN_size n
  have b := gN_size m
  have c := gN_mono (v := n + 1) (w := m + 1) (by omega) (by omega)
  omega
theorem Hn_200 {n : Nat} (h : n ≤ 200) : Hn n ≤ 15 := by
  have a := Hn_ge n 200 h
  have : Hn ((200 : Nat) : Int) = 15 := by decide
  omega
def PJr (L : List Int) (n : Nat) (S : Arn) : Prop := L.length = 4 ∧ n ≤ 4 ∧ Wf S (L.drop n)
end Go.Proofs.Ytjbkckcjmmmooaa.Sx
end
section
/- The reference's Head, Rank, Between. -/
namespace Go.Proofs.Ytjbkckcjmmmooaa.Sx
open Go

/-KEEP Wf exW inU live Arn.cap Arn.free Rep rdS Tr.size betE listE-/
structure XHd (n : Nat) (m : Int) where
  i : Nat
  h : i ≤ n ∧ i ≤ m.toNat
noncomputable def aHd (l : List Ent) (m : Int) : Ann C0 := { Γ := [], inv := fun n => match n with
  | 3 => some { X := XHd l.length m, sl := [6, 5], tf := fun x => [vi .i64 x.i, .one (.at (.slc 1))], hf := fun x => [.row false EC.ent l, .row true EC.ent (l.take x.i)], μ := fun x => l.length - x.i }
  | _ => none }
def tHd : Tfm C0 := fun args H K => match args, H with
  | [.at (.slc 0), .at (.val (.int .i64 m))], [.row false .ent l] => l.length ≤ 1000000 ∧ ∀ r : List Ent, r = l.take m.toNat → K (.one (.at (.slc 1))) [.row false EC.ent l, .row true EC.ent r] []
  | _, _ => False
def rkE (l : List Ent) (key : Int) : Nat := (l.filter fun x => decide (x.1 < key)).length
noncomputable def aRk9 (l : List Ent) (key : Int) : Ann C0 := { Γ := [], inv := fun n => match n with
  | 3 => some { X := XIx l.length, sl := [6, 5], tf := fun x => [vi .i64 x.i, vi .i64 (rkE (l.take x.i) key)], hf := fun _ => [.row false EC.ent l], μ := fun x => l.length - x.i }
  | _ => none }
def tRk9 : Tfm C0 := fun args H K => match args, H with
  | [.at (.slc 0), .at (.val (.int .i64 key))], [.row false .ent l] => l.length ≤ 1000000 ∧ ∀ n, n = (rkE l key : Int) → K (.one (.at (vI n))) [.row false EC.ent l] []
  | _, _ => False
structure XBet (l : List Ent) where
  i : Nat
  h : i ≤ l.length
noncomputable def aBet (l : List Ent) (lo hi : Int) : Ann C0 := { Γ := [], inv := fun n => match n with
  | 3 => some { X := XBet l, sl := [8, 7], tf := fun x => [vi .i64 x.i, .one (.at (.slc 1))], hf := fun x => [.row false EC.ent l, .row true EC.ent (betE (l.take x.i) lo hi)], μ := fun x => l.length - x.i }
  | _ => none }
def tBet : Tfm C0 := fun args H K => match args, H with
  | [.at (.slc 0), .at (.val (.int .i64 lo)), .at (.val (.int .i64 hi))], [.row false .ent l] => l.length ≤ 1000000 ∧ ∀ r : List Ent, r = betE l lo hi → K (.one (.at (.slc 1))) [.row false EC.ent l, .row true EC.ent r] []
  | _, _ => False
end Go.Proofs.Ytjbkckcjmmmooaa.Sx
end
