/- A part of the proof. -/
import Derived.Test.YtbonbaccmlomhaaG10
import Derived.Test.YtbonbaccmlomhaaG4
import Derived.Test.YtbonbaccmlomhaaG7
import Derived.Test.YtbonbaccmlomhaaProg
import Derived.Test.YtbonbaccmlomhaaChecked
import Derived.WalkKit
import Derived.ProofKit
import Derived.OpenShut
import Derived.SizedLaws
import Derived.Carry
import Derived.Deep.Slices
import Derived.Lib.SmallJoins
import Derived.Deep.Strs
import Derived.Test.YtbonbaccmlomhaaRows
section
/- The law that Delete deletes. -/
namespace Go.Proofs.Ytbonbaccmlomhaa.Sx
open Go

/-KEEP Wf exW inU live Arn.cap Arn.free Rep rdS retL Tr.size Tr.list slotsOf orderOf PlantR newS insE outE listE getE TrR upM Hn keptD Asc Tr.Bal ht dB RepD List.Perm-/
structure XUe (P : Arn → Int → List Ent → Int → Prop) where
  S : Arn
  i : Int
  l : List Ent
  need : Int
  k : Int
  h : P S i l need
structure UdS where
  S0 : Arn
  S : Arn
  root : Int
  l : List Ent
  need : Int
  k : Int
  v : Int
  is : Bool
  d : List SlotT
  o : List Int
  r : Int
  i : Int
  w : Int
  f : Int
structure XUd (P : UdS → Prop) where
  z : UdS
  h : P z
structure XUw (P : UdS → Int → Prop) where
  z : UdS
  want : Int
  h : P z want
abbrev chUd (raw : List Ent) (z : UdS) : List (Chunk C0) := [.row false EC.ent raw] ++ chSk 1 z.S ++ [.row true EC.ent z.l, .box [.slc 10, .slc 11], .row true EC.slot z.d, .row true EC.u32 z.o]
def tUd : Tfm C0 := fun args H K => match args, H with
  | [.at (.slc 0), .at (.val (.int .u64 t)), .at (.val (.int .i64 _)), .at (.val (.int .i64 at')), .at (.val (.int .u16 f))], [.row false .ent raw] => 0 ≤ t ∧ -9223372036854775808 ≤ at' ∧ at' ≤ 9223372036854775807 ∧ 0 ≤ f ∧ f ≤ 65535 ∧ K (.one (.at (vB true))) [.row false EC.ent raw] []
  | _, _ => False
theorem outE_flt (l : List Ent) (k : Int) : outE l k k = flt (neK k) l := by
  unfold outE flt neK
  congr 1
  funext x
  by_cases h : x.1 = k
  · simp [h]
  · rw [decide_eq_true (show x.1 ≠ k from h)]
    simp; omega
def PUe (S : Arn) (i : Int) (l : List Ent) (need : Int) : Prop := ∃ t, upM S [i] t i ∧ t.list = l ∧ t.size = l.length ∧ l.length ≤ 150 ∧ need = 4 * (Hn (l.length : Int) + 2) ∧ S.reads = 0
/-- What Delete comes to. -/
def PUd (z : UdS) : Prop := ∃ t, upM z.S0 [z.root] t z.root ∧ t.list = z.l ∧ t.size = z.l.length ∧ z.l.length ≤ 150 ∧ z.need = 4 * (Hn (z.l.length : Int) + 2) ∧ z.r = 0 ∧ z.d = slotsOf z.S0 ∧ z.o = orderOf z.S0 ∧ 0 ≤ z.S.reads ∧ z.S.reads ≤ 60 * (Hn ((z.l.length : Int) + 1) + 2) ∧ z.v = (getE z.l z.k).getD 0 ∧ z.is = (getE z.l z.k).isSome ∧
  ((getE z.l z.k = none ∧ z.f = 4 ∧ z.i = 0 ∧ z.w = 0 ∧ ∃ m, z.S = rdS z.S0 m) ∨
   ((getE z.l z.k).isSome = true ∧ z.S0.free < z.need ∧ z.f = 2 ∧ z.i = 0 ∧ z.w = 0 ∧ ∃ m, z.S = rdS z.S0 m) ∨
   ((getE z.l z.k).isSome = true ∧ z.need ≤ z.S0.free ∧ z.f = 0 ∧ z.w = z.v ∧ ∃ (m r : Nat), (m : Int) ≤ z.need ∧ TrR z.S0 [z.root] (flt (neK z.k) z.l) m r z.S z.i))
def PUw (z : UdS) (want : Int) : Prop := PUd z ∧ want = z.f
end Go.Proofs.Ytbonbaccmlomhaa.Sx
end
section
/- update.Increase, and the laws that updates increase, commute and share. -/
namespace Go.Proofs.Ytbonbaccmlomhaa.Sx
open Go

/-KEEP Wf exW inU live Arn.cap Arn.free Rep rdS retL Tr.size Tr.list slotsOf orderOf PlantR newS insE outE listE getE TrR upM Hn keptD Asc Tr.Bal ht dB iB RepD List.Perm flt neK-/
noncomputable def aInc : Ann C0 := { Γ := [(18, frameT [] tGetT), (59, frameT [] tUpIn)] }
def tInc : Tfm C0 := fun args H K => match args with
  | [.at (.ptr 0 0), .at (.val (.int .u32 r)), .at (.val (.int .i64 k)), .at (.val (.int .i64 n))] => arM H fun S => ∃ hs t, upM S hs t r ∧ S.reads ≤ 900000000000000000 ∧ 4 * (Hn (t.size + 1) + 2) ≤ S.free ∧
    ∀ S' j w, w = IntKind.i64.wrap ((getE t.list k).getD 0 + n) → TrR S hs (insE t.list (k, w)) (iB t.size) (5 * iB t.size + 2 * ht t + 1) S' j → K (.tup [.at (vU j), .at (vI w), .at (vI 0)]) (chS S') W7
  | _ => False
structure XUc (P : Arn → Int → List Ent → Prop) where
  S : Arn
  i : Int
  l : List Ent
  k : Int
  h : P S i l
def tUc : Tfm C0 := fun args H K => match args, H with
  | [.at (.slc 0), .at (.val (.int .u64 t)), .at (.val (.int .i64 _)), .at (.val (.int .i64 n)), .at (.val (.int .i64 at'))], [.row false .ent raw] => 0 ≤ t ∧ (-9223372036854775808 ≤ n ∧ n ≤ 9223372036854775807) ∧ (-9223372036854775808 ≤ at' ∧ at' ≤ 9223372036854775807) ∧ (∀ x ∈ raw, -9223372036854775808 ≤ x.2 ∧ x.2 ≤ 9223372036854775807) ∧ K (.one (.at (vB true))) [.row false EC.ent raw] []
  | _, _ => False
/-! ### The law that Increase increases -/
theorem Hn_le {n m : Nat} (h : n ≤ m) : Hn n ≤ Hn m := by
  have a := gN_size n
  have b := gN_size m
  have c := gN_mono (v := n + 1) (w := m + 1) (by omega) (by omega)
  omega
theorem gN_top {w v g : Nat} (h8 : v ≤ w) (hg : g < 80) (hw : (w : Int) < wt (g + 1)) : gN v ≤ g := by
  by_cases c : gN v ≤ g
  · exact c
  · by_cases z : 1 ≤ v
    · have h1 := gN_wt z
      have h2 := wt_mono (show g + 1 ≤ gN v by omega) (gN_rng v)
      omega
    · have : v = 0 := by omega
      subst this
      exact absurd (show gN 0 ≤ g by have : gN 0 = 0 := by decide
                                     omega) c
theorem Hn_104 {n : Nat} (h : n ≤ 112) : Hn n ≤ 13 := by
  have a := gN_size n
  have b := gN_top (w := 113) (v := n + 1) (g := 13) (by omega) (by omega) (by have : wt (13 + 1) = 115 := by decide
                                                                               omega)
  omega
def PUc (S : Arn) (i : Int) (l : List Ent) : Prop := ∃ t, upM S [i] t i ∧ t.list = l ∧ t.size = l.length ∧ l.length ≤ 100 ∧ S.free = 200 ∧ S.reads = 0 ∧ ∀ x ∈ l, -9223372036854775808 ≤ x.2 ∧ x.2 ≤ 9223372036854775807
end Go.Proofs.Ytbonbaccmlomhaa.Sx
end
section
/- What the laws of the diffs say, on lists. No program in sight. -/
namespace Go.Proofs.Ytbonbaccmlomhaa
open Go Sx

/-- A change seen from the other side. -/
def swapC (c : Chg) : Chg := ⟨if c.kind = 1 ∨ c.kind = 2 then 3 - c.kind else c.kind, c.key, c.new, c.old⟩
theorem ok_cases {c : Chg} (h : c.ok) : (c.kind = 1 ∧ c.old = 0) ∨ (c.kind = 2 ∧ c.new = 0) ∨ (c.kind = 3 ∧ c.old ≠ c.new) := by
  have hk := Chg.ok_kind h
  unfold Chg.ok at h
  obtain ⟨k, q, o, n⟩ := c
  simp only [] at hk
  rcases hk with rfl | rfl | rfl
  · simp [Chg.before, Chg.after, mkChg] at h
    exact .inl ⟨rfl, h.symm⟩
  · simp [Chg.before, Chg.after, mkChg] at h
    exact .inr (.inl ⟨rfl, h.symm⟩)
  · simp [Chg.before, Chg.after, mkChg] at h
    exact .inr (.inr ⟨rfl, h⟩)
/-- The changes' keys ascend. -/
theorem btw_up {l m : List Ent} (hl : Asc l) (hm : Asc m) {i j : Nat} (h : i < j) (hj : j < (btw l m).length) : (cA (btw l m) i).key < (cA (btw l m) j).key := by
  have hs := List.pairwise_iff_getElem.1 (btw_srt hl hm) i j (by omega) hj h
  simpa [cA, List.getD_eq_getElem?_getD, List.getElem?_eq_getElem hj, List.getElem?_eq_getElem (show i < (btw l m).length by omega)] using hs
/-- A change shows what both lists have at its key. -/
theorem btw_shows {l m : List Ent} (hl : Asc l) (hm : Asc m) {i : Nat} (hi : i < (btw l m).length) {k : Int} (hk : (cA (btw l m) i).key = k) :
    (cA (btw l m) i).old = (getE l k).getD 0 ∧ (cA (btw l m) i).new = (getE m k).getD 0 ∧ ((cA (btw l m) i).kind = 1 ↔ (getE l k).isSome = false) ∧ ((cA (btw l m) i).kind = 2 ↔ (getE m k).isSome = false) := by
  have hm' := List.mem_of_getElem? (cA_get hi)
  have hf := (btw_srt hl hm).fnd_self hm'
  rw [hk, btw_fnd hl hm] at hf
  have hok := mkChg_ok hf
  have hc := ok_cases hok
  obtain ⟨_, b, a, _, _⟩ := mkChg_some hf
  unfold Chg.before at b
  unfold Chg.after at a
  rw [← b, ← a]
  rcases hc with ⟨e, f⟩ | ⟨e, f⟩ | ⟨e, f⟩ <;> simp [e, f]
/-- How many of the changes have a key. -/
def cntK (c : List Chg) (k : Int) : Nat := c.countP fun x => decide (x.key = k)
theorem cntK_snoc {c : List Chg} {i : Nat} (h : i < c.length) (k : Int) : cntK (c.take (i + 1)) k = cntK (c.take i) k + if (cA c i).key = k then 1 else 0 := by
  unfold cntK
  rw [List.take_add_one, cA_get h, List.countP_append]
  simp [List.countP_cons]
theorem cntK_le (c : List Chg) (k : Int) : cntK c k ≤ c.length := List.countP_le_length
/-- A key has a change if and only if the values differ. -/
theorem cntK_zero {l m : List Ent} (hl : Asc l) (hm : Asc m) (k : Int) : cntK (btw l m) k = 0 ↔ getE l k = getE m k := by
  have hf := btw_fnd hl hm k
  rw [← mkChg_none (k := k), ← hf]
  unfold cntK fnd
  rw [List.countP_eq_zero, List.find?_eq_none]
theorem val_eq {x y : Option Int} : x = y ↔ x.isSome = y.isSome ∧ x.getD 0 = y.getD 0 := by
  cases x <;> cases y <;> simp
end Go.Proofs.Ytbonbaccmlomhaa
end
section
/- law18: branch: a tree and a second one made from it by edits. -/
namespace Go.Proofs.Ytbonbaccmlomhaa.Sx
open Go

/-KEEP Wf Kept exW inU live Arn.cap Arn.free Rep rdS retL Tr.size Tr.list Tr.Bal btw fR Asc Kin PlantR listE newS sameB difE insE outE flt neK getE TrR Got upM Hn iB dB ht min-/
structure XB0 (P : Arn → Int → Prop) where
  S : Arn
  x : Int
  h : P S x
structure XB1 (P : Nat → Arn → Int → Int → List Ent → Prop) where
  i : Nat
  S : Arn
  x : Int
  y : Int
  m : List Ent
  h : P i S x y m
structure XB2 (P : Nat → Arn → Int → Int → Int → List Ent → Prop) where
  i : Nat
  S : Arn
  x : Int
  y : Int
  z : Int
  m : List Ent
  h : P i S x y z m
noncomputable def aBr (P0 : Arn → Int → Prop) (P1 : Nat → Arn → Int → Int → List Ent → Prop) (P2 : Nat → Arn → Int → Int → Int → List Ent → Prop) (raw B : List Ent) (l : List EdtT) : Ann C0 := { trunc := fun n => n = 18, Γ := [(36, frameT [] tLst), (54, frameT [] tGrow), (55, frameT [] (tRes1 4 1)), (56, frameT [] tRetL), (26, frameT [] tMod), (57, frameT [] tUpDe), (58, frameT [] tDel), (59, frameT [] tUpIn), (60, frameT [] tIns), (25, frameT [] tRel)], inv := fun n => match n with
  | 1006 => some { X := XB0 P0, sl := [14, 12, 15], tf := fun x => [.one (.at (.ptr 2 0)), .one (.at (.slc 9)), vi .u32 x.x], hf := fun x => [.row false EC.ent raw, .row false EC.edt l] ++ chSk 2 x.S ++ [.row false EC.ent B] }
  | 9 => some { X := XB1 P1, sl := [14, 12, 15, 17, 18, 19], tf := fun x => [.one (.at (.ptr 2 0)), .one (.at (.slc 9)), vi .u32 x.x, vi .u32 x.y, .one (.at (.slc 10)), vi .i64 x.i], hf := fun x => [.row false EC.ent raw, .row false EC.edt l] ++ chSk 2 x.S ++ [.row false EC.ent B, .row false EC.ent x.m], μ := fun x => min l.length 12 - x.i }
  | 1019 => some { X := XB2 P2, sl := [14, 12, 15, 17, 19, 20, 21, 22], tf := fun x => [.one (.at (.ptr 2 0)), .one (.at (.slc 9)), vi .u32 x.x, vi .u32 x.y, vi .i64 x.i, vi .u32 x.z, vi .i64 0, .one (.at (.slc 10))], hf := fun x => [.row false EC.ent raw, .row false EC.edt l] ++ chSk 2 x.S ++ [.row false EC.ent B, .row true EC.ent x.m], rel := fun T _ x => slotI T 19 x.i }
  | _ => none }
def PB0 (B : List Ent) (n I : Nat) : Arn → Int → Prop := fun S x => Wf S [x] ∧ (∃ t, Rep S t x ∧ t.list = B ∧ t.Bal) ∧ S.reads = 0 ∧ ((1 + (n + 1) * I : Nat) : Int) ≤ S.free
def PB1 (B : List Ent) (n I : Nat) : Nat → Arn → Int → Int → List Ent → Prop := fun i S x y m => i ≤ n ∧ Asc m ∧ Kin m ∧ m.length ≤ B.length + i ∧ Wf S [y, x] ∧ (∃ t, Rep S t x ∧ t.list = B ∧ t.Bal) ∧ (∃ t, Rep S t y ∧ t.list = m ∧ t.Bal) ∧ S.reads ≤ 1000 * i ∧ ((1 + (n + 1 - i) * I : Nat) : Int) ≤ S.free
def PB2 (B : List Ent) (n I : Nat) : Nat → Arn → Int → Int → Int → List Ent → Prop := fun i S x y z m => i < n ∧ Asc m ∧ Kin m ∧ m.length ≤ B.length + i + 1 ∧ Wf S [z, y, x] ∧ (∃ t, Rep S t x ∧ t.list = B ∧ t.Bal) ∧ (∃ t, Rep S t z ∧ t.list = m ∧ t.Bal) ∧ S.reads ≤ 1000 * i + 1000 ∧ ((1 + (n - i) * I : Nat) : Int) ≤ S.free
theorem mulI {n i I : Nat} (h : i ≤ n) : (n + 1 - i) * I = (n - i) * I + I := by rw [show n + 1 - i = (n - i) + 1 by omega, Nat.succ_mul]
theorem kin_ins {l : List Ent} {e : Ent} (ha : Asc l) (h : Kin l) (he : -9223372036854775808 ≤ e.1 ∧ e.1 ≤ 9223372036854775807) : Kin (insE l e) := fun x hx => by
  rcases insE_mem ha hx with rfl | c
  · exact he
  · exact h x c
theorem kin_flt {p : Int → Bool} {l : List Ent} (h : Kin l) : Kin (flt p l) := fun x hx => h x (flt_mem hx)
theorem pb_step {B : List Ent} {n I i : Nat} {S S' : Arn} {x y j : Int} {m L : List Ent} {a r : Nat} (h : PB1 B n I i S x y m) (hi : i < n) (tr : TrR S [y, x] L a r S' j) (ha : a ≤ I) (hr : r ≤ 1000) (asc : Asc L) (kin : Kin L) (hl : L.length ≤ B.length + i + 1) : PB2 B n I i S' x y j L := by
  obtain ⟨_, _, _, _, w, ⟨t, rt, lt, bt⟩, _, rd, fr⟩ := h
  have f := tr.got.free w
  have q := tr.got.rd
  rw [mulI (by omega)] at fr
  exact ⟨hi, asc, kin, hl, tr.got.wf, ⟨t, rt.held w tr.got.stay (.inr (by simp)), lt, bt⟩, tr.tree, by omega, by omega⟩
theorem numsB {t : Tr} (h : t.size ≤ 110) (bal : t.Bal) : 5 * iB t.size + ht t + 1 ≤ 300 ∧ 5 * dB t.size + ht t + 1 ≤ 300 ∧ (iB t.size : Int) = 4 * Hn t.size + 1 ∧ (dB t.size : Int) ≤ 4 * Hn t.size + 4 := by
  have a := iB_Hn t.size
  have b := dB_Hn t.size
  have c := Bal.height bal (by omega)
  have d := Hn_104 (n := t.size) (by omega)
  omega
/-- Two trees, the second one made from the first one by edits. -/
structure BrR (B m : List Ent) (S : Arn) (x y : Int) : Prop where
  wf : Wf S [y, x]
  rx : ∃ t, Rep S t x ∧ t.list = B ∧ t.Bal
  ry : ∃ t, Rep S t y ∧ t.list = m ∧ t.Bal
  ab : Asc B
  am : Asc m
  kb : Kin B
  km : Kin m
  lb : B.length ≤ 90
  lm : m.length ≤ 102
  rds : S.reads ≤ 12000
abbrev chBr (raw : List Ent) (l : List EdtT) (B m : List Ent) (S : Arn) : List (Chunk C0) := [.row false EC.ent raw, .row false EC.edt l, .box [.ptr 5 0, .slc 6, .slc 7, vU64 S.reads], .row false EC.ent B, .row false EC.ent m, .box [.slc 8, .slc 9, .slc 10, vU S.fresh], .row true EC.node S.nodes, .row true EC.int S.counts, .row true EC.bool S.used, .row true EC.u32 S.gen, .row true EC.u32 S.rel]
def KinD (l : List EdtT) : Prop := ∀ e ∈ l, -9223372036854775808 ≤ e.ent.1 ∧ e.ent.1 ≤ 9223372036854775807
def tBr : Tfm C0 := fun args H K => match args, H with
  | [.at (.slc 0), .at (.val (.int .u64 t)), .at (.slc 1)], [.row false .ent raw, .row false .edt l] => 0 ≤ t ∧ Kin raw ∧ KinD l ∧
    ∀ S x y m, BrR (listE raw 90) m S x y → K (.tup [.at (.ptr 2 0), .at (vU x), .at (vU y), .at (.slc 3), .at (.slc 4), .at (vB true)]) (chBr raw l (listE raw 90) m S) []
  | _, _ => False
theorem vc_br (raw : List Ent) (l : List EdtT) (t : Int) (K : KT) (h0 : 0 ≤ t) (hk : Kin raw) (hd : KinD l)
    (h : ∀ S x y m, BrR (listE raw 90) m S x y → K (.tup [.at (.ptr 2 0), .at (vU x), .at (vU y), .at (.slc 3), .at (.slc 4), .at (vB true)]) (chBr raw l (listE raw 90) m S) []) :
    vc C0 (aBr (PB0 (listE raw 90) (min l.length 12) (4 * (Hn (((listE raw 90).length + min l.length 12 + 1 : Nat) : Int) + 2)).toNat) (PB1 (listE raw 90) (min l.length 12) (4 * (Hn (((listE raw 90).length + min l.length 12 + 1 : Nat) : Int) + 2)).toNat) (PB2 (listE raw 90) (min l.length 12) (4 * (Hn (((listE raw 90).length + min l.length 12 + 1 : Nat) : Int) + 2)).toNat) raw (listE raw 90) l) Try.f14 [.at (.slc 0), .at (vU64 t), .at (.slc 1)] [.row false EC.ent raw, .row false EC.edt l] (normK 2 K) := by
  obtain ⟨la, ll⟩ := listE_spec raw 90
  have kB : Kin (listE raw 90) := fun x hx => hk x (listE_sub raw 90 x hx)
  have h13 := Hn_104 (n := (listE raw 90).length + min l.length 12 + 1) (by omega)
  have hr := Hn_rng (((listE raw 90).length + min l.length 12 + 1 : Nat) : Int)
  generalize hI : (4 * (Hn (((listE raw 90).length + min l.length 12 + 1 : Nat) : Int) + 2)).toNat = I
  have hII : (I : Int) = 4 * (Hn (((listE raw 90).length + min l.length 12 + 1 : Nat) : Int) + 2) := by omega
  clear hI
  generalize hP0 : PB0 (listE raw 90) (min l.length 12) I = P0
  generalize hP1 : PB1 (listE raw 90) (min l.length 12) I = P1
  generalize hP2 : PB2 (listE raw 90) (min l.length 12) I = P2
  refine Eq.mp (show (((0 : Int) ≤ 90) ∧
((90 : Int) ≤ 1000000) ∧
(0 ≤ IntKind.i64.wrap ((↑(listE raw (Int.toNat 90)).length : Int) + if 12 < (↑l.length : Int) then 12 else (↑l.length : Int))) ∧
(IntKind.i64.wrap ((↑(listE raw (Int.toNat 90)).length : Int) + if 12 < (↑l.length : Int) then 12 else (↑l.length : Int)) ≤ 65536) ∧
(∀ p : Int, (((p) = (4 * (Hn (IntKind.i64.wrap ((↑(listE raw (Int.toNat 90)).length : Int) + if 12 < (↑l.length : Int) then 12 else (↑l.length : Int)) + 1) + 2))) → ((0 ≤ t) ∧ (1 ≤ IntKind.i64.wrap (1 + IntKind.i64.wrap (IntKind.i64.wrap ((if 12 < (↑l.length : Int) then 12 else (↑l.length : Int)) + 1) * p))) ∧ (IntKind.i64.wrap (1 + IntKind.i64.wrap (IntKind.i64.wrap ((if 12 < (↑l.length : Int) then 12 else (↑l.length : Int)) + 1) * p)) ≤ 30000) ∧ ((listE raw (Int.toNat 90)).length ≤ 30000) ∧ (∀ S' : Arn, (∀ i : Int, ((PlantR (newS ((↑(listE raw (Int.toNat 90)).length : Int) + IntKind.i64.wrap (1 + IntKind.i64.wrap (IntKind.i64.wrap ((if 12 < (↑l.length : Int) then 12 else (↑l.length : Int)) + 1) * p))).toNat) [] (listE raw (Int.toNat 90)) S' i) → ((∃ x : XB0 P0, (True ∧ (True ∧ True ∧ ((Value.int IntKind.i64 (if 12 < (↑l.length : Int) then 12 else (↑l.length : Int))) = (Value.int IntKind.i64 (if 12 < (↑l.length : Int) then 12 else (↑l.length : Int)))) ∧ True ∧ ((Value.int IntKind.u32 (i)) = (Value.int IntKind.u32 (x.x))) ∧ True) ∧ ((raw) = (raw)) ∧ ((l) = (l)) ∧ (True ∧ True ∧ True ∧ ((Value.int IntKind.u64 (S'.reads)) = (Value.int IntKind.u64 (x.S.reads))) ∧ True) ∧ (True ∧
    True ∧ True ∧ ((Value.int IntKind.u32 (S'.fresh)) = (Value.int IntKind.u32 (x.S.fresh))) ∧ True) ∧ ((S'.nodes) = (x.S.nodes)) ∧ ((S'.counts) = (x.S.counts)) ∧ ((S'.used) = (x.S.used)) ∧ ((S'.gen) = (x.S.gen)) ∧ ((S'.rel) = (x.S.rel)) ∧ ((listE raw (Int.toNat 90)) = (listE raw 90)) ∧ True)) ∧ (∀ x : XB0 P0, (True → ((live x.S x.x) ∧ (exW x.S) ∧ (∀ S'1 : Arn, (((S'1) = (retL x.S x.x)) → ((∃ x1 : XB1 P1, (True ∧ (True ∧ True ∧ ((Value.int IntKind.i64 (if 12 < (↑l.length : Int) then 12 else (↑l.length : Int))) = (Value.int IntKind.i64 (if 12 < (↑l.length : Int) then 12 else (↑l.length : Int)))) ∧ True ∧ ((Value.int IntKind.u32 (x.x)) = (Value.int IntKind.u32 (x1.x))) ∧ ((Value.int IntKind.u32 (x.x)) = (Value.int IntKind.u32 (x1.y))) ∧ True ∧ ((Value.int IntKind.i64 0) = (Value.int IntKind.i64 ((↑x1.i : Int)))) ∧ True) ∧ ((raw) = (raw)) ∧ ((l) = (l)) ∧ (True ∧ True ∧ True ∧ ((Value.int IntKind.u64 (S'1.reads)) = (Value.int IntKind.u64 (x1.S.reads))) ∧ True) ∧ (True ∧ True ∧ True ∧ ((Value.int IntKind.u32 (S'1.fresh)) = (Value.int IntKind.u32 (x1.S.fresh))) ∧ True) ∧ ((S'1.nodes) = (x1.S.nodes)) ∧ ((S'1.counts) = (x1.S.counts)) ∧ ((S'1.used) = (x1.S.used)) ∧ ((S'1.gen) = (x1.S.gen)) ∧ ((S'1.rel) = (x1.S.rel)) ∧ ((listE raw 90) = (listE raw 90)) ∧ ((listE raw 90) = (x1.m)) ∧ True)) ∧ (∀ x1 : XB1 P1, (True → (brS (decide ((↑x1.i : Int) < if 12 < (↑l.length : Int) then 12 else (↑l.length : Int))) ((((0 ≤ (↑x1.i : Int)) ∧ ((↑x1.i : Int) < (↑l.length : Int)) ∧
    (brS ((l.getD (↑x1.i : Int).toNat { del := false, at_ := 0, ent := (0, 0) : EdtT }).del) ((brS (decide ((↑x1.m.length : Int) > 0)) (((0 ≤ (↑x1.i : Int)) ∧ ((↑x1.i : Int) < (↑l.length : Int)) ∧ (0 < (↑x1.m.length : Int)) ∧ ((↑x1.m.length : Int) ≤ 9223372036854775807) ∧ (∀ x2 : Int, (((x2) = ((l.getD (↑x1.i : Int).toNat { del := false, at_ := 0, ent := (0, 0) : EdtT }).at_ % (↑x1.m.length : Int))) → ((0 ≤ x2) ∧ (x2 < (↑x1.m.length : Int)) ∧ (∃ hs : List Int, (∃ t1 : Tr, (∃ v : Int, ((upM x1.S hs t1 x1.y) ∧ ((getE t1.list (x1.m.getD x2.toNat (0, 0)).fst) = (some (v))) ∧ (4 * (Hn (↑t1.size : Int) + 2) ≤ x1.S.free) ∧ (∀ S'2 : Arn, (∀ j : Int, ((TrR x1.S hs (flt (neK (x1.m.getD x2.toNat (0, 0)).fst) t1.list) (dB t1.size) (5 * dB t1.size + ht t1 + 1) S'2 j) → ((x1.m.length ≤ 1000000) ∧ (∃ x3 : XB2 P2, ((((↑x1.i : Int)) = ((↑x3.i : Int))) ∧ (True ∧ True ∧ ((Value.int IntKind.i64 (if 12 < (↑l.length : Int) then 12 else (↑l.length : Int))) = (Value.int IntKind.i64 (if 12 < (↑l.length : Int) then 12 else (↑l.length : Int)))) ∧ True ∧ ((Value.int IntKind.u32 (x1.x)) = (Value.int IntKind.u32 (x3.x))) ∧ ((Value.int IntKind.u32 (x1.y)) = (Value.int IntKind.u32 (x3.y))) ∧ ((Value.int IntKind.i64 ((↑x1.i : Int))) = (Value.int IntKind.i64 ((↑x3.i : Int)))) ∧ ((Value.int IntKind.u32 (j)) = (Value.int IntKind.u32 (x3.z))) ∧ ((Value.int IntKind.i64 0) = (Value.int IntKind.i64 0)) ∧ True ∧ True) ∧ ((raw) = (raw)) ∧ ((l) = (l)) ∧ (True ∧ True ∧ True ∧
    ((Value.int IntKind.u64 (S'2.reads)) = (Value.int IntKind.u64 (x3.S.reads))) ∧ True) ∧ (True ∧ True ∧ True ∧ ((Value.int IntKind.u32 (S'2.fresh)) = (Value.int IntKind.u32 (x3.S.fresh))) ∧ True) ∧ ((S'2.nodes) = (x3.S.nodes)) ∧ ((S'2.counts) = (x3.S.counts)) ∧ ((S'2.used) = (x3.S.used)) ∧ ((S'2.gen) = (x3.S.gen)) ∧ ((S'2.rel) = (x3.S.rel)) ∧ ((listE raw 90) = (listE raw 90)) ∧ ((outE x1.m (x1.m.getD x2.toNat (0, 0)).fst (x1.m.getD x2.toNat (0, 0)).fst) = (x3.m)) ∧ True))))))))))))))) (((0 ≤ (↑x1.i : Int)) ∧ ((↑x1.i : Int) < (↑l.length : Int)) ∧ (∃ hs : List Int, (∃ t1 : Tr, ((upM x1.S hs t1 x1.y) ∧ (4 * (Hn ((↑t1.size : Int) + 1) + 2) ≤ x1.S.free) ∧ (∀ S'2 : Arn, (∀ j : Int, (∀ o : Option Int, (((o) = (getE t1.list (l.getD (↑x1.i : Int).toNat { del := false, at_ := 0, ent := (0, 0) : EdtT }).ent.fst)) → ((TrR x1.S hs (insE t1.list (l.getD (↑x1.i : Int).toNat { del := false, at_ := 0, ent := (0, 0) : EdtT }).ent) (iB t1.size) (5 * iB t1.size + ht t1 + 1) S'2 j) → ((0 ≤ (↑x1.i : Int)) ∧ ((↑x1.i : Int) < (↑l.length : Int)) ∧ (x1.m.length ≤ 1000000) ∧ (∃ x2 : XB2 P2, ((((↑x1.i : Int)) = ((↑x2.i : Int))) ∧ (True ∧ True ∧ ((Value.int IntKind.i64 (if 12 < (↑l.length : Int) then 12 else (↑l.length : Int))) = (Value.int IntKind.i64 (if 12 < (↑l.length : Int) then 12 else (↑l.length : Int)))) ∧ True ∧ ((Value.int IntKind.u32 (x1.x)) = (Value.int IntKind.u32 (x2.x))) ∧ ((Value.int IntKind.u32 (x1.y)) = (Value.int IntKind.u32 (x2.y))) ∧
    ((Value.int IntKind.i64 ((↑x1.i : Int))) = (Value.int IntKind.i64 ((↑x2.i : Int)))) ∧ ((Value.int IntKind.u32 (j)) = (Value.int IntKind.u32 (x2.z))) ∧ ((Value.int IntKind.i64 0) = (Value.int IntKind.i64 0)) ∧ True ∧ True) ∧ ((raw) = (raw)) ∧ ((l) = (l)) ∧ (True ∧ True ∧ True ∧ ((Value.int IntKind.u64 (S'2.reads)) = (Value.int IntKind.u64 (x2.S.reads))) ∧ True) ∧ (True ∧ True ∧ True ∧ ((Value.int IntKind.u32 (S'2.fresh)) = (Value.int IntKind.u32 (x2.S.fresh))) ∧ True) ∧ ((S'2.nodes) = (x2.S.nodes)) ∧ ((S'2.counts) = (x2.S.counts)) ∧ ((S'2.used) = (x2.S.used)) ∧ ((S'2.gen) = (x2.S.gen)) ∧ ((S'2.rel) = (x2.S.rel)) ∧ ((listE raw 90) = (listE raw 90)) ∧ ((insE x1.m (l.getD (↑x1.i : Int).toNat { del := false, at_ := 0, ent := (0, 0) : EdtT }).ent) = (x2.m)) ∧ True))))))))))))))) (((0 ≤ (↑x1.i : Int)) ∧ ((↑x1.i : Int) < (↑l.length : Int)) ∧ (∃ hs : List Int, (∃ t1 : Tr, ((upM x1.S hs t1 x1.y) ∧ (4 * (Hn ((↑t1.size : Int) + 1) + 2) ≤ x1.S.free) ∧ (∀ S'2 : Arn, (∀ j : Int, (∀ o : Option Int, (((o) = (getE t1.list (l.getD (↑x1.i : Int).toNat { del := false, at_ := 0, ent := (0, 0) : EdtT }).ent.fst)) → ((TrR x1.S hs (insE t1.list (l.getD (↑x1.i : Int).toNat { del := false, at_ := 0, ent := (0, 0) : EdtT }).ent) (iB t1.size) (5 * iB t1.size + ht t1 + 1) S'2 j) → ((0 ≤ (↑x1.i : Int)) ∧ ((↑x1.i : Int) < (↑l.length : Int)) ∧ (x1.m.length ≤ 1000000) ∧ (∃ x2 : XB2 P2, ((((↑x1.i : Int)) = ((↑x2.i : Int))) ∧ (True ∧ True ∧
    ((Value.int IntKind.i64 (if 12 < (↑l.length : Int) then 12 else (↑l.length : Int))) = (Value.int IntKind.i64 (if 12 < (↑l.length : Int) then 12 else (↑l.length : Int)))) ∧ True ∧ ((Value.int IntKind.u32 (x1.x)) = (Value.int IntKind.u32 (x2.x))) ∧ ((Value.int IntKind.u32 (x1.y)) = (Value.int IntKind.u32 (x2.y))) ∧ ((Value.int IntKind.i64 ((↑x1.i : Int))) = (Value.int IntKind.i64 ((↑x2.i : Int)))) ∧ ((Value.int IntKind.u32 (j)) = (Value.int IntKind.u32 (x2.z))) ∧ ((Value.int IntKind.i64 0) = (Value.int IntKind.i64 0)) ∧ True ∧ True) ∧ ((raw) = (raw)) ∧ ((l) = (l)) ∧ (True ∧ True ∧ True ∧ ((Value.int IntKind.u64 (S'2.reads)) = (Value.int IntKind.u64 (x2.S.reads))) ∧ True) ∧ (True ∧ True ∧ True ∧ ((Value.int IntKind.u32 (S'2.fresh)) = (Value.int IntKind.u32 (x2.S.fresh))) ∧ True) ∧ ((S'2.nodes) = (x2.S.nodes)) ∧ ((S'2.counts) = (x2.S.counts)) ∧ ((S'2.used) = (x2.S.used)) ∧ ((S'2.gen) = (x2.S.gen)) ∧ ((S'2.rel) = (x2.S.rel)) ∧ ((listE raw 90) = (listE raw 90)) ∧ ((insE x1.m (l.getD (↑x1.i : Int).toNat { del := false, at_ := 0, ent := (0, 0) : EdtT }).ent) = (x2.m)) ∧ True))))))))))))))) ∧ (∀ x2 : XB2 P2, ((((↑x1.i : Int)) = ((↑x2.i : Int))) → (∃ hs : List Int, ((Wf x2.S (x2.y :: hs)) ∧ (∀ S'2 : Arn, (∀ fr : Int, ((Wf S'2 hs) → ((Kept x2.S S'2) → (∃ x' : XB1 P1, (True ∧ ((True ∧ True ∧ ((Value.int IntKind.i64 (if 12 < (↑l.length : Int) then 12 else (↑l.length : Int))) = (Value.int IntKind.i64 (if 12 < (↑l.length : Int) then 12 else (↑l.length : Int)))) ∧ True ∧
    ((Value.int IntKind.u32 (x2.x)) = (Value.int IntKind.u32 (x'.x))) ∧ ((Value.int IntKind.u32 (x2.z)) = (Value.int IntKind.u32 (x'.y))) ∧ True ∧ ((Value.int IntKind.i64 (IntKind.i64.wrap ((↑x2.i : Int) + 1))) = (Value.int IntKind.i64 ((↑x'.i : Int)))) ∧ True) ∧ ((raw) = (raw)) ∧ ((l) = (l)) ∧ (True ∧ True ∧ True ∧ ((Value.int IntKind.u64 (S'2.reads)) = (Value.int IntKind.u64 (x'.S.reads))) ∧ True) ∧ (True ∧ True ∧ True ∧ ((Value.int IntKind.u32 (S'2.fresh)) = (Value.int IntKind.u32 (x'.S.fresh))) ∧ True) ∧ ((S'2.nodes) = (x'.S.nodes)) ∧ ((S'2.counts) = (x'.S.counts)) ∧ ((S'2.used) = (x'.S.used)) ∧ ((S'2.gen) = (x'.S.gen)) ∧ ((S'2.rel) = (x'.S.rel)) ∧ ((listE raw 90) = (listE raw 90)) ∧ ((x2.m) = (x'.m)) ∧ True) ∧ (min l.length 12 - x'.i < min l.length 12 - x1.i)))))))))))))
    ((K (SV.tup [(TV.at (At.ptr 2 0)), (TV.at (At.val (Value.int IntKind.u32 (x1.x)))), (TV.at (At.val (Value.int IntKind.u32 (x1.y)))), (TV.at (At.slc 3)), (TV.at (At.slc 4)), (TV.at (At.val (Value.bool true)))]) [(Chunk.row false (EC.ent) (raw)), (Chunk.row false (EC.edt) (l)), (Chunk.box [(At.ptr 5 0), (At.slc 6), (At.slc 7), (At.val (Value.int IntKind.u64 (x1.S.reads)))]), (Chunk.row false (EC.ent) (listE raw 90)), (Chunk.row false (EC.ent) (x1.m)), (Chunk.box [(At.slc 8), (At.slc 9), (At.slc 10), (At.val (Value.int IntKind.u32 (x1.S.fresh)))]), (Chunk.row true (EC.node) (x1.S.nodes)), (Chunk.row true (EC.int) (x1.S.counts)), (Chunk.row true (EC.bool) (x1.S.used)), (Chunk.row true (EC.u32) (x1.S.gen)), (Chunk.row true (EC.u32) (x1.S.rel))] []))))))))))))))))))) = _ by kernel_rfl) ?_
  subst hP0 hP1 hP2
  have e90 : Int.toNat 90 = 90 := rfl
  rw [e90]
  generalize listE raw 90 = B at *
  have hn : (if 12 < (l.length : Int) then 12 else (l.length : Int)) = ((min l.length 12 : Nat) : Int) := by split <;> omega
  rw [hn]
  have hnl : min l.length 12 ≤ l.length := Nat.min_le_left _ _
  have hn12 : min l.length 12 ≤ 12 := Nat.min_le_right _ _
  generalize min l.length 12 = n at *
  rw [wrap_id (x := (B.length : Int) + (n : Int)) (by omega) (by omega)]
  refine ⟨by decide, by decide, by omega, by omega, fun p ep => ?_⟩
  have ep : p = (I : Int) := by rw [ep, hII, show (((B.length + n + 1 : Nat)) : Int) = (B.length : Int) + n + 1 by omega]
  subst ep
  have hmul : ((n : Int) + 1) * (I : Int) = (((n + 1) * I : Nat) : Int) := by simp
  have hm : (n + 1) * I ≤ 13 * 60 := Nat.mul_le_mul (by omega) (by omega)
  rw [wrap_id (x := (n : Int) + 1) (by omega) (by omega), hmul, wrap_id (x := (((n + 1) * I : Nat) : Int)) (by omega) (by omega), wrap_id (x := 1 + (((n + 1) * I : Nat) : Int)) (by omega) (by omega)]
  refine ⟨h0, by omega, by omega, by omega, fun S1 x hp => ?_⟩
  obtain ⟨t1, up, lt, zt⟩ := plant_up hp la (by omega)
  have rd0 : S1.reads = 0 := by rw [hp.rds]; rfl
  have fr := plant_free hp
  refine ⟨⟨⟨S1, x, up.1, ⟨t1, up.2.1, lt, up.2.2.1⟩, rd0, by omega⟩, ?_⟩, fun x0 _ => ?_⟩
  · (repeat' first | exact trivial | exact rfl | refine And.intro ?_ ?_)
  clear hp fr up lt zt rd0 t1 S1 x
  obtain ⟨S, x, w, ⟨t1, rp, lt, bal⟩, rd, fr⟩ := x0
  dsimp only
  refine ⟨rp.us, ⟨_, w⟩, fun S2 e2 => ⟨⟨⟨0, S2, x, x, B, ?_⟩, ?_⟩, fun x1 _ => ?_⟩⟩
  · subst e2
    have g : Got S [x] 0 0 (retL S x) [x, x] := retL_got w rp.us (by simp)
    have f := g.free w
    have q := g.rd
    exact ⟨Nat.zero_le _, la, kB, by omega, g.wf, ⟨t1, rp.retL, lt, bal⟩, ⟨t1, rp.retL, lt, bal⟩, by omega, by rw [Nat.sub_zero]; omega⟩
  · (repeat' first | exact trivial | exact rfl | refine And.intro ?_ ?_)
  clear e2 S2 fr rd bal lt rp w t1 S x
  obtain ⟨i, S, x, y, m, hm1⟩ := x1
  dsimp only
  obtain ⟨hin, am, km, lm, w, ⟨tx, rx, lx, bx⟩, ⟨ty, ry, ly, bY⟩, rd, fr⟩ := id hm1
  have zy : ty.size = m.length := by rw [← ty.list_len, ly]
  refine brS_of (fun c => ⟨?_, fun x2 q => ?_⟩) fun c => ?_
  · have c : i < n := by have := of_decide_eq_true c; omega
    have hI1 : I ≤ (n + 1 - i) * I := by rw [mulI hin]; omega
    have nb := numsB (t := ty) (by omega) bY
    have h1 := Hn_le (n := ty.size) (m := B.length + n + 1) (by omega)
    have h2 := Hn_le (n := ty.size + 1) (m := B.length + n + 1) (by omega)
    have up : upM S [y, x] ty y := ⟨w, ry, bY, by rw [ly]; exact am, by omega, by simp, by omega⟩
    have hit : (i : Int).toNat = i := rfl
    rw [hit]
    have hmem : l.getD i { del := false, at_ := 0, ent := (0, 0) } ∈ l := by
      rw [List.getD_eq_getElem?_getD, List.getElem?_eq_getElem (by omega)]; exact List.getElem_mem _
    have hen := hd _ hmem
    generalize l.getD i { del := false, at_ := 0, ent := (0, 0) } = ed at *
    have il := insE_len m ed.ent
    refine ⟨by omega, by omega, brS_of (fun d => brS_of (fun g => ?_) fun g => ?_) fun d => ?_⟩
    · have g : 0 < m.length := by have := of_decide_eq_true g; omega
      refine ⟨by omega, by omega, by omega, by omega, fun z ez => ?_⟩
      obtain ⟨z0, z1⟩ := mod_rng (by omega) ez
      have hz : m.getD z.toNat (0, 0) ∈ m := by
        rw [List.getD_eq_getElem?_getD, List.getElem?_eq_getElem (by omega)]; exact List.getElem_mem _
      have fl := flt_len (p := neK (m.getD z.toNat (0, 0)).fst) (l := m)
      refine ⟨z0, z1, [y, x], ty, (m.getD z.toNat (0, 0)).snd, up, by rw [ly, getE_fnd, am.fnd_self hz]; rfl, by omega, fun S2 j tr => ⟨by omega, ⟨i, S2, x, y, j, outE m (m.getD z.toNat (0, 0)).fst (m.getD z.toNat (0, 0)).fst, ?_⟩, ?_⟩⟩
      · rw [ly] at tr
        rw [outE_flt]
        exact pb_step hm1 c tr (by omega) (by omega) (flt_asc am) (kin_flt km) (by omega)
      · (repeat' first | exact trivial | exact rfl | refine And.intro ?_ ?_)
    all_goals
      refine ⟨by omega, by omega, [y, x], ty, up, by rw [show ((ty.size : Int) + 1) = ((ty.size + 1 : Nat) : Int) by omega]; omega, fun S2 j o eo tr => ⟨by omega, by omega, by omega, ⟨i, S2, x, y, j, insE m ed.ent, ?_⟩, ?_⟩⟩
      · rw [ly] at tr
        exact pb_step hm1 c tr (by omega) (by omega) (insE_asc _ am) (kin_ins am km hen) (by omega)
      · (repeat' first | exact trivial | exact rfl | refine And.intro ?_ ?_)
  · have c : i < n := by have := of_decide_eq_true c; omega
    obtain ⟨i2, S, x2, y2, z, m2, hi2, am, km, lm, w, ⟨tx, rx, lx, bx⟩, ⟨tz, rz, lz, bz⟩, rd, fr⟩ := x2
    have q : (i : Int) = i2 := q
    obtain rfl : i = i2 := by omega
    dsimp only
    have w' : Wf S [y2, z, x2] := w.perm (List.Perm.swap _ _ _)
    refine ⟨[z, x2], w', fun S3 _ w3 kp => ⟨⟨i + 1, S3, x2, z, m2, ?_⟩, trivial, ?_, by show n - (i + 1) < n - i; omega⟩⟩
    · have g := rel_got w' w3 kp
      have f := g.free w'
      have q := g.rd
      exact ⟨c, am, km, by omega, w3, ⟨tx, rx.held w' g.stay (.inr (by simp)), lx, bx⟩, ⟨tz, rz.held w' g.stay (.inr (by simp)), lz, bz⟩, by omega, by rw [show n + 1 - (i + 1) = n - i by omega]; omega⟩
    · (repeat' first | exact trivial | exact rfl | refine And.intro ?_ ?_)
      exact congrArg (Value.int .i64) (show IntKind.i64.wrap ((i : Int) + 1) = ((i + 1 : Nat) : Int) by rw [wrap_id (by omega) (by omega)]; omega)
  · exact h S x y m ⟨w, ⟨tx, rx, lx, bx⟩, ⟨ty, ry, ly, bY⟩, la, am, kB, km, ll, by omega, by omega⟩
theorem s_br : SoundT C0 14 tBr := by
  refine .of Try.func14 (by decide) rfl fun args H K h hB => ?_
  unfold tBr at h
  split at h <;> try exact h.elim
  rename_i t raw l
  refine ⟨_, ?_, vc_br raw l t K h.1 h.2.1 h.2.2.1 h.2.2.2⟩
  exact ⟨frame C0.ok s_lst _, frame C0.ok s_grow _, frame C0.ok s_nIns _, frame C0.ok s_retL _, frame C0.ok s_mod _, frame C0.ok s_upDe _, frame C0.ok s_del _, frame C0.ok s_upIn _, frame C0.ok s_ins _, frame C0.ok s_rel _, trivial⟩
end Go.Proofs.Ytbonbaccmlomhaa.Sx
end
section
/- The law DiffIsExact. -/
namespace Go.Proofs.Ytbonbaccmlomhaa.Sx
open Go

/-KEEP Wf Kept exW inU live Arn.cap Arn.free Rep rdS retL Tr.size Tr.list Tr.Bal btw fR Asc Kin KinD PlantR listE newS sameB difE insE outE flt neK getE TrR Got upM Hn iB dB ht min BrR swapC slotsOf orderOf keys3 cntK-/
structure XE1 (P : Nat → Arn → Int → Int → List Chg → List Int → Prop) where
  i : Nat
  S : Arn
  x : Int
  y : Int
  c : List Chg
  ks : List Int
  h : P i S x y c ks
structure XE2 (P : Nat → Arn → Int → Int → List Chg → List Int → Option Int → Option Int → Nat → Nat → Prop) where
  i : Nat
  S : Arn
  x : Int
  y : Int
  c : List Chg
  ks : List Int
  v : Option Int
  w : Option Int
  n : Nat
  k : Nat
  h : P i S x y c ks v w n k
noncomputable def aEx (P1 P2 : Nat → Arn → Int → Int → List Chg → List Int → Prop) (P3 : Nat → Arn → Int → Int → List Chg → List Int → Option Int → Option Int → Nat → Nat → Prop) (raw : List Ent) (l : List EdtT) : Ann C0 := { Γ := [(14, tBr), (15, frameT [] tAwake18), (16, frameT [] tDiff), (17, frameT [] tKeys), (18, frameT [] tGetT)], inv := fun n => match n with
  | 7 => some { X := XE1 P1, sl := [9, 10, 11, 15, 16, 17], tf := fun x => [.one (.at (.ptr 2 0)), vi .u32 x.x, vi .u32 x.y, .one (.at (.slc 9)), .one (.at (.slc 10)), vi .i64 x.i], hf := fun x => [.row false EC.ent raw, .row false EC.edt l] ++ chSk 2 x.S ++ [.row true EC.chg x.c, .row true EC.i64 x.ks], μ := fun x => x.c.length - x.i }
  | 12 => some { X := XE1 P2, sl := [9, 10, 11, 15, 16, 18], tf := fun x => [.one (.at (.ptr 2 0)), vi .u32 x.x, vi .u32 x.y, .one (.at (.slc 9)), .one (.at (.slc 10)), vi .i64 x.i], hf := fun x => [.row false EC.ent raw, .row false EC.edt l] ++ chSk 2 x.S ++ [.row true EC.chg x.c, .row true EC.i64 x.ks], μ := fun x => 1001 - x.i }
  | 18 => some { X := XE2 P3, sl := [9, 10, 11, 15, 16, 18, 19, 20, 21, 22, 23, 24], tf := fun x => [.one (.at (.ptr 2 0)), vi .u32 x.x, vi .u32 x.y, .one (.at (.slc 9)), .one (.at (.slc 10)), vi .i64 x.i, vi .i64 (x.v.getD 0), vb x.v.isSome, vi .i64 (x.w.getD 0), vb x.w.isSome, vi .i64 x.n, vi .i64 x.k], hf := fun x => [.row false EC.ent raw, .row false EC.edt l] ++ chSk 2 x.S ++ [.row true EC.chg x.c, .row true EC.i64 x.ks], rel := fun T _ x => slotI T 18 x.i, μ := fun x => x.c.length - x.k }
  | _ => none }
def TEx (B m : List Ent) (S : Arn) (x y : Int) (c : List Chg) (ks : List Int) (r : Int) : Prop := ∃ tx ty, Wf S [y, x] ∧ Rep S tx x ∧ tx.list = B ∧ Rep S ty y ∧ ty.list = m ∧ Asc B ∧ Asc m ∧ c = btw B m ∧ c.length ≤ 1000 ∧ ks.length ≤ 1000 ∧ tx.size ≤ 200 ∧ ty.size ≤ 200 ∧ S.reads ≤ r
def PE1 (B : List Ent) : Nat → Arn → Int → Int → List Chg → List Int → Prop := fun i S x y c ks => 1 ≤ i ∧ ∃ m, TEx B m S x y c ks 100000
def PE2 (B : List Ent) : Nat → Arn → Int → Int → List Chg → List Int → Prop := fun i S x y c ks => i ≤ ks.length ∧ ∃ m, TEx B m S x y c ks (100000 + 400 * i)
def PE3 (B : List Ent) : Nat → Arn → Int → Int → List Chg → List Int → Option Int → Option Int → Nat → Nat → Prop := fun i S x y c ks v w n k => i < ks.length ∧ k ≤ c.length ∧ ∃ m, TEx B m S x y c ks (100000 + 400 * i + 400) ∧ v = getE B (ks.getD i 0) ∧ w = getE m (ks.getD i 0) ∧ n = cntK (c.take k) (ks.getD i 0)
def tEx : Tfm C0 := fun args H K => match args, H with
  | [.at (.slc 0), .at (.val (.int .u64 t)), .at (.slc 1), .at (.val (.int .i64 _))], [.row false .ent raw, .row false .edt l] => 0 ≤ t ∧ Kin raw ∧ KinD l ∧ K (.one (.at (vB true))) [.row false EC.ent raw, .row false EC.edt l] []
  | _, _ => False
theorem TEx.mono {B m : List Ent} {S : Arn} {x y : Int} {c : List Chg} {ks : List Int} {r r' : Int} (h : TEx B m S x y c ks r) (hr : r ≤ r') : TEx B m S x y c ks r' := by
  obtain ⟨tx, ty, a1, a2, a3, a4, a5, a6, a7, a8, a9, b1, b2, b3, b4⟩ := h
  exact ⟨tx, ty, a1, a2, a3, a4, a5, a6, a7, a8, a9, b1, b2, b3, Int.le_trans b4 hr⟩
theorem vc_ex (raw : List Ent) (l : List EdtT) (t key : Int) (K : KT) (h0 : 0 ≤ t) (hk : Kin raw) (hd : KinD l) (h : K (.one (.at (vB true))) [.row false EC.ent raw, .row false EC.edt l] []) :
    vc C0 (aEx (PE1 (listE raw 90)) (PE2 (listE raw 90)) (PE3 (listE raw 90)) raw l) Try.f3 [.at (.slc 0), .at (vU64 t), .at (.slc 1), .at (vI key)] [.row false EC.ent raw, .row false EC.edt l] (normK 2 K) := by
  generalize hP1 : PE1 (listE raw 90) = P1
  generalize hP2 : PE2 (listE raw 90) = P2
  generalize hP3 : PE3 (listE raw 90) = P3
  refine Eq.mp (show ((0 ≤ t) ∧
(Kin raw) ∧
(KinD l) ∧
(∀ S : Arn, (∀ x : Int, (∀ y : Int, (∀ m : List Ent, ((BrR (listE raw 90) m S x y) → (∃ hs : List Int, (∃ t1 : Tr, (∃ t2 : Tr, ((Wf S hs) ∧ (Rep S t1 x) ∧ (Rep S t2 y) ∧ (t1.size + t2.size ≤ 300000) ∧ (S.reads + (2 + 6 * ((↑t1.size : Int) + (↑t2.size : Int))) ≤ 3000000000000000000) ∧ (Asc t1.list) ∧ (Asc t2.list) ∧ (Kin t1.list) ∧ (Kin t2.list) ∧ (∀ s' : List Chg, (∀ S' : Arn, (∀ m1 : Nat, (((s') = (btw t1.list t2.list)) → (((S') = (rdS S m1)) → ((m1 ≤ 2 + 6 * (t1.size + t2.size)) → ((((x) = (y)) → ((m1) = 0)) → (((listE raw 90).length + m.length + ([] : List Ent).length ≤ 1000000) ∧ (((keys3 (listE raw 90) m []).length + [key].length) * bytesOf C0 EC.i64 ≤ 140737488355328) ∧ (∃ x1 : XE1 P1, (True ∧ (True ∧ ((Value.int IntKind.u32 (x)) = (Value.int IntKind.u32 (x1.x))) ∧ ((Value.int IntKind.u32 (y)) = (Value.int IntKind.u32 (x1.y))) ∧ True ∧ True ∧ ((Value.int IntKind.i64 1) = (Value.int IntKind.i64 ((↑x1.i : Int)))) ∧ True) ∧ ((raw) = (raw)) ∧ ((l) = (l)) ∧ (True ∧ True ∧ True ∧ ((Value.int IntKind.u64 (S'.reads)) = (Value.int IntKind.u64 (x1.S.reads))) ∧ True) ∧ (True ∧ True ∧ True ∧ ((Value.int IntKind.u32 (S'.fresh)) = (Value.int IntKind.u32 (x1.S.fresh))) ∧ True) ∧ ((S'.nodes) = (x1.S.nodes)) ∧ ((S'.counts) = (x1.S.counts)) ∧ ((S'.used) = (x1.S.used)) ∧ ((S'.gen) = (x1.S.gen)) ∧ ((S'.rel) = (x1.S.rel)) ∧ ((s') = (x1.c)) ∧ ((keys3 (listE raw 90) m [] ++ [key]) = (x1.ks)) ∧ True)) ∧ (∀ x1 : XE1 P1, (True →
    (brS (decide ((↑x1.i : Int) < (↑x1.c.length : Int))) (((0 ≤ (↑x1.i : Int)) ∧ ((↑x1.i : Int) < (↑x1.c.length : Int)) ∧ (0 ≤ IntKind.i64.wrap ((↑x1.i : Int) - 1)) ∧ (IntKind.i64.wrap ((↑x1.i : Int) - 1) < (↑x1.c.length : Int)) ∧ (brS (decide ((cA x1.c x1.i).key ≤ (x1.c.getD (IntKind.i64.wrap ((↑x1.i : Int) - 1)).toNat { kind := 0, key := 0, old := 0, new := 0 : Chg }).key)) ((K (SV.one (TV.at (At.val (Value.bool false)))) [(Chunk.row false (EC.ent) (raw)), (Chunk.row false (EC.edt) (l))] [])) ((∃ x' : XE1 P1, (True ∧ ((True ∧ ((Value.int IntKind.u32 (x1.x)) = (Value.int IntKind.u32 (x'.x))) ∧ ((Value.int IntKind.u32 (x1.y)) = (Value.int IntKind.u32 (x'.y))) ∧ True ∧ True ∧ ((Value.int IntKind.i64 (IntKind.i64.wrap ((↑x1.i : Int) + 1))) = (Value.int IntKind.i64 ((↑x'.i : Int)))) ∧ True) ∧ ((raw) = (raw)) ∧ ((l) = (l)) ∧ (True ∧ True ∧ True ∧ ((Value.int IntKind.u64 (x1.S.reads)) = (Value.int IntKind.u64 (x'.S.reads))) ∧ True) ∧ (True ∧ True ∧ True ∧ ((Value.int IntKind.u32 (x1.S.fresh)) = (Value.int IntKind.u32 (x'.S.fresh))) ∧ True) ∧ ((x1.S.nodes) = (x'.S.nodes)) ∧ ((x1.S.counts) = (x'.S.counts)) ∧ ((x1.S.used) = (x'.S.used)) ∧ ((x1.S.gen) = (x'.S.gen)) ∧ ((x1.S.rel) = (x'.S.rel)) ∧ ((x1.c) = (x'.c)) ∧ ((x1.ks) = (x'.ks)) ∧ True) ∧ (x'.c.length - x'.i < x1.c.length - x1.i))))))) (((∃ x2 : XE1 P2, (True ∧ (True ∧ ((Value.int IntKind.u32 (x1.x)) = (Value.int IntKind.u32 (x2.x))) ∧ ((Value.int IntKind.u32 (x1.y)) = (Value.int IntKind.u32 (x2.y))) ∧ True ∧ True ∧
    ((Value.int IntKind.i64 0) = (Value.int IntKind.i64 ((↑x2.i : Int)))) ∧ True) ∧ ((raw) = (raw)) ∧ ((l) = (l)) ∧ (True ∧ True ∧ True ∧ ((Value.int IntKind.u64 (x1.S.reads)) = (Value.int IntKind.u64 (x2.S.reads))) ∧ True) ∧ (True ∧ True ∧ True ∧ ((Value.int IntKind.u32 (x1.S.fresh)) = (Value.int IntKind.u32 (x2.S.fresh))) ∧ True) ∧ ((x1.S.nodes) = (x2.S.nodes)) ∧ ((x1.S.counts) = (x2.S.counts)) ∧ ((x1.S.used) = (x2.S.used)) ∧ ((x1.S.gen) = (x2.S.gen)) ∧ ((x1.S.rel) = (x2.S.rel)) ∧ ((x1.c) = (x2.c)) ∧ ((x1.ks) = (x2.ks)) ∧ True)) ∧ (∀ x2 : XE1 P2, (True → (brS (decide ((↑x2.i : Int) < (↑x2.ks.length : Int))) (((0 ≤ (↑x2.i : Int)) ∧ ((↑x2.i : Int) < (↑x2.ks.length : Int)) ∧ (∃ hs1 : List Int, (∃ t3 : Tr, ((Wf x2.S hs1) ∧ (Rep x2.S t3 x2.x) ∧ (Asc t3.list) ∧ (t3.size ≤ 1000000) ∧ (x2.S.reads + (↑t3.size : Int) ≤ 3000000000000000000) ∧ (∀ S'1 : Arn, (∀ m2 : Nat, (∀ o : Option Int, (((S'1) = (rdS x2.S m2)) → ((m2 ≤ ht t3) → (((o) = (getE t3.list (x2.ks.getD (↑x2.i : Int).toNat 0))) → ((0 ≤ (↑x2.i : Int)) ∧ ((↑x2.i : Int) < (↑x2.ks.length : Int)) ∧ (∃ hs2 : List Int, (∃ t4 : Tr, ((Wf S'1 hs2) ∧ (Rep S'1 t4 x2.y) ∧ (Asc t4.list) ∧ (t4.size ≤ 1000000) ∧ (S'1.reads + (↑t4.size : Int) ≤ 3000000000000000000) ∧ (∀ S'2 : Arn, (∀ m3 : Nat, (∀ o1 : Option Int, (((S'2) = (rdS S'1 m3)) → ((m3 ≤ ht t4) → (((o1) = (getE t4.list (x2.ks.getD (↑x2.i : Int).toNat 0))) → ((∃ x3 : XE2 P3, ((((↑x2.i : Int)) = ((↑x3.i : Int))) ∧ (True ∧ ((Value.int IntKind.u32 (x2.x)) = (Value.int IntKind.u32 (x3.x))) ∧
    ((Value.int IntKind.u32 (x2.y)) = (Value.int IntKind.u32 (x3.y))) ∧ True ∧ True ∧ ((Value.int IntKind.i64 ((↑x2.i : Int))) = (Value.int IntKind.i64 ((↑x3.i : Int)))) ∧ ((Value.int IntKind.i64 (o.getD 0)) = (Value.int IntKind.i64 (x3.v.getD 0))) ∧ ((Value.bool (o.isSome)) = (Value.bool (x3.v.isSome))) ∧ ((Value.int IntKind.i64 (o1.getD 0)) = (Value.int IntKind.i64 (x3.w.getD 0))) ∧ ((Value.bool (o1.isSome)) = (Value.bool (x3.w.isSome))) ∧ ((Value.int IntKind.i64 0) = (Value.int IntKind.i64 ((↑x3.n : Int)))) ∧ ((Value.int IntKind.i64 0) = (Value.int IntKind.i64 ((↑x3.k : Int)))) ∧ True) ∧ ((raw) = (raw)) ∧ ((l) = (l)) ∧ (True ∧ True ∧ True ∧ ((Value.int IntKind.u64 (S'2.reads)) = (Value.int IntKind.u64 (x3.S.reads))) ∧ True) ∧ (True ∧ True ∧ True ∧ ((Value.int IntKind.u32 (S'2.fresh)) = (Value.int IntKind.u32 (x3.S.fresh))) ∧ True) ∧ ((S'2.nodes) = (x3.S.nodes)) ∧ ((S'2.counts) = (x3.S.counts)) ∧ ((S'2.used) = (x3.S.used)) ∧ ((S'2.gen) = (x3.S.gen)) ∧ ((S'2.rel) = (x3.S.rel)) ∧ ((x2.c) = (x3.c)) ∧ ((x2.ks) = (x3.ks)) ∧ True)) ∧ (∀ x3 : XE2 P3, ((((↑x2.i : Int)) = ((↑x3.i : Int))) → (brS (decide ((↑x3.k : Int) < (↑x3.c.length : Int))) (((0 ≤ (↑x3.k : Int)) ∧ ((↑x3.k : Int) < (↑x3.c.length : Int)) ∧ (0 ≤ (↑x3.i : Int)) ∧ ((↑x3.i : Int) < (↑x3.ks.length : Int)) ∧ (brS ((cA x3.c x3.k).key != x3.ks.getD (↑x3.i : Int).toNat 0) ((∃ x' : XE2 P3, ((((↑x2.i : Int)) = ((↑x'.i : Int))) ∧ ((True ∧ ((Value.int IntKind.u32 (x3.x)) = (Value.int IntKind.u32 (x'.x))) ∧
    ((Value.int IntKind.u32 (x3.y)) = (Value.int IntKind.u32 (x'.y))) ∧ True ∧ True ∧ ((Value.int IntKind.i64 ((↑x3.i : Int))) = (Value.int IntKind.i64 ((↑x'.i : Int)))) ∧ ((Value.int IntKind.i64 (x3.v.getD 0)) = (Value.int IntKind.i64 (x'.v.getD 0))) ∧ ((Value.bool (x3.v.isSome)) = (Value.bool (x'.v.isSome))) ∧ ((Value.int IntKind.i64 (x3.w.getD 0)) = (Value.int IntKind.i64 (x'.w.getD 0))) ∧ ((Value.bool (x3.w.isSome)) = (Value.bool (x'.w.isSome))) ∧ ((Value.int IntKind.i64 ((↑x3.n : Int))) = (Value.int IntKind.i64 ((↑x'.n : Int)))) ∧ ((Value.int IntKind.i64 (IntKind.i64.wrap ((↑x3.k : Int) + 1))) = (Value.int IntKind.i64 ((↑x'.k : Int)))) ∧ True) ∧ ((raw) = (raw)) ∧ ((l) = (l)) ∧ (True ∧ True ∧ True ∧ ((Value.int IntKind.u64 (x3.S.reads)) = (Value.int IntKind.u64 (x'.S.reads))) ∧ True) ∧ (True ∧ True ∧ True ∧ ((Value.int IntKind.u32 (x3.S.fresh)) = (Value.int IntKind.u32 (x'.S.fresh))) ∧ True) ∧ ((x3.S.nodes) = (x'.S.nodes)) ∧ ((x3.S.counts) = (x'.S.counts)) ∧ ((x3.S.used) = (x'.S.used)) ∧ ((x3.S.gen) = (x'.S.gen)) ∧ ((x3.S.rel) = (x'.S.rel)) ∧ ((x3.c) = (x'.c)) ∧ ((x3.ks) = (x'.ks)) ∧ True) ∧ (x'.c.length - x'.k < x3.c.length - x3.k)))) (((0 ≤ (↑x3.k : Int)) ∧ ((↑x3.k : Int) < (↑x3.c.length : Int)) ∧ (brS ((cA x3.c x3.k).old != x3.v.getD 0) ((K (SV.one (TV.at (At.val (Value.bool false)))) [(Chunk.row false (EC.ent) (raw)), (Chunk.row false (EC.edt) (l))] [])) (((0 ≤ (↑x3.k : Int)) ∧ ((↑x3.k : Int) < (↑x3.c.length : Int)) ∧ (brS ((cA x3.c x3.k).new != x3.w.getD 0)
    ((K (SV.one (TV.at (At.val (Value.bool false)))) [(Chunk.row false (EC.ent) (raw)), (Chunk.row false (EC.edt) (l))] [])) (((0 ≤ (↑x3.k : Int)) ∧ ((↑x3.k : Int) < (↑x3.c.length : Int)) ∧ (brS (!((cA x3.c x3.k).kind == 1) == !x3.v.isSome) ((K (SV.one (TV.at (At.val (Value.bool false)))) [(Chunk.row false (EC.ent) (raw)), (Chunk.row false (EC.edt) (l))] [])) (((0 ≤ (↑x3.k : Int)) ∧ ((↑x3.k : Int) < (↑x3.c.length : Int)) ∧ (brS (!((cA x3.c x3.k).kind == 2) == !x3.w.isSome) ((K (SV.one (TV.at (At.val (Value.bool false)))) [(Chunk.row false (EC.ent) (raw)), (Chunk.row false (EC.edt) (l))] [])) ((∃ x' : XE2 P3, ((((↑x2.i : Int)) = ((↑x'.i : Int))) ∧ ((True ∧ ((Value.int IntKind.u32 (x3.x)) = (Value.int IntKind.u32 (x'.x))) ∧ ((Value.int IntKind.u32 (x3.y)) = (Value.int IntKind.u32 (x'.y))) ∧ True ∧ True ∧ ((Value.int IntKind.i64 ((↑x3.i : Int))) = (Value.int IntKind.i64 ((↑x'.i : Int)))) ∧ ((Value.int IntKind.i64 (x3.v.getD 0)) = (Value.int IntKind.i64 (x'.v.getD 0))) ∧ ((Value.bool (x3.v.isSome)) = (Value.bool (x'.v.isSome))) ∧ ((Value.int IntKind.i64 (x3.w.getD 0)) = (Value.int IntKind.i64 (x'.w.getD 0))) ∧ ((Value.bool (x3.w.isSome)) = (Value.bool (x'.w.isSome))) ∧ ((Value.int IntKind.i64 (IntKind.i64.wrap ((↑x3.n : Int) + 1))) = (Value.int IntKind.i64 ((↑x'.n : Int)))) ∧ ((Value.int IntKind.i64 (IntKind.i64.wrap ((↑x3.k : Int) + 1))) = (Value.int IntKind.i64 ((↑x'.k : Int)))) ∧ True) ∧ ((raw) = (raw)) ∧ ((l) = (l)) ∧ (True ∧ True ∧ True ∧
    ((Value.int IntKind.u64 (x3.S.reads)) = (Value.int IntKind.u64 (x'.S.reads))) ∧ True) ∧ (True ∧ True ∧ True ∧ ((Value.int IntKind.u32 (x3.S.fresh)) = (Value.int IntKind.u32 (x'.S.fresh))) ∧ True) ∧ ((x3.S.nodes) = (x'.S.nodes)) ∧ ((x3.S.counts) = (x'.S.counts)) ∧ ((x3.S.used) = (x'.S.used)) ∧ ((x3.S.gen) = (x'.S.gen)) ∧ ((x3.S.rel) = (x'.S.rel)) ∧ ((x3.c) = (x'.c)) ∧ ((x3.ks) = (x'.ks)) ∧ True) ∧ (x'.c.length - x'.k < x3.c.length - x3.k))))))))))))))))))) ((brS (x3.v.isSome == x3.w.isSome) ((brS (!((↑x3.n : Int) == 0) == (x3.v.getD 0 == x3.w.getD 0)) ((K (SV.one (TV.at (At.val (Value.bool false)))) [(Chunk.row false (EC.ent) (raw)), (Chunk.row false (EC.edt) (l))] [])) ((∃ x' : XE1 P2, (True ∧ ((True ∧ ((Value.int IntKind.u32 (x3.x)) = (Value.int IntKind.u32 (x'.x))) ∧ ((Value.int IntKind.u32 (x3.y)) = (Value.int IntKind.u32 (x'.y))) ∧ True ∧ True ∧ ((Value.int IntKind.i64 (IntKind.i64.wrap ((↑x3.i : Int) + 1))) = (Value.int IntKind.i64 ((↑x'.i : Int)))) ∧ True) ∧ ((raw) = (raw)) ∧ ((l) = (l)) ∧ (True ∧ True ∧ True ∧ ((Value.int IntKind.u64 (x3.S.reads)) = (Value.int IntKind.u64 (x'.S.reads))) ∧ True) ∧ (True ∧ True ∧ True ∧ ((Value.int IntKind.u32 (x3.S.fresh)) = (Value.int IntKind.u32 (x'.S.fresh))) ∧ True) ∧ ((x3.S.nodes) = (x'.S.nodes)) ∧ ((x3.S.counts) = (x'.S.counts)) ∧ ((x3.S.used) = (x'.S.used)) ∧ ((x3.S.gen) = (x'.S.gen)) ∧ ((x3.S.rel) = (x'.S.rel)) ∧ ((x3.c) = (x'.c)) ∧ ((x3.ks) = (x'.ks)) ∧ True) ∧ (1001 - x'.i < 1001 - x2.i))))))
    ((brS (!((↑x3.n : Int) == 0) == false) ((K (SV.one (TV.at (At.val (Value.bool false)))) [(Chunk.row false (EC.ent) (raw)), (Chunk.row false (EC.edt) (l))] [])) ((∃ x' : XE1 P2, (True ∧ ((True ∧ ((Value.int IntKind.u32 (x3.x)) = (Value.int IntKind.u32 (x'.x))) ∧ ((Value.int IntKind.u32 (x3.y)) = (Value.int IntKind.u32 (x'.y))) ∧ True ∧ True ∧ ((Value.int IntKind.i64 (IntKind.i64.wrap ((↑x3.i : Int) + 1))) = (Value.int IntKind.i64 ((↑x'.i : Int)))) ∧ True) ∧ ((raw) = (raw)) ∧ ((l) = (l)) ∧ (True ∧ True ∧ True ∧ ((Value.int IntKind.u64 (x3.S.reads)) = (Value.int IntKind.u64 (x'.S.reads))) ∧ True) ∧ (True ∧ True ∧ True ∧ ((Value.int IntKind.u32 (x3.S.fresh)) = (Value.int IntKind.u32 (x'.S.fresh))) ∧ True) ∧ ((x3.S.nodes) = (x'.S.nodes)) ∧ ((x3.S.counts) = (x'.S.counts)) ∧ ((x3.S.used) = (x'.S.used)) ∧ ((x3.S.gen) = (x'.S.gen)) ∧ ((x3.S.rel) = (x'.S.rel)) ∧ ((x3.c) = (x'.c)) ∧ ((x3.ks) = (x'.ks)) ∧ True) ∧ (1001 - x'.i < 1001 - x2.i))))))))))))))))))))))))))))))))) ((K (SV.one (TV.at (At.val (Value.bool true)))) [(Chunk.row false (EC.ent) (raw)), (Chunk.row false (EC.edt) (l))] [])))))))))))))))))))))))))))) = _ by kernel_rfl) ?_
  subst hP1 hP2 hP3
  refine ⟨h0, hk, hd, fun S x y m b => ?_⟩
  obtain ⟨w, ⟨tx, rx, lx, bx⟩, ⟨ty, ry, ly, bY⟩, ab, am, kb, km, lb, lm, rd⟩ := b
  generalize listE raw 90 = B at *
  have zx : tx.size = B.length := by rw [← tx.list_len, lx]
  have zy : ty.size = m.length := by rw [← ty.list_len, ly]
  have hlen := difE_len B m
  have kl := keys3_len B m []
  have r0 := w.rds.1
  refine ⟨_, tx, ty, w, rx, ry, by omega, by omega, by rw [lx]; exact ab, by rw [ly]; exact am, by rw [lx]; exact kb, by rw [ly]; exact km, fun c S1 m1 ec e1 b1 _ => ?_⟩
  subst e1
  rw [lx, ly] at ec
  have rdk : (rdS S m1).reads = S.reads + m1 := rfl
  have w1 : Wf (rdS S m1) [y, x] := w.rd (by omega)
  have lc : c.length ≤ 1000 := by rw [ec, ← difE_btw ab am]; omega
  refine ⟨by simp; omega, by rw [bytes_i64]; simp at kl ⊢; omega, ⟨⟨1, rdS S m1, x, y, c, keys3 B m [] ++ [key], Nat.le_refl _, m, tx, ty, w1, rx.rdn, lx, ry.rdn, ly, ab, am, ec, lc, by simp at kl ⊢; omega, by omega, by omega, by omega⟩, ?_⟩, fun z _ => ?_⟩
  · (repeat' first | exact trivial | exact rfl | refine And.intro ?_ ?_)
  clear hlen kl
  obtain ⟨i, S, x, y, c, ks, hi, m, T⟩ := z
  have T0 := T
  obtain ⟨tx, ty, w, rx, lx, ry, ly, ab, am, ec, lc, lk, zx, zy, rd⟩ := T
  dsimp only
  refine brS_of (fun q => ?_) fun q => ⟨⟨⟨0, S, x, y, c, ks, Nat.zero_le _, m, by simpa using T0⟩, ?_⟩, fun z _ => ?_⟩
  · have q : i < c.length := by have := of_decide_eq_true q; omega
    have wr : IntKind.i64.wrap ((i : Int) - 1) = ((i - 1 : Nat) : Int) := by rw [wrap_id (by omega) (by omega)]; omega
    rw [wr]
    refine ⟨by omega, by omega, by omega, by omega, brS_of (fun e => ?_) fun _ => ⟨⟨i + 1, S, x, y, c, ks, by omega, m, T0⟩, trivial, ?_, by show c.length - (i + 1) < _; omega⟩⟩
    · exfalso
      have e : (cA c i).key ≤ (cA c (i - 1)).key := of_decide_eq_true e
      rw [ec] at e q
      have := btw_up ab am (i := i - 1) (j := i) (by omega) q
      omega
    · (repeat' first | exact trivial | exact rfl | refine And.intro ?_ ?_)
      exact congrArg (Value.int .i64) (show IntKind.i64.wrap ((i : Int) + 1) = ((i + 1 : Nat) : Int) by rw [wrap_id (by omega) (by omega)]; omega)
  · (repeat' first | exact trivial | exact rfl | refine And.intro ?_ ?_)
  obtain ⟨i, S, x, y, c, ks, hi, m, T⟩ := z
  have T0 := T
  obtain ⟨tx, ty, w, rx, lx, ry, ly, ab, am, ec, lc, lk, zx, zy, rd⟩ := T
  dsimp only
  refine brS_of (fun q => ?_) fun _ => h
  have q : i < ks.length := by have := of_decide_eq_true q; omega
  have hit : (i : Int).toNat = i := rfl
  have hx := htr_size tx
  have hy := htr_size ty
  rw [hit]
  refine ⟨by omega, by omega, _, tx, w, rx, by rw [lx]; exact ab, by omega, by omega, fun S1 m1 o e1 b1 eo => ?_⟩
  subst e1
  have rdk : (rdS S m1).reads = S.reads + m1 := rfl
  have r0 := w.rds.1
  have w1 : Wf (rdS S m1) [y, x] := w.rd (by omega)
  refine ⟨by omega, by omega, _, ty, w1, ry.rdn, by rw [ly]; exact am, by omega, by omega, fun S2 m2 o1 e2 b2 eo1 => ?_⟩
  subst e2
  have rdk2 : (rdS (rdS S m1) m2).reads = (rdS S m1).reads + m2 := rfl
  have w2 : Wf (rdS (rdS S m1) m2) [y, x] := w1.rd (by omega)
  rw [lx] at eo
  rw [ly] at eo1
  refine ⟨⟨⟨i, rdS (rdS S m1) m2, x, y, c, ks, o, o1, 0, 0, q, Nat.zero_le _, m, ⟨tx, ty, w2, rx.rdn.rdn, lx, ry.rdn.rdn, ly, ab, am, ec, lc, lk, zx, zy, by omega⟩, eo, eo1, rfl⟩, rfl, ?_⟩, fun z q3 => ?_⟩
  · (repeat' first | exact trivial | exact rfl | refine And.intro ?_ ?_)
  obtain ⟨i3, S, x, y, c, ks, v, w, n, k, hi3, hkc, m, T, ev, ew, en⟩ := z
  have T0 := T
  obtain ⟨tx, ty, wf, rx, lx, ry, ly, ab, am, ec, lc, lk, zx, zy, rd⟩ := T
  have q3 : (i : Int) = i3 := q3
  obtain rfl : i = i3 := by omega
  have hit : (i : Int).toNat = i := rfl
  have hcl := cntK_le (c.take k) (ks.getD i 0)
  rw [List.length_take] at hcl
  dsimp only
  rw [hit]
  refine brS_of (fun q => ?_) fun q => ?_
  · have q : k < c.length := by have := of_decide_eq_true q; omega
    have sn := cntK_snoc q (ks.getD i 0)
    have nx : IntKind.i64.wrap ((k : Int) + 1) = ((k + 1 : Nat) : Int) := by rw [wrap_id (by omega) (by omega)]; omega
    have nn : IntKind.i64.wrap ((n : Int) + 1) = ((n + 1 : Nat) : Int) := by rw [wrap_id (by omega) (by omega)]; omega
    refine ⟨by omega, by omega, by omega, by omega, brS_of (fun e => ⟨⟨i, S, x, y, c, ks, v, w, n, k + 1, hi3, q, m, T0, ev, ew, ?_⟩, rfl, ?_, by show c.length - (k + 1) < _; omega⟩) fun e => ?_⟩
    · have e : ¬ (cA c k).key = ks.getD i 0 := by simpa using e
      rw [sn, if_neg e]; omega
    · (repeat' first | exact trivial | exact rfl | refine And.intro ?_ ?_)
      exact congrArg (Value.int .i64) nx
    · have e : (cA c k).key = ks.getD i 0 := by simpa using e
      have q' := q
      rw [ec] at q' e
      obtain ⟨s1, s2, s3, s4⟩ := btw_shows ab am q' e
      rw [← ec, ← ev] at s1 s3
      rw [← ec, ← ew] at s2 s4
      rw [← ec] at e
      refine ⟨by omega, by omega, brS_of (fun f => ?_) fun _ => ⟨by omega, by omega, brS_of (fun f => ?_) fun _ => ⟨by omega, by omega, brS_of (fun f => ?_) fun _ => ⟨by omega, by omega, brS_of (fun f => ?_) fun _ => ⟨⟨i, S, x, y, c, ks, v, w, n + 1, k + 1, hi3, q, m, T0, ev, ew, ?_⟩, rfl, ?_, by show c.length - (k + 1) < _; omega⟩⟩⟩⟩⟩
      · rw [s1] at f; simp at f
      · rw [s2] at f; simp at f
      · exfalso
        cases v with
        | none => have := s3.2 rfl; rw [this] at f; simp at f
        | some u => have := mt s3.1 (by simp); simp [this] at f
      · exfalso
        cases w with
        | none => have := s4.2 rfl; rw [this] at f; simp at f
        | some u => have := mt s4.1 (by simp); simp [this] at f
      · rw [sn, if_pos e]; omega
      · (repeat' first | exact trivial | exact rfl | refine And.intro ?_ ?_)
        · exact congrArg (Value.int .i64) nn
        · exact congrArg (Value.int .i64) nx
  · have q : k = c.length := by have := of_decide_eq_false q; omega
    have en : n = cntK (btw B m) (ks.getD i 0) := by rw [en, q, List.take_length, ec]
    have cz := cntK_zero ab am (ks.getD i 0)
    rw [← en, ← ev, ← ew, val_eq] at cz
    have nx : IntKind.i64.wrap ((i : Int) + 1) = ((i + 1 : Nat) : Int) := by rw [wrap_id (by omega) (by omega)]; omega
    refine brS_of (fun e => brS_of (fun f => ?_) fun _ => ⟨⟨i + 1, S, x, y, c, ks, hi3, m, T0.mono (show (100000 + 400 * (i : Int) + 400) ≤ 100000 + 400 * ((i + 1 : Nat) : Int) by omega)⟩, trivial, ?_, by show 1001 - (i + 1) < 1001 - i; omega⟩)
      fun e => brS_of (fun f => ?_) fun _ => ⟨⟨i + 1, S, x, y, c, ks, hi3, m, T0.mono (show (100000 + 400 * (i : Int) + 400) ≤ 100000 + 400 * ((i + 1 : Nat) : Int) by omega)⟩, trivial, ?_, by show 1001 - (i + 1) < 1001 - i; omega⟩
    · exfalso
      have e : v.isSome = w.isSome := by simpa using e
      by_cases g : n = 0
      · have := (cz.1 g).2
        simp [g, this] at f
      · have : ¬ v.getD 0 = w.getD 0 := fun u => g (cz.2 ⟨e, u⟩)
        have g1 : ((n : Int) == 0) = false := by simpa using g
        have t1 : (v.getD 0 == w.getD 0) = false := by simpa using this
        rw [g1, t1] at f
        exact absurd f (by decide)
    · (repeat' first | exact trivial | exact rfl | refine And.intro ?_ ?_)
      exact congrArg (Value.int .i64) nx
    · exfalso
      have e : ¬ v.isSome = w.isSome := by simpa using e
      have g : ¬ n = 0 := fun g => e (cz.1 g).1
      simp [g] at f
    · (repeat' first | exact trivial | exact rfl | refine And.intro ?_ ?_)
      exact congrArg (Value.int .i64) nx
theorem s_ex : SoundT C0 3 tEx := by
  refine .of Try.func3 (by decide) rfl fun args H K h hB => ?_
  unfold tEx at h
  split at h <;> try exact h.elim
  rename_i t key raw l
  refine ⟨_, ?_, vc_ex raw l t key K h.1 h.2.1 h.2.2.1 h.2.2.2⟩
  exact ⟨s_br, frame C0.ok s_awake18 _, frame C0.ok s_diff _, frame C0.ok s_keys _, frame C0.ok s_getT _, trivial⟩
end Go.Proofs.Ytbonbaccmlomhaa.Sx
end
section
/- What every law's last step leans on. -/
namespace Go.Proofs.Ytbonbaccmlomhaa
open Go.ChangeShapes Go.WideShapes Go.ChangeAt Go.RowKit

theorem ownK : ownKnob Try.prog.godebug = none := by kernel_rfl
theorem laidO : laidOutB Try.prog = true := by kernel_rfl

theorem lit_i64 {a : Int} (h : (Lit.int .i64 a).wf = true) : -9223372036854775808 ≤ a ∧ a ≤ 9223372036854775807 := by
  have h1 : IntKind.i64.min = -9223372036854775808 := rfl
  have h2 : IntKind.i64.max = 9223372036854775807 := rfl
  simp only [Lit.wf, Bool.and_eq_true, decide_eq_true_eq] at h
  omega
theorem lit_u64 {a : Int} (h : (Lit.int .u64 a).wf = true) : 0 ≤ a ∧ a ≤ 18446744073709551615 := by
  have h1 : IntKind.u64.min = 0 := rfl
  have h2 : IntKind.u64.max = 18446744073709551615 := rfl
  simp only [Lit.wf, Bool.and_eq_true, decide_eq_true_eq] at h
  omega
end Go.Proofs.Ytbonbaccmlomhaa
end
section
/- From contracts to laws: the arguments as they come, what a law's call leaves. -/
namespace Go.Proofs.Ytbonbaccmlomhaa.Sx
open Go Go.Joins Go.ChangeShapes Go.WideShapes Go.ChangeAt Go.RowKit

theorem Sat.imms {C : Ctx} {w : World} (vs : List Value) (H : List (Chunk C)) (h : ∀ (n : Nat) (c : Chunk C), H[n]? = some c → ∃ e l, c = .row false e l ∧ Imm C w (vs.getD n undef) e l) : Sat C (fun n => vs.getD n undef) (fun _ _ => False) w H where
  holds n c hc := by
    obtain ⟨e, l, rfl, hi⟩ := h n c hc
    exact ⟨hi, fun _ hh => hh⟩
  dis _ _ _ hh := hh.elim
  bd _ _ hh := hh.elim
  imm _ _ _ _ _ _ _ _ hh := hh
  out _ _ _ hh := hh
  cl n c hc m hm := by
    obtain ⟨e, l, rfl, _⟩ := h n c hc
    simp [Chunk.names] at hm

theorem lawOf {f : FuncId} {t : Tfm C0} (hs : SoundT C0 f t) {args : List TV} {H : List (Chunk C0)} {vs : List Value} {σ : Nat → Value} {w : World} (ht : ∀ K : KT, K (.one (.at (vB true))) H [] → t args H K)
    (hsat : Sat C0 σ (fun _ _ => False) w H) (hr : Rels (TV.rel σ) args vs) (hn : ∀ x ∈ args, ∀ m ∈ x.names, m < H.length) : Calls Try.prog f vs.toArray w (fun e w' => e = .returned (.bool true) ∧ Below w.heap.size w w') := by
  have hc := hs.call args H (fun r _ _ => r = .one (.at (vB true))) (ht _ rfl) σ _ w vs hsat hr hn
  refine Calls.mono hc fun e w' hh => ?_
  cases e with
  | panicked ch => exact hh.elim
  | outgrown => exact hh.elim
  | returned v =>
    obtain ⟨r, H', ts, σ', φ', hout, rfl⟩ := hh
    have hv : v = .bool true := hout.rel
    exact ⟨by rw [hv], hout.adv.os, hout.adv.tape, hout.adv.output, hout.adv.size, fun k hk => hout.adv.fr k hk fun n hh => hh⟩

section
variable {HH : Type} {enc : TypeId × Value → HH} {P : Program} {w : World} {base b0 : Nat} {spare : Nat → Bool} {held : Bool} {r : Reach}
theorem openRowQ {α : Type} [Inhabited α] {t e : TypeId} {f : α → List Value} {Q : α → Prop} {sz : Nat} {v : Value} {d : DataW HH} {p : List MemPlace} (ht : P.underlying t = some (.slice e)) (hC : P.cellsOf e = sz) (hpos : 0 < sz) (hf : ∀ x, (f x).length = sz)
    (hel : ∀ {n : Nat} {cs : List Value} {x : DataW HH × List MemPlace}, DataW.trod enc P w base spare held n e cs = some x → ∃ a, cs = f a ∧ Q a) (hv : Value.okWide P w r b0 t v) (h : DataW.Trod enc P w base spare held t v d p) :
    ∃ A n c l, v = .slice A n c ∧ Rd f sz w A n c l ∧ ∀ x ∈ l, Q x := by
  obtain ⟨A, n, c, rfl⟩ := okWide_slice ht hv
  obtain ⟨fuel, hh⟩ := h
  have hh : DataW.trod enc P w base spare held fuel t [.slice A n c] = some (d, p) := by simpa [Value.cells] using hh
  rcases Go.Deep.open_slice ht hh with ⟨h1, _⟩ | ⟨a, len, cap, m, k, D, Pl, h1, hb, hle, hm, hmm, hx, hall⟩
  · simp only [List.cons.injEq, Value.slice.injEq, and_true] at h1
    obtain ⟨rfl, rfl, rfl⟩ := h1
    exact ⟨none, 0, 0, [], rfl, Rd.nil hf, fun x hx => by simp at hx⟩
  · simp only [List.cons.injEq, Value.slice.injEq, and_true] at h1
    obtain ⟨rfl, rfl, rfl⟩ := h1
    have hlm : n ≤ m := by rw [hmm]; split <;> omega
    have hel' : ∀ i, i < n → ∃ x : α, w.cells? base (a.add (i * P.cellsOf e)) (P.cellsOf e) = some (f x) ∧ Q x := fun i hi => by
      obtain ⟨cs', hc1, hc2⟩ := hall i (by omega)
      obtain ⟨x, rfl, hq⟩ := hel hc2
      exact ⟨x, hc1, hq⟩
    obtain ⟨F, hF⟩ := Go.Deep.choose_lt hel'
    have cell : ∀ i, i < n → ∀ j, j < sz → w.cell? ((a.add (i * sz)).add j) = (f (F i))[j]? := fun i hi j hj => by
      have h2 := (hF i hi).1
      rw [hC] at h2
      unfold World.cells? at h2
      split at h2
      · exact mapM_some_get h2 j j (by simp [hj])
      · cases h2
    refine ⟨some a, n, c, (List.range n).map F, rfl, ⟨by simp, hle, hm, hf, fun h => (by cases h), fun hn => ?_⟩, fun x hx => by obtain ⟨i, hi, rfl⟩ := List.mem_map.1 hx; exact (hF i (List.mem_range.1 hi)).2⟩
    obtain ⟨b, o, sp⟩ := a
    have hsome : ∀ i, i < n → ∀ j, j < sz → ∃ u, w.cell? (((⟨b, o, sp⟩ : Addr).add (i * sz)).add j) = some u := fun i hi j hj => by
      rw [cell i hi j hj]
      exact ⟨_, List.getElem?_eq_getElem (by rw [hf]; exact hj)⟩
    obtain ⟨u0, hu0⟩ := hsome 0 hn 0 hpos
    have hspot : sp = none := by simpa [Addr.add] using World.cell?_spot hu0
    subst hspot
    refine ⟨b, o, rfl, ?_, fun k x hx j u hu => ?_⟩
    · have hu1 : w.cell? ⟨b, o, none⟩ = some u0 := by simpa [Addr.add] using hu0
      unfold World.cell? at hu1
      split at hu1
      · rename_i hb2
        exact (Array.getElem?_eq_some_iff.1 hb2).1
      · cases hu1
    · rw [List.getElem?_map] at hx
      have hk : k < n := by
        rcases Nat.lt_or_ge k n with h2 | h2
        · exact h2
        · rw [List.getElem?_eq_none (by simpa using h2)] at hx; cases hx
      rw [List.getElem?_range hk] at hx
      simp only [Option.map_some, Option.some.injEq] at hx
      subst hx
      have hj : j < sz := by
        have := (List.getElem?_eq_some_iff.1 hu).1
        rwa [hf] at this
      have h3 := cell k hk j hj
      rw [hu] at h3
      rw [← h3]
      congr 1
      rw [Go.WideShapes.add_plain, Go.WideShapes.add_plain]
end

section
variable {HH : Type} {enc : TypeId × Value → HH} {w : World} {base b0 : Nat} {spare : Nat → Bool} {held : Bool} {r : Reach}
set_option maxRecDepth 100000 in
theorem elEw {n : Nat} {cs : List Value} {x : DataW HH × List MemPlace} (h : DataW.trod enc Try.prog w base spare held n 98 cs = some x) :
    ∃ a : Ent, cs = EC.enc .ent a ∧ ((-9223372036854775808 ≤ a.1 ∧ a.1 ≤ 9223372036854775807) ∧ (-9223372036854775808 ≤ a.2 ∧ a.2 ≤ 9223372036854775807)) := by
  obtain ⟨y0, y1, m, _, hl, h0, h1⟩ := trod_struct2 Try.underlying98 h
  obtain ⟨k, e0, _, w0⟩ := DataW.trod_int Try.underlying2 h0
  obtain ⟨v, e1, _, w1⟩ := DataW.trod_int Try.underlying2 h1
  have hl : cs.length = 2 := hl.trans (by kernel_rfl)
  have c1 : Try.prog.cellsOf 2 = 1 := by kernel_rfl
  match cs, hl with
  | [a, b], _ =>
    simp [c1] at e0 e1
    exact ⟨(k, v), by rw [e0, e1]; rfl, lit_i64 w0, lit_i64 w1⟩
set_option maxRecDepth 100000 in
/-- The same with what the entries' numbers are. -/
theorem openEw {v : Value} {d : DataW HH} {p : List MemPlace} (hv : Value.okWide Try.prog w r b0 22 v) (h : DataW.Trod enc Try.prog w base spare held 22 v d p) :
    ∃ (l : List Ent), Imm C0 w v EC.ent l ∧ ∀ x ∈ l, (-9223372036854775808 ≤ x.1 ∧ x.1 ≤ 9223372036854775807) ∧ (-9223372036854775808 ≤ x.2 ∧ x.2 ≤ 9223372036854775807) := by
  obtain ⟨A, n, c, l, rfl, hr, hq⟩ := openRowQ (α := Ent) (f := fun x => EC.enc .ent x) (sz := 2) Try.underlying22 (by kernel_rfl) (by decide) (fun _ => rfl) (fun h => elEw h) hv h
  obtain rfl := hr.len
  exact ⟨l, ⟨A, c, rfl, hr⟩, hq⟩
instance : Inhabited Chg := ⟨⟨0, 0, 0, 0⟩⟩
end
end Go.Proofs.Ytbonbaccmlomhaa.Sx
end
section
/- Opening an argument that is a slice of edits. -/
namespace Go.Proofs.Ytbonbaccmlomhaa.Sx
open Go Go.Joins Go.ChangeShapes Go.WideShapes Go.ChangeAt Go.RowKit

section
variable {HH : Type} {enc : TypeId × Value → HH} {w : World} {base b0 : Nat} {spare : Nat → Bool} {held : Bool} {r : Reach}
set_option maxRecDepth 100000 in
theorem elD {n : Nat} {cs : List Value} {x : DataW HH × List MemPlace} (h : DataW.trod enc Try.prog w base spare held n 100 cs = some x) : ∃ a : EdtT, cs = EC.enc .edt a ∧ ((-9223372036854775808 ≤ a.ent.1 ∧ a.ent.1 ≤ 9223372036854775807) ∧ (-9223372036854775808 ≤ a.ent.2 ∧ a.ent.2 ≤ 9223372036854775807)) := by
  obtain ⟨y0, y1, y2, m, _, hl, h0, h1, h2⟩ := Go.Deep.trod_struct3 Try.underlying100 h
  obtain ⟨k, e0, _⟩ := DataW.trod_bool Try.underlying4 h0
  obtain ⟨v, e1, _⟩ := DataW.trod_int Try.underlying3 h1
  obtain ⟨s, e2, q2⟩ := elEw h2
  have hl : cs.length = 4 := hl.trans (by kernel_rfl)
  have c1 : Try.prog.cellsOf 4 = 1 := by kernel_rfl
  have c2 : Try.prog.cellsOf 3 = 1 := by kernel_rfl
  have c3 : Try.prog.cellsOf 98 = 2 := by kernel_rfl
  match cs, hl with
  | [a, b, c, d], _ =>
    simp [c1, c2, c3] at e0 e1 e2
    have e2 : [c, d] = [Value.int .i64 s.1, Value.int .i64 s.2] := e2
    simp only [List.cons.injEq, and_true] at e2
    exact ⟨⟨k, v, s⟩, by rw [e0, e1, e2.1, e2.2]; rfl, q2⟩
instance : Inhabited EdtT := ⟨⟨false, 0, (0, 0)⟩⟩
set_option maxRecDepth 100000 in
theorem openD {v : Value} {d : DataW HH} {p : List MemPlace} (hv : Value.okWide Try.prog w r b0 24 v) (h : DataW.Trod enc Try.prog w base spare held 24 v d p) :
    ∃ (l : List EdtT), Imm C0 w v EC.edt l ∧ ∀ x ∈ l, (-9223372036854775808 ≤ x.ent.1 ∧ x.ent.1 ≤ 9223372036854775807) ∧ (-9223372036854775808 ≤ x.ent.2 ∧ x.ent.2 ≤ 9223372036854775807) := by
  obtain ⟨A, n, c, l, rfl, hr, hq⟩ := openRowQ (α := EdtT) (f := fun x => EC.enc .edt x) (sz := 4) Try.underlying24 (by kernel_rfl) (by decide) (fun _ => rfl) (fun h => elD h) hv h
  obtain rfl := hr.len
  exact ⟨l, ⟨A, c, rfl, hr⟩, hq⟩
end
end Go.Proofs.Ytbonbaccmlomhaa.Sx
end
section
/- 'DiffIsExact': the law returns true for every input, and its arguments read afterwards as they read before. -/
namespace Go.Proofs.Ytbonbaccmlomhaa.diffIsExact
open Go.ChangeShapes Go.WideShapes Go.ChangeAt Go.RowKit Sx

set_option maxRecDepth 100000 in
theorem lifted (os : Os) (started : os.Started) (H : Type) (enc : TypeId × Value → H) :
    ReturnsInHanded {} Try.checked os 3 .any (Rows.diffIsExactSpec.pre6 enc Try.prog Try.f3 Rows.diffIsExactRow.domain false) (Rows.diffIsExactSpec.post enc Try.prog Try.f3 false true false false) := by
  refine returnsInHanded_of_change (C := Try.checked) ownK started (by kernel_rfl) Try.func3
    (ChangeSpec.witness6 (enc := enc) (C := Try.checked) false ⟨#[], #[.slice none 0 0, .int .u64 0, .slice none 0 0, .int .i64 0], []⟩ 8 (by kernel_rfl) (by kernel_rfl) (by kernel_rfl) (by kernel_rfl)) ?_
  intro W base args ds gs before hval0 hW hcnd _
  have hval : ∀ (j : Nat) t v, Try.f3.params[j]? = some t → args[j]? = some v → Value.okWide Try.prog W .any base t v := hval0
  have hW' := hW
  obtain ⟨p, q, hA0, hV, rfl, hfz, hnd⟩ := hW
  have hA : DataW.TrodAll enc Try.prog W 0 (fun _ => true) true Try.f3.params.toList args.toList ds p := hA0
  rw [Try.params3] at hA hval
  obtain ⟨v0, vs0, d0, ds0, p0, q0, hargs, rfl, rfl, h0, r0⟩ := trodAll_cons hA
  obtain ⟨v1, vs1, d1, ds1, p1, q1, rfl, rfl, rfl, h1, r1⟩ := trodAll_cons r0
  obtain ⟨v2, vs2, d2, ds2, p2, q2, rfl, rfl, rfl, h2, r2⟩ := trodAll_cons r1
  obtain ⟨v3, vs3, d3, ds3, p3, q3, rfl, rfl, rfl, h3, r3⟩ := trodAll_cons r2
  obtain ⟨rfl, rfl, rfl⟩ := trodAll_nil r3
  obtain rfl : args = #[v0, v1, v2, v3] := by cases args; simp_all
  obtain ⟨rfl, rfl⟩ := trodVars_none hV
  have k0 := h0
  have k1 := h1
  have k2 := h2
  have k3 := h3
  clear hA0 hval0
  simp only [List.append_nil] at hW'
  have hlt : ∀ x ∈ p0 ++ (p1 ++ (p2 ++ (p3))), x.block < W.heap.size := fun x hx => by simpa using hW'.lt x (by simpa using hx)
  have l0 : ∀ x ∈ p0, x.block < W.heap.size := fun x hx => hlt x (by simp [hx])
  have l1 : ∀ x ∈ p1, x.block < W.heap.size := fun x hx => hlt x (by simp [hx])
  have l2 : ∀ x ∈ p2, x.block < W.heap.size := fun x hx => hlt x (by simp [hx])
  have l3 : ∀ x ∈ p3, x.block < W.heap.size := fun x hx => hlt x (by simp [hx])
  obtain ⟨L0, R0, Q0⟩ := openEw (hval 0 22 v0 rfl rfl) h0
  obtain ⟨a1, rfl, rfl, rfl, w1⟩ := open_int Try.underlying23 (hval 1 23 v1 rfl rfl) h1
  have b1 := lit_u64 w1
  obtain ⟨L2, R2, Q2⟩ := openD (hval 2 24 v2 rfl rfl) h2
  obtain ⟨a3, rfl, rfl, rfl, w3⟩ := open_int Try.underlying2 (hval 3 2 v3 rfl rfl) h3
  have b3 := lit_i64 w3
  refine (lawOf s_ex (args := [.at (.slc 0), .at (.val (.int .u64 a1)), .at (.slc 1), .at (.val (.int .i64 a3))]) (H := [Chunk.row false EC.ent L0, Chunk.row false EC.edt L2]) (vs := [v0, .int .u64 a1, v2, .int .i64 a3]) (σ := fun n => [v0, v2].getD n undef) (w := W) (fun K h => ⟨b1.1, fun x hx => (Q0 x hx).1, fun x hx => (Q2 x hx).1, h⟩)
    (Sat.imms [v0, v2] _ fun n c hc => by match n, hc with | 0, hc => exact ⟨_, _, (Option.some.inj hc).symm, R0⟩ | 1, hc => exact ⟨_, _, (Option.some.inj hc).symm, R2⟩ | n + 2, hc => simp at hc) (Rels.cons rfl (Rels.cons rfl (Rels.cons rfl (Rels.cons rfl Rels.nil)))) (by simp [TV.names, At.names])).mono fun e W' ⟨he, hg⟩ => ?_
  subst he
  exact ⟨_, rfl, _, _, _, [] ++ [], _, [], hW', (trodAll_cons_mk (shut_bool Try.underlying4 true) trodAll_mk0), (trodAll_cons_mk (Below.trod laidO (by kernel_rfl) (of_decide_eq_true (by kernel_rfl)) k0 hg l0) (trodAll_cons_mk (Below.trod laidO (by kernel_rfl) (of_decide_eq_true (by kernel_rfl)) k1 hg l1) (trodAll_cons_mk (Below.trod laidO (by kernel_rfl) (of_decide_eq_true (by kernel_rfl)) k2 hg l2) (trodAll_cons_mk (Below.trod laidO (by kernel_rfl) (of_decide_eq_true (by kernel_rfl)) k3 hg l3) trodAll_mk0)))), rfl, hg.frame _, fun h => by cases h⟩

theorem over : Rows.diffIsExactRow.holds Try.pinned (OpenSpec.ofChange Rows.diffIsExactSpec) :=
  OpenClaim.holds_of_wide 3 Try.f3 rfl rfl rfl rfl rfl rfl rfl ⟨rfl, rfl, rfl, rfl, rfl⟩ rfl rfl rfl rfl rfl (by kernel_rfl) Try.func3 (by kernel_rfl)
    (of_decide_eq_true (by kernel_rfl)) (by unfold Func.isWrapper; first | (rw [if_pos (by decide +kernel)]; kernel_rfl) | (rw [if_neg (by decide +kernel)]; exact ⟨rfl, rfl⟩))
    (fun os started H enc _ => lifted os started H enc)

theorem proved : Rows.DiffIsExactSaid := over
#print axioms proved
end Go.Proofs.Ytbonbaccmlomhaa.diffIsExact
end
