/- A part of the proof. -/
import Derived.Test.YtbonbaccmlomhaaG11
import Derived.Test.YtbonbaccmlomhaaG10
import Derived.Test.YtbonbaccmlomhaaG2
import Derived.Test.YtbonbaccmlomhaaProg
import Derived.Test.YtbonbaccmlomhaaChecked
import Derived.WalkKit
import Derived.ProofKit
import Derived.OpenShut
import Derived.SizedLaws
import Derived.Carry
import Derived.Test.YtbonbaccmlomhaaG4
import Derived.Deep.Slices
import Derived.Lib.SmallJoins
import Derived.Deep.Strs
import Derived.Test.YtbonbaccmlomhaaRows
section
/- The law that Delete deletes. -/
namespace Go.Proofs.Ytbonbaccmlomhaa.Sx
open Go

/-KEEP Wf exW inU live Arn.cap Arn.free Rep rdS retL Tr.size Tr.list slotsOf orderOf PlantR newS insE outE listE getE TrR upM Hn keptD Asc Tr.Bal ht dB RepD List.Perm-/
structure XUe (P : Arn → Int → List Ent → Int → Prop) where
  S : Arn
  i : Int
  l : List Ent
  need : Int
  k : Int
  h : P S i l need
structure UdS where
  S0 : Arn
  S : Arn
  root : Int
  l : List Ent
  need : Int
  k : Int
  v : Int
  is : Bool
  d : List SlotT
  o : List Int
  r : Int
  i : Int
  w : Int
  f : Int
structure XUd (P : UdS → Prop) where
  z : UdS
  h : P z
structure XUw (P : UdS → Int → Prop) where
  z : UdS
  want : Int
  h : P z want
abbrev chUd (raw : List Ent) (z : UdS) : List (Chunk C0) := [.row false EC.ent raw] ++ chSk 1 z.S ++ [.row true EC.ent z.l, .box [.slc 10, .slc 11], .row true EC.slot z.d, .row true EC.u32 z.o]
def tUd : Tfm C0 := fun args H K => match args, H with
  | [.at (.slc 0), .at (.val (.int .u64 t)), .at (.val (.int .i64 _)), .at (.val (.int .i64 at')), .at (.val (.int .u16 f))], [.row false .ent raw] => 0 ≤ t ∧ -9223372036854775808 ≤ at' ∧ at' ≤ 9223372036854775807 ∧ 0 ≤ f ∧ f ≤ 65535 ∧ K (.one (.at (vB true))) [.row false EC.ent raw] []
  | _, _ => False
theorem outE_flt (l : List Ent) (k : Int) : outE l k k = flt (neK k) l := by
  unfold outE flt neK
  congr 1
  funext x
  by_cases h : x.1 = k
  · simp [h]
  · rw [decide_eq_true (show x.1 ≠ k from h)]
    simp; omega
def PUe (S : Arn) (i : Int) (l : List Ent) (need : Int) : Prop := ∃ t, upM S [i] t i ∧ t.list = l ∧ t.size = l.length ∧ l.length ≤ 150 ∧ need = 4 * (Hn (l.length : Int) + 2) ∧ S.reads = 0
/-- What Delete comes to. -/
def PUd (z : UdS) : Prop := ∃ t, upM z.S0 [z.root] t z.root ∧ t.list = z.l ∧ t.size = z.l.length ∧ z.l.length ≤ 150 ∧ z.need = 4 * (Hn (z.l.length : Int) + 2) ∧ z.r = 0 ∧ z.d = slotsOf z.S0 ∧ z.o = orderOf z.S0 ∧ 0 ≤ z.S.reads ∧ z.S.reads ≤ 60 * (Hn ((z.l.length : Int) + 1) + 2) ∧ z.v = (getE z.l z.k).getD 0 ∧ z.is = (getE z.l z.k).isSome ∧
  ((getE z.l z.k = none ∧ z.f = 4 ∧ z.i = 0 ∧ z.w = 0 ∧ ∃ m, z.S = rdS z.S0 m) ∨
   ((getE z.l z.k).isSome = true ∧ z.S0.free < z.need ∧ z.f = 2 ∧ z.i = 0 ∧ z.w = 0 ∧ ∃ m, z.S = rdS z.S0 m) ∨
   ((getE z.l z.k).isSome = true ∧ z.need ≤ z.S0.free ∧ z.f = 0 ∧ z.w = z.v ∧ ∃ (m r : Nat), (m : Int) ≤ z.need ∧ TrR z.S0 [z.root] (flt (neK z.k) z.l) m r z.S z.i))
def PUw (z : UdS) (want : Int) : Prop := PUd z ∧ want = z.f
end Go.Proofs.Ytbonbaccmlomhaa.Sx
end
section
/- update.Increase, and the laws that updates increase, commute and share. -/
namespace Go.Proofs.Ytbonbaccmlomhaa.Sx
open Go

/-KEEP Wf exW inU live Arn.cap Arn.free Rep rdS retL Tr.size Tr.list slotsOf orderOf PlantR newS insE outE listE getE TrR upM Hn keptD Asc Tr.Bal ht dB iB RepD List.Perm flt neK-/
noncomputable def aInc : Ann C0 := { Γ := [(18, frameT [] tGetT), (59, frameT [] tUpIn)] }
def tInc : Tfm C0 := fun args H K => match args with
  | [.at (.ptr 0 0), .at (.val (.int .u32 r)), .at (.val (.int .i64 k)), .at (.val (.int .i64 n))] => arM H fun S => ∃ hs t, upM S hs t r ∧ S.reads ≤ 900000000000000000 ∧ 4 * (Hn (t.size + 1) + 2) ≤ S.free ∧
    ∀ S' j w, w = IntKind.i64.wrap ((getE t.list k).getD 0 + n) → TrR S hs (insE t.list (k, w)) (iB t.size) (5 * iB t.size + 2 * ht t + 1) S' j → K (.tup [.at (vU j), .at (vI w), .at (vI 0)]) (chS S') W7
  | _ => False
structure XUc (P : Arn → Int → List Ent → Prop) where
  S : Arn
  i : Int
  l : List Ent
  k : Int
  h : P S i l
def tUc : Tfm C0 := fun args H K => match args, H with
  | [.at (.slc 0), .at (.val (.int .u64 t)), .at (.val (.int .i64 _)), .at (.val (.int .i64 n)), .at (.val (.int .i64 at'))], [.row false .ent raw] => 0 ≤ t ∧ (-9223372036854775808 ≤ n ∧ n ≤ 9223372036854775807) ∧ (-9223372036854775808 ≤ at' ∧ at' ≤ 9223372036854775807) ∧ (∀ x ∈ raw, -9223372036854775808 ≤ x.2 ∧ x.2 ≤ 9223372036854775807) ∧ K (.one (.at (vB true))) [.row false EC.ent raw] []
  | _, _ => False
/-! ### The law that Increase increases -/
theorem Hn_le {n m : Nat} (h : n ≤ m) : Hn n ≤ Hn m := by
  have a := gN_size n
  have b := gN_size m
  have c := gN_mono (v := n + 1) (w := m + 1) (by omega) (by omega)
  omega
theorem gN_top {w v g : Nat} (h8 : v ≤ w) (hg : g < 80) (hw : (w : Int) < wt (g + 1)) : gN v ≤ g := by
  by_cases c : gN v ≤ g
  · exact c
  · by_cases z : 1 ≤ v
    · have h1 := gN_wt z
      have h2 := wt_mono (show g + 1 ≤ gN v by omega) (gN_rng v)
      omega
    · have : v = 0 := by omega
      subst this
      exact absurd (show gN 0 ≤ g by have : gN 0 = 0 := by decide
                                     omega) c
theorem Hn_104 {n : Nat} (h : n ≤ 112) : Hn n ≤ 13 := by
  have a := gN_size n
  have b := gN_top (w := 113) (v := n + 1) (g := 13) (by omega) (by omega) (by have : wt (13 + 1) = 115 := by decide
                                                                               omega)
  omega
def PUc (S : Arn) (i : Int) (l : List Ent) : Prop := ∃ t, upM S [i] t i ∧ t.list = l ∧ t.size = l.length ∧ l.length ≤ 100 ∧ S.free = 200 ∧ S.reads = 0 ∧ ∀ x ∈ l, -9223372036854775808 ≤ x.2 ∧ x.2 ≤ 9223372036854775807
end Go.Proofs.Ytbonbaccmlomhaa.Sx
end
section
/- The law SetopsDistribute, and law16.awake. -/
namespace Go.Proofs.Ytbonbaccmlomhaa.Sx
open Go

/-KEEP Wf exW inU live Arn.cap Arn.free Rep rdS retL Tr.size Tr.list Tr.Bal gN TrR Got flt Asc Hn ht PlantR BuildR newS listE List.Perm sameB Kin OpM needS SetR fUni fInt gSub gExc ascB-/
/-- Where there is room, an ascending list becomes a tree. -/
def tBuildOk : Tfm C0 := fun args H K => match args with
  | [.at (.ptr 0 0), .at (.slc 7)] => arMr H fun S rest => match rest with
    | [.row false .ent l] => ∃ hs, Wf S hs ∧ Asc l ∧ l.length ≤ 60000 ∧ hs.length ≤ 900000 ∧ (l.length : Int) ≤ S.free ∧ S.reads ≤ 900000000000000000 ∧ ∀ S' i, TrR S hs l 65537 0 S' i → K (.tup [.at (vU i), .at (vI 0)]) (chS S' ++ [.row false EC.ent l]) W7
    | _ => False
  | _ => False
theorem shp_sizeV {t : Tr} {l : List Ent} (h : ShpT t l) : t.size = l.length := by rw [← t.list_len, h.list]
theorem shp_balV : ∀ {t : Tr} {l : List Ent}, ShpT t l → t.Bal
  | .nil, _, _ => trivial
  | .node a k v b, l, h => by
    obtain ⟨h1, h2, h3, h4⟩ := h
    have s3 := shp_sizeV h3
    have s4 := shp_sizeV h4
    simp only [List.length_take, List.length_drop] at s3 s4
    refine ⟨?_, shp_balV h3, shp_balV h4⟩
    unfold balN
    omega
theorem ascB_of {l : List Ent} (h : Asc l) : ascB l = true := decide_eq_true h
theorem build_tr {S S' : Arn} {hs : List Int} {l : List Ent} {i : Int} (w : Wf S hs) (b : BuildR S hs l S' i) (hl : l.length ≤ 60000) : TrR S hs l 65537 0 S' i := by
  obtain ⟨t, rp, sp⟩ := b.rep
  exact ⟨⟨b.wf, b.stay, b.len, by rw [b.nu]; omega, by rw [b.rds]; exact Int.le_refl _, by rw [b.rds]; omega⟩, t, rp, sp.list, shp_balV sp⟩
theorem s_buildOk : SoundT C0 35 tBuildOk := s_build.weak fun args H K h => by
  unfold tBuildOk at h
  unfold tBuild
  split at h <;> try exact h.elim
  unfold arMr at h ⊢
  split at h <;> try exact h.elim
  dsimp only at h ⊢
  split at h <;> try exact h.elim
  obtain ⟨hs, w, asc, hl, hh, hf, hr, h⟩ := h
  exact ⟨hs, w, by omega, by omega, fun e => absurd (ascB_of asc) (by rw [e]; decide), fun _ c => absurd hf (by omega), fun _ _ S' i b => h S' i (build_tr w b hl)⟩
def tLsOk : Tfm C0 := fun args H K => match args with
  | [.at (.ptr 0 0), .at (.val (.int .u32 i))] => arM H fun S => ∃ hs t, Wf S hs ∧ Rep S t i ∧ Asc t.list ∧ Kin t.list ∧ t.size ≤ 60000 ∧ S.reads ≤ 1000000000000000000 ∧
    ∀ S' m (out : List Ent), S' = rdS S m → m ≤ t.size → out = t.list → K (.one (.at (.slc 7))) (chS S' ++ [.row true EC.ent out]) [0]
  | _ => False
noncomputable def aAw16 : Ann C0 := { Γ := [(34, frameT [] tNew), (51, frameT [] tPlantA), (22, frameT [] (tSoPk fUni)), (49, frameT [] tSize)] }
def tAw16 : Tfm C0 := fun args H K => match args, H with
  | [], [] => K (.one (.at (vB true))) [] []
  | _, _ => False
noncomputable def aVd (raw oth thi : List Ent) : Ann C0 := { quiet := [40, 38], Γ := [(34, frameT [] tNew), (20, frameT [] tAw16), (36, frameT [] tLst), (35, frameT [] tBuildOk), (22, frameT [] (tSoPk fUni)), (32, frameT [] (tSoPk fInt)), (37, frameT [] (tSoNk gSub)), (39, frameT [] tLsOk), (38, frameT [] tSame_ent), (40, frameT [] tSound)] }
def tVd : Tfm C0 := fun args H K => match args, H with
  | [.at (.slc 0), .at (.slc 1), .at (.slc 2)], [.row false .ent raw, .row false .ent oth, .row false .ent thi] => Kin raw ∧ Kin oth ∧ Kin thi ∧ K (.one (.at (vB true))) [.row false EC.ent raw, .row false EC.ent oth, .row false EC.ent thi] []
  | _, _ => False
theorem cap_new (c : Nat) : (newS c).cap = c := by unfold Arn.cap newS; simp
theorem Hld.new {c : Nat} (h1 : 1 ≤ c) (h2 : c ≤ 65536) : Hld (newS c) [] := ⟨Wf.new h1 h2, fun _ h => (by cases h), fun _ h => (by cases h), fun _ h => (by cases h)⟩
end Go.Proofs.Ytbonbaccmlomhaa.Sx
end
section
/- The law DiffOfSeparateTrees. -/
namespace Go.Proofs.Ytbonbaccmlomhaa.Sx
open Go

/-KEEP Wf exW inU live Arn.cap Arn.free Rep rdS Tr.size Tr.list btw rngC goV fR Asc Kin PlantR listE newS sameB difE-/
def tCountB : Tfm C0 := fun args H K => match args with
  | [.at (.ptr 0 0), .at (.val (.int .u32 x)), .at (.val (.int .u32 y))] => arM H fun S => ∃ hs t1 t2, Wf S hs ∧ Rep S t1 x ∧ Rep S t2 y ∧ t1.size + t2.size ≤ 300000 ∧ S.reads + (2 + 6 * (t1.size + t2.size)) ≤ 3000000000000000000 ∧ (btw t1.list t2.list).length ≤ 1000000 ∧
    ∀ (s' : Int) S' m, s' = (btw t1.list t2.list).length → S' = rdS S m → m ≤ 2 + 6 * (t1.size + t2.size) → K (.one (.at (vI s'))) (chS S') [0]
  | _ => False
def tFirstB : Tfm C0 := fun args H K => match args with
  | [.at (.ptr 0 0), .at (.val (.int .u32 x)), .at (.val (.int .u32 y))] => arM H fun S => ∃ hs t1 t2, Wf S hs ∧ Rep S t1 x ∧ Rep S t2 y ∧ t1.size + t2.size ≤ 300000 ∧ S.reads + (2 + 6 * (t1.size + t2.size)) ≤ 3000000000000000000 ∧
    ∀ S' m, S' = rdS S m → m ≤ 2 + 6 * (t1.size + t2.size) → (btw t1.list t2.list = [] → K (.tup [.agg [vI 0, vI 0, vI 0, vI 0], .at (vB false)]) (chS S') [0]) ∧ (∀ c cs, btw t1.list t2.list = c :: cs → K (.tup [.agg [vI c.kind, vI c.key, vI c.old, vI c.new], .at (vB true)]) (chS S') [0])
  | _ => False
structure XAg (P : Nat → Bool → Prop) where
  i : Nat
  c : Bool
  h : P i c
abbrev chg0 : Chg := ⟨0, 0, 0, 0⟩
noncomputable def aAgr (P1 P2 : Nat → Bool → Prop) (lo hi : Int) (l m : List Ent) (S : Arn) : Ann C0 := { Γ := [(83, frameT [] tDif), (27, frameT [] tReads), (16, frameT [] tDiff), (62, frameT [] tRangeB), (84, frameT [] tCountB), (85, frameT [] tFirstB), (61, frameT [] tSameT), (78, frameT [] tWi)], inv := fun n => match n with
  | 4 => some { X := XAg P1, sl := [15, 16, 17], tf := fun x => [.one (.at (.slc 9)), .one (.at (.slc 10)), vi .i64 x.i], hf := fun x => chS S ++ [.row false EC.ent l, .row false EC.ent m, .row true EC.chg (difE l m), .row true EC.chg (rngC lo hi ((difE l m).take x.i))], μ := fun x => (difE l m).length - x.i }
  | 1007 => some { X := XAg P2, sl := [15, 16, 17, 46], tf := fun x => [.one (.at (.slc 9)), .one (.at (.slc 10)), vi .i64 x.i, vb x.c], hf := fun x => chS S ++ [.row false EC.ent l, .row false EC.ent m, .row true EC.chg (difE l m), .row true EC.chg (rngC lo hi ((difE l m).take x.i))], rel := fun T _ x => slotI T 17 x.i }
  | _ => none }
def tAgr : Tfm C0 := fun args H K => match args with
  | [.at (.ptr 0 0), .at (.val (.int .u32 x)), .at (.val (.int .u32 y)), .at (.slc 7), .at (.slc 8), .at (.val (.int .i64 lo)), .at (.val (.int .i64 hi))] => arMr H fun S rest => match rest with
    | [.row false .ent l, .row false .ent m] => ∃ hs t1 t2, Wf S hs ∧ Rep S t1 x ∧ Rep S t2 y ∧ t1.list = l ∧ t2.list = m ∧ Asc l ∧ Asc m ∧ Kin l ∧ Kin m ∧ l.length + m.length ≤ 1000 ∧ S.reads ≤ 1000000000000000000 ∧
      ∀ S' n, S' = rdS S n → n ≤ 100000 → K (.one (.at (vB true))) (chS S' ++ [.row false EC.ent l, .row false EC.ent m]) [0]
    | _ => False
  | _ => False
/-! ### The law -/
abbrev L80 (raw : List Ent) : List Ent := listE raw 80
structure XDs (P : List Ent → Prop) where
  m : List Ent
  h : P m
noncomputable def aDst (P1 : List Ent → Prop) (raw other : List Ent) (b : Bool) : Ann C0 := { trunc := fun n => n = 14, Γ := [(36, frameT [] tLst), (34, frameT [] tNew), (15, frameT [] tAwake18), (51, frameT [] tPlantA), (31, frameT [] tAgr)], inv := fun n => match n with
  | 1003 => some { X := XDs fun m => m = L80 other, sl := [13, 14, 25], tf := fun _ => [.one (.at (.slc 2)), .one (.at (.slc 3)), vb b], hf := fun x => [.row false EC.ent raw, .row false EC.ent other, .row false EC.ent (L80 raw), .row false EC.ent x.m] }
  | 1004 => some { X := XDs P1, sl := [13, 14], tf := fun _ => [.one (.at (.slc 2)), .one (.at (.slc 3))], hf := fun x => [.row false EC.ent raw, .row false EC.ent other, .row false EC.ent (L80 raw), .row false EC.ent x.m] }
  | _ => none }
def tDst : Tfm C0 := fun args H K => match args, H with
  | [.at (.slc 0), .at (.slc 1), .at (.val (.int .u64 t)), .at (.val (.int .i64 _)), .at (.val (.int .i64 _)), .at (.val (.bool _))], [.row false .ent raw, .row false .ent other] => 0 ≤ t ∧ Kin raw ∧ Kin other ∧ K (.one (.at (vB true))) [.row false EC.ent raw, .row false EC.ent other] []
  | _, _ => False
end Go.Proofs.Ytbonbaccmlomhaa.Sx
end
section
/- law18: branch: a tree and a second one made from it by edits. -/
namespace Go.Proofs.Ytbonbaccmlomhaa.Sx
open Go

/-KEEP Wf Kept exW inU live Arn.cap Arn.free Rep rdS retL Tr.size Tr.list Tr.Bal btw fR Asc Kin PlantR listE newS sameB difE insE outE flt neK getE TrR Got upM Hn iB dB ht min-/
structure XB0 (P : Arn → Int → Prop) where
  S : Arn
  x : Int
  h : P S x
structure XB1 (P : Nat → Arn → Int → Int → List Ent → Prop) where
  i : Nat
  S : Arn
  x : Int
  y : Int
  m : List Ent
  h : P i S x y m
structure XB2 (P : Nat → Arn → Int → Int → Int → List Ent → Prop) where
  i : Nat
  S : Arn
  x : Int
  y : Int
  z : Int
  m : List Ent
  h : P i S x y z m
noncomputable def aBr (P0 : Arn → Int → Prop) (P1 : Nat → Arn → Int → Int → List Ent → Prop) (P2 : Nat → Arn → Int → Int → Int → List Ent → Prop) (raw B : List Ent) (l : List EdtT) : Ann C0 := { trunc := fun n => n = 18, Γ := [(36, frameT [] tLst), (54, frameT [] tGrow), (55, frameT [] (tRes1 4 1)), (56, frameT [] tRetL), (26, frameT [] tMod), (57, frameT [] tUpDe), (58, frameT [] tDel), (59, frameT [] tUpIn), (60, frameT [] tIns), (25, frameT [] tRel)], inv := fun n => match n with
  | 1006 => some { X := XB0 P0, sl := [14, 12, 15], tf := fun x => [.one (.at (.ptr 2 0)), .one (.at (.slc 9)), vi .u32 x.x], hf := fun x => [.row false EC.ent raw, .row false EC.edt l] ++ chSk 2 x.S ++ [.row false EC.ent B] }
  | 9 => some { X := XB1 P1, sl := [14, 12, 15, 17, 18, 19], tf := fun x => [.one (.at (.ptr 2 0)), .one (.at (.slc 9)), vi .u32 x.x, vi .u32 x.y, .one (.at (.slc 10)), vi .i64 x.i], hf := fun x => [.row false EC.ent raw, .row false EC.edt l] ++ chSk 2 x.S ++ [.row false EC.ent B, .row false EC.ent x.m], μ := fun x => min l.length 12 - x.i }
  | 1019 => some { X := XB2 P2, sl := [14, 12, 15, 17, 19, 20, 21, 22], tf := fun x => [.one (.at (.ptr 2 0)), .one (.at (.slc 9)), vi .u32 x.x, vi .u32 x.y, vi .i64 x.i, vi .u32 x.z, vi .i64 0, .one (.at (.slc 10))], hf := fun x => [.row false EC.ent raw, .row false EC.edt l] ++ chSk 2 x.S ++ [.row false EC.ent B, .row true EC.ent x.m], rel := fun T _ x => slotI T 19 x.i }
  | _ => none }
def PB0 (B : List Ent) (n I : Nat) : Arn → Int → Prop := fun S x => Wf S [x] ∧ (∃ t, Rep S t x ∧ t.list = B ∧ t.Bal) ∧ S.reads = 0 ∧ ((1 + (n + 1) * I : Nat) : Int) ≤ S.free
def PB1 (B : List Ent) (n I : Nat) : Nat → Arn → Int → Int → List Ent → Prop := fun i S x y m => i ≤ n ∧ Asc m ∧ Kin m ∧ m.length ≤ B.length + i ∧ Wf S [y, x] ∧ (∃ t, Rep S t x ∧ t.list = B ∧ t.Bal) ∧ (∃ t, Rep S t y ∧ t.list = m ∧ t.Bal) ∧ S.reads ≤ 1000 * i ∧ ((1 + (n + 1 - i) * I : Nat) : Int) ≤ S.free
def PB2 (B : List Ent) (n I : Nat) : Nat → Arn → Int → Int → Int → List Ent → Prop := fun i S x y z m => i < n ∧ Asc m ∧ Kin m ∧ m.length ≤ B.length + i + 1 ∧ Wf S [z, y, x] ∧ (∃ t, Rep S t x ∧ t.list = B ∧ t.Bal) ∧ (∃ t, Rep S t z ∧ t.list = m ∧ t.Bal) ∧ S.reads ≤ 1000 * i + 1000 ∧ ((1 + (n - i) * I : Nat) : Int) ≤ S.free
theorem kin_ins {l : List Ent} {e : Ent} (ha : Asc l) (h : Kin l) (he : -9223372036854775808 ≤ e.1 ∧ e.1 ≤ 9223372036854775807) : Kin (insE l e) := fun x hx => by
  rcases insE_mem ha hx with rfl | c
  · exact he
  · exact h x c
theorem kin_flt {p : Int → Bool} {l : List Ent} (h : Kin l) : Kin (flt p l) := fun x hx => h x (flt_mem hx)
theorem numsB {t : Tr} (h : t.size ≤ 110) (bal : t.Bal) : 5 * iB t.size + ht t + 1 ≤ 300 ∧ 5 * dB t.size + ht t + 1 ≤ 300 ∧ (iB t.size : Int) = 4 * Hn t.size + 1 ∧ (dB t.size : Int) ≤ 4 * Hn t.size + 4 := by
  have a := iB_Hn t.size
  have b := dB_Hn t.size
  have c := Bal.height bal (by omega)
  have d := Hn_104 (n := t.size) (by omega)
  omega
/-- Two trees, the second one made from the first one by edits. -/
structure BrR (B m : List Ent) (S : Arn) (x y : Int) : Prop where
  wf : Wf S [y, x]
  rx : ∃ t, Rep S t x ∧ t.list = B ∧ t.Bal
  ry : ∃ t, Rep S t y ∧ t.list = m ∧ t.Bal
  ab : Asc B
  am : Asc m
  kb : Kin B
  km : Kin m
  lb : B.length ≤ 90
  lm : m.length ≤ 102
  rds : S.reads ≤ 12000
abbrev chBr (raw : List Ent) (l : List EdtT) (B m : List Ent) (S : Arn) : List (Chunk C0) := [.row false EC.ent raw, .row false EC.edt l, .box [.ptr 5 0, .slc 6, .slc 7, vU64 S.reads], .row false EC.ent B, .row false EC.ent m, .box [.slc 8, .slc 9, .slc 10, vU S.fresh], .row true EC.node S.nodes, .row true EC.int S.counts, .row true EC.bool S.used, .row true EC.u32 S.gen, .row true EC.u32 S.rel]
def KinD (l : List EdtT) : Prop := ∀ e ∈ l, -9223372036854775808 ≤ e.ent.1 ∧ e.ent.1 ≤ 9223372036854775807
def tBr : Tfm C0 := fun args H K => match args, H with
  | [.at (.slc 0), .at (.val (.int .u64 t)), .at (.slc 1)], [.row false .ent raw, .row false .edt l] => 0 ≤ t ∧ Kin raw ∧ KinD l ∧
    ∀ S x y m, BrR (listE raw 90) m S x y → K (.tup [.at (.ptr 2 0), .at (vU x), .at (vU y), .at (.slc 3), .at (.slc 4), .at (vB true)]) (chBr raw l (listE raw 90) m S) []
  | _, _ => False
end Go.Proofs.Ytbonbaccmlomhaa.Sx
end
section
/- law20: edit, fork, awake; merges where there is room. -/
namespace Go.Proofs.Ytbonbaccmlomhaa.Sx
open Go

/-KEEP EdM Wf Kept exW inU live Arn.cap Arn.free Rep rdS retL Tr.size Tr.list Tr.Bal Asc Kin KinD PlantR listE newS insE outE flt neK getE TrR Got upM Hn iB dB ht min MgM needM confE mergeE BuildR-/
structure EdM (S : Arn) (hs : List Int) (x : Int) (l : List Ent) (ed : List EdtT) (I : Nat) : Prop where
  wf : Wf S hs
  tree : ∃ t, Rep S t x ∧ t.list = l ∧ t.Bal
  asc : Asc l
  kin : Kin l
  kd : KinD ed
  len : l.length ≤ 60
  hl : hs.length ≤ 1000
  rd : S.reads ≤ 1000000
  i4 : 4 * (Hn ((l.length + 9 : Nat) : Int) + 2) ≤ (I : Int)
  i60 : I ≤ 100
  free : ((8 * I : Nat) : Int) ≤ S.free
structure XE1 (P : Nat → Arn → Int → List Ent → Prop) where
  i : Nat
  S : Arn
  y : Int
  m : List Ent
  h : P i S y m
structure XE2 (P : Nat → Arn → Int → Int → List Ent → Prop) where
  i : Nat
  S : Arn
  y : Int
  z : Int
  m : List Ent
  h : P i S y z m
noncomputable def aEd (P1 : Nat → Arn → Int → List Ent → Prop) (P2 : Nat → Arn → Int → Int → List Ent → Prop) (l : List Ent) (ed : List EdtT) : Ann C0 := { rounds := fun n => if n = 4 then 1 else 0, Γ := [(56, frameT [] tRetL), (26, frameT [] tMod), (57, frameT [] tUpDe), (58, frameT [] tDel), (59, frameT [] tUpIn), (60, frameT [] tIns), (25, frameT [] tRel)], inv := fun k => match k with
  | 4 => some { X := XE1 P1, sl := [1, 2, 11], wr := W7, tf := fun x => [vi .u32 x.y, .one (.at (.slc 9)), vi .i64 x.i], hf := fun x => chS x.S ++ [.row false EC.ent l, .row false EC.edm ed, .row true EC.ent x.m], μ := fun x => min ed.length 8 - x.i }
  | 1014 => some { X := XE2 P2, sl := [1, 11, 12, 13, 14], wr := W7, tf := fun x => [vi .u32 x.y, vi .i64 x.i, vi .u32 x.z, vi .i64 0, .one (.at (.slc 9))], hf := fun x => chS x.S ++ [.row false EC.ent l, .row false EC.edm ed, .row true EC.ent x.m], rel := fun T _ x => slotI T 11 x.i }
  | _ => none }
def tEd : Tfm C0 := fun args H K => match args with
  | [.at (.ptr 0 0), .at (.val (.int .u32 x)), .at (.slc 7), .at (.slc 8)] => arMr H fun S rest => match rest with
    | [.row false .ent l, .row false .edm ed] => ∃ hs I, EdM S hs x l ed I ∧
      (ed.length = 0 → ∀ S', TrR S hs l (8 * I) 8000 S' x → K (.tup [.at (vU x), .at (.slc 7), .at (vB true)]) (chS S' ++ [.row false EC.ent l, .row false EC.edm ed]) W7) ∧
      (∀ S' y m, TrR S hs m (8 * I) 8000 S' y → Asc m → Kin m → m.length ≤ l.length + 8 → K (.tup [.at (vU y), .at (.slc 9), .at (vB true)]) (chS S' ++ [.row false EC.ent l, .row false EC.edm ed, .row true EC.ent m]) W7)
    | _ => False
  | _ => False
/-- Three trees of one arena, with their entries. -/
structure FkR (S : Arn) (b o t : Int) (lb lo lt : List Ent) (sp : Int) : Prop where
  h : Hld S [(t, lt), (o, lo), (b, lb)]
  sb : lb.length ≤ 60
  so : lo.length ≤ 68
  st : lt.length ≤ 68
  rd : S.reads ≤ 20000
  free : sp ≤ S.free
  cap : lb.length + sp + 144 ≤ S.cap
structure XF0 (P : Arn → Int → Prop) where
  S : Arn
  b : Int
  h : P S b
structure XF1 (P : Arn → Int → Int → List Ent → Prop) where
  S : Arn
  b : Int
  o : Int
  lo : List Ent
  h : P S b o lo
structure XF2 (P : Arn → Int → Int → Int → List Ent → List Ent → Prop) where
  S : Arn
  b : Int
  o : Int
  t : Int
  lo : List Ent
  lt : List Ent
  h : P S b o t lo lt
abbrev zT : List (Chunk C0) := [.box [.val (.pointer none), vU 0, vU 0, vU 0, .slc 12, .slc 13, .slc 14], .row true EC.ent [], .row true EC.ent [], .row true EC.ent []]
noncomputable def aFk (P0 : Arn → Int → Prop) (P1 : Arn → Int → Int → List Ent → Prop) (P2 : Arn → Int → Int → Int → List Ent → List Ent → Prop) (raw B : List Ent) (e1 e2 : List EdtT) : Ann C0 := { trunc := fun n => n = 17 || n = 20, Γ := [(36, frameT [] tLst), (55, frameT [] (tRes1 4 1)), (54, frameT [] tGrow), (93, frameT [] tEd)], inv := fun k => match k with
  | 1005 => some { X := XF0 P0, sl := [10, 12, 13, 14], tf := fun x => [.one (.at (.ptr 11 0)), .one (.at (.slc 10)), .one (.at (.ptr 3 0)), vi .u32 x.b], hf := fun x => [.row false EC.ent raw, .row false EC.edm e1, .row false EC.edm e2] ++ chSk 3 x.S ++ [.row false EC.ent B] ++ zT }
  | 1006 => some { X := XF1 P1, sl := [10, 12, 13, 14, 16, 17, 18], tf := fun x => [.one (.at (.ptr 11 0)), .one (.at (.slc 10)), .one (.at (.ptr 3 0)), vi .u32 x.b, vi .u32 x.o, .one (.at (.slc 15)), vb true], hf := fun x => [.row false EC.ent raw, .row false EC.edm e1, .row false EC.edm e2] ++ chSk 3 x.S ++ [.row false EC.ent B] ++ zT ++ [.row false EC.ent x.lo] }
  | 1007 => some { X := XF2 P2, sl := [10, 12, 13, 14, 16, 17, 18, 19, 20, 21], tf := fun x => [.one (.at (.ptr 11 0)), .one (.at (.slc 10)), .one (.at (.ptr 3 0)), vi .u32 x.b, vi .u32 x.o, .one (.at (.slc 15)), vb true, vi .u32 x.t, .one (.at (.slc 16)), vb true], hf := fun x => [.row false EC.ent raw, .row false EC.edm e1, .row false EC.edm e2] ++ chSk 3 x.S ++ [.row false EC.ent B] ++ zT ++ [.row false EC.ent x.lo, .row false EC.ent x.lt] }
  | _ => none }
/-- Where there is room, and no conflict is refused. -/
def tMgK : Tfm C0 := fun args H K => match args with
  | [.at (.ptr 0 0), .at (.val (.int .u32 b)), .at (.val (.int .u32 o)), .at (.val (.int .u32 t)), .at (.val (.int .i64 pol))] => arM H fun S => ∃ hs tb to tt, MgM S hs tb to tt b o t ∧ 1 ≤ pol ∧ pol ≤ 4 ∧ needM tb to tt ≤ S.free ∧ (pol = 3 → confE tb.list to.list tt.list = []) ∧
    ∀ S' i c, c = confE tb.list to.list tt.list → TrR S hs (mergeE tb.list to.list tt.list pol) 65537 2000000000 S' i → K (.tup [.at (vU i), .at (.slc 7), .at (vI 0)]) (chS S' ++ [.row true EC.i64 c]) W7
  | _ => False
noncomputable def aAw20 : Ann C0 := { Γ := [(34, frameT [] tNew), (35, frameT [] tBuildOk), (46, frameT [] tMgK), (18, frameT [] tGetT), (49, frameT [] tSize)] }
def tAw20 : Tfm C0 := fun args H K => match args, H with
  | [], [] => K (.one (.at (vB true))) [] []
  | _, _ => False
def PE1 (S0 : Arn) (hs : List Int) (l : List Ent) (n I : Nat) : Nat → Arn → Int → List Ent → Prop := fun i S y m => i ≤ n ∧ Asc m ∧ Kin m ∧ m.length ≤ l.length + i ∧ TrR S0 hs m (i * I) (1000 * i) S y
def PE2 (S0 : Arn) (hs : List Int) (l : List Ent) (n I : Nat) : Nat → Arn → Int → Int → List Ent → Prop := fun i S y z m => i < n ∧ Asc m ∧ Kin m ∧ m.length ≤ l.length + i + 1 ∧ Got S0 hs ((i + 1) * I) (1000 * (i + 1)) S (z :: y :: hs) ∧ ∃ t, Rep S t z ∧ t.list = m ∧ t.Bal
theorem ed_up {S0 S : Arn} {hs : List Int} {x y : Int} {l m : List Ent} {ed : List EdtT} {n I i : Nat} (E : EdM S0 hs x l ed I) (h : PE1 S0 hs l n I i S y m) (hi : i < n) (hn : n ≤ 8) :
    ∃ ty, upM S (y :: hs) ty y ∧ ty.list = m ∧ m.length ≤ 67 ∧ 4 * (Hn ty.size + 2) ≤ S.free ∧ 4 * (Hn ((ty.size : Int) + 1) + 2) ≤ S.free ∧ iB ty.size ≤ I ∧ dB ty.size ≤ I ∧ 5 * iB ty.size + ht ty + 1 ≤ 1000 ∧ 5 * dB ty.size + ht ty + 1 ≤ 1000 := by
  obtain ⟨_, am, km, lm, tr⟩ := h
  obtain ⟨ty, ry, ly, bY⟩ := tr.tree
  have zy : ty.size = m.length := by rw [← ty.list_len, ly]
  have le := E.len
  have f := tr.got.free E.wf
  have q := tr.got.rd
  have rd := E.rd
  have fr := E.free
  have hl := E.hl
  have i4 := E.i4
  have mu : (i + 1) * I ≤ 8 * I := Nat.mul_le_mul_right _ (by omega)
  rw [Nat.succ_mul] at mu
  have h1 := Hn_le (n := ty.size) (m := l.length + 9) (by omega)
  have h2 := Hn_le (n := ty.size + 1) (m := l.length + 9) (by omega)
  have nb := numsB (t := ty) (by omega) bY
  rw [show ((ty.size + 1 : Nat) : Int) = (ty.size : Int) + 1 by omega] at h2
  exact ⟨ty, ⟨tr.got.wf, ry, bY, by rw [ly]; exact am, by omega, by simp; omega, by omega⟩, ly, by omega, by omega, by omega, by omega, by omega, by omega, by omega⟩
theorem ed_step {S0 S S' : Arn} {hs : List Int} {y j : Int} {l m L : List Ent} {n I i a r : Nat} (h : PE1 S0 hs l n I i S y m) (hi : i < n) (tr : TrR S (y :: hs) L a r S' j) (ha : a ≤ I) (hr : r ≤ 1000) (asc : Asc L) (kin : Kin L) (hl : L.length ≤ l.length + i + 1) : PE2 S0 hs l n I i S' y j L := by
  obtain ⟨_, _, _, _, t0⟩ := h
  have g := t0.got.seq tr.got (h := hs) (fun _ h => h) (fun i hi => List.mem_cons_of_mem _ hi)
  exact ⟨hi, asc, kin, hl, g.mono (by rw [Nat.succ_mul]; omega) (by omega), tr.tree⟩
theorem ed_rel {S0 S S' : Arn} {hs : List Int} {y z : Int} {l m : List Ent} {n I i : Nat} (h : PE2 S0 hs l n I i S y z m) (w3 : Wf S' (z :: hs)) (kp : Kept S S') : PE1 S0 hs l n I (i + 1) S' z m := by
  obtain ⟨hi, am, km, lm, g, t, rt, lt, bt⟩ := h
  have w' : Wf S (y :: z :: hs) := g.wf.perm (List.Perm.swap _ _ _)
  have g2 := rel_got w' w3 kp
  have g3 := g.seq g2 (h := hs) (fun _ h => h) (fun i hi => List.mem_cons_of_mem _ hi)
  exact ⟨hi, am, km, by omega, g3.mono (Nat.le_refl _) (Nat.le_refl _), t, rt.held w' g2.stay (.inr (by simp)), lt, bt⟩
theorem vc_ed (S : Arn) (x : Int) (l : List Ent) (ed : List EdtT) (K : KT) (hs : List Int) (I : Nat) (E : EdM S hs x l ed I)
    (h1 : ed.length = 0 → ∀ S', TrR S hs l (8 * I) 8000 S' x → K (.tup [.at (vU x), .at (.slc 7), .at (vB true)]) (chS S' ++ [.row false EC.ent l, .row false EC.edm ed]) W7)
    (h2 : ∀ S' y m, TrR S hs m (8 * I) 8000 S' y → Asc m → Kin m → m.length ≤ l.length + 8 → K (.tup [.at (vU y), .at (.slc 9), .at (vB true)]) (chS S' ++ [.row false EC.ent l, .row false EC.edm ed, .row true EC.ent m]) W7) :
    vc C0 (aEd (PE1 S hs l (min ed.length 8) I) (PE2 S hs l (min ed.length 8) I) l ed) Try.f93 [.at (.ptr 0 0), .at (vU x), .at (.slc 7), .at (.slc 8)] (chS S ++ [.row false EC.ent l, .row false EC.edm ed]) (normK 9 (wideK W7 K)) := by
  generalize hP1 : PE1 S hs l (min ed.length 8) I = P1
  generalize hP2 : PE2 S hs l (min ed.length 8) I = P2
  refine Eq.mp (show ((live S x) ∧
(exW S) ∧
(∀ S' : Arn, (((S') = (retL S x)) → (brS (decide (0 < (↑ed.length : Int))) (((((0 : Int) ≤ 0) ∧ (0 < (↑ed.length : Int)) ∧ (brS ((ed.getD (Int.toNat 0) { del := false, at_ := 0, ent := (0, 0) : EdtT }).del) ((brS (decide ((↑l.length : Int) > 0)) ((((0 : Int) ≤ 0) ∧ (0 < (↑ed.length : Int)) ∧ (0 < (↑l.length : Int)) ∧ ((↑l.length : Int) ≤ 9223372036854775807) ∧ (∀ x1 : Int, (((x1) = ((ed.getD (Int.toNat 0) { del := false, at_ := 0, ent := (0, 0) : EdtT }).at_ % (↑l.length : Int))) → ((0 ≤ x1) ∧ (x1 < (↑l.length : Int)) ∧ (∃ hs : List Int, (∃ t : Tr, (∃ v : Int, ((upM S' hs t x) ∧ ((getE t.list (l.getD x1.toNat (0, 0)).fst) = (some (v))) ∧ (4 * (Hn (↑t.size : Int) + 2) ≤ S'.free) ∧ (∀ S'1 : Arn, (∀ j : Int, ((TrR S' hs (flt (neK (l.getD x1.toNat (0, 0)).fst) t.list) (dB t.size) (5 * dB t.size + ht t + 1) S'1 j) → ((l.length ≤ 1000000) ∧ (∃ x2 : XE2 P2, ((0 = ((↑x2.i : Int))) ∧ (True ∧ ((Value.int IntKind.u32 (x)) = (Value.int IntKind.u32 (x2.y))) ∧ True ∧ ((Value.int IntKind.i64 0) = (Value.int IntKind.i64 ((↑x2.i : Int)))) ∧ ((Value.int IntKind.u32 (j)) = (Value.int IntKind.u32 (x2.z))) ∧ ((Value.int IntKind.i64 0) = (Value.int IntKind.i64 0)) ∧ True ∧ True) ∧ (True ∧ True ∧ True ∧ ((Value.int IntKind.u64 (S'1.reads)) = (Value.int IntKind.u64 (x2.S.reads))) ∧ True) ∧ (True ∧ True ∧ True ∧ ((Value.int IntKind.u32 (S'1.fresh)) = (Value.int IntKind.u32 (x2.S.fresh))) ∧ True) ∧ ((S'1.nodes) = (x2.S.nodes)) ∧ ((S'1.counts) = (x2.S.counts)) ∧
    ((S'1.used) = (x2.S.used)) ∧ ((S'1.gen) = (x2.S.gen)) ∧ ((S'1.rel) = (x2.S.rel)) ∧ ((l) = (l)) ∧ ((ed) = (ed)) ∧ ((outE l (l.getD x1.toNat (0, 0)).fst (l.getD x1.toNat (0, 0)).fst) = (x2.m)) ∧ True))))))))))))))) ((((0 : Int) ≤ 0) ∧ (0 < (↑ed.length : Int)) ∧ (∃ hs : List Int, (∃ t : Tr, ((upM S' hs t x) ∧ (4 * (Hn ((↑t.size : Int) + 1) + 2) ≤ S'.free) ∧ (∀ S'1 : Arn, (∀ j : Int, (∀ o : Option Int, (((o) = (getE t.list (ed.getD (Int.toNat 0) { del := false, at_ := 0, ent := (0, 0) : EdtT }).ent.fst)) → ((TrR S' hs (insE t.list (ed.getD (Int.toNat 0) { del := false, at_ := 0, ent := (0, 0) : EdtT }).ent) (iB t.size) (5 * iB t.size + ht t + 1) S'1 j) → (((0 : Int) ≤ 0) ∧ (0 < (↑ed.length : Int)) ∧ (l.length ≤ 1000000) ∧ (∃ x1 : XE2 P2, ((0 = ((↑x1.i : Int))) ∧ (True ∧ ((Value.int IntKind.u32 (x)) = (Value.int IntKind.u32 (x1.y))) ∧ True ∧ ((Value.int IntKind.i64 0) = (Value.int IntKind.i64 ((↑x1.i : Int)))) ∧ ((Value.int IntKind.u32 (j)) = (Value.int IntKind.u32 (x1.z))) ∧ ((Value.int IntKind.i64 0) = (Value.int IntKind.i64 0)) ∧ True ∧ True) ∧ (True ∧ True ∧ True ∧ ((Value.int IntKind.u64 (S'1.reads)) = (Value.int IntKind.u64 (x1.S.reads))) ∧ True) ∧ (True ∧ True ∧ True ∧ ((Value.int IntKind.u32 (S'1.fresh)) = (Value.int IntKind.u32 (x1.S.fresh))) ∧ True) ∧ ((S'1.nodes) = (x1.S.nodes)) ∧ ((S'1.counts) = (x1.S.counts)) ∧ ((S'1.used) = (x1.S.used)) ∧ ((S'1.gen) = (x1.S.gen)) ∧ ((S'1.rel) = (x1.S.rel)) ∧ ((l) = (l)) ∧ ((ed) = (ed)) ∧
    ((insE l (ed.getD (Int.toNat 0) { del := false, at_ := 0, ent := (0, 0) : EdtT }).ent) = (x1.m)) ∧ True))))))))))))))) ((((0 : Int) ≤ 0) ∧ (0 < (↑ed.length : Int)) ∧ (∃ hs : List Int, (∃ t : Tr, ((upM S' hs t x) ∧ (4 * (Hn ((↑t.size : Int) + 1) + 2) ≤ S'.free) ∧ (∀ S'1 : Arn, (∀ j : Int, (∀ o : Option Int, (((o) = (getE t.list (ed.getD (Int.toNat 0) { del := false, at_ := 0, ent := (0, 0) : EdtT }).ent.fst)) → ((TrR S' hs (insE t.list (ed.getD (Int.toNat 0) { del := false, at_ := 0, ent := (0, 0) : EdtT }).ent) (iB t.size) (5 * iB t.size + ht t + 1) S'1 j) → (((0 : Int) ≤ 0) ∧ (0 < (↑ed.length : Int)) ∧ (l.length ≤ 1000000) ∧ (∃ x1 : XE2 P2, ((0 = ((↑x1.i : Int))) ∧ (True ∧ ((Value.int IntKind.u32 (x)) = (Value.int IntKind.u32 (x1.y))) ∧ True ∧ ((Value.int IntKind.i64 0) = (Value.int IntKind.i64 ((↑x1.i : Int)))) ∧ ((Value.int IntKind.u32 (j)) = (Value.int IntKind.u32 (x1.z))) ∧ ((Value.int IntKind.i64 0) = (Value.int IntKind.i64 0)) ∧ True ∧ True) ∧ (True ∧ True ∧ True ∧ ((Value.int IntKind.u64 (S'1.reads)) = (Value.int IntKind.u64 (x1.S.reads))) ∧ True) ∧ (True ∧ True ∧ True ∧ ((Value.int IntKind.u32 (S'1.fresh)) = (Value.int IntKind.u32 (x1.S.fresh))) ∧ True) ∧ ((S'1.nodes) = (x1.S.nodes)) ∧ ((S'1.counts) = (x1.S.counts)) ∧ ((S'1.used) = (x1.S.used)) ∧ ((S'1.gen) = (x1.S.gen)) ∧ ((S'1.rel) = (x1.S.rel)) ∧ ((l) = (l)) ∧ ((ed) = (ed)) ∧ ((insE l (ed.getD (Int.toNat 0) { del := false, at_ := 0, ent := (0, 0) : EdtT }).ent) = (x1.m)) ∧ True))))))))))))))) ∧ (∀ x1 : XE2 P2,
    ((0 = ((↑x1.i : Int))) → (∃ hs : List Int, ((Wf x1.S (x1.y :: hs)) ∧ (∀ S'1 : Arn, (∀ fr : Int, ((Wf S'1 hs) → ((Kept x1.S S'1) → ((∃ x2 : XE1 P1, (True ∧ (True ∧ ((Value.int IntKind.u32 (x1.z)) = (Value.int IntKind.u32 (x2.y))) ∧ True ∧ True ∧ ((Value.int IntKind.i64 (IntKind.i64.wrap ((↑x1.i : Int) + 1))) = (Value.int IntKind.i64 ((↑x2.i : Int)))) ∧ True) ∧ (True ∧ True ∧ True ∧ ((Value.int IntKind.u64 (S'1.reads)) = (Value.int IntKind.u64 (x2.S.reads))) ∧ True) ∧ (True ∧ True ∧ True ∧ ((Value.int IntKind.u32 (S'1.fresh)) = (Value.int IntKind.u32 (x2.S.fresh))) ∧ True) ∧ ((S'1.nodes) = (x2.S.nodes)) ∧ ((S'1.counts) = (x2.S.counts)) ∧ ((S'1.used) = (x2.S.used)) ∧ ((S'1.gen) = (x2.S.gen)) ∧ ((S'1.rel) = (x2.S.rel)) ∧ ((l) = (l)) ∧ ((ed) = (ed)) ∧ ((x1.m) = (x2.m)) ∧ True)) ∧ (∀ x2 : XE1 P1, (True → (brS (decide ((↑x2.i : Int) < (↑ed.length : Int))) ((brS (decide ((↑x2.i : Int) < 8)) ((((0 ≤ (↑x2.i : Int)) ∧ ((↑x2.i : Int) < (↑ed.length : Int)) ∧ (brS ((ed.getD (↑x2.i : Int).toNat { del := false, at_ := 0, ent := (0, 0) : EdtT }).del) ((brS (decide ((↑x2.m.length : Int) > 0)) (((0 ≤ (↑x2.i : Int)) ∧ ((↑x2.i : Int) < (↑ed.length : Int)) ∧ (0 < (↑x2.m.length : Int)) ∧ ((↑x2.m.length : Int) ≤ 9223372036854775807) ∧ (∀ x3 : Int, (((x3) = ((ed.getD (↑x2.i : Int).toNat { del := false, at_ := 0, ent := (0, 0) : EdtT }).at_ % (↑x2.m.length : Int))) → ((0 ≤ x3) ∧ (x3 < (↑x2.m.length : Int)) ∧ (∃ hs1 : List Int, (∃ t : Tr, (∃ v : Int, ((upM x2.S hs1 t x2.y) ∧
    ((getE t.list (x2.m.getD x3.toNat (0, 0)).fst) = (some (v))) ∧ (4 * (Hn (↑t.size : Int) + 2) ≤ x2.S.free) ∧ (∀ S'2 : Arn, (∀ j : Int, ((TrR x2.S hs1 (flt (neK (x2.m.getD x3.toNat (0, 0)).fst) t.list) (dB t.size) (5 * dB t.size + ht t + 1) S'2 j) → ((x2.m.length ≤ 1000000) ∧ (∃ x4 : XE2 P2, ((((↑x2.i : Int)) = ((↑x4.i : Int))) ∧ (True ∧ ((Value.int IntKind.u32 (x2.y)) = (Value.int IntKind.u32 (x4.y))) ∧ True ∧ ((Value.int IntKind.i64 ((↑x2.i : Int))) = (Value.int IntKind.i64 ((↑x4.i : Int)))) ∧ ((Value.int IntKind.u32 (j)) = (Value.int IntKind.u32 (x4.z))) ∧ ((Value.int IntKind.i64 0) = (Value.int IntKind.i64 0)) ∧ True ∧ True) ∧ (True ∧ True ∧ True ∧ ((Value.int IntKind.u64 (S'2.reads)) = (Value.int IntKind.u64 (x4.S.reads))) ∧ True) ∧ (True ∧ True ∧ True ∧ ((Value.int IntKind.u32 (S'2.fresh)) = (Value.int IntKind.u32 (x4.S.fresh))) ∧ True) ∧ ((S'2.nodes) = (x4.S.nodes)) ∧ ((S'2.counts) = (x4.S.counts)) ∧ ((S'2.used) = (x4.S.used)) ∧ ((S'2.gen) = (x4.S.gen)) ∧ ((S'2.rel) = (x4.S.rel)) ∧ ((l) = (l)) ∧ ((ed) = (ed)) ∧ ((outE x2.m (x2.m.getD x3.toNat (0, 0)).fst (x2.m.getD x3.toNat (0, 0)).fst) = (x4.m)) ∧ True))))))))))))))) (((0 ≤ (↑x2.i : Int)) ∧ ((↑x2.i : Int) < (↑ed.length : Int)) ∧ (∃ hs1 : List Int, (∃ t : Tr, ((upM x2.S hs1 t x2.y) ∧ (4 * (Hn ((↑t.size : Int) + 1) + 2) ≤ x2.S.free) ∧ (∀ S'2 : Arn, (∀ j : Int, (∀ o : Option Int, (((o) = (getE t.list (ed.getD (↑x2.i : Int).toNat { del := false, at_ := 0, ent := (0, 0) : EdtT }).ent.fst)) →
    ((TrR x2.S hs1 (insE t.list (ed.getD (↑x2.i : Int).toNat { del := false, at_ := 0, ent := (0, 0) : EdtT }).ent) (iB t.size) (5 * iB t.size + ht t + 1) S'2 j) → ((0 ≤ (↑x2.i : Int)) ∧ ((↑x2.i : Int) < (↑ed.length : Int)) ∧ (x2.m.length ≤ 1000000) ∧ (∃ x3 : XE2 P2, ((((↑x2.i : Int)) = ((↑x3.i : Int))) ∧ (True ∧ ((Value.int IntKind.u32 (x2.y)) = (Value.int IntKind.u32 (x3.y))) ∧ True ∧ ((Value.int IntKind.i64 ((↑x2.i : Int))) = (Value.int IntKind.i64 ((↑x3.i : Int)))) ∧ ((Value.int IntKind.u32 (j)) = (Value.int IntKind.u32 (x3.z))) ∧ ((Value.int IntKind.i64 0) = (Value.int IntKind.i64 0)) ∧ True ∧ True) ∧ (True ∧ True ∧ True ∧ ((Value.int IntKind.u64 (S'2.reads)) = (Value.int IntKind.u64 (x3.S.reads))) ∧ True) ∧ (True ∧ True ∧ True ∧ ((Value.int IntKind.u32 (S'2.fresh)) = (Value.int IntKind.u32 (x3.S.fresh))) ∧ True) ∧ ((S'2.nodes) = (x3.S.nodes)) ∧ ((S'2.counts) = (x3.S.counts)) ∧ ((S'2.used) = (x3.S.used)) ∧ ((S'2.gen) = (x3.S.gen)) ∧ ((S'2.rel) = (x3.S.rel)) ∧ ((l) = (l)) ∧ ((ed) = (ed)) ∧ ((insE x2.m (ed.getD (↑x2.i : Int).toNat { del := false, at_ := 0, ent := (0, 0) : EdtT }).ent) = (x3.m)) ∧ True))))))))))))))) (((0 ≤ (↑x2.i : Int)) ∧ ((↑x2.i : Int) < (↑ed.length : Int)) ∧ (∃ hs1 : List Int, (∃ t : Tr, ((upM x2.S hs1 t x2.y) ∧ (4 * (Hn ((↑t.size : Int) + 1) + 2) ≤ x2.S.free) ∧ (∀ S'2 : Arn, (∀ j : Int, (∀ o : Option Int, (((o) = (getE t.list (ed.getD (↑x2.i : Int).toNat { del := false, at_ := 0, ent := (0, 0) : EdtT }).ent.fst)) →
    ((TrR x2.S hs1 (insE t.list (ed.getD (↑x2.i : Int).toNat { del := false, at_ := 0, ent := (0, 0) : EdtT }).ent) (iB t.size) (5 * iB t.size + ht t + 1) S'2 j) → ((0 ≤ (↑x2.i : Int)) ∧ ((↑x2.i : Int) < (↑ed.length : Int)) ∧ (x2.m.length ≤ 1000000) ∧ (∃ x3 : XE2 P2, ((((↑x2.i : Int)) = ((↑x3.i : Int))) ∧ (True ∧ ((Value.int IntKind.u32 (x2.y)) = (Value.int IntKind.u32 (x3.y))) ∧ True ∧ ((Value.int IntKind.i64 ((↑x2.i : Int))) = (Value.int IntKind.i64 ((↑x3.i : Int)))) ∧ ((Value.int IntKind.u32 (j)) = (Value.int IntKind.u32 (x3.z))) ∧ ((Value.int IntKind.i64 0) = (Value.int IntKind.i64 0)) ∧ True ∧ True) ∧ (True ∧ True ∧ True ∧ ((Value.int IntKind.u64 (S'2.reads)) = (Value.int IntKind.u64 (x3.S.reads))) ∧ True) ∧ (True ∧ True ∧ True ∧ ((Value.int IntKind.u32 (S'2.fresh)) = (Value.int IntKind.u32 (x3.S.fresh))) ∧ True) ∧ ((S'2.nodes) = (x3.S.nodes)) ∧ ((S'2.counts) = (x3.S.counts)) ∧ ((S'2.used) = (x3.S.used)) ∧ ((S'2.gen) = (x3.S.gen)) ∧ ((S'2.rel) = (x3.S.rel)) ∧ ((l) = (l)) ∧ ((ed) = (ed)) ∧ ((insE x2.m (ed.getD (↑x2.i : Int).toNat { del := false, at_ := 0, ent := (0, 0) : EdtT }).ent) = (x3.m)) ∧ True))))))))))))))) ∧ (∀ x3 : XE2 P2, ((((↑x2.i : Int)) = ((↑x3.i : Int))) → (∃ hs1 : List Int, ((Wf x3.S (x3.y :: hs1)) ∧ (∀ S'2 : Arn, (∀ fr1 : Int, ((Wf S'2 hs1) → ((Kept x3.S S'2) → (∃ x' : XE1 P1, (True ∧ ((True ∧ ((Value.int IntKind.u32 (x3.z)) = (Value.int IntKind.u32 (x'.y))) ∧ True ∧ True ∧
    ((Value.int IntKind.i64 (IntKind.i64.wrap ((↑x3.i : Int) + 1))) = (Value.int IntKind.i64 ((↑x'.i : Int)))) ∧ True) ∧ (True ∧ True ∧ True ∧ ((Value.int IntKind.u64 (S'2.reads)) = (Value.int IntKind.u64 (x'.S.reads))) ∧ True) ∧ (True ∧ True ∧ True ∧ ((Value.int IntKind.u32 (S'2.fresh)) = (Value.int IntKind.u32 (x'.S.fresh))) ∧ True) ∧ ((S'2.nodes) = (x'.S.nodes)) ∧ ((S'2.counts) = (x'.S.counts)) ∧ ((S'2.used) = (x'.S.used)) ∧ ((S'2.gen) = (x'.S.gen)) ∧ ((S'2.rel) = (x'.S.rel)) ∧ ((l) = (l)) ∧ ((ed) = (ed)) ∧ ((x3.m) = (x'.m)) ∧ True) ∧ (min ed.length 8 - x'.i < min ed.length 8 - x2.i))))))))))))) ((K (SV.tup [(TV.at (At.val (Value.int IntKind.u32 (x2.y)))), (TV.at (At.slc 9)), (TV.at (At.val (Value.bool true)))]) [(Chunk.box [(At.ptr 1 0), (At.slc 2), (At.slc 3), (At.val (Value.int IntKind.u64 (x2.S.reads)))]), (Chunk.box [(At.slc 4), (At.slc 5), (At.slc 6), (At.val (Value.int IntKind.u32 (x2.S.fresh)))]), (Chunk.row true (EC.node) (x2.S.nodes)), (Chunk.row true (EC.int) (x2.S.counts)), (Chunk.row true (EC.bool) (x2.S.used)), (Chunk.row true (EC.u32) (x2.S.gen)), (Chunk.row true (EC.u32) (x2.S.rel)), (Chunk.row false (EC.ent) (l)), (Chunk.row false (EC.edm) (ed)), (Chunk.row true (EC.ent) (x2.m))] [0, 1, 2, 3, 4, 5, 6]))))
    ((K (SV.tup [(TV.at (At.val (Value.int IntKind.u32 (x2.y)))), (TV.at (At.slc 9)), (TV.at (At.val (Value.bool true)))]) [(Chunk.box [(At.ptr 1 0), (At.slc 2), (At.slc 3), (At.val (Value.int IntKind.u64 (x2.S.reads)))]), (Chunk.box [(At.slc 4), (At.slc 5), (At.slc 6), (At.val (Value.int IntKind.u32 (x2.S.fresh)))]), (Chunk.row true (EC.node) (x2.S.nodes)), (Chunk.row true (EC.int) (x2.S.counts)), (Chunk.row true (EC.bool) (x2.S.used)), (Chunk.row true (EC.u32) (x2.S.gen)), (Chunk.row true (EC.u32) (x2.S.rel)), (Chunk.row false (EC.ent) (l)), (Chunk.row false (EC.edm) (ed)), (Chunk.row true (EC.ent) (x2.m))] [0, 1, 2, 3, 4, 5, 6])))))))))))))))) ((K (SV.tup [(TV.at (At.val (Value.int IntKind.u32 (x)))), (TV.at (At.slc 7)), (TV.at (At.val (Value.bool true)))]) [(Chunk.box [(At.ptr 1 0), (At.slc 2), (At.slc 3), (At.val (Value.int IntKind.u64 (S'.reads)))]), (Chunk.box [(At.slc 4), (At.slc 5), (At.slc 6), (At.val (Value.int IntKind.u32 (S'.fresh)))]), (Chunk.row true (EC.node) (S'.nodes)), (Chunk.row true (EC.int) (S'.counts)), (Chunk.row true (EC.bool) (S'.used)), (Chunk.row true (EC.u32) (S'.gen)), (Chunk.row true (EC.u32) (S'.rel)), (Chunk.row false (EC.ent) (l)), (Chunk.row false (EC.edm) (ed))] [0, 1, 2, 3, 4, 5, 6])))))) = _ by kernel_rfl) ?_
  subst hP1 hP2
  obtain ⟨tx, rx, lx, bx⟩ := E.tree
  have hl := E.hl
  refine ⟨rx.us, ⟨_, E.wf⟩, fun S1 e1 => ?_⟩
  have t0 : TrR S hs l 0 0 S1 x := by rw [e1]; exact ⟨retL_got E.wf rx.us (by omega), tx, rx.retL, lx, bx⟩
  clear e1
  have mx : ∀ i, i ≤ 8 → i * I ≤ 8 * I := fun i hi => Nat.mul_le_mul_right _ hi
  have hn8 : min ed.length 8 ≤ 8 := Nat.min_le_right _ _
  have hnl : min ed.length 8 ≤ ed.length := Nat.min_le_left _ _
  have hnx : ∀ i : Nat, i < ed.length → i < 8 → i < min ed.length 8 := fun i a b => by omega
  generalize min ed.length 8 = n at *
  have hm1 : PE1 S hs l n I 0 S1 x l := ⟨Nat.zero_le _, E.asc, E.kin, by omega, t0.mono (by omega) (by omega)⟩
  refine brS_of (fun c => ⟨⟨by decide, by have := of_decide_eq_true c; omega, ?_⟩, fun x2 q => ?_⟩) fun c => h1 (by have := of_decide_eq_false c; omega) S1 (t0.mono (by omega) (by omega))
  · have c : 0 < ed.length := by have := of_decide_eq_true c; omega
    have c := hnx 0 c (by omega)
    obtain ⟨ty, up, ly, l67, f1, f2, b1, b2, b3, b4⟩ := ed_up E hm1 c hn8
    have am := E.asc
    have km := E.kin
    have hit : Int.toNat 0 = 0 := rfl
    rw [hit]
    have hmem : ed.getD 0 { del := false, at_ := 0, ent := (0, 0) } ∈ ed := by
      rw [List.getD_eq_getElem?_getD, List.getElem?_eq_getElem (by omega)]; exact List.getElem_mem _
    have hen := E.kd _ hmem
    generalize ed.getD 0 { del := false, at_ := 0, ent := (0, 0) } = en at *
    have il := insE_len l en.ent
    refine brS_of (fun d => brS_of (fun g => ?_) fun g => ?_) fun d => ?_
    · have g : 0 < l.length := by have := of_decide_eq_true g; omega
      refine ⟨by omega, by omega, by omega, by omega, fun z ez => ?_⟩
      obtain ⟨z0, z1⟩ := mod_rng (by omega) ez
      have hz : l.getD z.toNat (0, 0) ∈ l := by
        rw [List.getD_eq_getElem?_getD, List.getElem?_eq_getElem (by omega)]; exact List.getElem_mem _
      have fl := flt_len (p := neK (l.getD z.toNat (0, 0)).fst) (l := l)
      refine ⟨z0, z1, _, ty, (l.getD z.toNat (0, 0)).snd, up, by rw [ly, getE_fnd, am.fnd_self hz]; rfl, f1, fun S2 j tr => ⟨by omega, ⟨0, S2, x, j, outE l (l.getD z.toNat (0, 0)).fst (l.getD z.toNat (0, 0)).fst, ?_⟩, ?_⟩⟩
      · rw [ly] at tr
        rw [outE_flt]
        exact ed_step hm1 c tr (by omega) (by omega) (flt_asc am) (kin_flt km) (by omega)
      · (repeat' first | exact trivial | exact rfl | refine And.intro ?_ ?_)
    all_goals
      refine ⟨by omega, by omega, _, ty, up, f2, fun S2 j o eo tr => ⟨by omega, by omega, by omega, ⟨0, S2, x, j, insE l en.ent, ?_⟩, ?_⟩⟩
      · rw [ly] at tr
        exact ed_step hm1 c tr (by omega) (by omega) (insE_asc _ am) (kin_ins am km hen) (by omega)
      · (repeat' first | exact trivial | exact rfl | refine And.intro ?_ ?_)
  · have c : 0 < ed.length := by have := of_decide_eq_true c; omega
    obtain ⟨i2, S2, y, z, m, hi2, am, km, lm, g, tz⟩ := x2
    have q : (0 : Int) = i2 := q
    obtain rfl : 0 = i2 := by omega
    dsimp only
    have w' : Wf S2 (y :: z :: hs) := g.wf.perm (List.Perm.swap _ _ _)
    refine ⟨_, w', fun S3 _ w3 kp => ⟨⟨⟨1, S3, z, m, ed_rel ⟨hi2, am, km, lm, g, tz⟩ w3 kp⟩, ?_⟩, fun x3 _ => ?_⟩⟩
    · (repeat' first | exact trivial | exact rfl | refine And.intro ?_ ?_)
    obtain ⟨i, S1, y, m, hm1⟩ := x3
    dsimp only
    obtain ⟨hin, am, km, lm, t0⟩ := id hm1
    have fin : n ≤ i → K (.tup [.at (vU y), .at (.slc 9), .at (vB true)]) (chS S1 ++ [.row false EC.ent l, .row false EC.edm ed, .row true EC.ent m]) W7 := fun e => by
      have m8 := mx i (by omega)
      exact h2 S1 y m (t0.mono m8 (by omega)) am km (by omega)
    refine brS_of (fun c => brS_of (fun c8 => ⟨⟨by omega, by have := of_decide_eq_true c; omega, ?_⟩, fun x4 q => ?_⟩) fun c8 => fin (by have := of_decide_eq_false c8; omega)) fun c => fin (by have := of_decide_eq_false c; omega)
    · have cl : i < ed.length := by have := of_decide_eq_true c; omega
      have c8 : i < 8 := by have := of_decide_eq_true c8; omega
      have c := hnx i cl c8
      obtain ⟨ty, up, ly, l67, f1, f2, b1, b2, b3, b4⟩ := ed_up E hm1 c hn8
      have hit : (i : Int).toNat = i := rfl
      rw [hit]
      have hmem : ed.getD i { del := false, at_ := 0, ent := (0, 0) } ∈ ed := by
        rw [List.getD_eq_getElem?_getD, List.getElem?_eq_getElem (by omega)]; exact List.getElem_mem _
      have hen := E.kd _ hmem
      generalize ed.getD i { del := false, at_ := 0, ent := (0, 0) } = en at *
      have il := insE_len m en.ent
      refine brS_of (fun d => brS_of (fun g => ?_) fun g => ?_) fun d => ?_
      · have g : 0 < m.length := by have := of_decide_eq_true g; omega
        refine ⟨by omega, by omega, by omega, by omega, fun z ez => ?_⟩
        obtain ⟨z0, z1⟩ := mod_rng (by omega) ez
        have hz : m.getD z.toNat (0, 0) ∈ m := by
          rw [List.getD_eq_getElem?_getD, List.getElem?_eq_getElem (by omega)]; exact List.getElem_mem _
        have fl := flt_len (p := neK (m.getD z.toNat (0, 0)).fst) (l := m)
        refine ⟨z0, z1, _, ty, (m.getD z.toNat (0, 0)).snd, up, by rw [ly, getE_fnd, am.fnd_self hz]; rfl, f1, fun S2 j tr => ⟨by omega, ⟨i, S2, y, j, outE m (m.getD z.toNat (0, 0)).fst (m.getD z.toNat (0, 0)).fst, ?_⟩, ?_⟩⟩
        · rw [ly] at tr
          rw [outE_flt]
          exact ed_step hm1 c tr (by omega) (by omega) (flt_asc am) (kin_flt km) (by omega)
        · (repeat' first | exact trivial | exact rfl | refine And.intro ?_ ?_)
      all_goals
        refine ⟨by omega, by omega, _, ty, up, f2, fun S2 j o eo tr => ⟨by omega, by omega, by omega, ⟨i, S2, y, j, insE m en.ent, ?_⟩, ?_⟩⟩
        · rw [ly] at tr
          exact ed_step hm1 c tr (by omega) (by omega) (insE_asc _ am) (kin_ins am km hen) (by omega)
        · (repeat' first | exact trivial | exact rfl | refine And.intro ?_ ?_)
    · have cl : i < ed.length := by have := of_decide_eq_true c; omega
      have c8 : i < 8 := by have := of_decide_eq_true c8; omega
      have c := hnx i cl c8
      obtain ⟨i2, S2, y, z, m, hi2, am, km, lm, g, tz⟩ := x4
      have q : (i : Int) = i2 := q
      obtain rfl : i = i2 := by omega
      dsimp only
      have w' : Wf S2 (y :: z :: hs) := g.wf.perm (List.Perm.swap _ _ _)
      refine ⟨_, w', fun S3 _ w3 kp => ⟨⟨i + 1, S3, z, m, ed_rel ⟨hi2, am, km, lm, g, tz⟩ w3 kp⟩, trivial, ?_, by show n - (i + 1) < n - i; omega⟩⟩
      (repeat' first | exact trivial | exact rfl | refine And.intro ?_ ?_)
      exact congrArg (Value.int .i64) (show IntKind.i64.wrap ((i : Int) + 1) = ((i + 1 : Nat) : Int) by rw [wrap_id (by omega) (by omega)]; omega)
theorem s_ed : SoundT C0 93 tEd := by
  refine .ofW W7 Try.func93 (by decide) rfl fun args H K h hB => ?_
  unfold tEd at h
  split at h <;> try exact h.elim
  unfold arMr at h
  split at h <;> try exact h.elim
  split at h <;> try exact h.elim
  rename_i x _ rd fr nd ct us gn rl _ l ed
  obtain ⟨hs, I, h1, h2, h3⟩ := h
  exact ⟨aEd (PE1 ⟨us, gn, rl, fr, nd, ct, rd⟩ hs l (min ed.length 8) I) (PE2 ⟨us, gn, rl, fr, nd, ct, rd⟩ hs l (min ed.length 8) I) l ed, ⟨frame C0.ok s_retL _, frame C0.ok s_mod _, frame C0.ok s_upDe _, frame C0.ok s_del _, frame C0.ok s_upIn _, frame C0.ok s_ins _, frame C0.ok s_rel _, trivial⟩, vc_ed ⟨us, gn, rl, fr, nd, ct, rd⟩ x l ed K hs I h1 h2 h3⟩
abbrev chFk (raw : List Ent) (e1 e2 : List EdtT) (lb lo lt : List Ent) (S : Arn) : List (Chunk C0) := [.row false EC.ent raw, .row false EC.edm e1, .row false EC.edm e2, .box [.ptr 7 0, .slc 8, .slc 9, vU64 S.reads], .row false EC.ent lb, .row false EC.ent lo, .row false EC.ent lt, .box [.slc 10, .slc 11, .slc 12, vU S.fresh], .row true EC.node S.nodes, .row true EC.int S.counts, .row true EC.bool S.used, .row true EC.u32 S.gen, .row true EC.u32 S.rel]
def tFk : Tfm C0 := fun args H K => match args, H with
  | [.at (.slc 0), .at (.val (.int .u64 t)), .at (.slc 1), .at (.slc 2), .at (.val (.int .i64 sp))], [.row false .ent raw, .row false .edm e1, .row false .edm e2] => 0 ≤ t ∧ 0 ≤ sp ∧ sp ≤ 20000 ∧ Kin raw ∧ KinD e1 ∧ KinD e2 ∧
    ∀ S b o t lo lt, FkR S b o t (listE raw 60) lo lt sp → K (.tup [.agg [.ptr 3 0, vU b, vU o, vU t, .slc 4, .slc 5, .slc 6], .at (vB true)]) (chFk raw e1 e2 (listE raw 60) lo lt S) []
  | _, _ => False
def PF0 (B : List Ent) (I : Nat) (sp : Int) : Arn → Int → Prop := fun S b => Hld S [(b, B)] ∧ S.reads = 0 ∧ (18 * I : Nat) + sp ≤ S.free ∧ B.length + (18 * I : Nat) + sp ≤ S.cap
def PF1 (B : List Ent) (I : Nat) (sp : Int) : Arn → Int → Int → List Ent → Prop := fun S b o lo => Hld S [(o, lo), (b, B)] ∧ lo.length ≤ 68 ∧ S.reads ≤ 8000 ∧ (10 * I : Nat) + sp ≤ S.free ∧ B.length + (18 * I : Nat) + sp ≤ S.cap
def PF2 (B : List Ent) (sp : Int) : Arn → Int → Int → Int → List Ent → List Ent → Prop := fun S b o t lo lt => FkR S b o t B lo lt sp
theorem fk_ed {S : Arn} {E : List (Int × List Ent)} {b : Int} {B : List Ent} {ed : List EdtT} {I : Nat} (h : Hld S E) (hb : (b, B) ∈ E) (hE : E.length ≤ 100) (kd : KinD ed) (lb : B.length ≤ 60) (rd : S.reads ≤ 1000000) (i4 : (I : Int) = 4 * (Hn ((B.length + 9 : Nat) : Int) + 2)) (fr : ((8 * I : Nat) : Int) ≤ S.free) : EdM S (E.map Prod.fst) b B ed I := by
  have h13 := Hn_104 (n := B.length + 9) (by omega)
  exact ⟨h.wf, h.rep _ hb, h.asc _ hb, h.kin _ hb, kd, lb, by simp; omega, rd, by omega, by omega, fr⟩
theorem vc_fk (raw : List Ent) (e1 e2 : List EdtT) (t sp : Int) (K : KT) (h0 : 0 ≤ t) (s0 : 0 ≤ sp) (s1 : sp ≤ 20000) (hk : Kin raw) (k1 : KinD e1) (k2 : KinD e2)
    (h : ∀ S b o t lo lt, FkR S b o t (listE raw 60) lo lt sp → K (.tup [.agg [.ptr 3 0, vU b, vU o, vU t, .slc 4, .slc 5, .slc 6], .at (vB true)]) (chFk raw e1 e2 (listE raw 60) lo lt S) []) :
    vc C0 (aFk (PF0 (listE raw 60) (4 * (Hn (((listE raw 60).length + 9 : Nat) : Int) + 2)).toNat sp) (PF1 (listE raw 60) (4 * (Hn (((listE raw 60).length + 9 : Nat) : Int) + 2)).toNat sp) (PF2 (listE raw 60) sp) raw (listE raw 60) e1 e2) Try.f44 [.at (.slc 0), .at (vU64 t), .at (.slc 1), .at (.slc 2), .at (vI sp)] [.row false EC.ent raw, .row false EC.edm e1, .row false EC.edm e2] (normK 3 K) := by
  obtain ⟨la, ll⟩ := listE_spec raw 60
  have kB : Kin (listE raw 60) := fun x hx => hk x (listE_sub raw 60 x hx)
  have h13 := Hn_104 (n := (listE raw 60).length + 9) (by omega)
  have hr := Hn_rng (((listE raw 60).length + 9 : Nat) : Int)
  generalize hI : (4 * (Hn (((listE raw 60).length + 9 : Nat) : Int) + 2)).toNat = I
  have hII : (I : Int) = 4 * (Hn (((listE raw 60).length + 9 : Nat) : Int) + 2) := by omega
  clear hI
  generalize hP0 : PF0 (listE raw 60) I sp = P0
  generalize hP1 : PF1 (listE raw 60) I sp = P1
  generalize hP2 : PF2 (listE raw 60) sp = P2
  refine Eq.mp (show (((0 : Int) ≤ 60) ∧
((60 : Int) ≤ 1000000) ∧
(0 ≤ IntKind.i64.wrap ((↑(listE raw (Int.toNat 60)).length : Int) + 8)) ∧
(IntKind.i64.wrap ((↑(listE raw (Int.toNat 60)).length : Int) + 8) ≤ 65536) ∧
(∀ p : Int, (((p) = (4 * (Hn (IntKind.i64.wrap ((↑(listE raw (Int.toNat 60)).length : Int) + 8) + 1) + 2))) → ((0 ≤ t) ∧ (1 ≤ IntKind.i64.wrap (IntKind.i64.wrap (18 * p) + sp)) ∧ (IntKind.i64.wrap (IntKind.i64.wrap (18 * p) + sp) ≤ 30000) ∧ ((listE raw (Int.toNat 60)).length ≤ 30000) ∧ (∀ S' : Arn, (∀ i : Int, ((PlantR (newS ((↑(listE raw (Int.toNat 60)).length : Int) + IntKind.i64.wrap (IntKind.i64.wrap (18 * p) + sp)).toNat) [] (listE raw (Int.toNat 60)) S' i) → ((∃ x : XF0 P0, (True ∧ (True ∧ True ∧ True ∧ True ∧ True ∧ ((Value.int IntKind.u32 (i)) = (Value.int IntKind.u32 (x.b))) ∧ True) ∧ ((raw) = (raw)) ∧ ((e1) = (e1)) ∧ ((e2) = (e2)) ∧ (True ∧ True ∧ True ∧ ((Value.int IntKind.u64 (S'.reads)) = (Value.int IntKind.u64 (x.S.reads))) ∧ True) ∧ (True ∧ True ∧ True ∧ ((Value.int IntKind.u32 (S'.fresh)) = (Value.int IntKind.u32 (x.S.fresh))) ∧ True) ∧ ((S'.nodes) = (x.S.nodes)) ∧ ((S'.counts) = (x.S.counts)) ∧ ((S'.used) = (x.S.used)) ∧ ((S'.gen) = (x.S.gen)) ∧ ((S'.rel) = (x.S.rel)) ∧ ((listE raw (Int.toNat 60)) = (listE raw 60)) ∧ (((Value.pointer none) = (Value.pointer none)) ∧ ((Value.int IntKind.u32 0) = (Value.int IntKind.u32 0)) ∧ ((Value.int IntKind.u32 0) = (Value.int IntKind.u32 0)) ∧ ((Value.int IntKind.u32 0) = (Value.int IntKind.u32 0)) ∧ True ∧ True ∧ True ∧ True) ∧
    ((([] : List Ent) = [])) ∧ ((([] : List Ent) = [])) ∧ ((([] : List Ent) = [])) ∧ True)) ∧ (∀ x : XF0 P0, (True → ((∃ hs : List Int, (∃ I : Nat, ((EdM x.S hs x.b (listE raw 60) e1 I) ∧ (((e1.length) = 0) → (∀ S'1 : Arn, ((TrR x.S hs (listE raw 60) (8 * I) 8000 S'1 x.b) → (∃ x1 : XF1 P1, (True ∧ (True ∧ True ∧ True ∧ True ∧ ((Value.int IntKind.u32 (x.b)) = (Value.int IntKind.u32 (x1.b))) ∧ ((Value.int IntKind.u32 (x.b)) = (Value.int IntKind.u32 (x1.o))) ∧ True ∧ ((Value.bool true) = (Value.bool true)) ∧ True) ∧ ((raw) = (raw)) ∧ ((e1) = (e1)) ∧ ((e2) = (e2)) ∧ (True ∧ True ∧ True ∧ ((Value.int IntKind.u64 (S'1.reads)) = (Value.int IntKind.u64 (x1.S.reads))) ∧ True) ∧ (True ∧ True ∧ True ∧ ((Value.int IntKind.u32 (S'1.fresh)) = (Value.int IntKind.u32 (x1.S.fresh))) ∧ True) ∧ ((S'1.nodes) = (x1.S.nodes)) ∧ ((S'1.counts) = (x1.S.counts)) ∧ ((S'1.used) = (x1.S.used)) ∧ ((S'1.gen) = (x1.S.gen)) ∧ ((S'1.rel) = (x1.S.rel)) ∧ ((listE raw 60) = (listE raw 60)) ∧ (((Value.pointer none) = (Value.pointer none)) ∧ ((Value.int IntKind.u32 0) = (Value.int IntKind.u32 0)) ∧ ((Value.int IntKind.u32 0) = (Value.int IntKind.u32 0)) ∧ ((Value.int IntKind.u32 0) = (Value.int IntKind.u32 0)) ∧ True ∧ True ∧ True ∧ True) ∧ ((([] : List Ent) = [])) ∧ ((([] : List Ent) = [])) ∧ ((([] : List Ent) = [])) ∧ ((listE raw 60) = (x1.lo)) ∧ True))))) ∧ (∀ S'1 : Arn, (∀ y : Int, (∀ m : List Ent, ((TrR x.S hs m (8 * I) 8000 S'1 y) → ((Asc m) → ((Kin m) → ((m.length ≤ (listE raw 60).length + 8) → (∃ x1 : XF1 P1,
    (True ∧ (True ∧ True ∧ True ∧ True ∧ ((Value.int IntKind.u32 (x.b)) = (Value.int IntKind.u32 (x1.b))) ∧ ((Value.int IntKind.u32 (y)) = (Value.int IntKind.u32 (x1.o))) ∧ True ∧ ((Value.bool true) = (Value.bool true)) ∧ True) ∧ ((raw) = (raw)) ∧ ((e1) = (e1)) ∧ ((e2) = (e2)) ∧ (True ∧ True ∧ True ∧ ((Value.int IntKind.u64 (S'1.reads)) = (Value.int IntKind.u64 (x1.S.reads))) ∧ True) ∧ (True ∧ True ∧ True ∧ ((Value.int IntKind.u32 (S'1.fresh)) = (Value.int IntKind.u32 (x1.S.fresh))) ∧ True) ∧ ((S'1.nodes) = (x1.S.nodes)) ∧ ((S'1.counts) = (x1.S.counts)) ∧ ((S'1.used) = (x1.S.used)) ∧ ((S'1.gen) = (x1.S.gen)) ∧ ((S'1.rel) = (x1.S.rel)) ∧ ((listE raw 60) = (listE raw 60)) ∧ (((Value.pointer none) = (Value.pointer none)) ∧ ((Value.int IntKind.u32 0) = (Value.int IntKind.u32 0)) ∧ ((Value.int IntKind.u32 0) = (Value.int IntKind.u32 0)) ∧ ((Value.int IntKind.u32 0) = (Value.int IntKind.u32 0)) ∧ True ∧ True ∧ True ∧ True) ∧ ((([] : List Ent) = [])) ∧ ((([] : List Ent) = [])) ∧ ((([] : List Ent) = [])) ∧ ((m) = (x1.lo)) ∧ True)))))))))))) ∧ (∀ x1 : XF1 P1, (True → ((∃ hs : List Int, (∃ I : Nat, ((EdM x1.S hs x1.b (listE raw 60) e2 I) ∧ (((e2.length) = 0) → (∀ S'1 : Arn, ((TrR x1.S hs (listE raw 60) (8 * I) 8000 S'1 x1.b) → (∃ x2 : XF2 P2, (True ∧ (True ∧ True ∧ True ∧ ((Value.int IntKind.u32 (x1.b)) = (Value.int IntKind.u32 (x2.b))) ∧ ((Value.int IntKind.u32 (x1.o)) = (Value.int IntKind.u32 (x2.o))) ∧ True ∧ ((Value.bool true) = (Value.bool true)) ∧
    ((Value.int IntKind.u32 (x1.b)) = (Value.int IntKind.u32 (x2.t))) ∧ True ∧ ((Value.bool true) = (Value.bool true)) ∧ True) ∧ ((raw) = (raw)) ∧ ((e1) = (e1)) ∧ ((e2) = (e2)) ∧ (True ∧ True ∧ True ∧ ((Value.int IntKind.u64 (S'1.reads)) = (Value.int IntKind.u64 (x2.S.reads))) ∧ True) ∧ (True ∧ True ∧ True ∧ ((Value.int IntKind.u32 (S'1.fresh)) = (Value.int IntKind.u32 (x2.S.fresh))) ∧ True) ∧ ((S'1.nodes) = (x2.S.nodes)) ∧ ((S'1.counts) = (x2.S.counts)) ∧ ((S'1.used) = (x2.S.used)) ∧ ((S'1.gen) = (x2.S.gen)) ∧ ((S'1.rel) = (x2.S.rel)) ∧ ((listE raw 60) = (listE raw 60)) ∧ (((Value.pointer none) = (Value.pointer none)) ∧ ((Value.int IntKind.u32 0) = (Value.int IntKind.u32 0)) ∧ ((Value.int IntKind.u32 0) = (Value.int IntKind.u32 0)) ∧ ((Value.int IntKind.u32 0) = (Value.int IntKind.u32 0)) ∧ True ∧ True ∧ True ∧ True) ∧ ((([] : List Ent) = [])) ∧ ((([] : List Ent) = [])) ∧ ((([] : List Ent) = [])) ∧ ((x1.lo) = (x2.lo)) ∧ ((listE raw 60) = (x2.lt)) ∧ True))))) ∧ (∀ S'1 : Arn, (∀ y : Int, (∀ m : List Ent, ((TrR x1.S hs m (8 * I) 8000 S'1 y) → ((Asc m) → ((Kin m) → ((m.length ≤ (listE raw 60).length + 8) → (∃ x2 : XF2 P2, (True ∧ (True ∧ True ∧ True ∧ ((Value.int IntKind.u32 (x1.b)) = (Value.int IntKind.u32 (x2.b))) ∧ ((Value.int IntKind.u32 (x1.o)) = (Value.int IntKind.u32 (x2.o))) ∧ True ∧ ((Value.bool true) = (Value.bool true)) ∧ ((Value.int IntKind.u32 (y)) = (Value.int IntKind.u32 (x2.t))) ∧ True ∧ ((Value.bool true) = (Value.bool true)) ∧ True) ∧ ((raw) = (raw)) ∧
    ((e1) = (e1)) ∧ ((e2) = (e2)) ∧ (True ∧ True ∧ True ∧ ((Value.int IntKind.u64 (S'1.reads)) = (Value.int IntKind.u64 (x2.S.reads))) ∧ True) ∧ (True ∧ True ∧ True ∧ ((Value.int IntKind.u32 (S'1.fresh)) = (Value.int IntKind.u32 (x2.S.fresh))) ∧ True) ∧ ((S'1.nodes) = (x2.S.nodes)) ∧ ((S'1.counts) = (x2.S.counts)) ∧ ((S'1.used) = (x2.S.used)) ∧ ((S'1.gen) = (x2.S.gen)) ∧ ((S'1.rel) = (x2.S.rel)) ∧ ((listE raw 60) = (listE raw 60)) ∧ (((Value.pointer none) = (Value.pointer none)) ∧ ((Value.int IntKind.u32 0) = (Value.int IntKind.u32 0)) ∧ ((Value.int IntKind.u32 0) = (Value.int IntKind.u32 0)) ∧ ((Value.int IntKind.u32 0) = (Value.int IntKind.u32 0)) ∧ True ∧ True ∧ True ∧ True) ∧ ((([] : List Ent) = [])) ∧ ((([] : List Ent) = [])) ∧ ((([] : List Ent) = [])) ∧ ((x1.lo) = (x2.lo)) ∧ ((m) = (x2.lt)) ∧ True)))))))))))) ∧ (∀ x2 : XF2 P2, (True →
    (K (SV.tup [(TV.agg [(At.ptr 3 0), (At.val (Value.int IntKind.u32 (x2.b))), (At.val (Value.int IntKind.u32 (x2.o))), (At.val (Value.int IntKind.u32 (x2.t))), (At.slc 4), (At.slc 5), (At.slc 6)]), (TV.at (At.val (Value.bool true)))]) [(Chunk.row false (EC.ent) (raw)), (Chunk.row false (EC.edm) (e1)), (Chunk.row false (EC.edm) (e2)), (Chunk.box [(At.ptr 7 0), (At.slc 8), (At.slc 9), (At.val (Value.int IntKind.u64 (x2.S.reads)))]), (Chunk.row false (EC.ent) (listE raw 60)), (Chunk.row false (EC.ent) (x2.lo)), (Chunk.row false (EC.ent) (x2.lt)), (Chunk.box [(At.slc 10), (At.slc 11), (At.slc 12), (At.val (Value.int IntKind.u32 (x2.S.fresh)))]), (Chunk.row true (EC.node) (x2.S.nodes)), (Chunk.row true (EC.int) (x2.S.counts)), (Chunk.row true (EC.bool) (x2.S.used)), (Chunk.row true (EC.u32) (x2.S.gen)), (Chunk.row true (EC.u32) (x2.S.rel))] []))))))))))))))))) = _ by kernel_rfl) ?_
  subst hP0 hP1 hP2
  have e60 : Int.toNat 60 = 60 := rfl
  rw [e60]
  generalize listE raw 60 = B at *
  rw [wrap_id (x := (B.length : Int) + 8) (by omega) (by omega)]
  refine ⟨by decide, by decide, by omega, by omega, fun p ep => ?_⟩
  have ep : p = (I : Int) := by rw [ep, hII, show ((B.length + 9 : Nat) : Int) = (B.length : Int) + 8 + 1 by omega]
  subst ep
  rw [wrap_id (x := 18 * (I : Int)) (by omega) (by omega), wrap_id (x := 18 * (I : Int) + sp) (by omega) (by omega)]
  refine ⟨h0, by omega, by omega, by omega, fun S1 b hp => ⟨⟨⟨S1, b, ?_⟩, ?_⟩, fun x0 _ => ?_⟩⟩
  · obtain ⟨t1, up, lt, zt⟩ := plant_up hp la (by omega)
    have fr := plant_free hp
    have cp : S1.cap = (B.length : Int) + (18 * (I : Int) + sp) := by
      have := cap_len hp.len
      rw [this, cap_new]; omega
    refine ⟨⟨up.1, ?_, ?_, ?_⟩, by rw [hp.rds]; rfl, by omega, by omega⟩
    · intro q hq; simp at hq; subst hq; exact ⟨t1, up.2.1, lt, up.2.2.1⟩
    · intro q hq; simp at hq; subst hq; exact la
    · intro q hq; simp at hq; subst hq; exact kB
  · (repeat' first | exact trivial | exact rfl | refine And.intro ?_ ?_)
  obtain ⟨S, b, hh, rd, fr, cp⟩ := x0
  dsimp only
  have i8 : 8 ≤ I := by omega
  refine ⟨⟨_, I, fk_ed (I := I) (ed := e1) hh (List.mem_cons_self ..) (by simp) k1 (by omega) (by omega) hII (by omega), fun _ S2 tr => ⟨⟨S2, b, b, B, ?_⟩, ?_⟩, fun S2 o lo tr am km lm => ⟨⟨S2, b, o, lo, ?_⟩, ?_⟩⟩, fun x1 _ => ?_⟩
  · have f := tr.got.free hh.wf
    have q := tr.got.rd
    exact ⟨hh.step tr la kB, by omega, by omega, by omega, by rw [tr_cap tr]; exact cp⟩
  · (repeat' first | exact trivial | exact rfl | refine And.intro ?_ ?_)
  · have f := tr.got.free hh.wf
    have q := tr.got.rd
    exact ⟨hh.step tr am km, by omega, by omega, by omega, by rw [tr_cap tr]; exact cp⟩
  · (repeat' first | exact trivial | exact rfl | refine And.intro ?_ ?_)
  clear hh rd fr cp b S
  obtain ⟨S, b, o, lo, hh, lo68, rd, fr, cp⟩ := x1
  dsimp only
  refine ⟨⟨_, I, fk_ed (I := I) (ed := e2) hh (b := b) (B := B) (by simp) (by simp) k2 (by omega) (by omega) hII (by omega), fun _ S2 tr => ⟨⟨S2, b, o, b, lo, B, ?_⟩, ?_⟩, fun S2 t lt tr am km lm => ⟨⟨S2, b, o, t, lo, lt, ?_⟩, ?_⟩⟩, fun x2 _ => ?_⟩
  · have f := tr.got.free hh.wf
    have q := tr.got.rd
    exact ⟨hh.step tr la kB, by omega, by omega, by omega, by omega, by omega, by rw [tr_cap tr]; omega⟩
  · (repeat' first | exact trivial | exact rfl | refine And.intro ?_ ?_)
  · have f := tr.got.free hh.wf
    have q := tr.got.rd
    exact ⟨hh.step tr am km, by omega, by omega, by omega, by omega, by omega, by rw [tr_cap tr]; omega⟩
  · (repeat' first | exact trivial | exact rfl | refine And.intro ?_ ?_)
  · exact h x2.S x2.b x2.o x2.t x2.lo x2.lt x2.h
theorem s_fk : SoundT C0 44 tFk := by
  refine .of Try.func44 (by decide) rfl fun args H K h hB => ?_
  unfold tFk at h
  split at h <;> try exact h.elim
  rename_i t sp raw e1 e2
  refine ⟨_, ?_, vc_fk raw e1 e2 t sp K h.1 h.2.1 h.2.2.1 h.2.2.2.1 h.2.2.2.2.1 h.2.2.2.2.2.1 h.2.2.2.2.2.2⟩
  exact ⟨frame C0.ok s_lst _, frame C0.ok s_nIns _, frame C0.ok s_grow _, frame C0.ok s_ed _, trivial⟩
theorem merge_triv {lb lo lt : List Ent} (hb : Asc lb) (ho : Asc lo) (ht : Asc lt) (pol : Int) : (lb = lo → mergeE lb lo lt pol = lt) ∧ (lb = lt → mergeE lb lo lt pol = lo) ∧ (lo = lt → mergeE lb lo lt pol = lo) := by
  refine ⟨fun e => Asc.ext (mergeE_asc ..) ht fun k => ?_, fun e => Asc.ext (mergeE_asc ..) ho fun k => ?_, fun e => Asc.ext (mergeE_asc ..) ho fun k => ?_⟩
  all_goals rw [mergeE_get]; unfold mergedO
  · subst e
    by_cases c : getE lb k = getE lt k
    · rw [if_pos (.inl c)]; exact c
    · rw [if_neg (fun d => d.elim c c), if_pos rfl]
  · subst e; rw [if_pos (.inr rfl)]
  · subst e; rw [if_pos (.inl rfl)]
theorem s_mgK : SoundT C0 46 tMgK := s_mg.weak fun args H K h => by
  unfold tMgK at h
  unfold tMg
  split at h <;> try exact h.elim
  unfold arM at h ⊢
  split at h <;> try exact h.elim
  rename_i b o t pol _ rd fr nd ct us gn rl
  obtain ⟨hs, tb, to, tt, hm, p1, p2, hf, hc, h⟩ := h
  refine ⟨hs, tb, to, tt, hm, fun S' i c e r => ?_⟩
  have h0 := hm.wf.us0 (Int.le_refl 0)
  have hrd := hm.rd
  have hl := hm.hl
  rcases r with ⟨a, _⟩ | ⟨_, a, b1, b2, b3, b4⟩ | ⟨_, _, a, _⟩ | ⟨_, _, _, a, _⟩ | ⟨_, _, _, _, b1, b2, b3⟩
  · exact absurd ⟨p1, p2⟩ a
  · rw [b1, b3]
    refine h S' i [] (conf_triv hm a).symm ?_
    have mt := merge_triv hm.ab hm.ao hm.at_ pol
    rw [b2] at b4 ⊢
    unfold trivI at b4 ⊢
    split at b4
    · rename_i q
      have r := hm.ro; rw [← q] at r
      rw [if_pos q]
      exact hold_tr (m := 0) hm.wf hm.rt hm.bt (by omega) (by omega) (by rw [b4, rdS_zero]) (by omega) (mt.1 (by rw [r.inj h0 hm.rb])).symm
    · rename_i q
      rw [if_neg q]
      refine hold_tr (m := 0) hm.wf hm.ro hm.bo (by omega) (by omega) (by rw [b4, rdS_zero]) (by omega) ?_
      rcases a with e | e | e
      · exact absurd e q
      · have r := hm.rt; rw [← e] at r
        exact (mt.2.1 (by rw [r.inj h0 hm.rb])).symm
      · have r := hm.rt; rw [← e] at r
        exact (mt.2.2 (by rw [r.inj h0 hm.ro])).symm
  · omega
  · exact absurd (hc a.1) a.2
  · rw [b1]; exact h S' i c b2 b3
theorem Hld.mg {S : Arn} {E : List (Int × List Ent)} {b o t : Int} {lb lo lt : List Ent} (e : Hld S E) (hb : (b, lb) ∈ E) (ho : (o, lo) ∈ E) (ht : (t, lt) ∈ E) (l1 : lb.length ≤ 30000) (l2 : lo.length ≤ 30000) (l3 : lt.length ≤ 30000) (he : E.length ≤ 900000) (hr : S.reads ≤ 500000000000000000) :
    ∃ tb to tt, MgM S (E.map Prod.fst) tb to tt b o t ∧ tb.list = lb ∧ to.list = lo ∧ tt.list = lt ∧ needM tb to tt = (lb.length : Int) + lo.length + lt.length + 12 * (Hn ((lb.length : Int) + lo.length + lt.length) + 2) := by
  obtain ⟨tb, rb, eb, bb⟩ := e.rep _ hb
  obtain ⟨to, ro, eo, bo⟩ := e.rep _ ho
  obtain ⟨tt, rt, et, bt⟩ := e.rep _ ht
  have eb : tb.list = lb := eb
  have eo : to.list = lo := eo
  have et : tt.list = lt := et
  have zb : tb.size = lb.length := by rw [← tb.list_len, eb]
  have zo : to.size = lo.length := by rw [← to.list_len, eo]
  have zt : tt.size = lt.length := by rw [← tt.list_len, et]
  refine ⟨tb, to, tt, ⟨e.wf, rb, ro, rt, bb, bo, bt, by rw [eb]; exact e.asc _ hb, by rw [eo]; exact e.asc _ ho, by rw [et]; exact e.asc _ ht, by rw [eb]; exact e.kin _ hb, by rw [eo]; exact e.kin _ ho, by rw [et]; exact e.kin _ ht, by omega, by omega, by omega, by simpa using he, hr⟩, eb, eo, et, by unfold needM; rw [zb, zo, zt]⟩
theorem kin_lit {l : List Ent} (h : l.all (fun x => decide (-9223372036854775808 ≤ x.1) && decide (x.1 ≤ 9223372036854775807)) = true) : Kin l := fun x hx => by
  have := List.all_eq_true.1 h x hx
  simpa using this
theorem ce20 : confE [((1 : Int), (10 : Int))] [(1, 11)] [(1, 10), (2, 20)] = [] := by decide
theorem me20 : mergeE [((1 : Int), (10 : Int))] [(1, 11)] [(1, 10), (2, 20)] 3 = [(1, 11), (2, 20)] := by decide
theorem vc_aw20 (K : KT) (h : K (.one (.at (vB true))) [] []) : vc C0 aAw20 Try.f45 [] [] (normK 0 K) := by
  refine Eq.mp (show ((((300 : Int) < 1 ∨ (65536 : Int) < 300) →
(K (SV.one (TV.at (At.val (Value.bool false)))) [] [])) ∧
(((1 : Int) ≤ 300) →
(((300 : Int) ≤ 65536) →
(∀ S : Arn, (((S) = (newS (Int.toNat 300))) → (∃ hs : List Int, ((Wf S hs) ∧ (Asc ([(1, 10)] : List Ent)) ∧ (([(1, 10)] : List Ent).length ≤ 60000) ∧ (hs.length ≤ 900000) ∧ ((↑([(1, 10)] : List Ent).length : Int) ≤ S.free) ∧ (S.reads ≤ 900000000000000000) ∧ (∀ S' : Arn, (∀ i : Int, ((TrR S hs ([(1, 10)] : List Ent) 65537 0 S' i) → (∃ hs1 : List Int, ((Wf S' hs1) ∧ (Asc ([(1, 11)] : List Ent)) ∧ (([(1, 11)] : List Ent).length ≤ 60000) ∧ (hs1.length ≤ 900000) ∧ ((↑([(1, 11)] : List Ent).length : Int) ≤ S'.free) ∧ (S'.reads ≤ 900000000000000000) ∧ (∀ S'1 : Arn, (∀ i1 : Int, ((TrR S' hs1 ([(1, 11)] : List Ent) 65537 0 S'1 i1) → (∃ hs2 : List Int, ((Wf S'1 hs2) ∧ (Asc ([(1, 10), (2, 20)] : List Ent)) ∧ (([(1, 10), (2, 20)] : List Ent).length ≤ 60000) ∧ (hs2.length ≤ 900000) ∧ ((↑([(1, 10), (2, 20)] : List Ent).length : Int) ≤ S'1.free) ∧ (S'1.reads ≤ 900000000000000000) ∧ (∀ S'2 : Arn, (∀ i2 : Int, ((TrR S'1 hs2 ([(1, 10), (2, 20)] : List Ent) 65537 0 S'2 i2) → (∃ hs3 : List Int, (∃ tb : Tr, (∃ to : Tr, (∃ tt : Tr, ((MgM S'2 hs3 tb to tt i i1 i2) ∧ ((1 : Int) ≤ 3) ∧ ((3 : Int) ≤ 4) ∧ (needM tb to tt ≤ S'2.free) ∧ (((3 : Int) = 3) → ((confE tb.list to.list tt.list) = [])) ∧ (∀ S'3 : Arn, (∀ i3 : Int, (∀ c : List Int, (((c) = (confE tb.list to.list tt.list)) → ((TrR S'2 hs3 (mergeE tb.list to.list tt.list 3) 65537 2000000000 S'3 i3) →
    (∃ hs4 : List Int, (∃ t : Tr, ((Wf S'3 hs4) ∧ (Rep S'3 t i3) ∧ (Asc t.list) ∧ (t.size ≤ 1000000) ∧ (S'3.reads + (↑t.size : Int) ≤ 3000000000000000000) ∧ (∀ S'4 : Arn, (∀ m : Nat, (∀ o : Option Int, (((S'4) = (rdS S'3 m)) → ((m ≤ ht t) → (((o) = (getE t.list 1)) → (brS ((↑c.length : Int) == 0) ((brS (o.isSome) ((brS (o.getD 0 == 11) (((inU i3) ∧ (exW S'4) ∧ (S'4.reads < 4000000000000000000) ∧ (∀ S'5 : Arn, (((S'5) = (rdS S'4 (S'4.us i3).toNat)) → (K (SV.one (TV.at (At.val (Value.bool ((S'4.nd i3).size == 2))))) [] []))))) ((K (SV.one (TV.at (At.val (Value.bool false)))) [] [])))) ((K (SV.one (TV.at (At.val (Value.bool false)))) [] [])))) ((K (SV.one (TV.at (At.val (Value.bool false)))) [] [])))))))))))))))))))))))))))))))))))))))))) = _ by kernel_rfl) ?_
  refine ⟨fun c => by omega, fun _ _ S0 e => ?_⟩
  have e5 : Int.toNat 300 = 300 := rfl
  rw [e5] at e
  have h0 : Hld S0 [] := by rw [e]; exact Hld.new (by omega) (by omega)
  have c0 : S0.cap = 300 := by rw [e]; exact cap_new 300
  have r0 : S0.reads = 0 := by rw [e]; rfl
  clear e
  have f0 := h0.room
  simp only [sumL_nil] at f0
  refine ⟨_, h0.wf, by decide, by decide, by simp, by simp; omega, by omega, fun S1 b t1 => ?_⟩
  have h1 := h0.step t1 (by decide) (kin_lit rfl)
  have c1 := tr_cap t1
  have r1 := t1.got.rd
  have f1 := h1.room
  simp only [sumL_nil, sumL_cons] at f1
  refine ⟨_, h1.wf, by decide, by decide, by simp, by simp at f1 ⊢; omega, by omega, fun S2 o t2 => ?_⟩
  have h2 := h1.step t2 (by decide) (kin_lit rfl)
  have c2 := tr_cap t2
  have r2 := t2.got.rd
  have f2 := h2.room
  simp only [sumL_nil, sumL_cons] at f2
  refine ⟨_, h2.wf, by decide, by decide, by simp, by simp at f2 ⊢; omega, by omega, fun S3 t t3 => ?_⟩
  have h3 := h2.step t3 (by decide) (kin_lit rfl)
  have c3 := tr_cap t3
  have r3 := t3.got.rd
  have f3 := h3.room
  simp only [sumL_nil, sumL_cons] at f3
  obtain ⟨tb, to, tt, hm, eb, eo, et, nm⟩ := h3.mg (b := b) (o := o) (t := t) (lb := [(1, 10)]) (lo := [(1, 11)]) (lt := [(1, 10), (2, 20)]) (by simp) (by simp) (by simp) (by decide) (by decide) (by decide) (by simp) (by omega)
  have n2 : needM tb to tt ≤ S3.free := by
    have e : needM tb to tt = 4 + 12 * (Hn 4 + 2) := by rw [nm]; rfl
    have e2 : Hn 4 ≤ 4 := by decide
    simp at f3
    omega
  have ce := ce20
  have me := me20
  refine ⟨_, tb, to, tt, hm, by decide, by decide, n2, fun _ => by rw [eb, eo, et]; exact ce, fun S4 m c ec t4 => ?_⟩
  rw [eb, eo, et] at ec t4
  rw [ce] at ec
  rw [me] at t4
  obtain ⟨u, rp, lu, bu⟩ := t4.tree
  have w4 := t4.got.wf
  have r4 := t4.got.rd
  have su : u.size = 2 := by rw [← u.list_len, lu]; rfl
  refine ⟨_, u, w4, rp, by rw [lu]; decide, by omega, by omega, fun S5 m5 o5 e5 b5 eo5 => ?_⟩
  rw [lu] at eo5
  have eo5 : o5 = some 11 := eo5
  have hb := Bal.height bu (by omega)
  have hr := Hn_rng u.size
  have w5 := w4.rd (n := m5) (by omega)
  rw [← e5] at w5
  have rp5 : Rep S5 u m := by rw [e5]; exact rp.rdn
  have r5 : S5.reads = S4.reads + m5 := by rw [e5]; rfl
  refine bt7 (by rw [ec]; rfl) (bt7 (by rw [eo5]; rfl) (bt7 (by rw [eo5]; rfl) ⟨inU_of w5 rp5.us, ⟨_, w5⟩, by omega, fun S6 _ => ?_⟩))
  rw [rp5.size w5, su]
  exact h
theorem s_aw20 : SoundT C0 45 tAw20 := by
  refine .of Try.func45 (by decide) rfl fun args H K h hB => ?_
  unfold tAw20 at h
  split at h <;> try exact h.elim
  exact ⟨aAw20, ⟨frame C0.ok s_new _, frame C0.ok s_buildOk _, frame C0.ok s_mgK _, frame C0.ok s_getT _, frame C0.ok s_size _, trivial⟩, vc_aw20 K h⟩
end Go.Proofs.Ytbonbaccmlomhaa.Sx
end
section
/- The law MergeIsSymmetric. -/
namespace Go.Proofs.Ytbonbaccmlomhaa.Sx
open Go

/-KEEP Wf Kept exW inU live Arn.cap Arn.free Rep rdS retL Tr.size Tr.list Tr.Bal Asc Kin KinD FkR listE TrR Got Hn ht MgM needM confE mergeE sameB-/
structure XMs (P : Nat → Arn → Int → Int → Int → List Ent → List Ent → Prop) where
  k : Nat
  S : Arn
  b : Int
  o : Int
  t : Int
  lo : List Ent
  lt : List Ent
  h : P k S b o t lo lt
noncomputable def aMs (P : Nat → Arn → Int → Int → Int → List Ent → List Ent → Prop) (raw B : List Ent) (e1 e2 : List EdtT) : Ann C0 := { rounds := fun n => if n = 5 then 4 else 0, quiet := [38, 50], Γ := [(44, tFk), (45, frameT [] tAw20), (46, frameT [] tMgK), (39, frameT [] tLsOk), (38, frameT [] tSame_ent), (50, frameT [] tSame_i64)], inv := fun n => match n with
  | 1006 => some { X := XMs P, sl := [9], tf := fun x => [.one (.at (.ptr 13 0))], hf := fun x => [.row false EC.ent raw, .row false EC.edm e1, .row false EC.edm e2] ++ chSk 3 x.S ++ [.row false EC.ent B, .row false EC.ent x.lo, .row false EC.ent x.lt, .box [.ptr 3 0, vU x.b, vU x.o, vU x.t, .slc 10, .slc 11, .slc 12]], rel := fun T _ x => slotI T 11 x.k }
  | _ => none }
def tMs : Tfm C0 := fun args H K => match args, H with
  | [.at (.slc 0), .at (.val (.int .u64 t)), .at (.slc 1), .at (.slc 2)], [.row false .ent raw, .row false .edm e1, .row false .edm e2] => 0 ≤ t ∧ Kin raw ∧ KinD e1 ∧ KinD e2 ∧ K (.one (.at (vB true))) [.row false EC.ent raw, .row false EC.edm e1, .row false EC.edm e2] []
  | _, _ => False
theorem merge_len {lb lo lt : List Ent} (hb : Asc lb) (ho : Asc lo) (ht : Asc lt) (p : Int) : (mergeE lb lo lt p).length ≤ lb.length + lo.length + lt.length := by
  rw [← plan_merge hb ho ht p]
  have a := (perf_spec (planC_srt (p := btw lb lo) (btw_srt hb ht) p) ho).2.1
  have b := planC_len (btw lb lo) (btw lb lt) p
  have c := btw_len hb ht
  omega
/-- After k rounds. -/
def QMs (B : List Ent) (k : Nat) (S : Arn) (b o t : Int) (lo lt : List Ent) : Prop := ∃ E, Hld S E ∧ (b, B) ∈ E ∧ (o, lo) ∈ E ∧ (t, lt) ∈ E ∧ sumL E ≤ 196 + 392 * k ∧ E.length ≤ 3 + 2 * k ∧ B.length ≤ 60 ∧ lo.length ≤ 68 ∧ lt.length ≤ 68 ∧ S.reads ≤ 20000 + 5000000000 * k ∧ 3144 ≤ S.cap
end Go.Proofs.Ytbonbaccmlomhaa.Sx
end
section
/- The law MergeUnchangedSide. -/
namespace Go.Proofs.Ytbonbaccmlomhaa.Sx
open Go

/-KEEP Wf Kept exW inU live Arn.cap Arn.free Rep rdS retL Tr.size Tr.list Tr.Bal Asc Kin KinD FkR listE TrR Got Hn ht MgM needM confE mergeE sameB keys3 getE-/
/-- Where there is room. -/
def tMgU : Tfm C0 := fun args H K => match args with
  | [.at (.ptr 0 0), .at (.val (.int .u32 b)), .at (.val (.int .u32 o)), .at (.val (.int .u32 t)), .at (.val (.int .i64 pol))] => arM H fun S => ∃ hs tb to tt, MgM S hs tb to tt b o t ∧ 1 ≤ pol ∧ pol ≤ 4 ∧ needM tb to tt ≤ S.free ∧
    (pol = 3 → ∀ S' m c, S' = rdS S m → c ≠ [] → K (.tup [.at (vU 0), .at (.slc 7), .at (vI 10)]) (chS S' ++ [.row true EC.i64 c]) W7) ∧
    ∀ S' i c, TrR S hs (mergeE tb.list to.list tt.list pol) 65537 2000000000 S' i → K (.tup [.at (vU i), .at (.slc 7), .at (vI 0)]) (chS S' ++ [.row true EC.i64 c]) W7
  | _ => False
structure XMu (P : Nat → Arn → Int → Int → Int → Int → List Ent → List Ent → Int → Prop) where
  k : Nat
  S : Arn
  b : Int
  o : Int
  t : Int
  i : Int
  lo : List Ent
  lt : List Ent
  pol : Int
  h : P k S b o t i lo lt pol
structure XMv (P : Nat → Arn → Int → Int → Int → Int → List Ent → List Ent → Int → Option Int → Option Int → Option Int → Option Int → Prop) where
  k : Nat
  S : Arn
  b : Int
  o : Int
  t : Int
  i : Int
  lo : List Ent
  lt : List Ent
  pol : Int
  u : Option Int
  v : Option Int
  w : Option Int
  y : Option Int
  h : P k S b o t i lo lt pol u v w y
abbrev hfU (raw B : List Ent) (e1 e2 : List EdtT) (key : Int) (S : Arn) (b o t : Int) (lo lt : List Ent) : List (Chunk C0) := [.row false EC.ent raw, .row false EC.edm e1, .row false EC.edm e2] ++ chSk 3 S ++ [.row false EC.ent B, .row false EC.ent lo, .row false EC.ent lt, .box [.ptr 3 0, vU b, vU o, vU t, .slc 10, .slc 11, .slc 12], .row true EC.i64 (keys3 B lo lt ++ [key])]
noncomputable def aMu (P1 P3 : Nat → Arn → Int → Int → Int → Int → List Ent → List Ent → Int → Prop) (P2 : Nat → Arn → Int → Int → Int → Int → List Ent → List Ent → Int → Option Int → Option Int → Option Int → Option Int → Prop) (raw B : List Ent) (e1 e2 : List EdtT) (key : Int) : Ann C0 := { quiet := [47], Γ := [(44, tFk), (45, frameT [] tAw20), (26, frameT [] tMod), (46, frameT [] tMgU), (17, frameT [] tKeys), (47, frameT [] tGet), (18, frameT [] tGetT)], inv := fun n => match n with
  | 10 => some { X := XMu P1, sl := [13, 16, 19, 20], tf := fun x => [.one (.at (.ptr 13 0)), vi .u32 x.i, .one (.at (.slc 14)), vi .i64 x.k], hf := fun x => hfU raw B e1 e2 key x.S x.b x.o x.t x.lo x.lt, μ := fun x => 1000 - x.k }
  | 1016 => some { X := XMv P2, sl := [13, 16, 19, 20, 21, 22, 23, 24, 25, 26, 27, 28], tf := fun x => [.one (.at (.ptr 13 0)), vi .u32 x.i, .one (.at (.slc 14)), vi .i64 x.k, vi .i64 (x.u.getD 0), vb x.u.isSome, vi .i64 (x.v.getD 0), vb x.v.isSome, vi .i64 (x.w.getD 0), vb x.w.isSome, vi .i64 (x.y.getD 0), vb x.y.isSome], hf := fun x => hfU raw B e1 e2 key x.S x.b x.o x.t x.lo x.lt, rel := fun T _ x => slotI T 20 x.k }
  | 1017 => some { X := XMu P3, sl := [13, 16, 19, 20, 167], tf := fun x => [.one (.at (.ptr 13 0)), vi .u32 x.i, .one (.at (.slc 14)), vi .i64 x.k, vb false], hf := fun x => hfU raw B e1 e2 key x.S x.b x.o x.t x.lo x.lt, rel := fun T _ x => slotI T 20 x.k }
  | _ => none }
def tMu : Tfm C0 := fun args H K => match args, H with
  | [.at (.slc 0), .at (.val (.int .u64 t)), .at (.slc 1), .at (.slc 2), .at (.val (.int .i64 _)), .at (.val (.int .i64 _))], [.row false .ent raw, .row false .edm e1, .row false .edm e2] => 0 ≤ t ∧ Kin raw ∧ KinD e1 ∧ KinD e2 ∧ K (.one (.at (vB true))) [.row false EC.ent raw, .row false EC.edm e1, .row false EC.edm e2] []
  | _, _ => False
theorem s_mgU : SoundT C0 46 tMgU := s_mg.weak fun args H K h => by
  unfold tMgU at h
  unfold tMg
  split at h <;> try exact h.elim
  unfold arM at h ⊢
  split at h <;> try exact h.elim
  rename_i b o t pol _ rd fr nd ct us gn rl
  obtain ⟨hs, tb, to, tt, hm, p1, p2, hf, hc, h⟩ := h
  refine ⟨hs, tb, to, tt, hm, fun S' i c e r => ?_⟩
  have h0 := hm.wf.us0 (Int.le_refl 0)
  have hrd := hm.rd
  have hl := hm.hl
  rcases r with ⟨a, _⟩ | ⟨_, a, b1, b2, b3, b4⟩ | ⟨_, _, a, _⟩ | ⟨_, _, _, a, b1, b2, b3, m, _, b4⟩ | ⟨_, _, _, _, b1, b2, b3⟩
  · exact absurd ⟨p1, p2⟩ a
  · rw [b1]
    refine h S' i c ?_
    have mt := merge_triv hm.ab hm.ao hm.at_ pol
    rw [b2] at b4 ⊢
    unfold trivI at b4 ⊢
    split at b4
    · rename_i q
      have r := hm.ro; rw [← q] at r
      rw [if_pos q]
      exact hold_tr (m := 0) hm.wf hm.rt hm.bt (by omega) (by omega) (by rw [b4, rdS_zero]) (by omega) (mt.1 (by rw [r.inj h0 hm.rb])).symm
    · rename_i q
      rw [if_neg q]
      refine hold_tr (m := 0) hm.wf hm.ro hm.bo (by omega) (by omega) (by rw [b4, rdS_zero]) (by omega) ?_
      rcases a with e | e | e
      · exact absurd e q
      · have r := hm.rt; rw [← e] at r
        exact (mt.2.1 (by rw [r.inj h0 hm.rb])).symm
      · have r := hm.rt; rw [← e] at r
        exact (mt.2.2 (by rw [r.inj h0 hm.ro])).symm
  · omega
  · rw [b1, b2]
    exact hc a.1 S' m c b4 (by rw [b3]; exact a.2)
  · rw [b1]; exact h S' i c b3
theorem merged_ours {p : Int} {x y z : Option Int} (h : x = y) : mergedO p x y z = z := by
  unfold mergedO
  by_cases c : y = z ∨ x = z
  · rw [if_pos c]
    rcases c with c | c
    · exact c
    · rw [← h]; exact c
  · rw [if_neg c, if_pos h]
theorem merged_theirs {p : Int} {x y z : Option Int} (h : x = z) : mergedO p x y z = y := by
  unfold mergedO
  rw [if_pos (.inr h)]
theorem oeq {x y : Option Int} (h1 : (x.isSome == y.isSome) = true) (h2 : (x.getD 0 == y.getD 0) = true) : x = y := val_eq.2 ⟨by simpa using h1, by simpa using h2⟩
def PU1u (B : List Ent) : Nat → Arn → Int → Int → Int → Int → List Ent → List Ent → Int → Prop := fun k S _ _ _ i lo lt pol => k ≤ 900 ∧ lo.length ≤ 68 ∧ lt.length ≤ 68 ∧ S.reads ≤ 3000000000 + 1000 * k ∧ ∃ hs tr, Wf S hs ∧ Rep S tr i ∧ tr.list = mergeE B lo lt pol ∧ tr.Bal ∧ tr.size ≤ 65536
def PU2u (B : List Ent) : Nat → Arn → Int → Int → Int → Int → List Ent → List Ent → Int → Option Int → Option Int → Option Int → Option Int → Prop := fun k S b o t i lo lt pol u v w y => k < 900 ∧ lo.length ≤ 68 ∧ lt.length ≤ 68 ∧ S.reads ≤ 3000000000 + 1000 * k + 1000 ∧ (∃ hs tr, Wf S hs ∧ Rep S tr i ∧ tr.list = mergeE B lo lt pol ∧ tr.Bal ∧ tr.size ≤ 65536) ∧ y = mergedO pol u v w
theorem vc_mu (raw : List Ent) (e1 e2 : List EdtT) (t pol key : Int) (K : KT) (h0 : 0 ≤ t) (hk : Kin raw) (k1 : KinD e1) (k2 : KinD e2) (h : K (.one (.at (vB true))) [.row false EC.ent raw, .row false EC.edm e1, .row false EC.edm e2] []) :
    vc C0 (aMu (PU1u (listE raw 60)) (fun k => PU1u (listE raw 60) (k + 1)) (PU2u (listE raw 60)) raw (listE raw 60) e1 e2 key) Try.f10 [.at (.slc 0), .at (vU64 t), .at (.slc 1), .at (.slc 2), .at (vI pol), .at (vI key)] [.row false EC.ent raw, .row false EC.edm e1, .row false EC.edm e2] (normK 3 K) := by
  generalize hP3 : (fun k => PU1u (listE raw 60) (k + 1)) = P3
  generalize hP1 : PU1u (listE raw 60) = P1
  generalize hP2 : PU2u (listE raw 60) = P2
  refine Eq.mp (show ((0 ≤ t) ∧
((0 : Int) ≤ 1500) ∧
((1500 : Int) ≤ 20000) ∧
(Kin raw) ∧
(KinD e1) ∧
(KinD e2) ∧
(∀ S : Arn, (∀ b : Int, (∀ o : Int, (∀ t1 : Int, (∀ lo : List Ent, (∀ lt : List Ent, ((FkR S b o t1 (listE raw 60) lo lt 1500) → (((0 : Int) < 4) ∧ ((4 : Int) ≤ 9223372036854775807) ∧ (∀ x : Int, (((x) = (pol % 4)) → (∃ hs : List Int, (∃ tb : Tr, (∃ to : Tr, (∃ tt : Tr, ((MgM S hs tb to tt b o t1) ∧ (1 ≤ IntKind.i64.wrap (1 + x)) ∧ (IntKind.i64.wrap (1 + x) ≤ 4) ∧ (needM tb to tt ≤ S.free) ∧ (((IntKind.i64.wrap (1 + x)) = 3) → (∀ S' : Arn, (∀ m : Nat, (∀ c : List Int, (((S') = (rdS S m)) → ((c ≠ []) → (brS (IntKind.i64.wrap (1 + x) == 3) ((K (SV.one (TV.at (At.val (Value.bool (decide ((↑c.length : Int) > 0)))))) [(Chunk.row false (EC.ent) (raw)), (Chunk.row false (EC.edm) (e1)), (Chunk.row false (EC.edm) (e2))] [])) ((K (SV.one (TV.at (At.val (Value.bool false)))) [(Chunk.row false (EC.ent) (raw)), (Chunk.row false (EC.edm) (e1)), (Chunk.row false (EC.edm) (e2))] []))))))))) ∧ (∀ S' : Arn, (∀ i : Int, (∀ c : List Int, ((TrR S hs (mergeE tb.list to.list tt.list (IntKind.i64.wrap (1 + x))) 65537 2000000000 S' i) → (((listE raw 60).length + lo.length + lt.length ≤ 1000000) ∧ (((keys3 (listE raw 60) lo lt).length + [key].length) * bytesOf C0 EC.i64 ≤ 140737488355328) ∧ (∃ x1 : XMu P1, (True ∧ (True ∧ ((Value.int IntKind.u32 (i)) = (Value.int IntKind.u32 (x1.i))) ∧ True ∧ ((Value.int IntKind.i64 0) = (Value.int IntKind.i64 ((↑x1.k : Int)))) ∧ True) ∧ ((raw) = (raw)) ∧ ((e1) = (e1)) ∧
    ((e2) = (e2)) ∧ (True ∧ True ∧ True ∧ ((Value.int IntKind.u64 (S'.reads)) = (Value.int IntKind.u64 (x1.S.reads))) ∧ True) ∧ (True ∧ True ∧ True ∧ ((Value.int IntKind.u32 (S'.fresh)) = (Value.int IntKind.u32 (x1.S.fresh))) ∧ True) ∧ ((S'.nodes) = (x1.S.nodes)) ∧ ((S'.counts) = (x1.S.counts)) ∧ ((S'.used) = (x1.S.used)) ∧ ((S'.gen) = (x1.S.gen)) ∧ ((S'.rel) = (x1.S.rel)) ∧ ((listE raw 60) = (listE raw 60)) ∧ ((lo) = (x1.lo)) ∧ ((lt) = (x1.lt)) ∧ (True ∧ ((Value.int IntKind.u32 (b)) = (Value.int IntKind.u32 (x1.b))) ∧ ((Value.int IntKind.u32 (o)) = (Value.int IntKind.u32 (x1.o))) ∧ ((Value.int IntKind.u32 (t1)) = (Value.int IntKind.u32 (x1.t))) ∧ True ∧ True ∧ True ∧ True) ∧ ((keys3 (listE raw 60) lo lt ++ [key]) = (keys3 (listE raw 60) x1.lo x1.lt ++ [key])) ∧ True)) ∧ (∀ x1 : XMu P1, (True → (brS (decide ((↑x1.k : Int) < (↑(keys3 (listE raw 60) x1.lo x1.lt ++ [key]).length : Int))) (((0 ≤ (↑x1.k : Int)) ∧ ((↑x1.k : Int) < (↑(keys3 (listE raw 60) x1.lo x1.lt ++ [key]).length : Int)) ∧ (∀ x2 : Option Int, (((x2) = (getE (listE raw 60) (iA (keys3 (listE raw 60) x1.lo x1.lt ++ [key]) x1.k))) → ((0 ≤ (↑x1.k : Int)) ∧ ((↑x1.k : Int) < (↑(keys3 (listE raw 60) x1.lo x1.lt ++ [key]).length : Int)) ∧ (∀ x3 : Option Int, (((x3) = (getE x1.lo (iA (keys3 (listE raw 60) x1.lo x1.lt ++ [key]) x1.k))) → ((0 ≤ (↑x1.k : Int)) ∧ ((↑x1.k : Int) < (↑(keys3 (listE raw 60) x1.lo x1.lt ++ [key]).length : Int)) ∧ (∀ x4 : Option Int,
    (((x4) = (getE x1.lt (iA (keys3 (listE raw 60) x1.lo x1.lt ++ [key]) x1.k))) → (((0 ≤ (↑x1.k : Int)) ∧ ((↑x1.k : Int) < (↑(keys3 (listE raw 60) x1.lo x1.lt ++ [key]).length : Int)) ∧ (∃ hs1 : List Int, (∃ t2 : Tr, ((Wf x1.S hs1) ∧ (Rep x1.S t2 x1.i) ∧ (Asc t2.list) ∧ (t2.size ≤ 1000000) ∧ (x1.S.reads + (↑t2.size : Int) ≤ 3000000000000000000) ∧ (∀ S'1 : Arn, (∀ m : Nat, (∀ o1 : Option Int, (((S'1) = (rdS x1.S m)) → ((m ≤ ht t2) → (((o1) = (getE t2.list (iA (keys3 (listE raw 60) x1.lo x1.lt ++ [key]) x1.k))) → (∃ x5 : XMv P2, ((((↑x1.k : Int)) = ((↑x5.k : Int))) ∧ (True ∧ ((Value.int IntKind.u32 (x1.i)) = (Value.int IntKind.u32 (x5.i))) ∧ True ∧ ((Value.int IntKind.i64 ((↑x1.k : Int))) = (Value.int IntKind.i64 ((↑x5.k : Int)))) ∧ ((Value.int IntKind.i64 (x2.getD 0)) = (Value.int IntKind.i64 (x5.u.getD 0))) ∧ ((Value.bool (x2.isSome)) = (Value.bool (x5.u.isSome))) ∧ ((Value.int IntKind.i64 (x3.getD 0)) = (Value.int IntKind.i64 (x5.v.getD 0))) ∧ ((Value.bool (x3.isSome)) = (Value.bool (x5.v.isSome))) ∧ ((Value.int IntKind.i64 (x4.getD 0)) = (Value.int IntKind.i64 (x5.w.getD 0))) ∧ ((Value.bool (x4.isSome)) = (Value.bool (x5.w.isSome))) ∧ ((Value.int IntKind.i64 (o1.getD 0)) = (Value.int IntKind.i64 (x5.y.getD 0))) ∧ ((Value.bool (o1.isSome)) = (Value.bool (x5.y.isSome))) ∧ True) ∧ ((raw) = (raw)) ∧ ((e1) = (e1)) ∧ ((e2) = (e2)) ∧ (True ∧ True ∧ True ∧ ((Value.int IntKind.u64 (S'1.reads)) = (Value.int IntKind.u64 (x5.S.reads))) ∧ True) ∧ (True ∧ True ∧ True ∧
    ((Value.int IntKind.u32 (S'1.fresh)) = (Value.int IntKind.u32 (x5.S.fresh))) ∧ True) ∧ ((S'1.nodes) = (x5.S.nodes)) ∧ ((S'1.counts) = (x5.S.counts)) ∧ ((S'1.used) = (x5.S.used)) ∧ ((S'1.gen) = (x5.S.gen)) ∧ ((S'1.rel) = (x5.S.rel)) ∧ ((listE raw 60) = (listE raw 60)) ∧ ((x1.lo) = (x5.lo)) ∧ ((x1.lt) = (x5.lt)) ∧ (True ∧ ((Value.int IntKind.u32 (x1.b)) = (Value.int IntKind.u32 (x5.b))) ∧ ((Value.int IntKind.u32 (x1.o)) = (Value.int IntKind.u32 (x5.o))) ∧ ((Value.int IntKind.u32 (x1.t)) = (Value.int IntKind.u32 (x5.t))) ∧ True ∧ True ∧ True ∧ True) ∧ ((keys3 (listE raw 60) x1.lo x1.lt ++ [key]) = (keys3 (listE raw 60) x5.lo x5.lt ++ [key])) ∧ True)))))))))))) ∧ (∀ x5 : XMv P2, ((((↑x1.k : Int)) = ((↑x5.k : Int))) → ((brS (x5.u.isSome == x5.v.isSome) ((brS (x5.u.getD 0 == x5.v.getD 0) ((brS (!x5.y.isSome == x5.w.isSome) ((∃ x6 : XMu P3, ((((↑x5.k : Int)) = ((↑x6.k : Int))) ∧ (True ∧ ((Value.int IntKind.u32 (x5.i)) = (Value.int IntKind.u32 (x6.i))) ∧ True ∧ ((Value.int IntKind.i64 ((↑x5.k : Int))) = (Value.int IntKind.i64 ((↑x6.k : Int)))) ∧ ((Value.bool true) = (Value.bool false)) ∧ True) ∧ ((raw) = (raw)) ∧ ((e1) = (e1)) ∧ ((e2) = (e2)) ∧ (True ∧ True ∧ True ∧ ((Value.int IntKind.u64 (x5.S.reads)) = (Value.int IntKind.u64 (x6.S.reads))) ∧ True) ∧ (True ∧ True ∧ True ∧ ((Value.int IntKind.u32 (x5.S.fresh)) = (Value.int IntKind.u32 (x6.S.fresh))) ∧ True) ∧ ((x5.S.nodes) = (x6.S.nodes)) ∧ ((x5.S.counts) = (x6.S.counts)) ∧ ((x5.S.used) = (x6.S.used)) ∧ ((x5.S.gen) = (x6.S.gen)) ∧
    ((x5.S.rel) = (x6.S.rel)) ∧ ((listE raw 60) = (listE raw 60)) ∧ ((x5.lo) = (x6.lo)) ∧ ((x5.lt) = (x6.lt)) ∧ (True ∧ ((Value.int IntKind.u32 (x5.b)) = (Value.int IntKind.u32 (x6.b))) ∧ ((Value.int IntKind.u32 (x5.o)) = (Value.int IntKind.u32 (x6.o))) ∧ ((Value.int IntKind.u32 (x5.t)) = (Value.int IntKind.u32 (x6.t))) ∧ True ∧ True ∧ True ∧ True) ∧ ((keys3 (listE raw 60) x5.lo x5.lt ++ [key]) = (keys3 (listE raw 60) x6.lo x6.lt ++ [key])) ∧ True))) ((brS (x5.y.getD 0 != x5.w.getD 0) ((∃ x6 : XMu P3, ((((↑x5.k : Int)) = ((↑x6.k : Int))) ∧ (True ∧ ((Value.int IntKind.u32 (x5.i)) = (Value.int IntKind.u32 (x6.i))) ∧ True ∧ ((Value.int IntKind.i64 ((↑x5.k : Int))) = (Value.int IntKind.i64 ((↑x6.k : Int)))) ∧ ((Value.bool true) = (Value.bool false)) ∧ True) ∧ ((raw) = (raw)) ∧ ((e1) = (e1)) ∧ ((e2) = (e2)) ∧ (True ∧ True ∧ True ∧ ((Value.int IntKind.u64 (x5.S.reads)) = (Value.int IntKind.u64 (x6.S.reads))) ∧ True) ∧ (True ∧ True ∧ True ∧ ((Value.int IntKind.u32 (x5.S.fresh)) = (Value.int IntKind.u32 (x6.S.fresh))) ∧ True) ∧ ((x5.S.nodes) = (x6.S.nodes)) ∧ ((x5.S.counts) = (x6.S.counts)) ∧ ((x5.S.used) = (x6.S.used)) ∧ ((x5.S.gen) = (x6.S.gen)) ∧ ((x5.S.rel) = (x6.S.rel)) ∧ ((listE raw 60) = (listE raw 60)) ∧ ((x5.lo) = (x6.lo)) ∧ ((x5.lt) = (x6.lt)) ∧ (True ∧ ((Value.int IntKind.u32 (x5.b)) = (Value.int IntKind.u32 (x6.b))) ∧ ((Value.int IntKind.u32 (x5.o)) = (Value.int IntKind.u32 (x6.o))) ∧ ((Value.int IntKind.u32 (x5.t)) = (Value.int IntKind.u32 (x6.t))) ∧ True ∧ True ∧ True ∧
    True) ∧ ((keys3 (listE raw 60) x5.lo x5.lt ++ [key]) = (keys3 (listE raw 60) x6.lo x6.lt ++ [key])) ∧ True))) ((brS (x5.u.isSome == x5.w.isSome) ((brS (x5.u.getD 0 == x5.w.getD 0) ((brS (!x5.y.isSome == x5.v.isSome) ((∃ x6 : XMu P3, ((((↑x5.k : Int)) = ((↑x6.k : Int))) ∧ (True ∧ ((Value.int IntKind.u32 (x5.i)) = (Value.int IntKind.u32 (x6.i))) ∧ True ∧ ((Value.int IntKind.i64 ((↑x5.k : Int))) = (Value.int IntKind.i64 ((↑x6.k : Int)))) ∧ ((Value.bool true) = (Value.bool false)) ∧ True) ∧ ((raw) = (raw)) ∧ ((e1) = (e1)) ∧ ((e2) = (e2)) ∧ (True ∧ True ∧ True ∧ ((Value.int IntKind.u64 (x5.S.reads)) = (Value.int IntKind.u64 (x6.S.reads))) ∧ True) ∧ (True ∧ True ∧ True ∧ ((Value.int IntKind.u32 (x5.S.fresh)) = (Value.int IntKind.u32 (x6.S.fresh))) ∧ True) ∧ ((x5.S.nodes) = (x6.S.nodes)) ∧ ((x5.S.counts) = (x6.S.counts)) ∧ ((x5.S.used) = (x6.S.used)) ∧ ((x5.S.gen) = (x6.S.gen)) ∧ ((x5.S.rel) = (x6.S.rel)) ∧ ((listE raw 60) = (listE raw 60)) ∧ ((x5.lo) = (x6.lo)) ∧ ((x5.lt) = (x6.lt)) ∧ (True ∧ ((Value.int IntKind.u32 (x5.b)) = (Value.int IntKind.u32 (x6.b))) ∧ ((Value.int IntKind.u32 (x5.o)) = (Value.int IntKind.u32 (x6.o))) ∧ ((Value.int IntKind.u32 (x5.t)) = (Value.int IntKind.u32 (x6.t))) ∧ True ∧ True ∧ True ∧ True) ∧ ((keys3 (listE raw 60) x5.lo x5.lt ++ [key]) = (keys3 (listE raw 60) x6.lo x6.lt ++ [key])) ∧ True))) ((∃ x6 : XMu P3, ((((↑x5.k : Int)) = ((↑x6.k : Int))) ∧ (True ∧ ((Value.int IntKind.u32 (x5.i)) = (Value.int IntKind.u32 (x6.i))) ∧ True ∧
    ((Value.int IntKind.i64 ((↑x5.k : Int))) = (Value.int IntKind.i64 ((↑x6.k : Int)))) ∧ ((Value.bool (x5.y.getD 0 != x5.v.getD 0)) = (Value.bool false)) ∧ True) ∧ ((raw) = (raw)) ∧ ((e1) = (e1)) ∧ ((e2) = (e2)) ∧ (True ∧ True ∧ True ∧ ((Value.int IntKind.u64 (x5.S.reads)) = (Value.int IntKind.u64 (x6.S.reads))) ∧ True) ∧ (True ∧ True ∧ True ∧ ((Value.int IntKind.u32 (x5.S.fresh)) = (Value.int IntKind.u32 (x6.S.fresh))) ∧ True) ∧ ((x5.S.nodes) = (x6.S.nodes)) ∧ ((x5.S.counts) = (x6.S.counts)) ∧ ((x5.S.used) = (x6.S.used)) ∧ ((x5.S.gen) = (x6.S.gen)) ∧ ((x5.S.rel) = (x6.S.rel)) ∧ ((listE raw 60) = (listE raw 60)) ∧ ((x5.lo) = (x6.lo)) ∧ ((x5.lt) = (x6.lt)) ∧ (True ∧ ((Value.int IntKind.u32 (x5.b)) = (Value.int IntKind.u32 (x6.b))) ∧ ((Value.int IntKind.u32 (x5.o)) = (Value.int IntKind.u32 (x6.o))) ∧ ((Value.int IntKind.u32 (x5.t)) = (Value.int IntKind.u32 (x6.t))) ∧ True ∧ True ∧ True ∧ True) ∧ ((keys3 (listE raw 60) x5.lo x5.lt ++ [key]) = (keys3 (listE raw 60) x6.lo x6.lt ++ [key])) ∧ True))))) ((∃ x6 : XMu P3, ((((↑x5.k : Int)) = ((↑x6.k : Int))) ∧ (True ∧ ((Value.int IntKind.u32 (x5.i)) = (Value.int IntKind.u32 (x6.i))) ∧ True ∧ ((Value.int IntKind.i64 ((↑x5.k : Int))) = (Value.int IntKind.i64 ((↑x6.k : Int)))) ∧ ((Value.bool false) = (Value.bool false)) ∧ True) ∧ ((raw) = (raw)) ∧ ((e1) = (e1)) ∧ ((e2) = (e2)) ∧ (True ∧ True ∧ True ∧ ((Value.int IntKind.u64 (x5.S.reads)) = (Value.int IntKind.u64 (x6.S.reads))) ∧ True) ∧ (True ∧ True ∧ True ∧
    ((Value.int IntKind.u32 (x5.S.fresh)) = (Value.int IntKind.u32 (x6.S.fresh))) ∧ True) ∧ ((x5.S.nodes) = (x6.S.nodes)) ∧ ((x5.S.counts) = (x6.S.counts)) ∧ ((x5.S.used) = (x6.S.used)) ∧ ((x5.S.gen) = (x6.S.gen)) ∧ ((x5.S.rel) = (x6.S.rel)) ∧ ((listE raw 60) = (listE raw 60)) ∧ ((x5.lo) = (x6.lo)) ∧ ((x5.lt) = (x6.lt)) ∧ (True ∧ ((Value.int IntKind.u32 (x5.b)) = (Value.int IntKind.u32 (x6.b))) ∧ ((Value.int IntKind.u32 (x5.o)) = (Value.int IntKind.u32 (x6.o))) ∧ ((Value.int IntKind.u32 (x5.t)) = (Value.int IntKind.u32 (x6.t))) ∧ True ∧ True ∧ True ∧ True) ∧ ((keys3 (listE raw 60) x5.lo x5.lt ++ [key]) = (keys3 (listE raw 60) x6.lo x6.lt ++ [key])) ∧ True))))) ((∃ x6 : XMu P3, ((((↑x5.k : Int)) = ((↑x6.k : Int))) ∧ (True ∧ ((Value.int IntKind.u32 (x5.i)) = (Value.int IntKind.u32 (x6.i))) ∧ True ∧ ((Value.int IntKind.i64 ((↑x5.k : Int))) = (Value.int IntKind.i64 ((↑x6.k : Int)))) ∧ ((Value.bool false) = (Value.bool false)) ∧ True) ∧ ((raw) = (raw)) ∧ ((e1) = (e1)) ∧ ((e2) = (e2)) ∧ (True ∧ True ∧ True ∧ ((Value.int IntKind.u64 (x5.S.reads)) = (Value.int IntKind.u64 (x6.S.reads))) ∧ True) ∧ (True ∧ True ∧ True ∧ ((Value.int IntKind.u32 (x5.S.fresh)) = (Value.int IntKind.u32 (x6.S.fresh))) ∧ True) ∧ ((x5.S.nodes) = (x6.S.nodes)) ∧ ((x5.S.counts) = (x6.S.counts)) ∧ ((x5.S.used) = (x6.S.used)) ∧ ((x5.S.gen) = (x6.S.gen)) ∧ ((x5.S.rel) = (x6.S.rel)) ∧ ((listE raw 60) = (listE raw 60)) ∧ ((x5.lo) = (x6.lo)) ∧ ((x5.lt) = (x6.lt)) ∧ (True ∧
    ((Value.int IntKind.u32 (x5.b)) = (Value.int IntKind.u32 (x6.b))) ∧ ((Value.int IntKind.u32 (x5.o)) = (Value.int IntKind.u32 (x6.o))) ∧ ((Value.int IntKind.u32 (x5.t)) = (Value.int IntKind.u32 (x6.t))) ∧ True ∧ True ∧ True ∧ True) ∧ ((keys3 (listE raw 60) x5.lo x5.lt ++ [key]) = (keys3 (listE raw 60) x6.lo x6.lt ++ [key])) ∧ True))))))))) ((brS (x5.u.isSome == x5.w.isSome) ((brS (x5.u.getD 0 == x5.w.getD 0) ((brS (!x5.y.isSome == x5.v.isSome) ((∃ x6 : XMu P3, ((((↑x5.k : Int)) = ((↑x6.k : Int))) ∧ (True ∧ ((Value.int IntKind.u32 (x5.i)) = (Value.int IntKind.u32 (x6.i))) ∧ True ∧ ((Value.int IntKind.i64 ((↑x5.k : Int))) = (Value.int IntKind.i64 ((↑x6.k : Int)))) ∧ ((Value.bool true) = (Value.bool false)) ∧ True) ∧ ((raw) = (raw)) ∧ ((e1) = (e1)) ∧ ((e2) = (e2)) ∧ (True ∧ True ∧ True ∧ ((Value.int IntKind.u64 (x5.S.reads)) = (Value.int IntKind.u64 (x6.S.reads))) ∧ True) ∧ (True ∧ True ∧ True ∧ ((Value.int IntKind.u32 (x5.S.fresh)) = (Value.int IntKind.u32 (x6.S.fresh))) ∧ True) ∧ ((x5.S.nodes) = (x6.S.nodes)) ∧ ((x5.S.counts) = (x6.S.counts)) ∧ ((x5.S.used) = (x6.S.used)) ∧ ((x5.S.gen) = (x6.S.gen)) ∧ ((x5.S.rel) = (x6.S.rel)) ∧ ((listE raw 60) = (listE raw 60)) ∧ ((x5.lo) = (x6.lo)) ∧ ((x5.lt) = (x6.lt)) ∧ (True ∧ ((Value.int IntKind.u32 (x5.b)) = (Value.int IntKind.u32 (x6.b))) ∧ ((Value.int IntKind.u32 (x5.o)) = (Value.int IntKind.u32 (x6.o))) ∧ ((Value.int IntKind.u32 (x5.t)) = (Value.int IntKind.u32 (x6.t))) ∧ True ∧ True ∧ True ∧ True) ∧
    ((keys3 (listE raw 60) x5.lo x5.lt ++ [key]) = (keys3 (listE raw 60) x6.lo x6.lt ++ [key])) ∧ True))) ((∃ x6 : XMu P3, ((((↑x5.k : Int)) = ((↑x6.k : Int))) ∧ (True ∧ ((Value.int IntKind.u32 (x5.i)) = (Value.int IntKind.u32 (x6.i))) ∧ True ∧ ((Value.int IntKind.i64 ((↑x5.k : Int))) = (Value.int IntKind.i64 ((↑x6.k : Int)))) ∧ ((Value.bool (x5.y.getD 0 != x5.v.getD 0)) = (Value.bool false)) ∧ True) ∧ ((raw) = (raw)) ∧ ((e1) = (e1)) ∧ ((e2) = (e2)) ∧ (True ∧ True ∧ True ∧ ((Value.int IntKind.u64 (x5.S.reads)) = (Value.int IntKind.u64 (x6.S.reads))) ∧ True) ∧ (True ∧ True ∧ True ∧ ((Value.int IntKind.u32 (x5.S.fresh)) = (Value.int IntKind.u32 (x6.S.fresh))) ∧ True) ∧ ((x5.S.nodes) = (x6.S.nodes)) ∧ ((x5.S.counts) = (x6.S.counts)) ∧ ((x5.S.used) = (x6.S.used)) ∧ ((x5.S.gen) = (x6.S.gen)) ∧ ((x5.S.rel) = (x6.S.rel)) ∧ ((listE raw 60) = (listE raw 60)) ∧ ((x5.lo) = (x6.lo)) ∧ ((x5.lt) = (x6.lt)) ∧ (True ∧ ((Value.int IntKind.u32 (x5.b)) = (Value.int IntKind.u32 (x6.b))) ∧ ((Value.int IntKind.u32 (x5.o)) = (Value.int IntKind.u32 (x6.o))) ∧ ((Value.int IntKind.u32 (x5.t)) = (Value.int IntKind.u32 (x6.t))) ∧ True ∧ True ∧ True ∧ True) ∧ ((keys3 (listE raw 60) x5.lo x5.lt ++ [key]) = (keys3 (listE raw 60) x6.lo x6.lt ++ [key])) ∧ True))))) ((∃ x6 : XMu P3, ((((↑x5.k : Int)) = ((↑x6.k : Int))) ∧ (True ∧ ((Value.int IntKind.u32 (x5.i)) = (Value.int IntKind.u32 (x6.i))) ∧ True ∧ ((Value.int IntKind.i64 ((↑x5.k : Int))) = (Value.int IntKind.i64 ((↑x6.k : Int)))) ∧
    ((Value.bool false) = (Value.bool false)) ∧ True) ∧ ((raw) = (raw)) ∧ ((e1) = (e1)) ∧ ((e2) = (e2)) ∧ (True ∧ True ∧ True ∧ ((Value.int IntKind.u64 (x5.S.reads)) = (Value.int IntKind.u64 (x6.S.reads))) ∧ True) ∧ (True ∧ True ∧ True ∧ ((Value.int IntKind.u32 (x5.S.fresh)) = (Value.int IntKind.u32 (x6.S.fresh))) ∧ True) ∧ ((x5.S.nodes) = (x6.S.nodes)) ∧ ((x5.S.counts) = (x6.S.counts)) ∧ ((x5.S.used) = (x6.S.used)) ∧ ((x5.S.gen) = (x6.S.gen)) ∧ ((x5.S.rel) = (x6.S.rel)) ∧ ((listE raw 60) = (listE raw 60)) ∧ ((x5.lo) = (x6.lo)) ∧ ((x5.lt) = (x6.lt)) ∧ (True ∧ ((Value.int IntKind.u32 (x5.b)) = (Value.int IntKind.u32 (x6.b))) ∧ ((Value.int IntKind.u32 (x5.o)) = (Value.int IntKind.u32 (x6.o))) ∧ ((Value.int IntKind.u32 (x5.t)) = (Value.int IntKind.u32 (x6.t))) ∧ True ∧ True ∧ True ∧ True) ∧ ((keys3 (listE raw 60) x5.lo x5.lt ++ [key]) = (keys3 (listE raw 60) x6.lo x6.lt ++ [key])) ∧ True))))) ((∃ x6 : XMu P3, ((((↑x5.k : Int)) = ((↑x6.k : Int))) ∧ (True ∧ ((Value.int IntKind.u32 (x5.i)) = (Value.int IntKind.u32 (x6.i))) ∧ True ∧ ((Value.int IntKind.i64 ((↑x5.k : Int))) = (Value.int IntKind.i64 ((↑x6.k : Int)))) ∧ ((Value.bool false) = (Value.bool false)) ∧ True) ∧ ((raw) = (raw)) ∧ ((e1) = (e1)) ∧ ((e2) = (e2)) ∧ (True ∧ True ∧ True ∧ ((Value.int IntKind.u64 (x5.S.reads)) = (Value.int IntKind.u64 (x6.S.reads))) ∧ True) ∧ (True ∧ True ∧ True ∧ ((Value.int IntKind.u32 (x5.S.fresh)) = (Value.int IntKind.u32 (x6.S.fresh))) ∧ True) ∧ ((x5.S.nodes) = (x6.S.nodes)) ∧
    ((x5.S.counts) = (x6.S.counts)) ∧ ((x5.S.used) = (x6.S.used)) ∧ ((x5.S.gen) = (x6.S.gen)) ∧ ((x5.S.rel) = (x6.S.rel)) ∧ ((listE raw 60) = (listE raw 60)) ∧ ((x5.lo) = (x6.lo)) ∧ ((x5.lt) = (x6.lt)) ∧ (True ∧ ((Value.int IntKind.u32 (x5.b)) = (Value.int IntKind.u32 (x6.b))) ∧ ((Value.int IntKind.u32 (x5.o)) = (Value.int IntKind.u32 (x6.o))) ∧ ((Value.int IntKind.u32 (x5.t)) = (Value.int IntKind.u32 (x6.t))) ∧ True ∧ True ∧ True ∧ True) ∧ ((keys3 (listE raw 60) x5.lo x5.lt ++ [key]) = (keys3 (listE raw 60) x6.lo x6.lt ++ [key])) ∧ True))))))) ((brS (x5.u.isSome == x5.w.isSome) ((brS (x5.u.getD 0 == x5.w.getD 0) ((brS (!x5.y.isSome == x5.v.isSome) ((∃ x6 : XMu P3, ((((↑x5.k : Int)) = ((↑x6.k : Int))) ∧ (True ∧ ((Value.int IntKind.u32 (x5.i)) = (Value.int IntKind.u32 (x6.i))) ∧ True ∧ ((Value.int IntKind.i64 ((↑x5.k : Int))) = (Value.int IntKind.i64 ((↑x6.k : Int)))) ∧ ((Value.bool true) = (Value.bool false)) ∧ True) ∧ ((raw) = (raw)) ∧ ((e1) = (e1)) ∧ ((e2) = (e2)) ∧ (True ∧ True ∧ True ∧ ((Value.int IntKind.u64 (x5.S.reads)) = (Value.int IntKind.u64 (x6.S.reads))) ∧ True) ∧ (True ∧ True ∧ True ∧ ((Value.int IntKind.u32 (x5.S.fresh)) = (Value.int IntKind.u32 (x6.S.fresh))) ∧ True) ∧ ((x5.S.nodes) = (x6.S.nodes)) ∧ ((x5.S.counts) = (x6.S.counts)) ∧ ((x5.S.used) = (x6.S.used)) ∧ ((x5.S.gen) = (x6.S.gen)) ∧ ((x5.S.rel) = (x6.S.rel)) ∧ ((listE raw 60) = (listE raw 60)) ∧ ((x5.lo) = (x6.lo)) ∧ ((x5.lt) = (x6.lt)) ∧ (True ∧
    ((Value.int IntKind.u32 (x5.b)) = (Value.int IntKind.u32 (x6.b))) ∧ ((Value.int IntKind.u32 (x5.o)) = (Value.int IntKind.u32 (x6.o))) ∧ ((Value.int IntKind.u32 (x5.t)) = (Value.int IntKind.u32 (x6.t))) ∧ True ∧ True ∧ True ∧ True) ∧ ((keys3 (listE raw 60) x5.lo x5.lt ++ [key]) = (keys3 (listE raw 60) x6.lo x6.lt ++ [key])) ∧ True))) ((∃ x6 : XMu P3, ((((↑x5.k : Int)) = ((↑x6.k : Int))) ∧ (True ∧ ((Value.int IntKind.u32 (x5.i)) = (Value.int IntKind.u32 (x6.i))) ∧ True ∧ ((Value.int IntKind.i64 ((↑x5.k : Int))) = (Value.int IntKind.i64 ((↑x6.k : Int)))) ∧ ((Value.bool (x5.y.getD 0 != x5.v.getD 0)) = (Value.bool false)) ∧ True) ∧ ((raw) = (raw)) ∧ ((e1) = (e1)) ∧ ((e2) = (e2)) ∧ (True ∧ True ∧ True ∧ ((Value.int IntKind.u64 (x5.S.reads)) = (Value.int IntKind.u64 (x6.S.reads))) ∧ True) ∧ (True ∧ True ∧ True ∧ ((Value.int IntKind.u32 (x5.S.fresh)) = (Value.int IntKind.u32 (x6.S.fresh))) ∧ True) ∧ ((x5.S.nodes) = (x6.S.nodes)) ∧ ((x5.S.counts) = (x6.S.counts)) ∧ ((x5.S.used) = (x6.S.used)) ∧ ((x5.S.gen) = (x6.S.gen)) ∧ ((x5.S.rel) = (x6.S.rel)) ∧ ((listE raw 60) = (listE raw 60)) ∧ ((x5.lo) = (x6.lo)) ∧ ((x5.lt) = (x6.lt)) ∧ (True ∧ ((Value.int IntKind.u32 (x5.b)) = (Value.int IntKind.u32 (x6.b))) ∧ ((Value.int IntKind.u32 (x5.o)) = (Value.int IntKind.u32 (x6.o))) ∧ ((Value.int IntKind.u32 (x5.t)) = (Value.int IntKind.u32 (x6.t))) ∧ True ∧ True ∧ True ∧ True) ∧ ((keys3 (listE raw 60) x5.lo x5.lt ++ [key]) = (keys3 (listE raw 60) x6.lo x6.lt ++ [key])) ∧ True))))) ((∃ x6 : XMu P3,
    ((((↑x5.k : Int)) = ((↑x6.k : Int))) ∧ (True ∧ ((Value.int IntKind.u32 (x5.i)) = (Value.int IntKind.u32 (x6.i))) ∧ True ∧ ((Value.int IntKind.i64 ((↑x5.k : Int))) = (Value.int IntKind.i64 ((↑x6.k : Int)))) ∧ ((Value.bool false) = (Value.bool false)) ∧ True) ∧ ((raw) = (raw)) ∧ ((e1) = (e1)) ∧ ((e2) = (e2)) ∧ (True ∧ True ∧ True ∧ ((Value.int IntKind.u64 (x5.S.reads)) = (Value.int IntKind.u64 (x6.S.reads))) ∧ True) ∧ (True ∧ True ∧ True ∧ ((Value.int IntKind.u32 (x5.S.fresh)) = (Value.int IntKind.u32 (x6.S.fresh))) ∧ True) ∧ ((x5.S.nodes) = (x6.S.nodes)) ∧ ((x5.S.counts) = (x6.S.counts)) ∧ ((x5.S.used) = (x6.S.used)) ∧ ((x5.S.gen) = (x6.S.gen)) ∧ ((x5.S.rel) = (x6.S.rel)) ∧ ((listE raw 60) = (listE raw 60)) ∧ ((x5.lo) = (x6.lo)) ∧ ((x5.lt) = (x6.lt)) ∧ (True ∧ ((Value.int IntKind.u32 (x5.b)) = (Value.int IntKind.u32 (x6.b))) ∧ ((Value.int IntKind.u32 (x5.o)) = (Value.int IntKind.u32 (x6.o))) ∧ ((Value.int IntKind.u32 (x5.t)) = (Value.int IntKind.u32 (x6.t))) ∧ True ∧ True ∧ True ∧ True) ∧ ((keys3 (listE raw 60) x5.lo x5.lt ++ [key]) = (keys3 (listE raw 60) x6.lo x6.lt ++ [key])) ∧ True))))) ((∃ x6 : XMu P3, ((((↑x5.k : Int)) = ((↑x6.k : Int))) ∧ (True ∧ ((Value.int IntKind.u32 (x5.i)) = (Value.int IntKind.u32 (x6.i))) ∧ True ∧ ((Value.int IntKind.i64 ((↑x5.k : Int))) = (Value.int IntKind.i64 ((↑x6.k : Int)))) ∧ ((Value.bool false) = (Value.bool false)) ∧ True) ∧ ((raw) = (raw)) ∧ ((e1) = (e1)) ∧ ((e2) = (e2)) ∧ (True ∧ True ∧ True ∧
    ((Value.int IntKind.u64 (x5.S.reads)) = (Value.int IntKind.u64 (x6.S.reads))) ∧ True) ∧ (True ∧ True ∧ True ∧ ((Value.int IntKind.u32 (x5.S.fresh)) = (Value.int IntKind.u32 (x6.S.fresh))) ∧ True) ∧ ((x5.S.nodes) = (x6.S.nodes)) ∧ ((x5.S.counts) = (x6.S.counts)) ∧ ((x5.S.used) = (x6.S.used)) ∧ ((x5.S.gen) = (x6.S.gen)) ∧ ((x5.S.rel) = (x6.S.rel)) ∧ ((listE raw 60) = (listE raw 60)) ∧ ((x5.lo) = (x6.lo)) ∧ ((x5.lt) = (x6.lt)) ∧ (True ∧ ((Value.int IntKind.u32 (x5.b)) = (Value.int IntKind.u32 (x6.b))) ∧ ((Value.int IntKind.u32 (x5.o)) = (Value.int IntKind.u32 (x6.o))) ∧ ((Value.int IntKind.u32 (x5.t)) = (Value.int IntKind.u32 (x6.t))) ∧ True ∧ True ∧ True ∧ True) ∧ ((keys3 (listE raw 60) x5.lo x5.lt ++ [key]) = (keys3 (listE raw 60) x6.lo x6.lt ++ [key])) ∧ True)))))) ∧ (∀ x6 : XMu P3, ((((↑x5.k : Int)) = ((↑x6.k : Int))) → (∃ x' : XMu P1, (True ∧ ((True ∧ ((Value.int IntKind.u32 (x6.i)) = (Value.int IntKind.u32 (x'.i))) ∧ True ∧ ((Value.int IntKind.i64 (IntKind.i64.wrap ((↑x6.k : Int) + 1))) = (Value.int IntKind.i64 ((↑x'.k : Int)))) ∧ True) ∧ ((raw) = (raw)) ∧ ((e1) = (e1)) ∧ ((e2) = (e2)) ∧ (True ∧ True ∧ True ∧ ((Value.int IntKind.u64 (x6.S.reads)) = (Value.int IntKind.u64 (x'.S.reads))) ∧ True) ∧ (True ∧ True ∧ True ∧ ((Value.int IntKind.u32 (x6.S.fresh)) = (Value.int IntKind.u32 (x'.S.fresh))) ∧ True) ∧ ((x6.S.nodes) = (x'.S.nodes)) ∧ ((x6.S.counts) = (x'.S.counts)) ∧ ((x6.S.used) = (x'.S.used)) ∧ ((x6.S.gen) = (x'.S.gen)) ∧ ((x6.S.rel) = (x'.S.rel)) ∧
    ((listE raw 60) = (listE raw 60)) ∧ ((x6.lo) = (x'.lo)) ∧ ((x6.lt) = (x'.lt)) ∧ (True ∧ ((Value.int IntKind.u32 (x6.b)) = (Value.int IntKind.u32 (x'.b))) ∧ ((Value.int IntKind.u32 (x6.o)) = (Value.int IntKind.u32 (x'.o))) ∧ ((Value.int IntKind.u32 (x6.t)) = (Value.int IntKind.u32 (x'.t))) ∧ True ∧ True ∧ True ∧ True) ∧ ((keys3 (listE raw 60) x6.lo x6.lt ++ [key]) = (keys3 (listE raw 60) x'.lo x'.lt ++ [key])) ∧ True) ∧ (1000 - x'.k < 1000 - x1.k))))))))))))))))))) ((K (SV.one (TV.at (At.val (Value.bool true)))) [(Chunk.row false (EC.ent) (raw)), (Chunk.row false (EC.edm) (e1)), (Chunk.row false (EC.edm) (e2))] [])))))))))))))))))))))))))) = _ by kernel_rfl) ?_
  subst hP1 hP3 hP2
  have lB : (listE raw 60).length ≤ 60 := (listE_spec raw 60).2
  generalize listE raw 60 = B at *
  refine ⟨h0, by decide, by decide, hk, k1, k2, fun S b o t lo lt fk => ⟨by decide, by decide, fun x ex => ?_⟩⟩
  have x5 := mod_rng (n := 4) (by decide) ex
  rw [wrap_id (x := 1 + x) (by omega) (by omega)]
  have l2 := fk.so
  have l3 := fk.st
  have rd := fk.rd
  have fr := fk.free
  have lk := keys3_len B lo lt
  obtain ⟨tb, to, tt, hm, eb, eo, et, nm⟩ := fk.h.mg (b := b) (o := o) (t := t) (lb := B) (lo := lo) (lt := lt) (by simp) (by simp) (by simp) (by omega) (by omega) (by omega) (by simp) (by omega)
  have hn := Hn_rng ((B.length : Int) + lo.length + lt.length)
  refine ⟨_, tb, to, tt, hm, by omega, by omega, by omega, fun e3 S1 m c e1 cn => ?_, fun S1 i c tr => ⟨by omega, ?_, ⟨⟨0, S1, b, o, t, i, lo, lt, 1 + x, ?_⟩, ?_⟩, fun x1 _ => ?_⟩⟩
  · refine bt7 (by rw [e3]; rfl) ?_
    rw [conf_pos.2 cn]
    exact h
  · rw [bytes_i64]; simp only [List.length_singleton]; omega
  · rw [eb, eo, et] at tr
    obtain ⟨u, ru, lu, bu⟩ := tr.tree
    have q := tr.got.rd
    have ml := merge_len (fk.h.asc (b, B) (by simp)) (fk.h.asc (o, lo) (by simp)) (fk.h.asc (t, lt) (by simp)) (1 + x)
    have zu : u.size = (mergeE B lo lt (1 + x)).length := by rw [← u.list_len, lu]
    have ml : (mergeE B lo lt (1 + x)).length ≤ B.length + lo.length + lt.length := ml
    exact ⟨by omega, l2, l3, by omega, _, u, tr.got.wf, ru, lu, bu, by omega⟩
  · (repeat' first | exact trivial | exact rfl | refine And.intro ?_ ?_)
  clear hn nm et eo eb hm lk fr rd l2 l3 x5 fk ex
  obtain ⟨k, S, b, o, t, i, lo, lt, pol, hk9, l2, l3, rd, hs, tr, w, rp, ltr, bal, sz⟩ := x1
  dsimp only
  refine brS_of (fun c => ?_) fun _ => h
  have c : k < (keys3 B lo lt ++ [key]).length := by have := of_decide_eq_true c; omega
  have lk := keys3_len B lo lt
  have kl : (keys3 B lo lt ++ [key]).length ≤ 197 := by simp; omega
  generalize hks : keys3 B lo lt ++ [key] = ks at *
  refine ⟨by omega, by omega, fun u eu => ⟨by omega, by omega, fun v ev => ⟨by omega, by omega, fun w' ew => ⟨⟨by omega, by omega, hs, tr, w, rp, by rw [ltr]; exact mergeE_asc .., by omega, by omega, fun S1 m y e1 b1 ey => ⟨⟨k, S1, b, o, t, i, lo, lt, pol, u, v, w', y, ?_⟩, rfl, ?_⟩⟩, fun x5 e5 => ?_⟩⟩⟩⟩
  · have hb := Bal.height bal (by omega)
    have hr := Hn_rng tr.size
    have q1 : S1.reads = S.reads + m := by rw [e1]; rfl
    refine ⟨by omega, l2, l3, by omega, ⟨hs, tr, by rw [e1]; exact w.rd (by omega), by rw [e1]; exact rp.rdn, ltr, bal, sz⟩, ?_⟩
    rw [ey, ltr, mergeE_get, eu, ev, ew]
  · (repeat' first | exact trivial | exact rfl | refine And.intro ?_ ?_)
    all_goals exact hks ▸ rfl
  obtain ⟨k5, S5, b5, o5, t5, i5, lo5, lt5, pol5, u, v, w, y, hk5, l25, l35, rd5, ht5, hy⟩ := x5
  have e5 : (k : Int) = k5 := e5
  obtain rfl : k = k5 := by omega
  dsimp only
  have hQ : PU1u B (k + 1) S5 b5 o5 t5 i5 lo5 lt5 pol5 := ⟨by omega, l25, l35, by omega, ht5⟩
  have f1 : u = v → y = w := fun e => by rw [hy]; exact merged_ours e
  have f2 : u = w → y = v := fun e => by rw [hy]; exact merged_theirs e
  refine ⟨?_, fun x6 e6 => ?_⟩
  · refine (fun leaf => brS_of (fun a => brS_of (fun b => ?_) fun _ => leaf) fun _ => leaf) ?_
    rotate_left
    · refine brS_of (fun a => brS_of (fun b => ?_) fun _ => ?_) fun _ => ?_
      · have e := f2 (oeq a b)
        subst e
        refine bf7 (by simp) ?_
        exact ⟨⟨k, S5, b5, o5, t5, i5, lo5, lt5, pol5, hQ⟩, rfl, by (repeat' first | exact trivial | exact rfl | exact congrArg Value.bool (by simp) | refine And.intro ?_ ?_)⟩
      · exact ⟨⟨k, S5, b5, o5, t5, i5, lo5, lt5, pol5, hQ⟩, rfl, by (repeat' first | exact trivial | exact rfl | refine And.intro ?_ ?_)⟩
      · exact ⟨⟨k, S5, b5, o5, t5, i5, lo5, lt5, pol5, hQ⟩, rfl, by (repeat' first | exact trivial | exact rfl | refine And.intro ?_ ?_)⟩
    · have e := f1 (oeq a b)
      subst e
      exact bf7 (by simp) (bf7 (by simp) leaf)
  · obtain ⟨k6, S6, b6, o6, t6, i6, lo6, lt6, pol6, h6⟩ := x6
    have e6 : (k : Int) = k6 := e6
    obtain rfl : k = k6 := by omega
    dsimp only
    refine ⟨⟨k + 1, S6, b6, o6, t6, i6, lo6, lt6, pol6, h6⟩, trivial, ?_, by show 1000 - (k + 1) < 1000 - k; omega⟩
    (repeat' first | exact trivial | exact rfl | refine And.intro ?_ ?_)
    exact congrArg (Value.int .i64) (wrap_next c (by omega))
theorem s_mu : SoundT C0 10 tMu := by
  refine .of Try.func10 (by decide) rfl fun args H K h hB => ?_
  unfold tMu at h
  split at h <;> try exact h.elim
  rename_i t pol key raw e1 e2
  refine ⟨_, ?_, vc_mu raw e1 e2 t pol key K h.1 h.2.1 h.2.2.1 h.2.2.2.1 h.2.2.2.2⟩
  exact ⟨s_fk, frame C0.ok s_aw20 _, frame C0.ok s_mod _, frame C0.ok s_mgU _, frame C0.ok s_keys _, frame C0.ok s_get _, frame C0.ok s_getT _, trivial⟩
end Go.Proofs.Ytbonbaccmlomhaa.Sx
end
section
/- What every law's last step leans on. -/
namespace Go.Proofs.Ytbonbaccmlomhaa
open Go.ChangeShapes Go.WideShapes Go.ChangeAt Go.RowKit

theorem ownK : ownKnob Try.prog.godebug = none := by kernel_rfl
theorem laidO : laidOutB Try.prog = true := by kernel_rfl

theorem lit_i64 {a : Int} (h : (Lit.int .i64 a).wf = true) : -9223372036854775808 ≤ a ∧ a ≤ 9223372036854775807 := by
  have h1 : IntKind.i64.min = -9223372036854775808 := rfl
  have h2 : IntKind.i64.max = 9223372036854775807 := rfl
  simp only [Lit.wf, Bool.and_eq_true, decide_eq_true_eq] at h
  omega
theorem lit_u64 {a : Int} (h : (Lit.int .u64 a).wf = true) : 0 ≤ a ∧ a ≤ 18446744073709551615 := by
  have h1 : IntKind.u64.min = 0 := rfl
  have h2 : IntKind.u64.max = 18446744073709551615 := rfl
  simp only [Lit.wf, Bool.and_eq_true, decide_eq_true_eq] at h
  omega
end Go.Proofs.Ytbonbaccmlomhaa
end
section
/- From contracts to laws: the arguments as they come, what a law's call leaves. -/
namespace Go.Proofs.Ytbonbaccmlomhaa.Sx
open Go Go.Joins Go.ChangeShapes Go.WideShapes Go.ChangeAt Go.RowKit

theorem Sat.imms {C : Ctx} {w : World} (vs : List Value) (H : List (Chunk C)) (h : ∀ (n : Nat) (c : Chunk C), H[n]? = some c → ∃ e l, c = .row false e l ∧ Imm C w (vs.getD n undef) e l) : Sat C (fun n => vs.getD n undef) (fun _ _ => False) w H where
  holds n c hc := by
    obtain ⟨e, l, rfl, hi⟩ := h n c hc
    exact ⟨hi, fun _ hh => hh⟩
  dis _ _ _ hh := hh.elim
  bd _ _ hh := hh.elim
  imm _ _ _ _ _ _ _ _ hh := hh
  out _ _ _ hh := hh
  cl n c hc m hm := by
    obtain ⟨e, l, rfl, _⟩ := h n c hc
    simp [Chunk.names] at hm

theorem lawOf {f : FuncId} {t : Tfm C0} (hs : SoundT C0 f t) {args : List TV} {H : List (Chunk C0)} {vs : List Value} {σ : Nat → Value} {w : World} (ht : ∀ K : KT, K (.one (.at (vB true))) H [] → t args H K)
    (hsat : Sat C0 σ (fun _ _ => False) w H) (hr : Rels (TV.rel σ) args vs) (hn : ∀ x ∈ args, ∀ m ∈ x.names, m < H.length) : Calls Try.prog f vs.toArray w (fun e w' => e = .returned (.bool true) ∧ Below w.heap.size w w') := by
  have hc := hs.call args H (fun r _ _ => r = .one (.at (vB true))) (ht _ rfl) σ _ w vs hsat hr hn
  refine Calls.mono hc fun e w' hh => ?_
  cases e with
  | panicked ch => exact hh.elim
  | outgrown => exact hh.elim
  | returned v =>
    obtain ⟨r, H', ts, σ', φ', hout, rfl⟩ := hh
    have hv : v = .bool true := hout.rel
    exact ⟨by rw [hv], hout.adv.os, hout.adv.tape, hout.adv.output, hout.adv.size, fun k hk => hout.adv.fr k hk fun n hh => hh⟩

section
variable {HH : Type} {enc : TypeId × Value → HH} {P : Program} {w : World} {base b0 : Nat} {spare : Nat → Bool} {held : Bool} {r : Reach}
theorem openRowQ {α : Type} [Inhabited α] {t e : TypeId} {f : α → List Value} {Q : α → Prop} {sz : Nat} {v : Value} {d : DataW HH} {p : List MemPlace} (ht : P.underlying t = some (.slice e)) (hC : P.cellsOf e = sz) (hpos : 0 < sz) (hf : ∀ x, (f x).length = sz)
    (hel : ∀ {n : Nat} {cs : List Value} {x : DataW HH × List MemPlace}, DataW.trod enc P w base spare held n e cs = some x → ∃ a, cs = f a ∧ Q a) (hv : Value.okWide P w r b0 t v) (h : DataW.Trod enc P w base spare held t v d p) :
    ∃ A n c l, v = .slice A n c ∧ Rd f sz w A n c l ∧ ∀ x ∈ l, Q x := by
  obtain ⟨A, n, c, rfl⟩ := okWide_slice ht hv
  obtain ⟨fuel, hh⟩ := h
  have hh : DataW.trod enc P w base spare held fuel t [.slice A n c] = some (d, p) := by simpa [Value.cells] using hh
  rcases Go.Deep.open_slice ht hh with ⟨h1, _⟩ | ⟨a, len, cap, m, k, D, Pl, h1, hb, hle, hm, hmm, hx, hall⟩
  · simp only [List.cons.injEq, Value.slice.injEq, and_true] at h1
    obtain ⟨rfl, rfl, rfl⟩ := h1
    exact ⟨none, 0, 0, [], rfl, Rd.nil hf, fun x hx => by simp at hx⟩
  · simp only [List.cons.injEq, Value.slice.injEq, and_true] at h1
    obtain ⟨rfl, rfl, rfl⟩ := h1
    have hlm : n ≤ m := by rw [hmm]; split <;> omega
    have hel' : ∀ i, i < n → ∃ x : α, w.cells? base (a.add (i * P.cellsOf e)) (P.cellsOf e) = some (f x) ∧ Q x := fun i hi => by
      obtain ⟨cs', hc1, hc2⟩ := hall i (by omega)
      obtain ⟨x, rfl, hq⟩ := hel hc2
      exact ⟨x, hc1, hq⟩
    obtain ⟨F, hF⟩ := Go.Deep.choose_lt hel'
    have cell : ∀ i, i < n → ∀ j, j < sz → w.cell? ((a.add (i * sz)).add j) = (f (F i))[j]? := fun i hi j hj => by
      have h2 := (hF i hi).1
      rw [hC] at h2
      unfold World.cells? at h2
      split at h2
      · exact mapM_some_get h2 j j (by simp [hj])
      · cases h2
    refine ⟨some a, n, c, (List.range n).map F, rfl, ⟨by simp, hle, hm, hf, fun h => (by cases h), fun hn => ?_⟩, fun x hx => by obtain ⟨i, hi, rfl⟩ := List.mem_map.1 hx; exact (hF i (List.mem_range.1 hi)).2⟩
    obtain ⟨b, o, sp⟩ := a
    have hsome : ∀ i, i < n → ∀ j, j < sz → ∃ u, w.cell? (((⟨b, o, sp⟩ : Addr).add (i * sz)).add j) = some u := fun i hi j hj => by
      rw [cell i hi j hj]
      exact ⟨_, List.getElem?_eq_getElem (by rw [hf]; exact hj)⟩
    obtain ⟨u0, hu0⟩ := hsome 0 hn 0 hpos
    have hspot : sp = none := by simpa [Addr.add] using World.cell?_spot hu0
    subst hspot
    refine ⟨b, o, rfl, ?_, fun k x hx j u hu => ?_⟩
    · have hu1 : w.cell? ⟨b, o, none⟩ = some u0 := by simpa [Addr.add] using hu0
      unfold World.cell? at hu1
      split at hu1
      · rename_i hb2
        exact (Array.getElem?_eq_some_iff.1 hb2).1
      · cases hu1
    · rw [List.getElem?_map] at hx
      have hk : k < n := by
        rcases Nat.lt_or_ge k n with h2 | h2
        · exact h2
        · rw [List.getElem?_eq_none (by simpa using h2)] at hx; cases hx
      rw [List.getElem?_range hk] at hx
      simp only [Option.map_some, Option.some.injEq] at hx
      subst hx
      have hj : j < sz := by
        have := (List.getElem?_eq_some_iff.1 hu).1
        rwa [hf] at this
      have h3 := cell k hk j hj
      rw [hu] at h3
      rw [← h3]
      congr 1
      rw [Go.WideShapes.add_plain, Go.WideShapes.add_plain]
end

section
variable {HH : Type} {enc : TypeId × Value → HH} {w : World} {base b0 : Nat} {spare : Nat → Bool} {held : Bool} {r : Reach}
set_option maxRecDepth 100000 in
theorem elEw {n : Nat} {cs : List Value} {x : DataW HH × List MemPlace} (h : DataW.trod enc Try.prog w base spare held n 98 cs = some x) :
    ∃ a : Ent, cs = EC.enc .ent a ∧ ((-9223372036854775808 ≤ a.1 ∧ a.1 ≤ 9223372036854775807) ∧ (-9223372036854775808 ≤ a.2 ∧ a.2 ≤ 9223372036854775807)) := by
  obtain ⟨y0, y1, m, _, hl, h0, h1⟩ := trod_struct2 Try.underlying98 h
  obtain ⟨k, e0, _, w0⟩ := DataW.trod_int Try.underlying2 h0
  obtain ⟨v, e1, _, w1⟩ := DataW.trod_int Try.underlying2 h1
  have hl : cs.length = 2 := hl.trans (by kernel_rfl)
  have c1 : Try.prog.cellsOf 2 = 1 := by kernel_rfl
  match cs, hl with
  | [a, b], _ =>
    simp [c1] at e0 e1
    exact ⟨(k, v), by rw [e0, e1]; rfl, lit_i64 w0, lit_i64 w1⟩
set_option maxRecDepth 100000 in
/-- The same with what the entries' numbers are. -/
theorem openEw {v : Value} {d : DataW HH} {p : List MemPlace} (hv : Value.okWide Try.prog w r b0 22 v) (h : DataW.Trod enc Try.prog w base spare held 22 v d p) :
    ∃ (l : List Ent), Imm C0 w v EC.ent l ∧ ∀ x ∈ l, (-9223372036854775808 ≤ x.1 ∧ x.1 ≤ 9223372036854775807) ∧ (-9223372036854775808 ≤ x.2 ∧ x.2 ≤ 9223372036854775807) := by
  obtain ⟨A, n, c, l, rfl, hr, hq⟩ := openRowQ (α := Ent) (f := fun x => EC.enc .ent x) (sz := 2) Try.underlying22 (by kernel_rfl) (by decide) (fun _ => rfl) (fun h => elEw h) hv h
  obtain rfl := hr.len
  exact ⟨l, ⟨A, c, rfl, hr⟩, hq⟩
instance : Inhabited Chg := ⟨⟨0, 0, 0, 0⟩⟩
end
end Go.Proofs.Ytbonbaccmlomhaa.Sx
end
section
/- Opening an argument that is a slice of edits (merge). -/
namespace Go.Proofs.Ytbonbaccmlomhaa.Sx
open Go Go.Joins Go.ChangeShapes Go.WideShapes Go.ChangeAt Go.RowKit

section
variable {HH : Type} {enc : TypeId × Value → HH} {w : World} {base b0 : Nat} {spare : Nat → Bool} {held : Bool} {r : Reach}
set_option maxRecDepth 100000 in
theorem elF {n : Nat} {cs : List Value} {x : DataW HH × List MemPlace} (h : DataW.trod enc Try.prog w base spare held n 176 cs = some x) : ∃ a : EdtT, cs = EC.enc .edm a ∧ ((-9223372036854775808 ≤ a.ent.1 ∧ a.ent.1 ≤ 9223372036854775807) ∧ (-9223372036854775808 ≤ a.ent.2 ∧ a.ent.2 ≤ 9223372036854775807)) := by
  obtain ⟨y0, y1, y2, m, _, hl, h0, h1, h2⟩ := Go.Deep.trod_struct3 Try.underlying176 h
  obtain ⟨k, e0, _⟩ := DataW.trod_bool Try.underlying4 h0
  obtain ⟨v, e1, _⟩ := DataW.trod_int Try.underlying3 h1
  obtain ⟨s, e2, q2⟩ := elEw h2
  have hl : cs.length = 4 := hl.trans (by kernel_rfl)
  have c1 : Try.prog.cellsOf 4 = 1 := by kernel_rfl
  have c2 : Try.prog.cellsOf 3 = 1 := by kernel_rfl
  have c3 : Try.prog.cellsOf 98 = 2 := by kernel_rfl
  match cs, hl with
  | [a, b, c, d], _ =>
    simp [c1, c2, c3] at e0 e1 e2
    have e2 : [c, d] = [Value.int .i64 s.1, Value.int .i64 s.2] := e2
    simp only [List.cons.injEq, and_true] at e2
    exact ⟨⟨k, v, s⟩, by rw [e0, e1, e2.1, e2.2]; rfl, q2⟩
instance : Inhabited EdtT := ⟨⟨false, 0, (0, 0)⟩⟩
set_option maxRecDepth 100000 in
theorem openF {v : Value} {d : DataW HH} {p : List MemPlace} (hv : Value.okWide Try.prog w r b0 72 v) (h : DataW.Trod enc Try.prog w base spare held 72 v d p) :
    ∃ (l : List EdtT), Imm C0 w v EC.edm l ∧ ∀ x ∈ l, (-9223372036854775808 ≤ x.ent.1 ∧ x.ent.1 ≤ 9223372036854775807) ∧ (-9223372036854775808 ≤ x.ent.2 ∧ x.ent.2 ≤ 9223372036854775807) := by
  obtain ⟨A, n, c, l, rfl, hr, hq⟩ := openRowQ (α := EdtT) (f := fun x => EC.enc .edm x) (sz := 4) Try.underlying72 (by kernel_rfl) (by decide) (fun _ => rfl) (fun h => elF h) hv h
  obtain rfl := hr.len
  exact ⟨l, ⟨A, c, rfl, hr⟩, hq⟩
end
end Go.Proofs.Ytbonbaccmlomhaa.Sx
end
section
/- 'MergeUnchangedSide': the law returns true for every input, and its arguments read afterwards as they read before. -/
namespace Go.Proofs.Ytbonbaccmlomhaa.mergeUnchangedSide
open Go.ChangeShapes Go.WideShapes Go.ChangeAt Go.RowKit Sx

set_option maxRecDepth 100000 in
theorem lifted (os : Os) (started : os.Started) (H : Type) (enc : TypeId × Value → H) :
    ReturnsInHanded {} Try.checked os 10 .any (Rows.mergeUnchangedSideSpec.pre6 enc Try.prog Try.f10 Rows.mergeUnchangedSideRow.domain false) (Rows.mergeUnchangedSideSpec.post enc Try.prog Try.f10 false true false false) := by
  refine returnsInHanded_of_change (C := Try.checked) ownK started (by kernel_rfl) Try.func10
    (ChangeSpec.witness6 (enc := enc) (C := Try.checked) false ⟨#[], #[.slice none 0 0, .int .u64 0, .slice none 0 0, .slice none 0 0, .int .i64 0, .int .i64 0], []⟩ 8 (by kernel_rfl) (by kernel_rfl) (by kernel_rfl) (by kernel_rfl)) ?_
  intro W base args ds gs before hval0 hW hcnd _
  have hval : ∀ (j : Nat) t v, Try.f10.params[j]? = some t → args[j]? = some v → Value.okWide Try.prog W .any base t v := hval0
  have hW' := hW
  obtain ⟨p, q, hA0, hV, rfl, hfz, hnd⟩ := hW
  have hA : DataW.TrodAll enc Try.prog W 0 (fun _ => true) true Try.f10.params.toList args.toList ds p := hA0
  rw [Try.params10] at hA hval
  obtain ⟨v0, vs0, d0, ds0, p0, q0, hargs, rfl, rfl, h0, r0⟩ := trodAll_cons hA
  obtain ⟨v1, vs1, d1, ds1, p1, q1, rfl, rfl, rfl, h1, r1⟩ := trodAll_cons r0
  obtain ⟨v2, vs2, d2, ds2, p2, q2, rfl, rfl, rfl, h2, r2⟩ := trodAll_cons r1
  obtain ⟨v3, vs3, d3, ds3, p3, q3, rfl, rfl, rfl, h3, r3⟩ := trodAll_cons r2
  obtain ⟨v4, vs4, d4, ds4, p4, q4, rfl, rfl, rfl, h4, r4⟩ := trodAll_cons r3
  obtain ⟨v5, vs5, d5, ds5, p5, q5, rfl, rfl, rfl, h5, r5⟩ := trodAll_cons r4
  obtain ⟨rfl, rfl, rfl⟩ := trodAll_nil r5
  obtain rfl : args = #[v0, v1, v2, v3, v4, v5] := by cases args; simp_all
  obtain ⟨rfl, rfl⟩ := trodVars_none hV
  have k0 := h0
  have k1 := h1
  have k2 := h2
  have k3 := h3
  have k4 := h4
  have k5 := h5
  clear hA0 hval0
  simp only [List.append_nil] at hW'
  have hlt : ∀ x ∈ p0 ++ (p1 ++ (p2 ++ (p3 ++ (p4 ++ (p5))))), x.block < W.heap.size := fun x hx => by simpa using hW'.lt x (by simpa using hx)
  have l0 : ∀ x ∈ p0, x.block < W.heap.size := fun x hx => hlt x (by simp [hx])
  have l1 : ∀ x ∈ p1, x.block < W.heap.size := fun x hx => hlt x (by simp [hx])
  have l2 : ∀ x ∈ p2, x.block < W.heap.size := fun x hx => hlt x (by simp [hx])
  have l3 : ∀ x ∈ p3, x.block < W.heap.size := fun x hx => hlt x (by simp [hx])
  have l4 : ∀ x ∈ p4, x.block < W.heap.size := fun x hx => hlt x (by simp [hx])
  have l5 : ∀ x ∈ p5, x.block < W.heap.size := fun x hx => hlt x (by simp [hx])
  obtain ⟨L0, R0, Q0⟩ := openEw (hval 0 22 v0 rfl rfl) h0
  obtain ⟨a1, rfl, rfl, rfl, w1⟩ := open_int Try.underlying23 (hval 1 23 v1 rfl rfl) h1
  have b1 := lit_u64 w1
  obtain ⟨L2, R2, Q2⟩ := openF (hval 2 72 v2 rfl rfl) h2
  obtain ⟨L3, R3, Q3⟩ := openF (hval 3 72 v3 rfl rfl) h3
  obtain ⟨a4, rfl, rfl, rfl, w4⟩ := open_int Try.underlying3 (hval 4 3 v4 rfl rfl) h4
  have b4 := lit_i64 w4
  obtain ⟨a5, rfl, rfl, rfl, w5⟩ := open_int Try.underlying2 (hval 5 2 v5 rfl rfl) h5
  have b5 := lit_i64 w5
  refine (lawOf s_mu (args := [.at (.slc 0), .at (.val (.int .u64 a1)), .at (.slc 1), .at (.slc 2), .at (.val (.int .i64 a4)), .at (.val (.int .i64 a5))]) (H := [Chunk.row false EC.ent L0, Chunk.row false EC.edm L2, Chunk.row false EC.edm L3]) (vs := [v0, .int .u64 a1, v2, v3, .int .i64 a4, .int .i64 a5]) (σ := fun n => [v0, v2, v3].getD n undef) (w := W) (fun K h => ⟨b1.1, fun x hx => (Q0 x hx).1, fun x hx => (Q2 x hx).1, fun x hx => (Q3 x hx).1, h⟩)
    (Sat.imms [v0, v2, v3] _ fun n c hc => by match n, hc with | 0, hc => exact ⟨_, _, (Option.some.inj hc).symm, R0⟩ | 1, hc => exact ⟨_, _, (Option.some.inj hc).symm, R2⟩ | 2, hc => exact ⟨_, _, (Option.some.inj hc).symm, R3⟩ | n + 3, hc => simp at hc) (Rels.cons rfl (Rels.cons rfl (Rels.cons rfl (Rels.cons rfl (Rels.cons rfl (Rels.cons rfl Rels.nil)))))) (by simp [TV.names, At.names])).mono fun e W' ⟨he, hg⟩ => ?_
  subst he
  exact ⟨_, rfl, _, _, _, [] ++ [], _, [], hW', (trodAll_cons_mk (shut_bool Try.underlying4 true) trodAll_mk0), (trodAll_cons_mk (Below.trod laidO (by kernel_rfl) (of_decide_eq_true (by kernel_rfl)) k0 hg l0) (trodAll_cons_mk (Below.trod laidO (by kernel_rfl) (of_decide_eq_true (by kernel_rfl)) k1 hg l1) (trodAll_cons_mk (Below.trod laidO (by kernel_rfl) (of_decide_eq_true (by kernel_rfl)) k2 hg l2) (trodAll_cons_mk (Below.trod laidO (by kernel_rfl) (of_decide_eq_true (by kernel_rfl)) k3 hg l3) (trodAll_cons_mk (Below.trod laidO (by kernel_rfl) (of_decide_eq_true (by kernel_rfl)) k4 hg l4) (trodAll_cons_mk (Below.trod laidO (by kernel_rfl) (of_decide_eq_true (by kernel_rfl)) k5 hg l5) trodAll_mk0)))))), rfl, hg.frame _, fun h => by cases h⟩

theorem over : Rows.mergeUnchangedSideRow.holds Try.pinned (OpenSpec.ofChange Rows.mergeUnchangedSideSpec) :=
  OpenClaim.holds_of_wide 10 Try.f10 rfl rfl rfl rfl rfl rfl rfl ⟨rfl, rfl, rfl, rfl, rfl⟩ rfl rfl rfl rfl rfl (by kernel_rfl) Try.func10 (by kernel_rfl)
    (of_decide_eq_true (by kernel_rfl)) (by unfold Func.isWrapper; first | (rw [if_pos (by decide +kernel)]; kernel_rfl) | (rw [if_neg (by decide +kernel)]; exact ⟨rfl, rfl⟩))
    (fun os started H enc _ => lifted os started H enc)

theorem proved : Rows.MergeUnchangedSideSaid := over
#print axioms proved
end Go.Proofs.Ytbonbaccmlomhaa.mergeUnchangedSide
end
