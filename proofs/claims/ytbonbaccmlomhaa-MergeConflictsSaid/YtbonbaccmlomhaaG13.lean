/- A part of the proof. -/
import Derived.Test.YtbonbaccmlomhaaG12
import Derived.Test.YtbonbaccmlomhaaG10
import Derived.Test.YtbonbaccmlomhaaG11
import Derived.Test.YtbonbaccmlomhaaProg
import Derived.Test.YtbonbaccmlomhaaChecked
import Derived.WalkKit
import Derived.ProofKit
import Derived.OpenShut
import Derived.SizedLaws
import Derived.Carry
import Derived.Test.YtbonbaccmlomhaaG4
import Derived.Deep.Slices
import Derived.Lib.SmallJoins
import Derived.Deep.Strs
import Derived.Test.YtbonbaccmlomhaaRows
section
/- The law that Delete deletes. -/
namespace Go.Proofs.Ytbonbaccmlomhaa.Sx
open Go

/-KEEP Wf exW inU live Arn.cap Arn.free Rep rdS retL Tr.size Tr.list slotsOf orderOf PlantR newS insE outE listE getE TrR upM Hn keptD Asc Tr.Bal ht dB RepD List.Perm-/
structure XUe (P : Arn → Int → List Ent → Int → Prop) where
  S : Arn
  i : Int
  l : List Ent
  need : Int
  k : Int
  h : P S i l need
structure UdS where
  S0 : Arn
  S : Arn
  root : Int
  l : List Ent
  need : Int
  k : Int
  v : Int
  is : Bool
  d : List SlotT
  o : List Int
  r : Int
  i : Int
  w : Int
  f : Int
structure XUd (P : UdS → Prop) where
  z : UdS
  h : P z
structure XUw (P : UdS → Int → Prop) where
  z : UdS
  want : Int
  h : P z want
abbrev chUd (raw : List Ent) (z : UdS) : List (Chunk C0) := [.row false EC.ent raw] ++ chSk 1 z.S ++ [.row true EC.ent z.l, .box [.slc 10, .slc 11], .row true EC.slot z.d, .row true EC.u32 z.o]
def tUd : Tfm C0 := fun args H K => match args, H with
  | [.at (.slc 0), .at (.val (.int .u64 t)), .at (.val (.int .i64 _)), .at (.val (.int .i64 at')), .at (.val (.int .u16 f))], [.row false .ent raw] => 0 ≤ t ∧ -9223372036854775808 ≤ at' ∧ at' ≤ 9223372036854775807 ∧ 0 ≤ f ∧ f ≤ 65535 ∧ K (.one (.at (vB true))) [.row false EC.ent raw] []
  | _, _ => False
theorem outE_flt (l : List Ent) (k : Int) : outE l k k = flt (neK k) l := by
  unfold outE flt neK
  congr 1
  funext x
  by_cases h : x.1 = k
  · simp [h]
  · rw [decide_eq_true (show x.1 ≠ k from h)]
    simp; omega
def PUe (S : Arn) (i : Int) (l : List Ent) (need : Int) : Prop := ∃ t, upM S [i] t i ∧ t.list = l ∧ t.size = l.length ∧ l.length ≤ 150 ∧ need = 4 * (Hn (l.length : Int) + 2) ∧ S.reads = 0
/-- What Delete comes to. -/
def PUd (z : UdS) : Prop := ∃ t, upM z.S0 [z.root] t z.root ∧ t.list = z.l ∧ t.size = z.l.length ∧ z.l.length ≤ 150 ∧ z.need = 4 * (Hn (z.l.length : Int) + 2) ∧ z.r = 0 ∧ z.d = slotsOf z.S0 ∧ z.o = orderOf z.S0 ∧ 0 ≤ z.S.reads ∧ z.S.reads ≤ 60 * (Hn ((z.l.length : Int) + 1) + 2) ∧ z.v = (getE z.l z.k).getD 0 ∧ z.is = (getE z.l z.k).isSome ∧
  ((getE z.l z.k = none ∧ z.f = 4 ∧ z.i = 0 ∧ z.w = 0 ∧ ∃ m, z.S = rdS z.S0 m) ∨
   ((getE z.l z.k).isSome = true ∧ z.S0.free < z.need ∧ z.f = 2 ∧ z.i = 0 ∧ z.w = 0 ∧ ∃ m, z.S = rdS z.S0 m) ∨
   ((getE z.l z.k).isSome = true ∧ z.need ≤ z.S0.free ∧ z.f = 0 ∧ z.w = z.v ∧ ∃ (m r : Nat), (m : Int) ≤ z.need ∧ TrR z.S0 [z.root] (flt (neK z.k) z.l) m r z.S z.i))
def PUw (z : UdS) (want : Int) : Prop := PUd z ∧ want = z.f
end Go.Proofs.Ytbonbaccmlomhaa.Sx
end
section
/- update.Increase, and the laws that updates increase, commute and share. -/
namespace Go.Proofs.Ytbonbaccmlomhaa.Sx
open Go

/-KEEP Wf exW inU live Arn.cap Arn.free Rep rdS retL Tr.size Tr.list slotsOf orderOf PlantR newS insE outE listE getE TrR upM Hn keptD Asc Tr.Bal ht dB iB RepD List.Perm flt neK-/
noncomputable def aInc : Ann C0 := { Γ := [(18, frameT [] tGetT), (59, frameT [] tUpIn)] }
def tInc : Tfm C0 := fun args H K => match args with
  | [.at (.ptr 0 0), .at (.val (.int .u32 r)), .at (.val (.int .i64 k)), .at (.val (.int .i64 n))] => arM H fun S => ∃ hs t, upM S hs t r ∧ S.reads ≤ 900000000000000000 ∧ 4 * (Hn (t.size + 1) + 2) ≤ S.free ∧
    ∀ S' j w, w = IntKind.i64.wrap ((getE t.list k).getD 0 + n) → TrR S hs (insE t.list (k, w)) (iB t.size) (5 * iB t.size + 2 * ht t + 1) S' j → K (.tup [.at (vU j), .at (vI w), .at (vI 0)]) (chS S') W7
  | _ => False
structure XUc (P : Arn → Int → List Ent → Prop) where
  S : Arn
  i : Int
  l : List Ent
  k : Int
  h : P S i l
def tUc : Tfm C0 := fun args H K => match args, H with
  | [.at (.slc 0), .at (.val (.int .u64 t)), .at (.val (.int .i64 _)), .at (.val (.int .i64 n)), .at (.val (.int .i64 at'))], [.row false .ent raw] => 0 ≤ t ∧ (-9223372036854775808 ≤ n ∧ n ≤ 9223372036854775807) ∧ (-9223372036854775808 ≤ at' ∧ at' ≤ 9223372036854775807) ∧ (∀ x ∈ raw, -9223372036854775808 ≤ x.2 ∧ x.2 ≤ 9223372036854775807) ∧ K (.one (.at (vB true))) [.row false EC.ent raw] []
  | _, _ => False
/-! ### The law that Increase increases -/
theorem Hn_le {n m : Nat} (h : n ≤ m) : Hn n ≤ Hn m := by
  have a := gN_size n
  have b := gN_size m
  have c := gN_mono (v := n + 1) (w := m + 1) (by omega) (by omega)
  omega
theorem gN_top {w v g : Nat} (h8 : v ≤ w) (hg : g < 80) (hw : (w : Int) < wt (g + 1)) : gN v ≤ g := by
  by_cases c : gN v ≤ g
  · exact c
  · by_cases z : 1 ≤ v
    · have h1 := gN_wt z
      have h2 := wt_mono (show g + 1 ≤ gN v by omega) (gN_rng v)
      omega
    · have : v = 0 := by omega
      subst this
      exact absurd (show gN 0 ≤ g by have : gN 0 = 0 := by decide
                                     omega) c
theorem Hn_104 {n : Nat} (h : n ≤ 112) : Hn n ≤ 13 := by
  have a := gN_size n
  have b := gN_top (w := 113) (v := n + 1) (g := 13) (by omega) (by omega) (by have : wt (13 + 1) = 115 := by decide
                                                                               omega)
  omega
def PUc (S : Arn) (i : Int) (l : List Ent) : Prop := ∃ t, upM S [i] t i ∧ t.list = l ∧ t.size = l.length ∧ l.length ≤ 100 ∧ S.free = 200 ∧ S.reads = 0 ∧ ∀ x ∈ l, -9223372036854775808 ≤ x.2 ∧ x.2 ≤ 9223372036854775807
end Go.Proofs.Ytbonbaccmlomhaa.Sx
end
section
/- Building and listing trees where there is room. -/
namespace Go.Proofs.Ytbonbaccmlomhaa.Sx
open Go

/-- Where there is room, an ascending list becomes a tree. -/
def tBuildOk : Tfm C0 := fun args H K => match args with
  | [.at (.ptr 0 0), .at (.slc 7)] => arMr H fun S rest => match rest with
    | [.row false .ent l] => ∃ hs, Wf S hs ∧ Asc l ∧ l.length ≤ 60000 ∧ hs.length ≤ 900000 ∧ (l.length : Int) ≤ S.free ∧ S.reads ≤ 900000000000000000 ∧ ∀ S' i, TrR S hs l 65537 0 S' i → K (.tup [.at (vU i), .at (vI 0)]) (chS S' ++ [.row false EC.ent l]) W7
    | _ => False
  | _ => False
theorem shp_sizeV {t : Tr} {l : List Ent} (h : ShpT t l) : t.size = l.length := by rw [← t.list_len, h.list]
theorem shp_balV : ∀ {t : Tr} {l : List Ent}, ShpT t l → t.Bal
  | .nil, _, _ => trivial
  | .node a k v b, l, h => by
    obtain ⟨h1, h2, h3, h4⟩ := h
    have s3 := shp_sizeV h3
    have s4 := shp_sizeV h4
    simp only [List.length_take, List.length_drop] at s3 s4
    refine ⟨?_, shp_balV h3, shp_balV h4⟩
    unfold balN
    omega
theorem ascB_of {l : List Ent} (h : Asc l) : ascB l = true := decide_eq_true h
theorem build_tr {S S' : Arn} {hs : List Int} {l : List Ent} {i : Int} (w : Wf S hs) (b : BuildR S hs l S' i) (hl : l.length ≤ 60000) : TrR S hs l 65537 0 S' i := by
  obtain ⟨t, rp, sp⟩ := b.rep
  exact ⟨⟨b.wf, b.stay, b.len, by rw [b.nu]; omega, by rw [b.rds]; exact Int.le_refl _, by rw [b.rds]; omega⟩, t, rp, sp.list, shp_balV sp⟩
theorem s_buildOk : SoundT C0 35 tBuildOk := s_build.weak fun args H K h => by
  unfold tBuildOk at h
  unfold tBuild
  split at h <;> try exact h.elim
  unfold arMr at h ⊢
  split at h <;> try exact h.elim
  dsimp only at h ⊢
  split at h <;> try exact h.elim
  obtain ⟨hs, w, asc, hl, hh, hf, hr, h⟩ := h
  exact ⟨hs, w, by omega, by omega, fun e => absurd (ascB_of asc) (by rw [e]; decide), fun _ c => absurd hf (by omega), fun _ _ S' i b => h S' i (build_tr w b hl)⟩
def tLsOk : Tfm C0 := fun args H K => match args with
  | [.at (.ptr 0 0), .at (.val (.int .u32 i))] => arM H fun S => ∃ hs t, Wf S hs ∧ Rep S t i ∧ Asc t.list ∧ Kin t.list ∧ t.size ≤ 60000 ∧ S.reads ≤ 1000000000000000000 ∧
    ∀ S' m (out : List Ent), S' = rdS S m → m ≤ t.size → out = t.list → K (.one (.at (.slc 7))) (chS S' ++ [.row true EC.ent out]) [0]
  | _ => False
theorem cap_new (c : Nat) : (newS c).cap = c := by unfold Arn.cap newS; simp
theorem Hld.new {c : Nat} (h1 : 1 ≤ c) (h2 : c ≤ 65536) : Hld (newS c) [] := ⟨Wf.new h1 h2, fun _ h => (by cases h), fun _ h => (by cases h), fun _ h => (by cases h)⟩
end Go.Proofs.Ytbonbaccmlomhaa.Sx
end
section
/- Edits: what stays in range. No program in sight. -/
namespace Go.Proofs.Ytbonbaccmlomhaa.Sx
open Go

theorem kin_ins {l : List Ent} {e : Ent} (ha : Asc l) (h : Kin l) (he : -9223372036854775808 ≤ e.1 ∧ e.1 ≤ 9223372036854775807) : Kin (insE l e) := fun x hx => by
  rcases insE_mem ha hx with rfl | c
  · exact he
  · exact h x c
theorem kin_flt {p : Int → Bool} {l : List Ent} (h : Kin l) : Kin (flt p l) := fun x hx => h x (flt_mem hx)
theorem numsB {t : Tr} (h : t.size ≤ 110) (bal : t.Bal) : 5 * iB t.size + ht t + 1 ≤ 300 ∧ 5 * dB t.size + ht t + 1 ≤ 300 ∧ (iB t.size : Int) = 4 * Hn t.size + 1 ∧ (dB t.size : Int) ≤ 4 * Hn t.size + 4 := by
  have a := iB_Hn t.size
  have b := dB_Hn t.size
  have c := Bal.height bal (by omega)
  have d := Hn_104 (n := t.size) (by omega)
  omega
def KinD (l : List EdtT) : Prop := ∀ e ∈ l, -9223372036854775808 ≤ e.ent.1 ∧ e.ent.1 ≤ 9223372036854775807
end Go.Proofs.Ytbonbaccmlomhaa.Sx
end
section
/- law20: edit, fork, awake; merges where there is room. -/
namespace Go.Proofs.Ytbonbaccmlomhaa.Sx
open Go

/-KEEP EdM Wf Kept exW inU live Arn.cap Arn.free Rep rdS retL Tr.size Tr.list Tr.Bal Asc Kin KinD PlantR listE newS insE outE flt neK getE TrR Got upM Hn iB dB ht min MgM needM confE mergeE BuildR-/
structure EdM (S : Arn) (hs : List Int) (x : Int) (l : List Ent) (ed : List EdtT) (I : Nat) : Prop where
  wf : Wf S hs
  tree : ∃ t, Rep S t x ∧ t.list = l ∧ t.Bal
  asc : Asc l
  kin : Kin l
  kd : KinD ed
  len : l.length ≤ 60
  hl : hs.length ≤ 1000
  rd : S.reads ≤ 1000000
  i4 : 4 * (Hn ((l.length + 9 : Nat) : Int) + 2) ≤ (I : Int)
  i60 : I ≤ 100
  free : ((8 * I : Nat) : Int) ≤ S.free
structure XE1 (P : Nat → Arn → Int → List Ent → Prop) where
  i : Nat
  S : Arn
  y : Int
  m : List Ent
  h : P i S y m
structure XE2 (P : Nat → Arn → Int → Int → List Ent → Prop) where
  i : Nat
  S : Arn
  y : Int
  z : Int
  m : List Ent
  h : P i S y z m
noncomputable def aEd (P1 : Nat → Arn → Int → List Ent → Prop) (P2 : Nat → Arn → Int → Int → List Ent → Prop) (l : List Ent) (ed : List EdtT) : Ann C0 := { rounds := fun n => if n = 4 then 1 else 0, Γ := [(56, frameT [] tRetL), (26, frameT [] tMod), (57, frameT [] tUpDe), (58, frameT [] tDel), (59, frameT [] tUpIn), (60, frameT [] tIns), (25, frameT [] tRel)], inv := fun k => match k with
  | 4 => some { X := XE1 P1, sl := [1, 2, 11], wr := W7, tf := fun x => [vi .u32 x.y, .one (.at (.slc 9)), vi .i64 x.i], hf := fun x => chS x.S ++ [.row false EC.ent l, .row false EC.edm ed, .row true EC.ent x.m], μ := fun x => min ed.length 8 - x.i }
  | 1014 => some { X := XE2 P2, sl := [1, 11, 12, 13, 14], wr := W7, tf := fun x => [vi .u32 x.y, vi .i64 x.i, vi .u32 x.z, vi .i64 0, .one (.at (.slc 9))], hf := fun x => chS x.S ++ [.row false EC.ent l, .row false EC.edm ed, .row true EC.ent x.m], rel := fun T _ x => slotI T 11 x.i }
  | _ => none }
def tEd : Tfm C0 := fun args H K => match args with
  | [.at (.ptr 0 0), .at (.val (.int .u32 x)), .at (.slc 7), .at (.slc 8)] => arMr H fun S rest => match rest with
    | [.row false .ent l, .row false .edm ed] => ∃ hs I, EdM S hs x l ed I ∧
      (ed.length = 0 → ∀ S', TrR S hs l (8 * I) 8000 S' x → K (.tup [.at (vU x), .at (.slc 7), .at (vB true)]) (chS S' ++ [.row false EC.ent l, .row false EC.edm ed]) W7) ∧
      (∀ S' y m, TrR S hs m (8 * I) 8000 S' y → Asc m → Kin m → m.length ≤ l.length + 8 → K (.tup [.at (vU y), .at (.slc 9), .at (vB true)]) (chS S' ++ [.row false EC.ent l, .row false EC.edm ed, .row true EC.ent m]) W7)
    | _ => False
  | _ => False
/-- Three trees of one arena, with their entries. -/
structure FkR (S : Arn) (b o t : Int) (lb lo lt : List Ent) (sp : Int) : Prop where
  h : Hld S [(t, lt), (o, lo), (b, lb)]
  sb : lb.length ≤ 60
  so : lo.length ≤ 68
  st : lt.length ≤ 68
  rd : S.reads ≤ 20000
  free : sp ≤ S.free
  cap : lb.length + sp + 144 ≤ S.cap
  top : S.cap ≤ lb.length + sp + 1100
structure XF0 (P : Arn → Int → Prop) where
  S : Arn
  b : Int
  h : P S b
structure XF1 (P : Arn → Int → Int → List Ent → Prop) where
  S : Arn
  b : Int
  o : Int
  lo : List Ent
  h : P S b o lo
structure XF2 (P : Arn → Int → Int → Int → List Ent → List Ent → Prop) where
  S : Arn
  b : Int
  o : Int
  t : Int
  lo : List Ent
  lt : List Ent
  h : P S b o t lo lt
abbrev zT : List (Chunk C0) := [.box [.val (.pointer none), vU 0, vU 0, vU 0, .slc 12, .slc 13, .slc 14], .row true EC.ent [], .row true EC.ent [], .row true EC.ent []]
noncomputable def aFk (P0 : Arn → Int → Prop) (P1 : Arn → Int → Int → List Ent → Prop) (P2 : Arn → Int → Int → Int → List Ent → List Ent → Prop) (raw B : List Ent) (e1 e2 : List EdtT) : Ann C0 := { trunc := fun n => n = 17 || n = 20, Γ := [(36, frameT [] tLst), (55, frameT [] (tRes1 4 1)), (54, frameT [] tGrow), (93, frameT [] tEd)], inv := fun k => match k with
  | 1005 => some { X := XF0 P0, sl := [10, 12, 13, 14], tf := fun x => [.one (.at (.ptr 11 0)), .one (.at (.slc 10)), .one (.at (.ptr 3 0)), vi .u32 x.b], hf := fun x => [.row false EC.ent raw, .row false EC.edm e1, .row false EC.edm e2] ++ chSk 3 x.S ++ [.row false EC.ent B] ++ zT }
  | 1006 => some { X := XF1 P1, sl := [10, 12, 13, 14, 16, 17, 18], tf := fun x => [.one (.at (.ptr 11 0)), .one (.at (.slc 10)), .one (.at (.ptr 3 0)), vi .u32 x.b, vi .u32 x.o, .one (.at (.slc 15)), vb true], hf := fun x => [.row false EC.ent raw, .row false EC.edm e1, .row false EC.edm e2] ++ chSk 3 x.S ++ [.row false EC.ent B] ++ zT ++ [.row false EC.ent x.lo] }
  | 1007 => some { X := XF2 P2, sl := [10, 12, 13, 14, 16, 17, 18, 19, 20, 21], tf := fun x => [.one (.at (.ptr 11 0)), .one (.at (.slc 10)), .one (.at (.ptr 3 0)), vi .u32 x.b, vi .u32 x.o, .one (.at (.slc 15)), vb true, vi .u32 x.t, .one (.at (.slc 16)), vb true], hf := fun x => [.row false EC.ent raw, .row false EC.edm e1, .row false EC.edm e2] ++ chSk 3 x.S ++ [.row false EC.ent B] ++ zT ++ [.row false EC.ent x.lo, .row false EC.ent x.lt] }
  | _ => none }
/-- Where there is room, and no conflict is refused. -/
def tMgK : Tfm C0 := fun args H K => match args with
  | [.at (.ptr 0 0), .at (.val (.int .u32 b)), .at (.val (.int .u32 o)), .at (.val (.int .u32 t)), .at (.val (.int .i64 pol))] => arM H fun S => ∃ hs tb to tt, MgM S hs tb to tt b o t ∧ 1 ≤ pol ∧ pol ≤ 4 ∧ needM tb to tt ≤ S.free ∧ (pol = 3 → confE tb.list to.list tt.list = []) ∧
    ∀ S' i c, c = confE tb.list to.list tt.list → TrR S hs (mergeE tb.list to.list tt.list pol) 65537 2000000000 S' i → K (.tup [.at (vU i), .at (.slc 7), .at (vI 0)]) (chS S' ++ [.row true EC.i64 c]) W7
  | _ => False
noncomputable def aAw20 : Ann C0 := { Γ := [(34, frameT [] tNew), (35, frameT [] tBuildOk), (46, frameT [] tMgK), (18, frameT [] tGetT), (49, frameT [] tSize)] }
def tAw20 : Tfm C0 := fun args H K => match args, H with
  | [], [] => K (.one (.at (vB true))) [] []
  | _, _ => False
def PE1 (S0 : Arn) (hs : List Int) (l : List Ent) (n I : Nat) : Nat → Arn → Int → List Ent → Prop := fun i S y m => i ≤ n ∧ Asc m ∧ Kin m ∧ m.length ≤ l.length + i ∧ TrR S0 hs m (i * I) (1000 * i) S y
def PE2 (S0 : Arn) (hs : List Int) (l : List Ent) (n I : Nat) : Nat → Arn → Int → Int → List Ent → Prop := fun i S y z m => i < n ∧ Asc m ∧ Kin m ∧ m.length ≤ l.length + i + 1 ∧ Got S0 hs ((i + 1) * I) (1000 * (i + 1)) S (z :: y :: hs) ∧ ∃ t, Rep S t z ∧ t.list = m ∧ t.Bal
theorem ed_up {S0 S : Arn} {hs : List Int} {x y : Int} {l m : List Ent} {ed : List EdtT} {n I i : Nat} (E : EdM S0 hs x l ed I) (h : PE1 S0 hs l n I i S y m) (hi : i < n) (hn : n ≤ 8) :
    ∃ ty, upM S (y :: hs) ty y ∧ ty.list = m ∧ m.length ≤ 67 ∧ 4 * (Hn ty.size + 2) ≤ S.free ∧ 4 * (Hn ((ty.size : Int) + 1) + 2) ≤ S.free ∧ iB ty.size ≤ I ∧ dB ty.size ≤ I ∧ 5 * iB ty.size + ht ty + 1 ≤ 1000 ∧ 5 * dB ty.size + ht ty + 1 ≤ 1000 := by
  obtain ⟨_, am, km, lm, tr⟩ := h
  obtain ⟨ty, ry, ly, bY⟩ := tr.tree
  have zy : ty.size = m.length := by rw [← ty.list_len, ly]
  have le := E.len
  have f := tr.got.free E.wf
  have q := tr.got.rd
  have rd := E.rd
  have fr := E.free
  have hl := E.hl
  have i4 := E.i4
  have mu : (i + 1) * I ≤ 8 * I := Nat.mul_le_mul_right _ (by omega)
  rw [Nat.succ_mul] at mu
  have h1 := Hn_le (n := ty.size) (m := l.length + 9) (by omega)
  have h2 := Hn_le (n := ty.size + 1) (m := l.length + 9) (by omega)
  have nb := numsB (t := ty) (by omega) bY
  rw [show ((ty.size + 1 : Nat) : Int) = (ty.size : Int) + 1 by omega] at h2
  exact ⟨ty, ⟨tr.got.wf, ry, bY, by rw [ly]; exact am, by omega, by simp; omega, by omega⟩, ly, by omega, by omega, by omega, by omega, by omega, by omega, by omega⟩
theorem ed_step {S0 S S' : Arn} {hs : List Int} {y j : Int} {l m L : List Ent} {n I i a r : Nat} (h : PE1 S0 hs l n I i S y m) (hi : i < n) (tr : TrR S (y :: hs) L a r S' j) (ha : a ≤ I) (hr : r ≤ 1000) (asc : Asc L) (kin : Kin L) (hl : L.length ≤ l.length + i + 1) : PE2 S0 hs l n I i S' y j L := by
  obtain ⟨_, _, _, _, t0⟩ := h
  have g := t0.got.seq tr.got (h := hs) (fun _ h => h) (fun i hi => List.mem_cons_of_mem _ hi)
  exact ⟨hi, asc, kin, hl, g.mono (by rw [Nat.succ_mul]; omega) (by omega), tr.tree⟩
theorem ed_rel {S0 S S' : Arn} {hs : List Int} {y z : Int} {l m : List Ent} {n I i : Nat} (h : PE2 S0 hs l n I i S y z m) (w3 : Wf S' (z :: hs)) (kp : Kept S S') : PE1 S0 hs l n I (i + 1) S' z m := by
  obtain ⟨hi, am, km, lm, g, t, rt, lt, bt⟩ := h
  have w' : Wf S (y :: z :: hs) := g.wf.perm (List.Perm.swap _ _ _)
  have g2 := rel_got w' w3 kp
  have g3 := g.seq g2 (h := hs) (fun _ h => h) (fun i hi => List.mem_cons_of_mem _ hi)
  exact ⟨hi, am, km, by omega, g3.mono (Nat.le_refl _) (Nat.le_refl _), t, rt.held w' g2.stay (.inr (by simp)), lt, bt⟩
theorem vc_ed (S : Arn) (x : Int) (l : List Ent) (ed : List EdtT) (K : KT) (hs : List Int) (I : Nat) (E : EdM S hs x l ed I)
    (h1 : ed.length = 0 → ∀ S', TrR S hs l (8 * I) 8000 S' x → K (.tup [.at (vU x), .at (.slc 7), .at (vB true)]) (chS S' ++ [.row false EC.ent l, .row false EC.edm ed]) W7)
    (h2 : ∀ S' y m, TrR S hs m (8 * I) 8000 S' y → Asc m → Kin m → m.length ≤ l.length + 8 → K (.tup [.at (vU y), .at (.slc 9), .at (vB true)]) (chS S' ++ [.row false EC.ent l, .row false EC.edm ed, .row true EC.ent m]) W7) :
    vc C0 (aEd (PE1 S hs l (min ed.length 8) I) (PE2 S hs l (min ed.length 8) I) l ed) Try.f93 [.at (.ptr 0 0), .at (vU x), .at (.slc 7), .at (.slc 8)] (chS S ++ [.row false EC.ent l, .row false EC.edm ed]) (normK 9 (wideK W7 K)) := by
  generalize hP1 : PE1 S hs l (min ed.length 8) I = P1
  generalize hP2 : PE2 S hs l (min ed.length 8) I = P2
  refine Eq.mp (show ((live S x) ∧
(exW S) ∧
(∀ S' : Arn, (((S') = (retL S x)) → (brS (decide (0 < (↑ed.length : Int))) (((((0 : Int) ≤ 0) ∧ (0 < (↑ed.length : Int)) ∧ (brS ((ed.getD (Int.toNat 0) { del := false, at_ := 0, ent := (0, 0) : EdtT }).del) ((brS (decide ((↑l.length : Int) > 0)) ((((0 : Int) ≤ 0) ∧ (0 < (↑ed.length : Int)) ∧ (0 < (↑l.length : Int)) ∧ ((↑l.length : Int) ≤ 9223372036854775807) ∧ (∀ x1 : Int, (((x1) = ((ed.getD (Int.toNat 0) { del := false, at_ := 0, ent := (0, 0) : EdtT }).at_ % (↑l.length : Int))) → ((0 ≤ x1) ∧ (x1 < (↑l.length : Int)) ∧ (∃ hs : List Int, (∃ t : Tr, (∃ v : Int, ((upM S' hs t x) ∧ ((getE t.list (l.getD x1.toNat (0, 0)).fst) = (some (v))) ∧ (4 * (Hn (↑t.size : Int) + 2) ≤ S'.free) ∧ (∀ S'1 : Arn, (∀ j : Int, ((TrR S' hs (flt (neK (l.getD x1.toNat (0, 0)).fst) t.list) (dB t.size) (5 * dB t.size + ht t + 1) S'1 j) → ((l.length ≤ 1000000) ∧ (∃ x2 : XE2 P2, ((0 = ((↑x2.i : Int))) ∧ (True ∧ ((Value.int IntKind.u32 (x)) = (Value.int IntKind.u32 (x2.y))) ∧ True ∧ ((Value.int IntKind.i64 0) = (Value.int IntKind.i64 ((↑x2.i : Int)))) ∧ ((Value.int IntKind.u32 (j)) = (Value.int IntKind.u32 (x2.z))) ∧ ((Value.int IntKind.i64 0) = (Value.int IntKind.i64 0)) ∧ True ∧ True) ∧ (True ∧ True ∧ True ∧ ((Value.int IntKind.u64 (S'1.reads)) = (Value.int IntKind.u64 (x2.S.reads))) ∧ True) ∧ (True ∧ True ∧ True ∧ ((Value.int IntKind.u32 (S'1.fresh)) = (Value.int IntKind.u32 (x2.S.fresh))) ∧ True) ∧ ((S'1.nodes) = (x2.S.nodes)) ∧ ((S'1.counts) = (x2.S.counts)) ∧
    ((S'1.used) = (x2.S.used)) ∧ ((S'1.gen) = (x2.S.gen)) ∧ ((S'1.rel) = (x2.S.rel)) ∧ ((l) = (l)) ∧ ((ed) = (ed)) ∧ ((outE l (l.getD x1.toNat (0, 0)).fst (l.getD x1.toNat (0, 0)).fst) = (x2.m)) ∧ True))))))))))))))) ((((0 : Int) ≤ 0) ∧ (0 < (↑ed.length : Int)) ∧ (∃ hs : List Int, (∃ t : Tr, ((upM S' hs t x) ∧ (4 * (Hn ((↑t.size : Int) + 1) + 2) ≤ S'.free) ∧ (∀ S'1 : Arn, (∀ j : Int, (∀ o : Option Int, (((o) = (getE t.list (ed.getD (Int.toNat 0) { del := false, at_ := 0, ent := (0, 0) : EdtT }).ent.fst)) → ((TrR S' hs (insE t.list (ed.getD (Int.toNat 0) { del := false, at_ := 0, ent := (0, 0) : EdtT }).ent) (iB t.size) (5 * iB t.size + ht t + 1) S'1 j) → (((0 : Int) ≤ 0) ∧ (0 < (↑ed.length : Int)) ∧ (l.length ≤ 1000000) ∧ (∃ x1 : XE2 P2, ((0 = ((↑x1.i : Int))) ∧ (True ∧ ((Value.int IntKind.u32 (x)) = (Value.int IntKind.u32 (x1.y))) ∧ True ∧ ((Value.int IntKind.i64 0) = (Value.int IntKind.i64 ((↑x1.i : Int)))) ∧ ((Value.int IntKind.u32 (j)) = (Value.int IntKind.u32 (x1.z))) ∧ ((Value.int IntKind.i64 0) = (Value.int IntKind.i64 0)) ∧ True ∧ True) ∧ (True ∧ True ∧ True ∧ ((Value.int IntKind.u64 (S'1.reads)) = (Value.int IntKind.u64 (x1.S.reads))) ∧ True) ∧ (True ∧ True ∧ True ∧ ((Value.int IntKind.u32 (S'1.fresh)) = (Value.int IntKind.u32 (x1.S.fresh))) ∧ True) ∧ ((S'1.nodes) = (x1.S.nodes)) ∧ ((S'1.counts) = (x1.S.counts)) ∧ ((S'1.used) = (x1.S.used)) ∧ ((S'1.gen) = (x1.S.gen)) ∧ ((S'1.rel) = (x1.S.rel)) ∧ ((l) = (l)) ∧ ((ed) = (ed)) ∧
    ((insE l (ed.getD (Int.toNat 0) { del := false, at_ := 0, ent := (0, 0) : EdtT }).ent) = (x1.m)) ∧ True))))))))))))))) ((((0 : Int) ≤ 0) ∧ (0 < (↑ed.length : Int)) ∧ (∃ hs : List Int, (∃ t : Tr, ((upM S' hs t x) ∧ (4 * (Hn ((↑t.size : Int) + 1) + 2) ≤ S'.free) ∧ (∀ S'1 : Arn, (∀ j : Int, (∀ o : Option Int, (((o) = (getE t.list (ed.getD (Int.toNat 0) { del := false, at_ := 0, ent := (0, 0) : EdtT }).ent.fst)) → ((TrR S' hs (insE t.list (ed.getD (Int.toNat 0) { del := false, at_ := 0, ent := (0, 0) : EdtT }).ent) (iB t.size) (5 * iB t.size + ht t + 1) S'1 j) → (((0 : Int) ≤ 0) ∧ (0 < (↑ed.length : Int)) ∧ (l.length ≤ 1000000) ∧ (∃ x1 : XE2 P2, ((0 = ((↑x1.i : Int))) ∧ (True ∧ ((Value.int IntKind.u32 (x)) = (Value.int IntKind.u32 (x1.y))) ∧ True ∧ ((Value.int IntKind.i64 0) = (Value.int IntKind.i64 ((↑x1.i : Int)))) ∧ ((Value.int IntKind.u32 (j)) = (Value.int IntKind.u32 (x1.z))) ∧ ((Value.int IntKind.i64 0) = (Value.int IntKind.i64 0)) ∧ True ∧ True) ∧ (True ∧ True ∧ True ∧ ((Value.int IntKind.u64 (S'1.reads)) = (Value.int IntKind.u64 (x1.S.reads))) ∧ True) ∧ (True ∧ True ∧ True ∧ ((Value.int IntKind.u32 (S'1.fresh)) = (Value.int IntKind.u32 (x1.S.fresh))) ∧ True) ∧ ((S'1.nodes) = (x1.S.nodes)) ∧ ((S'1.counts) = (x1.S.counts)) ∧ ((S'1.used) = (x1.S.used)) ∧ ((S'1.gen) = (x1.S.gen)) ∧ ((S'1.rel) = (x1.S.rel)) ∧ ((l) = (l)) ∧ ((ed) = (ed)) ∧ ((insE l (ed.getD (Int.toNat 0) { del := false, at_ := 0, ent := (0, 0) : EdtT }).ent) = (x1.m)) ∧ True))))))))))))))) ∧ (∀ x1 : XE2 P2,
    ((0 = ((↑x1.i : Int))) → (∃ hs : List Int, ((Wf x1.S (x1.y :: hs)) ∧ (∀ S'1 : Arn, (∀ fr : Int, ((Wf S'1 hs) → ((Kept x1.S S'1) → ((∃ x2 : XE1 P1, (True ∧ (True ∧ ((Value.int IntKind.u32 (x1.z)) = (Value.int IntKind.u32 (x2.y))) ∧ True ∧ True ∧ ((Value.int IntKind.i64 (IntKind.i64.wrap ((↑x1.i : Int) + 1))) = (Value.int IntKind.i64 ((↑x2.i : Int)))) ∧ True) ∧ (True ∧ True ∧ True ∧ ((Value.int IntKind.u64 (S'1.reads)) = (Value.int IntKind.u64 (x2.S.reads))) ∧ True) ∧ (True ∧ True ∧ True ∧ ((Value.int IntKind.u32 (S'1.fresh)) = (Value.int IntKind.u32 (x2.S.fresh))) ∧ True) ∧ ((S'1.nodes) = (x2.S.nodes)) ∧ ((S'1.counts) = (x2.S.counts)) ∧ ((S'1.used) = (x2.S.used)) ∧ ((S'1.gen) = (x2.S.gen)) ∧ ((S'1.rel) = (x2.S.rel)) ∧ ((l) = (l)) ∧ ((ed) = (ed)) ∧ ((x1.m) = (x2.m)) ∧ True)) ∧ (∀ x2 : XE1 P1, (True → (brS (decide ((↑x2.i : Int) < (↑ed.length : Int))) ((brS (decide ((↑x2.i : Int) < 8)) ((((0 ≤ (↑x2.i : Int)) ∧ ((↑x2.i : Int) < (↑ed.length : Int)) ∧ (brS ((ed.getD (↑x2.i : Int).toNat { del := false, at_ := 0, ent := (0, 0) : EdtT }).del) ((brS (decide ((↑x2.m.length : Int) > 0)) (((0 ≤ (↑x2.i : Int)) ∧ ((↑x2.i : Int) < (↑ed.length : Int)) ∧ (0 < (↑x2.m.length : Int)) ∧ ((↑x2.m.length : Int) ≤ 9223372036854775807) ∧ (∀ x3 : Int, (((x3) = ((ed.getD (↑x2.i : Int).toNat { del := false, at_ := 0, ent := (0, 0) : EdtT }).at_ % (↑x2.m.length : Int))) → ((0 ≤ x3) ∧ (x3 < (↑x2.m.length : Int)) ∧ (∃ hs1 : List Int, (∃ t : Tr, (∃ v : Int, ((upM x2.S hs1 t x2.y) ∧
    ((getE t.list (x2.m.getD x3.toNat (0, 0)).fst) = (some (v))) ∧ (4 * (Hn (↑t.size : Int) + 2) ≤ x2.S.free) ∧ (∀ S'2 : Arn, (∀ j : Int, ((TrR x2.S hs1 (flt (neK (x2.m.getD x3.toNat (0, 0)).fst) t.list) (dB t.size) (5 * dB t.size + ht t + 1) S'2 j) → ((x2.m.length ≤ 1000000) ∧ (∃ x4 : XE2 P2, ((((↑x2.i : Int)) = ((↑x4.i : Int))) ∧ (True ∧ ((Value.int IntKind.u32 (x2.y)) = (Value.int IntKind.u32 (x4.y))) ∧ True ∧ ((Value.int IntKind.i64 ((↑x2.i : Int))) = (Value.int IntKind.i64 ((↑x4.i : Int)))) ∧ ((Value.int IntKind.u32 (j)) = (Value.int IntKind.u32 (x4.z))) ∧ ((Value.int IntKind.i64 0) = (Value.int IntKind.i64 0)) ∧ True ∧ True) ∧ (True ∧ True ∧ True ∧ ((Value.int IntKind.u64 (S'2.reads)) = (Value.int IntKind.u64 (x4.S.reads))) ∧ True) ∧ (True ∧ True ∧ True ∧ ((Value.int IntKind.u32 (S'2.fresh)) = (Value.int IntKind.u32 (x4.S.fresh))) ∧ True) ∧ ((S'2.nodes) = (x4.S.nodes)) ∧ ((S'2.counts) = (x4.S.counts)) ∧ ((S'2.used) = (x4.S.used)) ∧ ((S'2.gen) = (x4.S.gen)) ∧ ((S'2.rel) = (x4.S.rel)) ∧ ((l) = (l)) ∧ ((ed) = (ed)) ∧ ((outE x2.m (x2.m.getD x3.toNat (0, 0)).fst (x2.m.getD x3.toNat (0, 0)).fst) = (x4.m)) ∧ True))))))))))))))) (((0 ≤ (↑x2.i : Int)) ∧ ((↑x2.i : Int) < (↑ed.length : Int)) ∧ (∃ hs1 : List Int, (∃ t : Tr, ((upM x2.S hs1 t x2.y) ∧ (4 * (Hn ((↑t.size : Int) + 1) + 2) ≤ x2.S.free) ∧ (∀ S'2 : Arn, (∀ j : Int, (∀ o : Option Int, (((o) = (getE t.list (ed.getD (↑x2.i : Int).toNat { del := false, at_ := 0, ent := (0, 0) : EdtT }).ent.fst)) →
    ((TrR x2.S hs1 (insE t.list (ed.getD (↑x2.i : Int).toNat { del := false, at_ := 0, ent := (0, 0) : EdtT }).ent) (iB t.size) (5 * iB t.size + ht t + 1) S'2 j) → ((0 ≤ (↑x2.i : Int)) ∧ ((↑x2.i : Int) < (↑ed.length : Int)) ∧ (x2.m.length ≤ 1000000) ∧ (∃ x3 : XE2 P2, ((((↑x2.i : Int)) = ((↑x3.i : Int))) ∧ (True ∧ ((Value.int IntKind.u32 (x2.y)) = (Value.int IntKind.u32 (x3.y))) ∧ True ∧ ((Value.int IntKind.i64 ((↑x2.i : Int))) = (Value.int IntKind.i64 ((↑x3.i : Int)))) ∧ ((Value.int IntKind.u32 (j)) = (Value.int IntKind.u32 (x3.z))) ∧ ((Value.int IntKind.i64 0) = (Value.int IntKind.i64 0)) ∧ True ∧ True) ∧ (True ∧ True ∧ True ∧ ((Value.int IntKind.u64 (S'2.reads)) = (Value.int IntKind.u64 (x3.S.reads))) ∧ True) ∧ (True ∧ True ∧ True ∧ ((Value.int IntKind.u32 (S'2.fresh)) = (Value.int IntKind.u32 (x3.S.fresh))) ∧ True) ∧ ((S'2.nodes) = (x3.S.nodes)) ∧ ((S'2.counts) = (x3.S.counts)) ∧ ((S'2.used) = (x3.S.used)) ∧ ((S'2.gen) = (x3.S.gen)) ∧ ((S'2.rel) = (x3.S.rel)) ∧ ((l) = (l)) ∧ ((ed) = (ed)) ∧ ((insE x2.m (ed.getD (↑x2.i : Int).toNat { del := false, at_ := 0, ent := (0, 0) : EdtT }).ent) = (x3.m)) ∧ True))))))))))))))) (((0 ≤ (↑x2.i : Int)) ∧ ((↑x2.i : Int) < (↑ed.length : Int)) ∧ (∃ hs1 : List Int, (∃ t : Tr, ((upM x2.S hs1 t x2.y) ∧ (4 * (Hn ((↑t.size : Int) + 1) + 2) ≤ x2.S.free) ∧ (∀ S'2 : Arn, (∀ j : Int, (∀ o : Option Int, (((o) = (getE t.list (ed.getD (↑x2.i : Int).toNat { del := false, at_ := 0, ent := (0, 0) : EdtT }).ent.fst)) →
    ((TrR x2.S hs1 (insE t.list (ed.getD (↑x2.i : Int).toNat { del := false, at_ := 0, ent := (0, 0) : EdtT }).ent) (iB t.size) (5 * iB t.size + ht t + 1) S'2 j) → ((0 ≤ (↑x2.i : Int)) ∧ ((↑x2.i : Int) < (↑ed.length : Int)) ∧ (x2.m.length ≤ 1000000) ∧ (∃ x3 : XE2 P2, ((((↑x2.i : Int)) = ((↑x3.i : Int))) ∧ (True ∧ ((Value.int IntKind.u32 (x2.y)) = (Value.int IntKind.u32 (x3.y))) ∧ True ∧ ((Value.int IntKind.i64 ((↑x2.i : Int))) = (Value.int IntKind.i64 ((↑x3.i : Int)))) ∧ ((Value.int IntKind.u32 (j)) = (Value.int IntKind.u32 (x3.z))) ∧ ((Value.int IntKind.i64 0) = (Value.int IntKind.i64 0)) ∧ True ∧ True) ∧ (True ∧ True ∧ True ∧ ((Value.int IntKind.u64 (S'2.reads)) = (Value.int IntKind.u64 (x3.S.reads))) ∧ True) ∧ (True ∧ True ∧ True ∧ ((Value.int IntKind.u32 (S'2.fresh)) = (Value.int IntKind.u32 (x3.S.fresh))) ∧ True) ∧ ((S'2.nodes) = (x3.S.nodes)) ∧ ((S'2.counts) = (x3.S.counts)) ∧ ((S'2.used) = (x3.S.used)) ∧ ((S'2.gen) = (x3.S.gen)) ∧ ((S'2.rel) = (x3.S.rel)) ∧ ((l) = (l)) ∧ ((ed) = (ed)) ∧ ((insE x2.m (ed.getD (↑x2.i : Int).toNat { del := false, at_ := 0, ent := (0, 0) : EdtT }).ent) = (x3.m)) ∧ True))))))))))))))) ∧ (∀ x3 : XE2 P2, ((((↑x2.i : Int)) = ((↑x3.i : Int))) → (∃ hs1 : List Int, ((Wf x3.S (x3.y :: hs1)) ∧ (∀ S'2 : Arn, (∀ fr1 : Int, ((Wf S'2 hs1) → ((Kept x3.S S'2) → (∃ x' : XE1 P1, (True ∧ ((True ∧ ((Value.int IntKind.u32 (x3.z)) = (Value.int IntKind.u32 (x'.y))) ∧ True ∧ True ∧
    ((Value.int IntKind.i64 (IntKind.i64.wrap ((↑x3.i : Int) + 1))) = (Value.int IntKind.i64 ((↑x'.i : Int)))) ∧ True) ∧ (True ∧ True ∧ True ∧ ((Value.int IntKind.u64 (S'2.reads)) = (Value.int IntKind.u64 (x'.S.reads))) ∧ True) ∧ (True ∧ True ∧ True ∧ ((Value.int IntKind.u32 (S'2.fresh)) = (Value.int IntKind.u32 (x'.S.fresh))) ∧ True) ∧ ((S'2.nodes) = (x'.S.nodes)) ∧ ((S'2.counts) = (x'.S.counts)) ∧ ((S'2.used) = (x'.S.used)) ∧ ((S'2.gen) = (x'.S.gen)) ∧ ((S'2.rel) = (x'.S.rel)) ∧ ((l) = (l)) ∧ ((ed) = (ed)) ∧ ((x3.m) = (x'.m)) ∧ True) ∧ (min ed.length 8 - x'.i < min ed.length 8 - x2.i))))))))))))) ((K (SV.tup [(TV.at (At.val (Value.int IntKind.u32 (x2.y)))), (TV.at (At.slc 9)), (TV.at (At.val (Value.bool true)))]) [(Chunk.box [(At.ptr 1 0), (At.slc 2), (At.slc 3), (At.val (Value.int IntKind.u64 (x2.S.reads)))]), (Chunk.box [(At.slc 4), (At.slc 5), (At.slc 6), (At.val (Value.int IntKind.u32 (x2.S.fresh)))]), (Chunk.row true (EC.node) (x2.S.nodes)), (Chunk.row true (EC.int) (x2.S.counts)), (Chunk.row true (EC.bool) (x2.S.used)), (Chunk.row true (EC.u32) (x2.S.gen)), (Chunk.row true (EC.u32) (x2.S.rel)), (Chunk.row false (EC.ent) (l)), (Chunk.row false (EC.edm) (ed)), (Chunk.row true (EC.ent) (x2.m))] [0, 1, 2, 3, 4, 5, 6]))))
    ((K (SV.tup [(TV.at (At.val (Value.int IntKind.u32 (x2.y)))), (TV.at (At.slc 9)), (TV.at (At.val (Value.bool true)))]) [(Chunk.box [(At.ptr 1 0), (At.slc 2), (At.slc 3), (At.val (Value.int IntKind.u64 (x2.S.reads)))]), (Chunk.box [(At.slc 4), (At.slc 5), (At.slc 6), (At.val (Value.int IntKind.u32 (x2.S.fresh)))]), (Chunk.row true (EC.node) (x2.S.nodes)), (Chunk.row true (EC.int) (x2.S.counts)), (Chunk.row true (EC.bool) (x2.S.used)), (Chunk.row true (EC.u32) (x2.S.gen)), (Chunk.row true (EC.u32) (x2.S.rel)), (Chunk.row false (EC.ent) (l)), (Chunk.row false (EC.edm) (ed)), (Chunk.row true (EC.ent) (x2.m))] [0, 1, 2, 3, 4, 5, 6])))))))))))))))) ((K (SV.tup [(TV.at (At.val (Value.int IntKind.u32 (x)))), (TV.at (At.slc 7)), (TV.at (At.val (Value.bool true)))]) [(Chunk.box [(At.ptr 1 0), (At.slc 2), (At.slc 3), (At.val (Value.int IntKind.u64 (S'.reads)))]), (Chunk.box [(At.slc 4), (At.slc 5), (At.slc 6), (At.val (Value.int IntKind.u32 (S'.fresh)))]), (Chunk.row true (EC.node) (S'.nodes)), (Chunk.row true (EC.int) (S'.counts)), (Chunk.row true (EC.bool) (S'.used)), (Chunk.row true (EC.u32) (S'.gen)), (Chunk.row true (EC.u32) (S'.rel)), (Chunk.row false (EC.ent) (l)), (Chunk.row false (EC.edm) (ed))] [0, 1, 2, 3, 4, 5, 6])))))) = _ by kernel_rfl) ?_
  subst hP1 hP2
  obtain ⟨tx, rx, lx, bx⟩ := E.tree
  have hl := E.hl
  refine ⟨rx.us, ⟨_, E.wf⟩, fun S1 e1 => ?_⟩
  have t0 : TrR S hs l 0 0 S1 x := by rw [e1]; exact ⟨retL_got E.wf rx.us (by omega), tx, rx.retL, lx, bx⟩
  clear e1
  have mx : ∀ i, i ≤ 8 → i * I ≤ 8 * I := fun i hi => Nat.mul_le_mul_right _ hi
  have hn8 : min ed.length 8 ≤ 8 := Nat.min_le_right _ _
  have hnl : min ed.length 8 ≤ ed.length := Nat.min_le_left _ _
  have hnx : ∀ i : Nat, i < ed.length → i < 8 → i < min ed.length 8 := fun i a b => by omega
  generalize min ed.length 8 = n at *
  have hm1 : PE1 S hs l n I 0 S1 x l := ⟨Nat.zero_le _, E.asc, E.kin, by omega, t0.mono (by omega) (by omega)⟩
  refine brS_of (fun c => ⟨⟨by decide, by have := of_decide_eq_true c; omega, ?_⟩, fun x2 q => ?_⟩) fun c => h1 (by have := of_decide_eq_false c; omega) S1 (t0.mono (by omega) (by omega))
  · have c : 0 < ed.length := by have := of_decide_eq_true c; omega
    have c := hnx 0 c (by omega)
    obtain ⟨ty, up, ly, l67, f1, f2, b1, b2, b3, b4⟩ := ed_up E hm1 c hn8
    have am := E.asc
    have km := E.kin
    have hit : Int.toNat 0 = 0 := rfl
    rw [hit]
    have hmem : ed.getD 0 { del := false, at_ := 0, ent := (0, 0) } ∈ ed := by
      rw [List.getD_eq_getElem?_getD, List.getElem?_eq_getElem (by omega)]; exact List.getElem_mem _
    have hen := E.kd _ hmem
    generalize ed.getD 0 { del := false, at_ := 0, ent := (0, 0) } = en at *
    have il := insE_len l en.ent
    refine brS_of (fun d => brS_of (fun g => ?_) fun g => ?_) fun d => ?_
    · have g : 0 < l.length := by have := of_decide_eq_true g; omega
      refine ⟨by omega, by omega, by omega, by omega, fun z ez => ?_⟩
      obtain ⟨z0, z1⟩ := mod_rng (by omega) ez
      have hz : l.getD z.toNat (0, 0) ∈ l := by
        rw [List.getD_eq_getElem?_getD, List.getElem?_eq_getElem (by omega)]; exact List.getElem_mem _
      have fl := flt_len (p := neK (l.getD z.toNat (0, 0)).fst) (l := l)
      refine ⟨z0, z1, _, ty, (l.getD z.toNat (0, 0)).snd, up, by rw [ly, getE_fnd, am.fnd_self hz]; rfl, f1, fun S2 j tr => ⟨by omega, ⟨0, S2, x, j, outE l (l.getD z.toNat (0, 0)).fst (l.getD z.toNat (0, 0)).fst, ?_⟩, ?_⟩⟩
      · rw [ly] at tr
        rw [outE_flt]
        exact ed_step hm1 c tr (by omega) (by omega) (flt_asc am) (kin_flt km) (by omega)
      · (repeat' first | exact trivial | exact rfl | refine And.intro ?_ ?_)
    all_goals
      refine ⟨by omega, by omega, _, ty, up, f2, fun S2 j o eo tr => ⟨by omega, by omega, by omega, ⟨0, S2, x, j, insE l en.ent, ?_⟩, ?_⟩⟩
      · rw [ly] at tr
        exact ed_step hm1 c tr (by omega) (by omega) (insE_asc _ am) (kin_ins am km hen) (by omega)
      · (repeat' first | exact trivial | exact rfl | refine And.intro ?_ ?_)
  · have c : 0 < ed.length := by have := of_decide_eq_true c; omega
    obtain ⟨i2, S2, y, z, m, hi2, am, km, lm, g, tz⟩ := x2
    have q : (0 : Int) = i2 := q
    obtain rfl : 0 = i2 := by omega
    dsimp only
    have w' : Wf S2 (y :: z :: hs) := g.wf.perm (List.Perm.swap _ _ _)
    refine ⟨_, w', fun S3 _ w3 kp => ⟨⟨⟨1, S3, z, m, ed_rel ⟨hi2, am, km, lm, g, tz⟩ w3 kp⟩, ?_⟩, fun x3 _ => ?_⟩⟩
    · (repeat' first | exact trivial | exact rfl | refine And.intro ?_ ?_)
    obtain ⟨i, S1, y, m, hm1⟩ := x3
    dsimp only
    obtain ⟨hin, am, km, lm, t0⟩ := id hm1
    have fin : n ≤ i → K (.tup [.at (vU y), .at (.slc 9), .at (vB true)]) (chS S1 ++ [.row false EC.ent l, .row false EC.edm ed, .row true EC.ent m]) W7 := fun e => by
      have m8 := mx i (by omega)
      exact h2 S1 y m (t0.mono m8 (by omega)) am km (by omega)
    refine brS_of (fun c => brS_of (fun c8 => ⟨⟨by omega, by have := of_decide_eq_true c; omega, ?_⟩, fun x4 q => ?_⟩) fun c8 => fin (by have := of_decide_eq_false c8; omega)) fun c => fin (by have := of_decide_eq_false c; omega)
    · have cl : i < ed.length := by have := of_decide_eq_true c; omega
      have c8 : i < 8 := by have := of_decide_eq_true c8; omega
      have c := hnx i cl c8
      obtain ⟨ty, up, ly, l67, f1, f2, b1, b2, b3, b4⟩ := ed_up E hm1 c hn8
      have hit : (i : Int).toNat = i := rfl
      rw [hit]
      have hmem : ed.getD i { del := false, at_ := 0, ent := (0, 0) } ∈ ed := by
        rw [List.getD_eq_getElem?_getD, List.getElem?_eq_getElem (by omega)]; exact List.getElem_mem _
      have hen := E.kd _ hmem
      generalize ed.getD i { del := false, at_ := 0, ent := (0, 0) } = en at *
      have il := insE_len m en.ent
      refine brS_of (fun d => brS_of (fun g => ?_) fun g => ?_) fun d => ?_
      · have g : 0 < m.length := by have := of_decide_eq_true g; omega
        refine ⟨by omega, by omega, by omega, by omega, fun z ez => ?_⟩
        obtain ⟨z0, z1⟩ := mod_rng (by omega) ez
        have hz : m.getD z.toNat (0, 0) ∈ m := by
          rw [List.getD_eq_getElem?_getD, List.getElem?_eq_getElem (by omega)]; exact List.getElem_mem _
        have fl := flt_len (p := neK (m.getD z.toNat (0, 0)).fst) (l := m)
        refine ⟨z0, z1, _, ty, (m.getD z.toNat (0, 0)).snd, up, by rw [ly, getE_fnd, am.fnd_self hz]; rfl, f1, fun S2 j tr => ⟨by omega, ⟨i, S2, y, j, outE m (m.getD z.toNat (0, 0)).fst (m.getD z.toNat (0, 0)).fst, ?_⟩, ?_⟩⟩
        · rw [ly] at tr
          rw [outE_flt]
          exact ed_step hm1 c tr (by omega) (by omega) (flt_asc am) (kin_flt km) (by omega)
        · (repeat' first | exact trivial | exact rfl | refine And.intro ?_ ?_)
      all_goals
        refine ⟨by omega, by omega, _, ty, up, f2, fun S2 j o eo tr => ⟨by omega, by omega, by omega, ⟨i, S2, y, j, insE m en.ent, ?_⟩, ?_⟩⟩
        · rw [ly] at tr
          exact ed_step hm1 c tr (by omega) (by omega) (insE_asc _ am) (kin_ins am km hen) (by omega)
        · (repeat' first | exact trivial | exact rfl | refine And.intro ?_ ?_)
    · have cl : i < ed.length := by have := of_decide_eq_true c; omega
      have c8 : i < 8 := by have := of_decide_eq_true c8; omega
      have c := hnx i cl c8
      obtain ⟨i2, S2, y, z, m, hi2, am, km, lm, g, tz⟩ := x4
      have q : (i : Int) = i2 := q
      obtain rfl : i = i2 := by omega
      dsimp only
      have w' : Wf S2 (y :: z :: hs) := g.wf.perm (List.Perm.swap _ _ _)
      refine ⟨_, w', fun S3 _ w3 kp => ⟨⟨i + 1, S3, z, m, ed_rel ⟨hi2, am, km, lm, g, tz⟩ w3 kp⟩, trivial, ?_, by show n - (i + 1) < n - i; omega⟩⟩
      (repeat' first | exact trivial | exact rfl | refine And.intro ?_ ?_)
      exact congrArg (Value.int .i64) (show IntKind.i64.wrap ((i : Int) + 1) = ((i + 1 : Nat) : Int) by rw [wrap_id (by omega) (by omega)]; omega)
theorem s_ed : SoundT C0 93 tEd := by
  refine .ofW W7 Try.func93 (by decide) rfl fun args H K h hB => ?_
  unfold tEd at h
  split at h <;> try exact h.elim
  unfold arMr at h
  split at h <;> try exact h.elim
  split at h <;> try exact h.elim
  rename_i x _ rd fr nd ct us gn rl _ l ed
  obtain ⟨hs, I, h1, h2, h3⟩ := h
  exact ⟨aEd (PE1 ⟨us, gn, rl, fr, nd, ct, rd⟩ hs l (min ed.length 8) I) (PE2 ⟨us, gn, rl, fr, nd, ct, rd⟩ hs l (min ed.length 8) I) l ed, ⟨frame C0.ok s_retL _, frame C0.ok s_mod _, frame C0.ok s_upDe _, frame C0.ok s_del _, frame C0.ok s_upIn _, frame C0.ok s_ins _, frame C0.ok s_rel _, trivial⟩, vc_ed ⟨us, gn, rl, fr, nd, ct, rd⟩ x l ed K hs I h1 h2 h3⟩
abbrev chFk (raw : List Ent) (e1 e2 : List EdtT) (lb lo lt : List Ent) (S : Arn) : List (Chunk C0) := [.row false EC.ent raw, .row false EC.edm e1, .row false EC.edm e2, .box [.ptr 7 0, .slc 8, .slc 9, vU64 S.reads], .row false EC.ent lb, .row false EC.ent lo, .row false EC.ent lt, .box [.slc 10, .slc 11, .slc 12, vU S.fresh], .row true EC.node S.nodes, .row true EC.int S.counts, .row true EC.bool S.used, .row true EC.u32 S.gen, .row true EC.u32 S.rel]
def tFk : Tfm C0 := fun args H K => match args, H with
  | [.at (.slc 0), .at (.val (.int .u64 t)), .at (.slc 1), .at (.slc 2), .at (.val (.int .i64 sp))], [.row false .ent raw, .row false .edm e1, .row false .edm e2] => 0 ≤ t ∧ 0 ≤ sp ∧ sp ≤ 20000 ∧ Kin raw ∧ KinD e1 ∧ KinD e2 ∧
    ∀ S b o t lo lt, FkR S b o t (listE raw 60) lo lt sp → K (.tup [.agg [.ptr 3 0, vU b, vU o, vU t, .slc 4, .slc 5, .slc 6], .at (vB true)]) (chFk raw e1 e2 (listE raw 60) lo lt S) []
  | _, _ => False
def PF0 (B : List Ent) (I : Nat) (sp : Int) : Arn → Int → Prop := fun S b => Hld S [(b, B)] ∧ S.reads = 0 ∧ (18 * I : Nat) + sp ≤ S.free ∧ S.cap = B.length + (18 * I : Nat) + sp
def PF1 (B : List Ent) (I : Nat) (sp : Int) : Arn → Int → Int → List Ent → Prop := fun S b o lo => Hld S [(o, lo), (b, B)] ∧ lo.length ≤ 68 ∧ S.reads ≤ 8000 ∧ (10 * I : Nat) + sp ≤ S.free ∧ S.cap = B.length + (18 * I : Nat) + sp
def PF2 (B : List Ent) (sp : Int) : Arn → Int → Int → Int → List Ent → List Ent → Prop := fun S b o t lo lt => FkR S b o t B lo lt sp
theorem fk_ed {S : Arn} {E : List (Int × List Ent)} {b : Int} {B : List Ent} {ed : List EdtT} {I : Nat} (h : Hld S E) (hb : (b, B) ∈ E) (hE : E.length ≤ 100) (kd : KinD ed) (lb : B.length ≤ 60) (rd : S.reads ≤ 1000000) (i4 : (I : Int) = 4 * (Hn ((B.length + 9 : Nat) : Int) + 2)) (fr : ((8 * I : Nat) : Int) ≤ S.free) : EdM S (E.map Prod.fst) b B ed I := by
  have h13 := Hn_104 (n := B.length + 9) (by omega)
  exact ⟨h.wf, h.rep _ hb, h.asc _ hb, h.kin _ hb, kd, lb, by simp; omega, rd, by omega, by omega, fr⟩
theorem merge_triv {lb lo lt : List Ent} (hb : Asc lb) (ho : Asc lo) (ht : Asc lt) (pol : Int) : (lb = lo → mergeE lb lo lt pol = lt) ∧ (lb = lt → mergeE lb lo lt pol = lo) ∧ (lo = lt → mergeE lb lo lt pol = lo) := by
  refine ⟨fun e => Asc.ext (mergeE_asc ..) ht fun k => ?_, fun e => Asc.ext (mergeE_asc ..) ho fun k => ?_, fun e => Asc.ext (mergeE_asc ..) ho fun k => ?_⟩
  all_goals rw [mergeE_get]; unfold mergedO
  · subst e
    by_cases c : getE lb k = getE lt k
    · rw [if_pos (.inl c)]; exact c
    · rw [if_neg (fun d => d.elim c c), if_pos rfl]
  · subst e; rw [if_pos (.inr rfl)]
  · subst e; rw [if_pos (.inl rfl)]
theorem s_mgK : SoundT C0 46 tMgK := s_mg.weak fun args H K h => by
  unfold tMgK at h
  unfold tMg
  split at h <;> try exact h.elim
  unfold arM at h ⊢
  split at h <;> try exact h.elim
  rename_i b o t pol _ rd fr nd ct us gn rl
  obtain ⟨hs, tb, to, tt, hm, p1, p2, hf, hc, h⟩ := h
  refine ⟨hs, tb, to, tt, hm, fun S' i c e r => ?_⟩
  have h0 := hm.wf.us0 (Int.le_refl 0)
  have hrd := hm.rd
  have hl := hm.hl
  rcases r with ⟨a, _⟩ | ⟨_, a, b1, b2, b3, b4⟩ | ⟨_, _, a, _⟩ | ⟨_, _, _, a, _⟩ | ⟨_, _, _, _, b1, b2, b3⟩
  · exact absurd ⟨p1, p2⟩ a
  · rw [b1, b3]
    refine h S' i [] (conf_triv hm a).symm ?_
    have mt := merge_triv hm.ab hm.ao hm.at_ pol
    rw [b2] at b4 ⊢
    unfold trivI at b4 ⊢
    split at b4
    · rename_i q
      have r := hm.ro; rw [← q] at r
      rw [if_pos q]
      exact hold_tr (m := 0) hm.wf hm.rt hm.bt (by omega) (by omega) (by rw [b4, rdS_zero]) (by omega) (mt.1 (by rw [r.inj h0 hm.rb])).symm
    · rename_i q
      rw [if_neg q]
      refine hold_tr (m := 0) hm.wf hm.ro hm.bo (by omega) (by omega) (by rw [b4, rdS_zero]) (by omega) ?_
      rcases a with e | e | e
      · exact absurd e q
      · have r := hm.rt; rw [← e] at r
        exact (mt.2.1 (by rw [r.inj h0 hm.rb])).symm
      · have r := hm.rt; rw [← e] at r
        exact (mt.2.2 (by rw [r.inj h0 hm.ro])).symm
  · omega
  · exact absurd (hc a.1) a.2
  · rw [b1]; exact h S' i c b2 b3
theorem Hld.mg {S : Arn} {E : List (Int × List Ent)} {b o t : Int} {lb lo lt : List Ent} (e : Hld S E) (hb : (b, lb) ∈ E) (ho : (o, lo) ∈ E) (ht : (t, lt) ∈ E) (l1 : lb.length ≤ 30000) (l2 : lo.length ≤ 30000) (l3 : lt.length ≤ 30000) (he : E.length ≤ 900000) (hr : S.reads ≤ 500000000000000000) :
    ∃ tb to tt, MgM S (E.map Prod.fst) tb to tt b o t ∧ tb.list = lb ∧ to.list = lo ∧ tt.list = lt ∧ needM tb to tt = (lb.length : Int) + lo.length + lt.length + 12 * (Hn ((lb.length : Int) + lo.length + lt.length) + 2) := by
  obtain ⟨tb, rb, eb, bb⟩ := e.rep _ hb
  obtain ⟨to, ro, eo, bo⟩ := e.rep _ ho
  obtain ⟨tt, rt, et, bt⟩ := e.rep _ ht
  have eb : tb.list = lb := eb
  have eo : to.list = lo := eo
  have et : tt.list = lt := et
  have zb : tb.size = lb.length := by rw [← tb.list_len, eb]
  have zo : to.size = lo.length := by rw [← to.list_len, eo]
  have zt : tt.size = lt.length := by rw [← tt.list_len, et]
  refine ⟨tb, to, tt, ⟨e.wf, rb, ro, rt, bb, bo, bt, by rw [eb]; exact e.asc _ hb, by rw [eo]; exact e.asc _ ho, by rw [et]; exact e.asc _ ht, by rw [eb]; exact e.kin _ hb, by rw [eo]; exact e.kin _ ho, by rw [et]; exact e.kin _ ht, by omega, by omega, by omega, by simpa using he, hr⟩, eb, eo, et, by unfold needM; rw [zb, zo, zt]⟩
theorem kin_lit {l : List Ent} (h : l.all (fun x => decide (-9223372036854775808 ≤ x.1) && decide (x.1 ≤ 9223372036854775807)) = true) : Kin l := fun x hx => by
  have := List.all_eq_true.1 h x hx
  simpa using this
theorem ce20 : confE [((1 : Int), (10 : Int))] [(1, 11)] [(1, 10), (2, 20)] = [] := by decide
theorem me20 : mergeE [((1 : Int), (10 : Int))] [(1, 11)] [(1, 10), (2, 20)] 3 = [(1, 11), (2, 20)] := by decide
theorem vc_aw20 (K : KT) (h : K (.one (.at (vB true))) [] []) : vc C0 aAw20 Try.f45 [] [] (normK 0 K) := by
  refine Eq.mp (show ((((300 : Int) < 1 ∨ (65536 : Int) < 300) →
(K (SV.one (TV.at (At.val (Value.bool false)))) [] [])) ∧
(((1 : Int) ≤ 300) →
(((300 : Int) ≤ 65536) →
(∀ S : Arn, (((S) = (newS (Int.toNat 300))) → (∃ hs : List Int, ((Wf S hs) ∧ (Asc ([(1, 10)] : List Ent)) ∧ (([(1, 10)] : List Ent).length ≤ 60000) ∧ (hs.length ≤ 900000) ∧ ((↑([(1, 10)] : List Ent).length : Int) ≤ S.free) ∧ (S.reads ≤ 900000000000000000) ∧ (∀ S' : Arn, (∀ i : Int, ((TrR S hs ([(1, 10)] : List Ent) 65537 0 S' i) → (∃ hs1 : List Int, ((Wf S' hs1) ∧ (Asc ([(1, 11)] : List Ent)) ∧ (([(1, 11)] : List Ent).length ≤ 60000) ∧ (hs1.length ≤ 900000) ∧ ((↑([(1, 11)] : List Ent).length : Int) ≤ S'.free) ∧ (S'.reads ≤ 900000000000000000) ∧ (∀ S'1 : Arn, (∀ i1 : Int, ((TrR S' hs1 ([(1, 11)] : List Ent) 65537 0 S'1 i1) → (∃ hs2 : List Int, ((Wf S'1 hs2) ∧ (Asc ([(1, 10), (2, 20)] : List Ent)) ∧ (([(1, 10), (2, 20)] : List Ent).length ≤ 60000) ∧ (hs2.length ≤ 900000) ∧ ((↑([(1, 10), (2, 20)] : List Ent).length : Int) ≤ S'1.free) ∧ (S'1.reads ≤ 900000000000000000) ∧ (∀ S'2 : Arn, (∀ i2 : Int, ((TrR S'1 hs2 ([(1, 10), (2, 20)] : List Ent) 65537 0 S'2 i2) → (∃ hs3 : List Int, (∃ tb : Tr, (∃ to : Tr, (∃ tt : Tr, ((MgM S'2 hs3 tb to tt i i1 i2) ∧ ((1 : Int) ≤ 3) ∧ ((3 : Int) ≤ 4) ∧ (needM tb to tt ≤ S'2.free) ∧ (((3 : Int) = 3) → ((confE tb.list to.list tt.list) = [])) ∧ (∀ S'3 : Arn, (∀ i3 : Int, (∀ c : List Int, (((c) = (confE tb.list to.list tt.list)) → ((TrR S'2 hs3 (mergeE tb.list to.list tt.list 3) 65537 2000000000 S'3 i3) →
    (∃ hs4 : List Int, (∃ t : Tr, ((Wf S'3 hs4) ∧ (Rep S'3 t i3) ∧ (Asc t.list) ∧ (t.size ≤ 1000000) ∧ (S'3.reads + (↑t.size : Int) ≤ 3000000000000000000) ∧ (∀ S'4 : Arn, (∀ m : Nat, (∀ o : Option Int, (((S'4) = (rdS S'3 m)) → ((m ≤ ht t) → (((o) = (getE t.list 1)) → (brS ((↑c.length : Int) == 0) ((brS (o.isSome) ((brS (o.getD 0 == 11) (((inU i3) ∧ (exW S'4) ∧ (S'4.reads < 4000000000000000000) ∧ (∀ S'5 : Arn, (((S'5) = (rdS S'4 (S'4.us i3).toNat)) → (K (SV.one (TV.at (At.val (Value.bool ((S'4.nd i3).size == 2))))) [] []))))) ((K (SV.one (TV.at (At.val (Value.bool false)))) [] [])))) ((K (SV.one (TV.at (At.val (Value.bool false)))) [] [])))) ((K (SV.one (TV.at (At.val (Value.bool false)))) [] [])))))))))))))))))))))))))))))))))))))))))) = _ by kernel_rfl) ?_
  refine ⟨fun c => by omega, fun _ _ S0 e => ?_⟩
  have e5 : Int.toNat 300 = 300 := rfl
  rw [e5] at e
  have h0 : Hld S0 [] := by rw [e]; exact Hld.new (by omega) (by omega)
  have c0 : S0.cap = 300 := by rw [e]; exact cap_new 300
  have r0 : S0.reads = 0 := by rw [e]; rfl
  clear e
  have f0 := h0.room
  simp only [sumL_nil] at f0
  refine ⟨_, h0.wf, by decide, by decide, by simp, by simp; omega, by omega, fun S1 b t1 => ?_⟩
  have h1 := h0.step t1 (by decide) (kin_lit rfl)
  have c1 := tr_cap t1
  have r1 := t1.got.rd
  have f1 := h1.room
  simp only [sumL_nil, sumL_cons] at f1
  refine ⟨_, h1.wf, by decide, by decide, by simp, by simp at f1 ⊢; omega, by omega, fun S2 o t2 => ?_⟩
  have h2 := h1.step t2 (by decide) (kin_lit rfl)
  have c2 := tr_cap t2
  have r2 := t2.got.rd
  have f2 := h2.room
  simp only [sumL_nil, sumL_cons] at f2
  refine ⟨_, h2.wf, by decide, by decide, by simp, by simp at f2 ⊢; omega, by omega, fun S3 t t3 => ?_⟩
  have h3 := h2.step t3 (by decide) (kin_lit rfl)
  have c3 := tr_cap t3
  have r3 := t3.got.rd
  have f3 := h3.room
  simp only [sumL_nil, sumL_cons] at f3
  obtain ⟨tb, to, tt, hm, eb, eo, et, nm⟩ := h3.mg (b := b) (o := o) (t := t) (lb := [(1, 10)]) (lo := [(1, 11)]) (lt := [(1, 10), (2, 20)]) (by simp) (by simp) (by simp) (by decide) (by decide) (by decide) (by simp) (by omega)
  have n2 : needM tb to tt ≤ S3.free := by
    have e : needM tb to tt = 4 + 12 * (Hn 4 + 2) := by rw [nm]; rfl
    have e2 : Hn 4 ≤ 4 := by decide
    simp at f3
    omega
  have ce := ce20
  have me := me20
  refine ⟨_, tb, to, tt, hm, by decide, by decide, n2, fun _ => by rw [eb, eo, et]; exact ce, fun S4 m c ec t4 => ?_⟩
  rw [eb, eo, et] at ec t4
  rw [ce] at ec
  rw [me] at t4
  obtain ⟨u, rp, lu, bu⟩ := t4.tree
  have w4 := t4.got.wf
  have r4 := t4.got.rd
  have su : u.size = 2 := by rw [← u.list_len, lu]; rfl
  refine ⟨_, u, w4, rp, by rw [lu]; decide, by omega, by omega, fun S5 m5 o5 e5 b5 eo5 => ?_⟩
  rw [lu] at eo5
  have eo5 : o5 = some 11 := eo5
  have hb := Bal.height bu (by omega)
  have hr := Hn_rng u.size
  have w5 := w4.rd (n := m5) (by omega)
  rw [← e5] at w5
  have rp5 : Rep S5 u m := by rw [e5]; exact rp.rdn
  have r5 : S5.reads = S4.reads + m5 := by rw [e5]; rfl
  refine bt7 (by rw [ec]; rfl) (bt7 (by rw [eo5]; rfl) (bt7 (by rw [eo5]; rfl) ⟨inU_of w5 rp5.us, ⟨_, w5⟩, by omega, fun S6 _ => ?_⟩))
  rw [rp5.size w5, su]
  exact h
theorem s_aw20 : SoundT C0 45 tAw20 := by
  refine .of Try.func45 (by decide) rfl fun args H K h hB => ?_
  unfold tAw20 at h
  split at h <;> try exact h.elim
  exact ⟨aAw20, ⟨frame C0.ok s_new _, frame C0.ok s_buildOk _, frame C0.ok s_mgK _, frame C0.ok s_getT _, frame C0.ok s_size _, trivial⟩, vc_aw20 K h⟩
end Go.Proofs.Ytbonbaccmlomhaa.Sx
end
section
/- The law MergeConflicts. -/
namespace Go.Proofs.Ytbonbaccmlomhaa.Sx
open Go

/-KEEP EdM Wf Kept exW inU live Arn.cap Arn.free Rep rdS retL Tr.size Tr.list Tr.Bal Asc Kin KinD FkR listE TrR Got Hn ht MgM needM confE mergeE sameB slotsOf orderOf PlantR-/
/-- fork, beside two further rows. -/
abbrev zT5 : List (Chunk C0) := [.box [.val (.pointer none), vU 0, vU 0, vU 0, .slc 14, .slc 15, .slc 16], .row true EC.ent [], .row true EC.ent [], .row true EC.ent []]
abbrev hd5 (raw oth thi : List Ent) (e1 e2 : List EdtT) : List (Chunk C0) := [.row false EC.ent raw, .row false EC.ent oth, .row false EC.ent thi, .row false EC.edm e1, .row false EC.edm e2]
noncomputable def aFk5 (P0 : Arn → Int → Prop) (P1 : Arn → Int → Int → List Ent → Prop) (P2 : Arn → Int → Int → Int → List Ent → List Ent → Prop) (raw oth thi B : List Ent) (e1 e2 : List EdtT) : Ann C0 := { trunc := fun n => n = 17 || n = 20, Γ := [(36, frameT [] tLst), (55, frameT [] (tRes1 4 1)), (54, frameT [] tGrow), (93, frameT [] tEd)], inv := fun k => match k with
  | 1005 => some { X := XF0 P0, sl := [10, 12, 13, 14], tf := fun x => [.one (.at (.ptr 13 0)), .one (.at (.slc 12)), .one (.at (.ptr 5 0)), vi .u32 x.b], hf := fun x => hd5 raw oth thi e1 e2 ++ chSk 5 x.S ++ [.row false EC.ent B] ++ zT5 }
  | 1006 => some { X := XF1 P1, sl := [10, 12, 13, 14, 16, 17, 18], tf := fun x => [.one (.at (.ptr 13 0)), .one (.at (.slc 12)), .one (.at (.ptr 5 0)), vi .u32 x.b, vi .u32 x.o, .one (.at (.slc 17)), vb true], hf := fun x => hd5 raw oth thi e1 e2 ++ chSk 5 x.S ++ [.row false EC.ent B] ++ zT5 ++ [.row false EC.ent x.lo] }
  | 1007 => some { X := XF2 P2, sl := [10, 12, 13, 14, 16, 17, 18, 19, 20, 21], tf := fun x => [.one (.at (.ptr 13 0)), .one (.at (.slc 12)), .one (.at (.ptr 5 0)), vi .u32 x.b, vi .u32 x.o, .one (.at (.slc 17)), vb true, vi .u32 x.t, .one (.at (.slc 18)), vb true], hf := fun x => hd5 raw oth thi e1 e2 ++ chSk 5 x.S ++ [.row false EC.ent B] ++ zT5 ++ [.row false EC.ent x.lo, .row false EC.ent x.lt] }
  | _ => none }
def confL (b o t : List Ent) (ks : List Int) : List Int := ks.filter fun k => decide (Cf b o t k)
structure XCf (b o t : List Ent) where
  i : Nat
  h : i ≤ (keys3 b o t).length
structure XCg (b o t : List Ent) where
  i : Nat
  z : Bool
  h : i < (keys3 b o t).length ∧ z = decide (Cf b o t (iA (keys3 b o t) i))
noncomputable def aCf9 (b o t : List Ent) : Ann C0 := { quiet := [47], Γ := [(17, frameT [] tKeys), (47, frameT [] tGet)], inv := fun k => match k with
  | 4 => some { X := XCf b o t, sl := [9, 8, 7], tf := fun x => [vi .i64 x.i, .one (.at (.slc 3)), .one (.at (.slc 4))], hf := fun x => [.row false EC.ent b, .row false EC.ent o, .row false EC.ent t, .row true EC.i64 (keys3 b o t), .row true EC.i64 (confL b o t ((keys3 b o t).take x.i))], μ := fun x => (keys3 b o t).length - x.i }
  | 1010 => some { X := XCg b o t, sl := [9, 8, 7, 83], tf := fun x => [vi .i64 x.i, .one (.at (.slc 3)), .one (.at (.slc 4)), vb x.z], hf := fun x => [.row false EC.ent b, .row false EC.ent o, .row false EC.ent t, .row true EC.i64 (keys3 b o t), .row true EC.i64 (confL b o t ((keys3 b o t).take x.i))], rel := fun T _ x => slotI T 9 x.i }
  | _ => none }
def tCf9 : Tfm C0 := fun args H K => match args, H with
  | [.at (.slc 0), .at (.slc 1), .at (.slc 2)], [.row false .ent b, .row false .ent o, .row false .ent t] => b.length + o.length + t.length ≤ 1000000 ∧ K (.one (.at (.slc 3))) [.row false EC.ent b, .row false EC.ent o, .row false EC.ent t, .row true EC.i64 (confE b o t)] []
  | _, _ => False
abbrev chFk5 (raw oth thi : List Ent) (e1 e2 : List EdtT) (lb lo lt : List Ent) (S : Arn) : List (Chunk C0) := [.row false EC.ent raw, .row false EC.ent oth, .row false EC.ent thi, .row false EC.edm e1, .row false EC.edm e2, .box [.ptr 9 0, .slc 10, .slc 11, vU64 S.reads], .row false EC.ent lb, .row false EC.ent lo, .row false EC.ent lt, .box [.slc 12, .slc 13, .slc 14, vU S.fresh], .row true EC.node S.nodes, .row true EC.int S.counts, .row true EC.bool S.used, .row true EC.u32 S.gen, .row true EC.u32 S.rel]
def tFk5 : Tfm C0 := fun args H K => match args, H with
  | [.at (.slc 0), .at (.val (.int .u64 t)), .at (.slc 3), .at (.slc 4), .at (.val (.int .i64 sp))], [.row false .ent raw, .row false .ent oth, .row false .ent thi, .row false .edm e1, .row false .edm e2] => 0 ≤ t ∧ 0 ≤ sp ∧ sp ≤ 20000 ∧ Kin raw ∧ KinD e1 ∧ KinD e2 ∧
    ∀ S b o t lo lt, FkR S b o t (listE raw 60) lo lt sp → K (.tup [.agg [.ptr 5 0, vU b, vU o, vU t, .slc 6, .slc 7, .slc 8], .at (vB true)]) (chFk5 raw oth thi e1 e2 (listE raw 60) lo lt S) []
  | _, _ => False
theorem vc_fk5 (raw oth thi : List Ent) (e1 e2 : List EdtT) (t sp : Int) (K : KT) (h0 : 0 ≤ t) (s0 : 0 ≤ sp) (s1 : sp ≤ 20000) (hk : Kin raw) (k1 : KinD e1) (k2 : KinD e2)
    (h : ∀ S b o t lo lt, FkR S b o t (listE raw 60) lo lt sp → K (.tup [.agg [.ptr 5 0, vU b, vU o, vU t, .slc 6, .slc 7, .slc 8], .at (vB true)]) (chFk5 raw oth thi e1 e2 (listE raw 60) lo lt S) []) :
    vc C0 (aFk5 (PF0 (listE raw 60) (4 * (Hn (((listE raw 60).length + 9 : Nat) : Int) + 2)).toNat sp) (PF1 (listE raw 60) (4 * (Hn (((listE raw 60).length + 9 : Nat) : Int) + 2)).toNat sp) (PF2 (listE raw 60) sp) raw oth thi (listE raw 60) e1 e2) Try.f44 [.at (.slc 0), .at (vU64 t), .at (.slc 3), .at (.slc 4), .at (vI sp)] (hd5 raw oth thi e1 e2) (normK 5 K) := by
  obtain ⟨la, ll⟩ := listE_spec raw 60
  have kB : Kin (listE raw 60) := fun x hx => hk x (listE_sub raw 60 x hx)
  have h13 := Hn_104 (n := (listE raw 60).length + 9) (by omega)
  have hr := Hn_rng (((listE raw 60).length + 9 : Nat) : Int)
  generalize hI : (4 * (Hn (((listE raw 60).length + 9 : Nat) : Int) + 2)).toNat = I
  have hII : (I : Int) = 4 * (Hn (((listE raw 60).length + 9 : Nat) : Int) + 2) := by omega
  clear hI
  generalize hP0 : PF0 (listE raw 60) I sp = P0
  generalize hP1 : PF1 (listE raw 60) I sp = P1
  generalize hP2 : PF2 (listE raw 60) sp = P2
  refine Eq.mp (show (((0 : Int) ≤ 60) ∧
((60 : Int) ≤ 1000000) ∧
(0 ≤ IntKind.i64.wrap ((↑(listE raw (Int.toNat 60)).length : Int) + 8)) ∧
(IntKind.i64.wrap ((↑(listE raw (Int.toNat 60)).length : Int) + 8) ≤ 65536) ∧
(∀ p : Int, (((p) = (4 * (Hn (IntKind.i64.wrap ((↑(listE raw (Int.toNat 60)).length : Int) + 8) + 1) + 2))) → ((0 ≤ t) ∧ (1 ≤ IntKind.i64.wrap (IntKind.i64.wrap (18 * p) + sp)) ∧ (IntKind.i64.wrap (IntKind.i64.wrap (18 * p) + sp) ≤ 30000) ∧ ((listE raw (Int.toNat 60)).length ≤ 30000) ∧ (∀ S' : Arn, (∀ i : Int, ((PlantR (newS ((↑(listE raw (Int.toNat 60)).length : Int) + IntKind.i64.wrap (IntKind.i64.wrap (18 * p) + sp)).toNat) [] (listE raw (Int.toNat 60)) S' i) → ((∃ x : XF0 P0, (True ∧ (True ∧ True ∧ True ∧ True ∧ True ∧ ((Value.int IntKind.u32 (i)) = (Value.int IntKind.u32 (x.b))) ∧ True) ∧ ((raw) = (raw)) ∧ ((oth) = (oth)) ∧ ((thi) = (thi)) ∧ ((e1) = (e1)) ∧ ((e2) = (e2)) ∧ (True ∧ True ∧ True ∧ ((Value.int IntKind.u64 (S'.reads)) = (Value.int IntKind.u64 (x.S.reads))) ∧ True) ∧ (True ∧ True ∧ True ∧ ((Value.int IntKind.u32 (S'.fresh)) = (Value.int IntKind.u32 (x.S.fresh))) ∧ True) ∧ ((S'.nodes) = (x.S.nodes)) ∧ ((S'.counts) = (x.S.counts)) ∧ ((S'.used) = (x.S.used)) ∧ ((S'.gen) = (x.S.gen)) ∧ ((S'.rel) = (x.S.rel)) ∧ ((listE raw (Int.toNat 60)) = (listE raw 60)) ∧ (((Value.pointer none) = (Value.pointer none)) ∧ ((Value.int IntKind.u32 0) = (Value.int IntKind.u32 0)) ∧ ((Value.int IntKind.u32 0) = (Value.int IntKind.u32 0)) ∧
    ((Value.int IntKind.u32 0) = (Value.int IntKind.u32 0)) ∧ True ∧ True ∧ True ∧ True) ∧ ((([] : List Ent) = [])) ∧ ((([] : List Ent) = [])) ∧ ((([] : List Ent) = [])) ∧ True)) ∧ (∀ x : XF0 P0, (True → ((∃ hs : List Int, (∃ I : Nat, ((EdM x.S hs x.b (listE raw 60) e1 I) ∧ (((e1.length) = 0) → (∀ S'1 : Arn, ((TrR x.S hs (listE raw 60) (8 * I) 8000 S'1 x.b) → (∃ x1 : XF1 P1, (True ∧ (True ∧ True ∧ True ∧ True ∧ ((Value.int IntKind.u32 (x.b)) = (Value.int IntKind.u32 (x1.b))) ∧ ((Value.int IntKind.u32 (x.b)) = (Value.int IntKind.u32 (x1.o))) ∧ True ∧ ((Value.bool true) = (Value.bool true)) ∧ True) ∧ ((raw) = (raw)) ∧ ((oth) = (oth)) ∧ ((thi) = (thi)) ∧ ((e1) = (e1)) ∧ ((e2) = (e2)) ∧ (True ∧ True ∧ True ∧ ((Value.int IntKind.u64 (S'1.reads)) = (Value.int IntKind.u64 (x1.S.reads))) ∧ True) ∧ (True ∧ True ∧ True ∧ ((Value.int IntKind.u32 (S'1.fresh)) = (Value.int IntKind.u32 (x1.S.fresh))) ∧ True) ∧ ((S'1.nodes) = (x1.S.nodes)) ∧ ((S'1.counts) = (x1.S.counts)) ∧ ((S'1.used) = (x1.S.used)) ∧ ((S'1.gen) = (x1.S.gen)) ∧ ((S'1.rel) = (x1.S.rel)) ∧ ((listE raw 60) = (listE raw 60)) ∧ (((Value.pointer none) = (Value.pointer none)) ∧ ((Value.int IntKind.u32 0) = (Value.int IntKind.u32 0)) ∧ ((Value.int IntKind.u32 0) = (Value.int IntKind.u32 0)) ∧ ((Value.int IntKind.u32 0) = (Value.int IntKind.u32 0)) ∧ True ∧ True ∧ True ∧ True) ∧ ((([] : List Ent) = [])) ∧ ((([] : List Ent) = [])) ∧ ((([] : List Ent) = [])) ∧ ((listE raw 60) = (x1.lo)) ∧ True))))) ∧ (∀ S'1 : Arn, (∀ y : Int,
    (∀ m : List Ent, ((TrR x.S hs m (8 * I) 8000 S'1 y) → ((Asc m) → ((Kin m) → ((m.length ≤ (listE raw 60).length + 8) → (∃ x1 : XF1 P1, (True ∧ (True ∧ True ∧ True ∧ True ∧ ((Value.int IntKind.u32 (x.b)) = (Value.int IntKind.u32 (x1.b))) ∧ ((Value.int IntKind.u32 (y)) = (Value.int IntKind.u32 (x1.o))) ∧ True ∧ ((Value.bool true) = (Value.bool true)) ∧ True) ∧ ((raw) = (raw)) ∧ ((oth) = (oth)) ∧ ((thi) = (thi)) ∧ ((e1) = (e1)) ∧ ((e2) = (e2)) ∧ (True ∧ True ∧ True ∧ ((Value.int IntKind.u64 (S'1.reads)) = (Value.int IntKind.u64 (x1.S.reads))) ∧ True) ∧ (True ∧ True ∧ True ∧ ((Value.int IntKind.u32 (S'1.fresh)) = (Value.int IntKind.u32 (x1.S.fresh))) ∧ True) ∧ ((S'1.nodes) = (x1.S.nodes)) ∧ ((S'1.counts) = (x1.S.counts)) ∧ ((S'1.used) = (x1.S.used)) ∧ ((S'1.gen) = (x1.S.gen)) ∧ ((S'1.rel) = (x1.S.rel)) ∧ ((listE raw 60) = (listE raw 60)) ∧ (((Value.pointer none) = (Value.pointer none)) ∧ ((Value.int IntKind.u32 0) = (Value.int IntKind.u32 0)) ∧ ((Value.int IntKind.u32 0) = (Value.int IntKind.u32 0)) ∧ ((Value.int IntKind.u32 0) = (Value.int IntKind.u32 0)) ∧ True ∧ True ∧ True ∧ True) ∧ ((([] : List Ent) = [])) ∧ ((([] : List Ent) = [])) ∧ ((([] : List Ent) = [])) ∧ ((m) = (x1.lo)) ∧ True)))))))))))) ∧ (∀ x1 : XF1 P1, (True → ((∃ hs : List Int, (∃ I : Nat, ((EdM x1.S hs x1.b (listE raw 60) e2 I) ∧ (((e2.length) = 0) → (∀ S'1 : Arn, ((TrR x1.S hs (listE raw 60) (8 * I) 8000 S'1 x1.b) → (∃ x2 : XF2 P2, (True ∧ (True ∧ True ∧ True ∧
    ((Value.int IntKind.u32 (x1.b)) = (Value.int IntKind.u32 (x2.b))) ∧ ((Value.int IntKind.u32 (x1.o)) = (Value.int IntKind.u32 (x2.o))) ∧ True ∧ ((Value.bool true) = (Value.bool true)) ∧ ((Value.int IntKind.u32 (x1.b)) = (Value.int IntKind.u32 (x2.t))) ∧ True ∧ ((Value.bool true) = (Value.bool true)) ∧ True) ∧ ((raw) = (raw)) ∧ ((oth) = (oth)) ∧ ((thi) = (thi)) ∧ ((e1) = (e1)) ∧ ((e2) = (e2)) ∧ (True ∧ True ∧ True ∧ ((Value.int IntKind.u64 (S'1.reads)) = (Value.int IntKind.u64 (x2.S.reads))) ∧ True) ∧ (True ∧ True ∧ True ∧ ((Value.int IntKind.u32 (S'1.fresh)) = (Value.int IntKind.u32 (x2.S.fresh))) ∧ True) ∧ ((S'1.nodes) = (x2.S.nodes)) ∧ ((S'1.counts) = (x2.S.counts)) ∧ ((S'1.used) = (x2.S.used)) ∧ ((S'1.gen) = (x2.S.gen)) ∧ ((S'1.rel) = (x2.S.rel)) ∧ ((listE raw 60) = (listE raw 60)) ∧ (((Value.pointer none) = (Value.pointer none)) ∧ ((Value.int IntKind.u32 0) = (Value.int IntKind.u32 0)) ∧ ((Value.int IntKind.u32 0) = (Value.int IntKind.u32 0)) ∧ ((Value.int IntKind.u32 0) = (Value.int IntKind.u32 0)) ∧ True ∧ True ∧ True ∧ True) ∧ ((([] : List Ent) = [])) ∧ ((([] : List Ent) = [])) ∧ ((([] : List Ent) = [])) ∧ ((x1.lo) = (x2.lo)) ∧ ((listE raw 60) = (x2.lt)) ∧ True))))) ∧ (∀ S'1 : Arn, (∀ y : Int, (∀ m : List Ent, ((TrR x1.S hs m (8 * I) 8000 S'1 y) → ((Asc m) → ((Kin m) → ((m.length ≤ (listE raw 60).length + 8) → (∃ x2 : XF2 P2, (True ∧ (True ∧ True ∧ True ∧ ((Value.int IntKind.u32 (x1.b)) = (Value.int IntKind.u32 (x2.b))) ∧
    ((Value.int IntKind.u32 (x1.o)) = (Value.int IntKind.u32 (x2.o))) ∧ True ∧ ((Value.bool true) = (Value.bool true)) ∧ ((Value.int IntKind.u32 (y)) = (Value.int IntKind.u32 (x2.t))) ∧ True ∧ ((Value.bool true) = (Value.bool true)) ∧ True) ∧ ((raw) = (raw)) ∧ ((oth) = (oth)) ∧ ((thi) = (thi)) ∧ ((e1) = (e1)) ∧ ((e2) = (e2)) ∧ (True ∧ True ∧ True ∧ ((Value.int IntKind.u64 (S'1.reads)) = (Value.int IntKind.u64 (x2.S.reads))) ∧ True) ∧ (True ∧ True ∧ True ∧ ((Value.int IntKind.u32 (S'1.fresh)) = (Value.int IntKind.u32 (x2.S.fresh))) ∧ True) ∧ ((S'1.nodes) = (x2.S.nodes)) ∧ ((S'1.counts) = (x2.S.counts)) ∧ ((S'1.used) = (x2.S.used)) ∧ ((S'1.gen) = (x2.S.gen)) ∧ ((S'1.rel) = (x2.S.rel)) ∧ ((listE raw 60) = (listE raw 60)) ∧ (((Value.pointer none) = (Value.pointer none)) ∧ ((Value.int IntKind.u32 0) = (Value.int IntKind.u32 0)) ∧ ((Value.int IntKind.u32 0) = (Value.int IntKind.u32 0)) ∧ ((Value.int IntKind.u32 0) = (Value.int IntKind.u32 0)) ∧ True ∧ True ∧ True ∧ True) ∧ ((([] : List Ent) = [])) ∧ ((([] : List Ent) = [])) ∧ ((([] : List Ent) = [])) ∧ ((x1.lo) = (x2.lo)) ∧ ((m) = (x2.lt)) ∧ True)))))))))))) ∧ (∀ x2 : XF2 P2, (True →
    (K (SV.tup [(TV.agg [(At.ptr 5 0), (At.val (Value.int IntKind.u32 (x2.b))), (At.val (Value.int IntKind.u32 (x2.o))), (At.val (Value.int IntKind.u32 (x2.t))), (At.slc 6), (At.slc 7), (At.slc 8)]), (TV.at (At.val (Value.bool true)))]) [(Chunk.row false (EC.ent) (raw)), (Chunk.row false (EC.ent) (oth)), (Chunk.row false (EC.ent) (thi)), (Chunk.row false (EC.edm) (e1)), (Chunk.row false (EC.edm) (e2)), (Chunk.box [(At.ptr 9 0), (At.slc 10), (At.slc 11), (At.val (Value.int IntKind.u64 (x2.S.reads)))]), (Chunk.row false (EC.ent) (listE raw 60)), (Chunk.row false (EC.ent) (x2.lo)), (Chunk.row false (EC.ent) (x2.lt)), (Chunk.box [(At.slc 12), (At.slc 13), (At.slc 14), (At.val (Value.int IntKind.u32 (x2.S.fresh)))]), (Chunk.row true (EC.node) (x2.S.nodes)), (Chunk.row true (EC.int) (x2.S.counts)), (Chunk.row true (EC.bool) (x2.S.used)), (Chunk.row true (EC.u32) (x2.S.gen)), (Chunk.row true (EC.u32) (x2.S.rel))] []))))))))))))))))) = _ by kernel_rfl) ?_
  subst hP0 hP1 hP2
  have e60 : Int.toNat 60 = 60 := rfl
  rw [e60]
  generalize listE raw 60 = B at *
  rw [wrap_id (x := (B.length : Int) + 8) (by omega) (by omega)]
  refine ⟨by decide, by decide, by omega, by omega, fun p ep => ?_⟩
  have ep : p = (I : Int) := by rw [ep, hII, show ((B.length + 9 : Nat) : Int) = (B.length : Int) + 8 + 1 by omega]
  subst ep
  rw [wrap_id (x := 18 * (I : Int)) (by omega) (by omega), wrap_id (x := 18 * (I : Int) + sp) (by omega) (by omega)]
  refine ⟨h0, by omega, by omega, by omega, fun S1 b hp => ⟨⟨⟨S1, b, ?_⟩, ?_⟩, fun x0 _ => ?_⟩⟩
  · obtain ⟨t1, up, lt, zt⟩ := plant_up hp la (by omega)
    have fr := plant_free hp
    have cp : S1.cap = (B.length : Int) + (18 * (I : Int) + sp) := by
      have := cap_len hp.len
      rw [this, cap_new]; omega
    refine ⟨⟨up.1, ?_, ?_, ?_⟩, by rw [hp.rds]; rfl, by omega, by omega⟩
    · intro q hq; simp at hq; subst hq; exact ⟨t1, up.2.1, lt, up.2.2.1⟩
    · intro q hq; simp at hq; subst hq; exact la
    · intro q hq; simp at hq; subst hq; exact kB
  · (repeat' first | exact trivial | exact rfl | refine And.intro ?_ ?_)
  obtain ⟨S, b, hh, rd, fr, cp⟩ := x0
  dsimp only
  have i8 : 8 ≤ I := by omega
  refine ⟨⟨_, I, fk_ed (I := I) (ed := e1) hh (List.mem_cons_self ..) (by simp) k1 (by omega) (by omega) hII (by omega), fun _ S2 tr => ⟨⟨S2, b, b, B, ?_⟩, ?_⟩, fun S2 o lo tr am km lm => ⟨⟨S2, b, o, lo, ?_⟩, ?_⟩⟩, fun x1 _ => ?_⟩
  · have f := tr.got.free hh.wf
    have q := tr.got.rd
    exact ⟨hh.step tr la kB, by omega, by omega, by omega, by rw [tr_cap tr]; exact cp⟩
  · (repeat' first | exact trivial | exact rfl | refine And.intro ?_ ?_)
  · have f := tr.got.free hh.wf
    have q := tr.got.rd
    exact ⟨hh.step tr am km, by omega, by omega, by omega, by rw [tr_cap tr]; exact cp⟩
  · (repeat' first | exact trivial | exact rfl | refine And.intro ?_ ?_)
  clear hh rd fr cp b S
  obtain ⟨S, b, o, lo, hh, lo68, rd, fr, cp⟩ := x1
  dsimp only
  refine ⟨⟨_, I, fk_ed (I := I) (ed := e2) hh (b := b) (B := B) (by simp) (by simp) k2 (by omega) (by omega) hII (by omega), fun _ S2 tr => ⟨⟨S2, b, o, b, lo, B, ?_⟩, ?_⟩, fun S2 t lt tr am km lm => ⟨⟨S2, b, o, t, lo, lt, ?_⟩, ?_⟩⟩, fun x2 _ => ?_⟩
  · have f := tr.got.free hh.wf
    have q := tr.got.rd
    exact ⟨hh.step tr la kB, by omega, by omega, by omega, by omega, by omega, by rw [tr_cap tr]; omega, by rw [tr_cap tr]; omega⟩
  · (repeat' first | exact trivial | exact rfl | refine And.intro ?_ ?_)
  · have f := tr.got.free hh.wf
    have q := tr.got.rd
    exact ⟨hh.step tr am km, by omega, by omega, by omega, by omega, by omega, by rw [tr_cap tr]; omega, by rw [tr_cap tr]; omega⟩
  · (repeat' first | exact trivial | exact rfl | refine And.intro ?_ ?_)
  · exact h x2.S x2.b x2.o x2.t x2.lo x2.lt x2.h
theorem s_fk5 : SoundT C0 44 tFk5 := by
  refine .of Try.func44 (by decide) rfl fun args H K h hB => ?_
  unfold tFk5 at h
  split at h <;> try exact h.elim
  rename_i t sp raw oth thi e1 e2
  refine ⟨_, ?_, vc_fk5 raw oth thi e1 e2 t sp K h.1 h.2.1 h.2.2.1 h.2.2.2.1 h.2.2.2.2.1 h.2.2.2.2.2.1 h.2.2.2.2.2.2⟩
  exact ⟨frame C0.ok s_lst _, frame C0.ok s_nIns _, frame C0.ok s_grow _, frame C0.ok s_ed _, trivial⟩
theorem confL_snoc (b o t : List Ent) {ks : List Int} {i : Nat} (h : i < ks.length) : confL b o t (ks.take (i + 1)) = confL b o t (ks.take i) ++ (if Cf b o t (iA ks i) then [iA ks i] else []) := by
  unfold confL
  rw [take_snoc (iA_get h), List.filter_append]
  by_cases c : Cf b o t (iA ks i)
  · rw [if_pos c]; simp [c]
  · rw [if_neg c]; simp [c]
theorem confL_len (b o t : List Ent) (ks : List Int) (i : Nat) : (confL b o t (ks.take i)).length ≤ i := Nat.le_trans (List.length_filter_le _ _) (List.length_take_le _ _)
theorem conf_tt {x y z : Option Int} {b o t : List Ent} {k : Int} (e1 : x = getE b k) (e2 : y = getE o k) (e3 : z = getE t k) : (y = z → decide (Cf b o t k) = false) ∧ (x = y → decide (Cf b o t k) = false) ∧ (x = z → decide (Cf b o t k) = false) ∧ (y ≠ z → x ≠ y → x ≠ z → decide (Cf b o t k) = true) := by
  subst e1 e2 e3
  exact ⟨fun e => decide_eq_false fun c => c.1 e, fun e => decide_eq_false fun c => c.2.1 e, fun e => decide_eq_false fun c => c.2.2 e, fun a b c => decide_eq_true ⟨a, b, c⟩⟩
theorem one1 {x y : Option Int} (h1 : (x.isSome == y.isSome) = false) : x ≠ y := fun e => by rw [e] at h1; simp at h1
theorem lb {x y : Option Int} (h : (!x.getD 0 == y.getD 0) = true) : x ≠ y := fun e => by rw [e] at h; simp at h
theorem lc {x y : Option Int} (h1 : (x.isSome == y.isSome) = true) (h : (!x.getD 0 == y.getD 0) = false) : x = y := val_eq.2 ⟨by simpa using h1, by simpa using h⟩
theorem la {x y z : Option Int} {b o t : List Ent} {k : Int} (a : (x.isSome == z.isSome) = true) (cf : (y = z → decide (Cf b o t k) = false) ∧ (x = y → decide (Cf b o t k) = false) ∧ (x = z → decide (Cf b o t k) = false) ∧ (y ≠ z → x ≠ y → x ≠ z → decide (Cf b o t k) = true)) (n1 : y ≠ z) (n2 : x ≠ y) : (!x.getD 0 == z.getD 0) = decide (Cf b o t k) := by
  by_cases q : x = z
  · rw [cf.2.2.1 q, q]; simp
  · rw [cf.2.2.2 n1 n2 q]
    cases e : (!x.getD 0 == z.getD 0) with
    | true => rfl
    | false => exact absurd (lc a e) q
theorem vc_cf9 (b o t : List Ent) (K : KT) (hsm : b.length + o.length + t.length ≤ 1000000) (h : K (.one (.at (.slc 3))) [.row false EC.ent b, .row false EC.ent o, .row false EC.ent t, .row true EC.i64 (confE b o t)] []) :
    vc C0 (aCf9 b o t) Try.f53 [.at (.slc 0), .at (.slc 1), .at (.slc 2)] [.row false EC.ent b, .row false EC.ent o, .row false EC.ent t] (normK 3 K) := by
  refine Eq.mp (show ((b.length + o.length + t.length ≤ 1000000) ∧
(∃ x : XCf b o t, (True ∧ (True ∧ True ∧ True ∧ True ∧ True ∧ ((Value.int IntKind.i64 0) = (Value.int IntKind.i64 ((↑x.i : Int)))) ∧ True) ∧ ((b) = (b)) ∧ ((o) = (o)) ∧ ((t) = (t)) ∧ ((keys3 b o t) = (keys3 b o t)) ∧ ([] = (confL b o t (List.take x.i (keys3 b o t)))) ∧ True)) ∧
(∀ x : XCf b o t, (True → (brS (decide ((↑x.i : Int) < (↑(keys3 b o t).length : Int))) (((0 ≤ (↑x.i : Int)) ∧ ((↑x.i : Int) < (↑(keys3 b o t).length : Int)) ∧ (∀ x1 : Option Int, (((x1) = (getE b (iA (keys3 b o t) x.i))) → ((0 ≤ (↑x.i : Int)) ∧ ((↑x.i : Int) < (↑(keys3 b o t).length : Int)) ∧ (∀ x2 : Option Int, (((x2) = (getE o (iA (keys3 b o t) x.i))) → ((0 ≤ (↑x.i : Int)) ∧ ((↑x.i : Int) < (↑(keys3 b o t).length : Int)) ∧ (∀ x3 : Option Int, (((x3) = (getE t (iA (keys3 b o t) x.i))) → ((brS (x2.isSome == x3.isSome) ((brS (!x2.getD 0 == x3.getD 0) ((brS (x1.isSome == x2.isSome) ((brS (!x1.getD 0 == x2.getD 0) ((brS (x1.isSome == x3.isSome) ((∃ x4 : XCg b o t, ((((↑x.i : Int)) = ((↑x4.i : Int))) ∧ (True ∧ True ∧ True ∧ True ∧ True ∧ ((Value.int IntKind.i64 ((↑x.i : Int))) = (Value.int IntKind.i64 ((↑x4.i : Int)))) ∧ ((Value.bool (!x1.getD 0 == x3.getD 0)) = (Value.bool (x4.z))) ∧ True) ∧ ((b) = (b)) ∧ ((o) = (o)) ∧ ((t) = (t)) ∧ ((keys3 b o t) = (keys3 b o t)) ∧ ((confL b o t (List.take x.i (keys3 b o t))) = (confL b o t (List.take x4.i (keys3 b o t)))) ∧ True))) ((∃ x4 : XCg b o t, ((((↑x.i : Int)) = ((↑x4.i : Int))) ∧ (True ∧ True ∧ True ∧ True ∧ True ∧
    ((Value.int IntKind.i64 ((↑x.i : Int))) = (Value.int IntKind.i64 ((↑x4.i : Int)))) ∧ ((Value.bool true) = (Value.bool (x4.z))) ∧ True) ∧ ((b) = (b)) ∧ ((o) = (o)) ∧ ((t) = (t)) ∧ ((keys3 b o t) = (keys3 b o t)) ∧ ((confL b o t (List.take x.i (keys3 b o t))) = (confL b o t (List.take x4.i (keys3 b o t)))) ∧ True))))) ((∃ x4 : XCg b o t, ((((↑x.i : Int)) = ((↑x4.i : Int))) ∧ (True ∧ True ∧ True ∧ True ∧ True ∧ ((Value.int IntKind.i64 ((↑x.i : Int))) = (Value.int IntKind.i64 ((↑x4.i : Int)))) ∧ ((Value.bool false) = (Value.bool (x4.z))) ∧ True) ∧ ((b) = (b)) ∧ ((o) = (o)) ∧ ((t) = (t)) ∧ ((keys3 b o t) = (keys3 b o t)) ∧ ((confL b o t (List.take x.i (keys3 b o t))) = (confL b o t (List.take x4.i (keys3 b o t)))) ∧ True))))) ((brS (x1.isSome == x3.isSome) ((∃ x4 : XCg b o t, ((((↑x.i : Int)) = ((↑x4.i : Int))) ∧ (True ∧ True ∧ True ∧ True ∧ True ∧ ((Value.int IntKind.i64 ((↑x.i : Int))) = (Value.int IntKind.i64 ((↑x4.i : Int)))) ∧ ((Value.bool (!x1.getD 0 == x3.getD 0)) = (Value.bool (x4.z))) ∧ True) ∧ ((b) = (b)) ∧ ((o) = (o)) ∧ ((t) = (t)) ∧ ((keys3 b o t) = (keys3 b o t)) ∧ ((confL b o t (List.take x.i (keys3 b o t))) = (confL b o t (List.take x4.i (keys3 b o t)))) ∧ True))) ((∃ x4 : XCg b o t, ((((↑x.i : Int)) = ((↑x4.i : Int))) ∧ (True ∧ True ∧ True ∧ True ∧ True ∧ ((Value.int IntKind.i64 ((↑x.i : Int))) = (Value.int IntKind.i64 ((↑x4.i : Int)))) ∧ ((Value.bool true) = (Value.bool (x4.z))) ∧ True) ∧ ((b) = (b)) ∧ ((o) = (o)) ∧ ((t) = (t)) ∧ ((keys3 b o t) = (keys3 b o t)) ∧
    ((confL b o t (List.take x.i (keys3 b o t))) = (confL b o t (List.take x4.i (keys3 b o t)))) ∧ True))))))) ((∃ x4 : XCg b o t, ((((↑x.i : Int)) = ((↑x4.i : Int))) ∧ (True ∧ True ∧ True ∧ True ∧ True ∧ ((Value.int IntKind.i64 ((↑x.i : Int))) = (Value.int IntKind.i64 ((↑x4.i : Int)))) ∧ ((Value.bool false) = (Value.bool (x4.z))) ∧ True) ∧ ((b) = (b)) ∧ ((o) = (o)) ∧ ((t) = (t)) ∧ ((keys3 b o t) = (keys3 b o t)) ∧ ((confL b o t (List.take x.i (keys3 b o t))) = (confL b o t (List.take x4.i (keys3 b o t)))) ∧ True))))) ((brS (x1.isSome == x2.isSome) ((brS (!x1.getD 0 == x2.getD 0) ((brS (x1.isSome == x3.isSome) ((∃ x4 : XCg b o t, ((((↑x.i : Int)) = ((↑x4.i : Int))) ∧ (True ∧ True ∧ True ∧ True ∧ True ∧ ((Value.int IntKind.i64 ((↑x.i : Int))) = (Value.int IntKind.i64 ((↑x4.i : Int)))) ∧ ((Value.bool (!x1.getD 0 == x3.getD 0)) = (Value.bool (x4.z))) ∧ True) ∧ ((b) = (b)) ∧ ((o) = (o)) ∧ ((t) = (t)) ∧ ((keys3 b o t) = (keys3 b o t)) ∧ ((confL b o t (List.take x.i (keys3 b o t))) = (confL b o t (List.take x4.i (keys3 b o t)))) ∧ True))) ((∃ x4 : XCg b o t, ((((↑x.i : Int)) = ((↑x4.i : Int))) ∧ (True ∧ True ∧ True ∧ True ∧ True ∧ ((Value.int IntKind.i64 ((↑x.i : Int))) = (Value.int IntKind.i64 ((↑x4.i : Int)))) ∧ ((Value.bool true) = (Value.bool (x4.z))) ∧ True) ∧ ((b) = (b)) ∧ ((o) = (o)) ∧ ((t) = (t)) ∧ ((keys3 b o t) = (keys3 b o t)) ∧ ((confL b o t (List.take x.i (keys3 b o t))) = (confL b o t (List.take x4.i (keys3 b o t)))) ∧ True))))) ((∃ x4 : XCg b o t,
    ((((↑x.i : Int)) = ((↑x4.i : Int))) ∧ (True ∧ True ∧ True ∧ True ∧ True ∧ ((Value.int IntKind.i64 ((↑x.i : Int))) = (Value.int IntKind.i64 ((↑x4.i : Int)))) ∧ ((Value.bool false) = (Value.bool (x4.z))) ∧ True) ∧ ((b) = (b)) ∧ ((o) = (o)) ∧ ((t) = (t)) ∧ ((keys3 b o t) = (keys3 b o t)) ∧ ((confL b o t (List.take x.i (keys3 b o t))) = (confL b o t (List.take x4.i (keys3 b o t)))) ∧ True))))) ((brS (x1.isSome == x3.isSome) ((∃ x4 : XCg b o t, ((((↑x.i : Int)) = ((↑x4.i : Int))) ∧ (True ∧ True ∧ True ∧ True ∧ True ∧ ((Value.int IntKind.i64 ((↑x.i : Int))) = (Value.int IntKind.i64 ((↑x4.i : Int)))) ∧ ((Value.bool (!x1.getD 0 == x3.getD 0)) = (Value.bool (x4.z))) ∧ True) ∧ ((b) = (b)) ∧ ((o) = (o)) ∧ ((t) = (t)) ∧ ((keys3 b o t) = (keys3 b o t)) ∧ ((confL b o t (List.take x.i (keys3 b o t))) = (confL b o t (List.take x4.i (keys3 b o t)))) ∧ True))) ((∃ x4 : XCg b o t, ((((↑x.i : Int)) = ((↑x4.i : Int))) ∧ (True ∧ True ∧ True ∧ True ∧ True ∧ ((Value.int IntKind.i64 ((↑x.i : Int))) = (Value.int IntKind.i64 ((↑x4.i : Int)))) ∧ ((Value.bool true) = (Value.bool (x4.z))) ∧ True) ∧ ((b) = (b)) ∧ ((o) = (o)) ∧ ((t) = (t)) ∧ ((keys3 b o t) = (keys3 b o t)) ∧ ((confL b o t (List.take x.i (keys3 b o t))) = (confL b o t (List.take x4.i (keys3 b o t)))) ∧ True)))))))) ∧ (∀ x4 : XCg b o t, ((((↑x.i : Int)) = ((↑x4.i : Int))) → (brS (x4.z) (((0 ≤ (↑x4.i : Int)) ∧ ((↑x4.i : Int) < (↑(keys3 b o t).length : Int)) ∧
    (((confL b o t (List.take x4.i (keys3 b o t))).length + [iA (keys3 b o t) x4.i].length) * bytesOf C0 EC.i64 ≤ 140737488355328) ∧ (∃ x' : XCf b o t, (True ∧ ((True ∧ True ∧ True ∧ True ∧ True ∧ ((Value.int IntKind.i64 (IntKind.i64.wrap ((↑x4.i : Int) + 1))) = (Value.int IntKind.i64 ((↑x'.i : Int)))) ∧ True) ∧ ((b) = (b)) ∧ ((o) = (o)) ∧ ((t) = (t)) ∧ ((keys3 b o t) = (keys3 b o t)) ∧ ((confL b o t (List.take x4.i (keys3 b o t)) ++ [iA (keys3 b o t) x4.i]) = (confL b o t (List.take x'.i (keys3 b o t)))) ∧ True) ∧ ((keys3 b o t).length - x'.i < (keys3 b o t).length - x.i))))) ((∃ x' : XCf b o t, (True ∧ ((True ∧ True ∧ True ∧ True ∧ True ∧ ((Value.int IntKind.i64 (IntKind.i64.wrap ((↑x4.i : Int) + 1))) = (Value.int IntKind.i64 ((↑x'.i : Int)))) ∧ True) ∧ ((b) = (b)) ∧ ((o) = (o)) ∧ ((t) = (t)) ∧ ((keys3 b o t) = (keys3 b o t)) ∧ ((confL b o t (List.take x4.i (keys3 b o t))) = (confL b o t (List.take x'.i (keys3 b o t)))) ∧ True) ∧ ((keys3 b o t).length - x'.i < (keys3 b o t).length - x.i)))))))))))))))))) ((K (SV.one (TV.at (At.slc 3))) [(Chunk.row false (EC.ent) (b)), (Chunk.row false (EC.ent) (o)), (Chunk.row false (EC.ent) (t)), (Chunk.row true (EC.i64) (confL b o t (List.take x.i (keys3 b o t))))] [])))))) = _ by kernel_rfl) ?_
  have lk := keys3_len b o t
  refine ⟨hsm, ⟨⟨0, Nat.zero_le _⟩, ?_⟩, fun x _ => brS_of (fun c => ?_) fun c => ?_⟩
  · (repeat' first | exact trivial | exact rfl | refine And.intro ?_ ?_)
  · obtain ⟨i, hi⟩ := x
    dsimp only at c ⊢
    have c : i < (keys3 b o t).length := by have := of_decide_eq_true c; omega
    refine ⟨by omega, by omega, fun x1 e1 => ⟨by omega, by omega, fun x2 e2 => ⟨by omega, by omega, fun x3 e3 => ⟨?_, fun x4 e4 => ?_⟩⟩⟩⟩
    · have cf := conf_tt e1 e2 e3
      exact brS_of (fun f => brS_of (fun g => brS_of (fun d => brS_of (fun e => brS_of (fun a => ⟨⟨i, (!x1.getD 0 == x3.getD 0), c, la a cf (lb g) (lb e)⟩, rfl, by (repeat' first | exact trivial | exact rfl | refine And.intro ?_ ?_)⟩) fun a => ⟨⟨i, true, c, (cf.2.2.2 (lb g) (lb e) (one1 a)).symm⟩, rfl, by (repeat' first | exact trivial | exact rfl | refine And.intro ?_ ?_)⟩) fun e => ⟨⟨i, false, c, (cf.2.1 (lc d e)).symm⟩, rfl, by (repeat' first | exact trivial | exact rfl | refine And.intro ?_ ?_)⟩) fun d => brS_of (fun a => ⟨⟨i, (!x1.getD 0 == x3.getD 0), c, la a cf (lb g) (one1 d)⟩, rfl, by (repeat' first | exact trivial | exact rfl | refine And.intro ?_ ?_)⟩) fun a => ⟨⟨i, true, c, (cf.2.2.2 (lb g) (one1 d) (one1 a)).symm⟩, rfl, by (repeat' first | exact trivial | exact rfl | refine And.intro ?_ ?_)⟩) fun g => ⟨⟨i, false, c, (cf.1 (lc f g)).symm⟩, rfl, by (repeat' first | exact trivial | exact rfl | refine And.intro ?_ ?_)⟩) fun f => brS_of (fun d => brS_of (fun e => brS_of (fun a => ⟨⟨i, (!x1.getD 0 == x3.getD 0), c, la a cf (one1 f) (lb e)⟩, rfl, by (repeat' first | exact trivial | exact rfl | refine And.intro ?_ ?_)⟩) fun a => ⟨⟨i, true, c, (cf.2.2.2 (one1 f) (lb e) (one1 a)).symm⟩, rfl, by (repeat' first | exact trivial | exact rfl | refine And.intro ?_ ?_)⟩) fun e => ⟨⟨i, false, c, (cf.2.1 (lc d e)).symm⟩, rfl, by (repeat' first | exact trivial | exact rfl | refine And.intro ?_ ?_)⟩) fun d => brS_of (fun a => ⟨⟨i, (!x1.getD 0 == x3.getD 0), c, la a cf (one1 f) (one1 d)⟩, rfl, by (repeat' first | exact trivial | exact rfl | refine And.intro ?_ ?_)⟩) fun a => ⟨⟨i, true, c, (cf.2.2.2 (one1 f) (one1 d) (one1 a)).symm⟩, rfl, by (repeat' first | exact trivial | exact rfl | refine And.intro ?_ ?_)⟩
    · obtain ⟨i4, z, h4, hz⟩ := x4
      have e4 : (i : Int) = i4 := e4
      obtain rfl : i = i4 := by omega
      dsimp only
      have sn := confL_snoc b o t c
      have ln := confL_len b o t (keys3 b o t) i
      have nx := wrap_next c (by omega)
      refine brS_of (fun q => ⟨by omega, by omega, ?_, ⟨i + 1, c⟩, trivial, ?_, by show _ - (i + 1) < _; omega⟩) fun q => ⟨⟨i + 1, c⟩, trivial, ?_, by show _ - (i + 1) < _; omega⟩
      · rw [bytes_i64]; simp only [List.length_singleton]; omega
      · rw [q] at hz
        rw [if_pos (of_decide_eq_true hz.symm)] at sn
        (repeat' first | exact trivial | exact rfl | exact congrArg (Value.int .i64) nx | exact sn.symm | refine And.intro ?_ ?_)
      · rw [q] at hz
        rw [if_neg (of_decide_eq_false hz.symm), List.append_nil] at sn
        (repeat' first | exact trivial | exact rfl | exact congrArg (Value.int .i64) nx | exact sn.symm | refine And.intro ?_ ?_)
  · have e : x.i = (keys3 b o t).length := by have := x.h; have := of_decide_eq_false c; omega
    rw [e, List.take_length]
    exact h
theorem s_cf9 : SoundT C0 53 tCf9 := by
  refine .of Try.func53 (by decide) rfl fun args H K h hB => ?_
  unfold tCf9 at h
  split at h <;> try exact h.elim
  rename_i b o t
  exact ⟨aCf9 b o t, ⟨frame C0.ok s_keys _, frame C0.ok s_get _, trivial⟩, vc_cf9 b o t K h.1 h.2⟩
end Go.Proofs.Ytbonbaccmlomhaa.Sx
end
section
/- The law MergeConflicts. -/
namespace Go.Proofs.Ytbonbaccmlomhaa.Sx
open Go

/-KEEP EdM Wf Kept exW inU live Arn.cap Arn.free Rep rdS retL Tr.size Tr.list Tr.Bal Asc Kin KinD FkR listE TrR Got Hn ht MgM needM confE mergeE sameB slotsOf orderOf PlantR-/
structure XMc (P : Arn → Int → Int → Int → List Ent → List Ent → Prop) where
  S : Arn
  b : Int
  o : Int
  t : Int
  lo : List Ent
  lt : List Ent
  h : P S b o t lo lt
noncomputable def aMc (P : Arn → Int → Int → Int → List Ent → List Ent → Prop) (raw oth thi B : List Ent) (e1 e2 : List EdtT) : Ann C0 := { quiet := [9999999, 21, 24, 53, 50], Γ := [(44, tFk5), (45, frameT [] tAw20), (36, frameT [] tLst), (51, frameT [] tPlantA), (21, frameT [] tDump), (52, frameT [] tCf), (53, frameT [] tCf9), (50, frameT [] tSame_i64), (24, frameT [] tSameD)], inv := fun n => match n with
  | 1011 => some { X := XMc P, sl := [15], tf := fun x => [.one (.at (.ptr 15 0))], hf := fun x => hd5 raw oth thi e1 e2 ++ chSk 5 x.S ++ [.row false EC.ent B, .row false EC.ent x.lo, .row false EC.ent x.lt, .box [.ptr 5 0, vU x.b, vU x.o, vU x.t, .slc 12, .slc 13, .slc 14]] }
  | _ => none }
def tMc : Tfm C0 := fun args H K => match args, H with
  | [.at (.slc 0), .at (.slc 1), .at (.slc 2), .at (.val (.int .u64 t)), .at (.slc 3), .at (.slc 4), .at (.val (.bool _))], [.row false .ent raw, .row false .ent oth, .row false .ent thi, .row false .edm e1, .row false .edm e2] => 0 ≤ t ∧ Kin raw ∧ Kin oth ∧ Kin thi ∧ KinD e1 ∧ KinD e2 ∧ K (.one (.at (vB true))) (hd5 raw oth thi e1 e2) []
  | _, _ => False
def PMc (B : List Ent) : Arn → Int → Int → Int → List Ent → List Ent → Prop := fun S b o t lo lt => ∃ E, Hld S E ∧ (b, B) ∈ E ∧ (o, lo) ∈ E ∧ (t, lt) ∈ E ∧ B.length ≤ 60 ∧ lo.length ≤ 68 ∧ lt.length ≤ 68 ∧ E.length ≤ 10 ∧ S.reads ≤ 20000
theorem plant_free2 {S S' : Arn} {hs : List Int} {l : List Ent} {i : Int} (w : Wf S hs) (p : PlantR S hs l S' i) : S'.free = S.free - l.length := by
  have a := w.free_nonneg.2.2.2
  have b := p.wf.free_nonneg.2.2.2
  have c := cap_len p.len
  have d := p.nu
  omega
theorem plant_trM {S S' : Arn} {hs : List Int} {l : List Ent} {i : Int} (b : PlantR S hs l S' i) (hl : l.length ≤ 60000) : TrR S hs l 65537 0 S' i :=
  ⟨⟨b.wf, b.stay, b.len, by rw [b.nu]; omega, by rw [b.rds]; exact Int.le_refl _, by rw [b.rds]; omega⟩, b.rep⟩
theorem vc_mc (raw oth thi : List Ent) (e1 e2 : List EdtT) (t : Int) (sep : Bool) (K : KT) (h0 : 0 ≤ t) (hk : Kin raw) (hk2 : Kin oth) (hk3 : Kin thi) (k1 : KinD e1) (k2 : KinD e2) (h : K (.one (.at (vB true))) (hd5 raw oth thi e1 e2) []) :
    vc C0 (aMc (PMc (listE raw 60)) raw oth thi (listE raw 60) e1 e2) Try.f13 [.at (.slc 0), .at (.slc 1), .at (.slc 2), .at (vU64 t), .at (.slc 3), .at (.slc 4), .at (vB sep)] (hd5 raw oth thi e1 e2) (normK 5 K) := by
  generalize hP : PMc (listE raw 60) = P
  refine Eq.mp (show ((0 ≤ t) ∧
((0 : Int) ≤ 200) ∧
((200 : Int) ≤ 20000) ∧
(Kin raw) ∧
(KinD e1) ∧
(KinD e2) ∧
(∀ S : Arn, (∀ b : Int, (∀ o : Int, (∀ t1 : Int, (∀ lo : List Ent, (∀ lt : List Ent, ((FkR S b o t1 (listE raw 60) lo lt 200) → ((brS (sep) ((((0 : Int) ≤ 60) ∧ ((60 : Int) ≤ 1000000) ∧ ((0 : Int) ≤ 60) ∧ ((60 : Int) ≤ 1000000) ∧ (∃ hs : List Int, ((Wf S hs) ∧ ((listE oth (Int.toNat 60)).length ≤ 100000) ∧ ((↑(listE oth (Int.toNat 60)).length : Int) ≤ S.free) ∧ (hs.length + (listE oth (Int.toNat 60)).length ≤ 900000000) ∧ (0 ≤ IntKind.u64.wrap (t + 1)) ∧ (∀ S' : Arn, (∀ i : Int, ((PlantR S hs (listE oth (Int.toNat 60)) S' i) → (∃ hs1 : List Int, ((Wf S' hs1) ∧ ((listE thi (Int.toNat 60)).length ≤ 100000) ∧ ((↑(listE thi (Int.toNat 60)).length : Int) ≤ S'.free) ∧ (hs1.length + (listE thi (Int.toNat 60)).length ≤ 900000000) ∧ (0 ≤ IntKind.u64.wrap (t + 2)) ∧ (∀ S'1 : Arn, (∀ i1 : Int, ((PlantR S' hs1 (listE thi (Int.toNat 60)) S'1 i1) → (∃ x : XMc P, (True ∧ (True ∧ True) ∧ ((raw) = (raw)) ∧ ((oth) = (oth)) ∧ ((thi) = (thi)) ∧ ((e1) = (e1)) ∧ ((e2) = (e2)) ∧ (True ∧ True ∧ True ∧ ((Value.int IntKind.u64 (S'1.reads)) = (Value.int IntKind.u64 (x.S.reads))) ∧ True) ∧ (True ∧ True ∧ True ∧ ((Value.int IntKind.u32 (S'1.fresh)) = (Value.int IntKind.u32 (x.S.fresh))) ∧ True) ∧ ((S'1.nodes) = (x.S.nodes)) ∧ ((S'1.counts) = (x.S.counts)) ∧ ((S'1.used) = (x.S.used)) ∧ ((S'1.gen) = (x.S.gen)) ∧ ((S'1.rel) = (x.S.rel)) ∧ ((listE raw 60) = (listE raw 60)) ∧ ((listE oth (Int.toNat 60)) = (x.lo)) ∧
    ((listE thi (Int.toNat 60)) = (x.lt)) ∧ (True ∧ ((Value.int IntKind.u32 (b)) = (Value.int IntKind.u32 (x.b))) ∧ ((Value.int IntKind.u32 (i)) = (Value.int IntKind.u32 (x.o))) ∧ ((Value.int IntKind.u32 (i1)) = (Value.int IntKind.u32 (x.t))) ∧ True ∧ True ∧ True ∧ True) ∧ True)))))))))))))) ((∃ x : XMc P, (True ∧ (True ∧ True) ∧ ((raw) = (raw)) ∧ ((oth) = (oth)) ∧ ((thi) = (thi)) ∧ ((e1) = (e1)) ∧ ((e2) = (e2)) ∧ (True ∧ True ∧ True ∧ ((Value.int IntKind.u64 (S.reads)) = (Value.int IntKind.u64 (x.S.reads))) ∧ True) ∧ (True ∧ True ∧ True ∧ ((Value.int IntKind.u32 (S.fresh)) = (Value.int IntKind.u32 (x.S.fresh))) ∧ True) ∧ ((S.nodes) = (x.S.nodes)) ∧ ((S.counts) = (x.S.counts)) ∧ ((S.used) = (x.S.used)) ∧ ((S.gen) = (x.S.gen)) ∧ ((S.rel) = (x.S.rel)) ∧ ((listE raw 60) = (listE raw 60)) ∧ ((lo) = (x.lo)) ∧ ((lt) = (x.lt)) ∧ (True ∧ ((Value.int IntKind.u32 (b)) = (Value.int IntKind.u32 (x.b))) ∧ ((Value.int IntKind.u32 (o)) = (Value.int IntKind.u32 (x.o))) ∧ ((Value.int IntKind.u32 (t1)) = (Value.int IntKind.u32 (x.t))) ∧ True ∧ True ∧ True ∧ True) ∧ True)))) ∧ (∀ x : XMc P, (True → ((exW x.S) ∧ (∀ d : List SlotT, (∀ o1 : List Int, (((d) = (slotsOf x.S)) → (((o1) = (orderOf x.S)) → (∃ hs : List Int, (∃ tb : Tr, (∃ to : Tr, (∃ tt : Tr, ((MgM x.S hs tb to tt x.b x.o x.t) ∧ (∀ S' : Arn, (∀ m : Nat, (∀ c : List Int, (((S') = (rdS x.S m)) → ((m ≤ 2000000) → (((c) = (confE tb.list to.list tt.list)) → (((listE raw 60).length + x.lo.length + x.lt.length ≤ 1000000) ∧
    (brS (sameB c (confE (listE raw 60) x.lo x.lt)) (((exW S') ∧ (∀ d1 : List SlotT, (∀ o2 : List Int, (((d1) = (slotsOf S')) → (((o2) = (orderOf S')) → (((d1) = (d)) ∧ ((o2) = (o1)) ∧ (d1.length ≤ 1000000) ∧ (o2.length ≤ 1000000) ∧ (K (SV.one (TV.at (At.val (Value.bool true)))) [(Chunk.row false (EC.ent) (raw)), (Chunk.row false (EC.ent) (oth)), (Chunk.row false (EC.ent) (thi)), (Chunk.row false (EC.edm) (e1)), (Chunk.row false (EC.edm) (e2))] [])))))))) ((K (SV.one (TV.at (At.val (Value.bool false)))) [(Chunk.row false (EC.ent) (raw)), (Chunk.row false (EC.ent) (oth)), (Chunk.row false (EC.ent) (thi)), (Chunk.row false (EC.edm) (e1)), (Chunk.row false (EC.edm) (e2))] []))))))))))))))))))))))))))))))) = _ by kernel_rfl) ?_
  subst hP
  have e60 : Int.toNat 60 = 60 := rfl
  rw [e60]
  obtain ⟨a2, l2⟩ := listE_spec oth 60
  obtain ⟨a3, l3⟩ := listE_spec thi 60
  have q2 : Kin (listE oth 60) := fun x hx => hk2 x (listE_sub oth 60 x hx)
  have q3 : Kin (listE thi 60) := fun x hx => hk3 x (listE_sub thi 60 x hx)
  generalize listE raw 60 = B at *
  generalize listE oth 60 = O at *
  generalize listE thi 60 = T at *
  refine ⟨h0, by decide, by decide, hk, k1, k2, fun S b o t1 lo lt fk => ⟨brS_of (fun _ => ?_) fun _ => ⟨⟨S, b, o, t1, lo, lt, _, fk.h, by simp, by simp, by simp, fk.sb, fk.so, fk.st, by simp, fk.rd⟩, ?_⟩, fun x _ => ?_⟩⟩
  · have fr := fk.free
    have rd := fk.rd
    refine ⟨by decide, by decide, by decide, by decide, _, fk.h.wf, by omega, by omega, by simp; omega, wrap_u64_nonneg _, fun S1 i p1 => ?_⟩
    have f1 := plant_free2 fk.h.wf p1
    have h1 := fk.h.step (plant_trM p1 (by omega)) a2 q2
    have r1 := p1.rds
    refine ⟨_, h1.wf, by omega, by omega, by simp; omega, wrap_u64_nonneg _, fun S2 j p2 => ⟨⟨S2, b, i, j, O, T, _, h1.step (plant_trM p2 (by omega)) a3 q3, by simp, by simp, by simp, fk.sb, by omega, by omega, by simp, by rw [p2.rds, r1]; exact rd⟩, ?_⟩⟩
    (repeat' first | exact trivial | exact rfl | refine And.intro ?_ ?_)
  · (repeat' first | exact trivial | exact rfl | refine And.intro ?_ ?_)
  obtain ⟨S, b, o, t, lo, lt, E, hh, mb, mo, mt, l1, l2, l3, lE, rd⟩ := x
  dsimp only
  obtain ⟨tb, to, tt, hm, eb, eo, et, nm⟩ := hh.mg mb mo mt (by omega) (by omega) (by omega) (by omega) (by omega)
  refine ⟨⟨_, hh.wf⟩, fun d o1 ed eo1 => ⟨_, tb, to, tt, hm, fun S1 m c e1 b1 ec => ⟨by omega, ?_⟩⟩⟩
  rw [eb, eo, et] at ec
  have w1 := hh.wf.rd (n := m) (by omega)
  rw [← e1] at w1
  have sl := slots_le w1
  have ol := order_len w1
  refine bt7 (by rw [ec]; exact decide_eq_true rfl) ⟨⟨_, w1⟩, fun d1 o2 e3 e4 => ⟨by rw [e3, ed, e1]; rfl, by rw [e4, eo1, e1]; rfl, by rw [e3]; omega, by rw [e4]; omega, h⟩⟩
theorem s_mc : SoundT C0 13 tMc := by
  refine .of Try.func13 (by decide) rfl fun args H K h hB => ?_
  unfold tMc at h
  split at h <;> try exact h.elim
  rename_i t sep raw oth thi e1 e2
  refine ⟨_, ?_, vc_mc raw oth thi e1 e2 t sep K h.1 h.2.1 h.2.2.1 h.2.2.2.1 h.2.2.2.2.1 h.2.2.2.2.2.1 h.2.2.2.2.2.2⟩
  exact ⟨s_fk5, frame C0.ok s_aw20 _, frame C0.ok s_lst _, frame C0.ok s_plantA _, frame C0.ok s_dump _, frame C0.ok s_cf _, frame C0.ok s_cf9 _, frame C0.ok s_sameI _, frame C0.ok s_sameD _, trivial⟩
end Go.Proofs.Ytbonbaccmlomhaa.Sx
end
section
/- What every law's last step leans on. -/
namespace Go.Proofs.Ytbonbaccmlomhaa
open Go.ChangeShapes Go.WideShapes Go.ChangeAt Go.RowKit

theorem ownK : ownKnob Try.prog.godebug = none := by kernel_rfl
theorem laidO : laidOutB Try.prog = true := by kernel_rfl

theorem lit_i64 {a : Int} (h : (Lit.int .i64 a).wf = true) : -9223372036854775808 ≤ a ∧ a ≤ 9223372036854775807 := by
  have h1 : IntKind.i64.min = -9223372036854775808 := rfl
  have h2 : IntKind.i64.max = 9223372036854775807 := rfl
  simp only [Lit.wf, Bool.and_eq_true, decide_eq_true_eq] at h
  omega
theorem lit_u64 {a : Int} (h : (Lit.int .u64 a).wf = true) : 0 ≤ a ∧ a ≤ 18446744073709551615 := by
  have h1 : IntKind.u64.min = 0 := rfl
  have h2 : IntKind.u64.max = 18446744073709551615 := rfl
  simp only [Lit.wf, Bool.and_eq_true, decide_eq_true_eq] at h
  omega
end Go.Proofs.Ytbonbaccmlomhaa
end
section
/- From contracts to laws: the arguments as they come, what a law's call leaves. -/
namespace Go.Proofs.Ytbonbaccmlomhaa.Sx
open Go Go.Joins Go.ChangeShapes Go.WideShapes Go.ChangeAt Go.RowKit

theorem Sat.imms {C : Ctx} {w : World} (vs : List Value) (H : List (Chunk C)) (h : ∀ (n : Nat) (c : Chunk C), H[n]? = some c → ∃ e l, c = .row false e l ∧ Imm C w (vs.getD n undef) e l) : Sat C (fun n => vs.getD n undef) (fun _ _ => False) w H where
  holds n c hc := by
    obtain ⟨e, l, rfl, hi⟩ := h n c hc
    exact ⟨hi, fun _ hh => hh⟩
  dis _ _ _ hh := hh.elim
  bd _ _ hh := hh.elim
  imm _ _ _ _ _ _ _ _ hh := hh
  out _ _ _ hh := hh
  cl n c hc m hm := by
    obtain ⟨e, l, rfl, _⟩ := h n c hc
    simp [Chunk.names] at hm

theorem lawOf {f : FuncId} {t : Tfm C0} (hs : SoundT C0 f t) {args : List TV} {H : List (Chunk C0)} {vs : List Value} {σ : Nat → Value} {w : World} (ht : ∀ K : KT, K (.one (.at (vB true))) H [] → t args H K)
    (hsat : Sat C0 σ (fun _ _ => False) w H) (hr : Rels (TV.rel σ) args vs) (hn : ∀ x ∈ args, ∀ m ∈ x.names, m < H.length) : Calls Try.prog f vs.toArray w (fun e w' => e = .returned (.bool true) ∧ Below w.heap.size w w') := by
  have hc := hs.call args H (fun r _ _ => r = .one (.at (vB true))) (ht _ rfl) σ _ w vs hsat hr hn
  refine Calls.mono hc fun e w' hh => ?_
  cases e with
  | panicked ch => exact hh.elim
  | outgrown => exact hh.elim
  | returned v =>
    obtain ⟨r, H', ts, σ', φ', hout, rfl⟩ := hh
    have hv : v = .bool true := hout.rel
    exact ⟨by rw [hv], hout.adv.os, hout.adv.tape, hout.adv.output, hout.adv.size, fun k hk => hout.adv.fr k hk fun n hh => hh⟩

section
variable {HH : Type} {enc : TypeId × Value → HH} {P : Program} {w : World} {base b0 : Nat} {spare : Nat → Bool} {held : Bool} {r : Reach}
theorem openRowQ {α : Type} [Inhabited α] {t e : TypeId} {f : α → List Value} {Q : α → Prop} {sz : Nat} {v : Value} {d : DataW HH} {p : List MemPlace} (ht : P.underlying t = some (.slice e)) (hC : P.cellsOf e = sz) (hpos : 0 < sz) (hf : ∀ x, (f x).length = sz)
    (hel : ∀ {n : Nat} {cs : List Value} {x : DataW HH × List MemPlace}, DataW.trod enc P w base spare held n e cs = some x → ∃ a, cs = f a ∧ Q a) (hv : Value.okWide P w r b0 t v) (h : DataW.Trod enc P w base spare held t v d p) :
    ∃ A n c l, v = .slice A n c ∧ Rd f sz w A n c l ∧ ∀ x ∈ l, Q x := by
  obtain ⟨A, n, c, rfl⟩ := okWide_slice ht hv
  obtain ⟨fuel, hh⟩ := h
  have hh : DataW.trod enc P w base spare held fuel t [.slice A n c] = some (d, p) := by simpa [Value.cells] using hh
  rcases Go.Deep.open_slice ht hh with ⟨h1, _⟩ | ⟨a, len, cap, m, k, D, Pl, h1, hb, hle, hm, hmm, hx, hall⟩
  · simp only [List.cons.injEq, Value.slice.injEq, and_true] at h1
    obtain ⟨rfl, rfl, rfl⟩ := h1
    exact ⟨none, 0, 0, [], rfl, Rd.nil hf, fun x hx => by simp at hx⟩
  · simp only [List.cons.injEq, Value.slice.injEq, and_true] at h1
    obtain ⟨rfl, rfl, rfl⟩ := h1
    have hlm : n ≤ m := by rw [hmm]; split <;> omega
    have hel' : ∀ i, i < n → ∃ x : α, w.cells? base (a.add (i * P.cellsOf e)) (P.cellsOf e) = some (f x) ∧ Q x := fun i hi => by
      obtain ⟨cs', hc1, hc2⟩ := hall i (by omega)
      obtain ⟨x, rfl, hq⟩ := hel hc2
      exact ⟨x, hc1, hq⟩
    obtain ⟨F, hF⟩ := Go.Deep.choose_lt hel'
    have cell : ∀ i, i < n → ∀ j, j < sz → w.cell? ((a.add (i * sz)).add j) = (f (F i))[j]? := fun i hi j hj => by
      have h2 := (hF i hi).1
      rw [hC] at h2
      unfold World.cells? at h2
      split at h2
      · exact mapM_some_get h2 j j (by simp [hj])
      · cases h2
    refine ⟨some a, n, c, (List.range n).map F, rfl, ⟨by simp, hle, hm, hf, fun h => (by cases h), fun hn => ?_⟩, fun x hx => by obtain ⟨i, hi, rfl⟩ := List.mem_map.1 hx; exact (hF i (List.mem_range.1 hi)).2⟩
    obtain ⟨b, o, sp⟩ := a
    have hsome : ∀ i, i < n → ∀ j, j < sz → ∃ u, w.cell? (((⟨b, o, sp⟩ : Addr).add (i * sz)).add j) = some u := fun i hi j hj => by
      rw [cell i hi j hj]
      exact ⟨_, List.getElem?_eq_getElem (by rw [hf]; exact hj)⟩
    obtain ⟨u0, hu0⟩ := hsome 0 hn 0 hpos
    have hspot : sp = none := by simpa [Addr.add] using World.cell?_spot hu0
    subst hspot
    refine ⟨b, o, rfl, ?_, fun k x hx j u hu => ?_⟩
    · have hu1 : w.cell? ⟨b, o, none⟩ = some u0 := by simpa [Addr.add] using hu0
      unfold World.cell? at hu1
      split at hu1
      · rename_i hb2
        exact (Array.getElem?_eq_some_iff.1 hb2).1
      · cases hu1
    · rw [List.getElem?_map] at hx
      have hk : k < n := by
        rcases Nat.lt_or_ge k n with h2 | h2
        · exact h2
        · rw [List.getElem?_eq_none (by simpa using h2)] at hx; cases hx
      rw [List.getElem?_range hk] at hx
      simp only [Option.map_some, Option.some.injEq] at hx
      subst hx
      have hj : j < sz := by
        have := (List.getElem?_eq_some_iff.1 hu).1
        rwa [hf] at this
      have h3 := cell k hk j hj
      rw [hu] at h3
      rw [← h3]
      congr 1
      rw [Go.WideShapes.add_plain, Go.WideShapes.add_plain]
end

section
variable {HH : Type} {enc : TypeId × Value → HH} {w : World} {base b0 : Nat} {spare : Nat → Bool} {held : Bool} {r : Reach}
set_option maxRecDepth 100000 in
theorem elEw {n : Nat} {cs : List Value} {x : DataW HH × List MemPlace} (h : DataW.trod enc Try.prog w base spare held n 98 cs = some x) :
    ∃ a : Ent, cs = EC.enc .ent a ∧ ((-9223372036854775808 ≤ a.1 ∧ a.1 ≤ 9223372036854775807) ∧ (-9223372036854775808 ≤ a.2 ∧ a.2 ≤ 9223372036854775807)) := by
  obtain ⟨y0, y1, m, _, hl, h0, h1⟩ := trod_struct2 Try.underlying98 h
  obtain ⟨k, e0, _, w0⟩ := DataW.trod_int Try.underlying2 h0
  obtain ⟨v, e1, _, w1⟩ := DataW.trod_int Try.underlying2 h1
  have hl : cs.length = 2 := hl.trans (by kernel_rfl)
  have c1 : Try.prog.cellsOf 2 = 1 := by kernel_rfl
  match cs, hl with
  | [a, b], _ =>
    simp [c1] at e0 e1
    exact ⟨(k, v), by rw [e0, e1]; rfl, lit_i64 w0, lit_i64 w1⟩
set_option maxRecDepth 100000 in
/-- The same with what the entries' numbers are. -/
theorem openEw {v : Value} {d : DataW HH} {p : List MemPlace} (hv : Value.okWide Try.prog w r b0 22 v) (h : DataW.Trod enc Try.prog w base spare held 22 v d p) :
    ∃ (l : List Ent), Imm C0 w v EC.ent l ∧ ∀ x ∈ l, (-9223372036854775808 ≤ x.1 ∧ x.1 ≤ 9223372036854775807) ∧ (-9223372036854775808 ≤ x.2 ∧ x.2 ≤ 9223372036854775807) := by
  obtain ⟨A, n, c, l, rfl, hr, hq⟩ := openRowQ (α := Ent) (f := fun x => EC.enc .ent x) (sz := 2) Try.underlying22 (by kernel_rfl) (by decide) (fun _ => rfl) (fun h => elEw h) hv h
  obtain rfl := hr.len
  exact ⟨l, ⟨A, c, rfl, hr⟩, hq⟩
instance : Inhabited Chg := ⟨⟨0, 0, 0, 0⟩⟩
end
end Go.Proofs.Ytbonbaccmlomhaa.Sx
end
section
/- Opening an argument that is a slice of edits (merge). -/
namespace Go.Proofs.Ytbonbaccmlomhaa.Sx
open Go Go.Joins Go.ChangeShapes Go.WideShapes Go.ChangeAt Go.RowKit

section
variable {HH : Type} {enc : TypeId × Value → HH} {w : World} {base b0 : Nat} {spare : Nat → Bool} {held : Bool} {r : Reach}
set_option maxRecDepth 100000 in
theorem elF {n : Nat} {cs : List Value} {x : DataW HH × List MemPlace} (h : DataW.trod enc Try.prog w base spare held n 176 cs = some x) : ∃ a : EdtT, cs = EC.enc .edm a ∧ ((-9223372036854775808 ≤ a.ent.1 ∧ a.ent.1 ≤ 9223372036854775807) ∧ (-9223372036854775808 ≤ a.ent.2 ∧ a.ent.2 ≤ 9223372036854775807)) := by
  obtain ⟨y0, y1, y2, m, _, hl, h0, h1, h2⟩ := Go.Deep.trod_struct3 Try.underlying176 h
  obtain ⟨k, e0, _⟩ := DataW.trod_bool Try.underlying4 h0
  obtain ⟨v, e1, _⟩ := DataW.trod_int Try.underlying3 h1
  obtain ⟨s, e2, q2⟩ := elEw h2
  have hl : cs.length = 4 := hl.trans (by kernel_rfl)
  have c1 : Try.prog.cellsOf 4 = 1 := by kernel_rfl
  have c2 : Try.prog.cellsOf 3 = 1 := by kernel_rfl
  have c3 : Try.prog.cellsOf 98 = 2 := by kernel_rfl
  match cs, hl with
  | [a, b, c, d], _ =>
    simp [c1, c2, c3] at e0 e1 e2
    have e2 : [c, d] = [Value.int .i64 s.1, Value.int .i64 s.2] := e2
    simp only [List.cons.injEq, and_true] at e2
    exact ⟨⟨k, v, s⟩, by rw [e0, e1, e2.1, e2.2]; rfl, q2⟩
instance : Inhabited EdtT := ⟨⟨false, 0, (0, 0)⟩⟩
set_option maxRecDepth 100000 in
theorem openF {v : Value} {d : DataW HH} {p : List MemPlace} (hv : Value.okWide Try.prog w r b0 72 v) (h : DataW.Trod enc Try.prog w base spare held 72 v d p) :
    ∃ (l : List EdtT), Imm C0 w v EC.edm l ∧ ∀ x ∈ l, (-9223372036854775808 ≤ x.ent.1 ∧ x.ent.1 ≤ 9223372036854775807) ∧ (-9223372036854775808 ≤ x.ent.2 ∧ x.ent.2 ≤ 9223372036854775807) := by
  obtain ⟨A, n, c, l, rfl, hr, hq⟩ := openRowQ (α := EdtT) (f := fun x => EC.enc .edm x) (sz := 4) Try.underlying72 (by kernel_rfl) (by decide) (fun _ => rfl) (fun h => elF h) hv h
  obtain rfl := hr.len
  exact ⟨l, ⟨A, c, rfl, hr⟩, hq⟩
end
end Go.Proofs.Ytbonbaccmlomhaa.Sx
end
section
/- 'MergeConflicts': the law returns true for every input, and its arguments read afterwards as they read before. -/
namespace Go.Proofs.Ytbonbaccmlomhaa.mergeConflicts
open Go.ChangeShapes Go.WideShapes Go.ChangeAt Go.RowKit Sx

set_option maxRecDepth 100000 in
theorem lifted (os : Os) (started : os.Started) (H : Type) (enc : TypeId × Value → H) :
    ReturnsInHanded {} Try.checked os 13 .any (Rows.mergeConflictsSpec.pre6 enc Try.prog Try.f13 Rows.mergeConflictsRow.domain false) (Rows.mergeConflictsSpec.post enc Try.prog Try.f13 false true false false) := by
  refine returnsInHanded_of_change (C := Try.checked) ownK started (by kernel_rfl) Try.func13
    (ChangeSpec.witness6 (enc := enc) (C := Try.checked) false ⟨#[], #[.slice none 0 0, .slice none 0 0, .slice none 0 0, .int .u64 0, .slice none 0 0, .slice none 0 0, .bool false], []⟩ 8 (by kernel_rfl) (by kernel_rfl) (by kernel_rfl) (by kernel_rfl)) ?_
  intro W base args ds gs before hval0 hW hcnd _
  have hval : ∀ (j : Nat) t v, Try.f13.params[j]? = some t → args[j]? = some v → Value.okWide Try.prog W .any base t v := hval0
  have hW' := hW
  obtain ⟨p, q, hA0, hV, rfl, hfz, hnd⟩ := hW
  have hA : DataW.TrodAll enc Try.prog W 0 (fun _ => true) true Try.f13.params.toList args.toList ds p := hA0
  rw [Try.params13] at hA hval
  obtain ⟨v0, vs0, d0, ds0, p0, q0, hargs, rfl, rfl, h0, r0⟩ := trodAll_cons hA
  obtain ⟨v1, vs1, d1, ds1, p1, q1, rfl, rfl, rfl, h1, r1⟩ := trodAll_cons r0
  obtain ⟨v2, vs2, d2, ds2, p2, q2, rfl, rfl, rfl, h2, r2⟩ := trodAll_cons r1
  obtain ⟨v3, vs3, d3, ds3, p3, q3, rfl, rfl, rfl, h3, r3⟩ := trodAll_cons r2
  obtain ⟨v4, vs4, d4, ds4, p4, q4, rfl, rfl, rfl, h4, r4⟩ := trodAll_cons r3
  obtain ⟨v5, vs5, d5, ds5, p5, q5, rfl, rfl, rfl, h5, r5⟩ := trodAll_cons r4
  obtain ⟨v6, vs6, d6, ds6, p6, q6, rfl, rfl, rfl, h6, r6⟩ := trodAll_cons r5
  obtain ⟨rfl, rfl, rfl⟩ := trodAll_nil r6
  obtain rfl : args = #[v0, v1, v2, v3, v4, v5, v6] := by cases args; simp_all
  obtain ⟨rfl, rfl⟩ := trodVars_none hV
  have k0 := h0
  have k1 := h1
  have k2 := h2
  have k3 := h3
  have k4 := h4
  have k5 := h5
  have k6 := h6
  clear hA0 hval0
  simp only [List.append_nil] at hW'
  have hlt : ∀ x ∈ p0 ++ (p1 ++ (p2 ++ (p3 ++ (p4 ++ (p5 ++ (p6)))))), x.block < W.heap.size := fun x hx => by simpa using hW'.lt x (by simpa using hx)
  have l0 : ∀ x ∈ p0, x.block < W.heap.size := fun x hx => hlt x (by simp [hx])
  have l1 : ∀ x ∈ p1, x.block < W.heap.size := fun x hx => hlt x (by simp [hx])
  have l2 : ∀ x ∈ p2, x.block < W.heap.size := fun x hx => hlt x (by simp [hx])
  have l3 : ∀ x ∈ p3, x.block < W.heap.size := fun x hx => hlt x (by simp [hx])
  have l4 : ∀ x ∈ p4, x.block < W.heap.size := fun x hx => hlt x (by simp [hx])
  have l5 : ∀ x ∈ p5, x.block < W.heap.size := fun x hx => hlt x (by simp [hx])
  have l6 : ∀ x ∈ p6, x.block < W.heap.size := fun x hx => hlt x (by simp [hx])
  obtain ⟨L0, R0, Q0⟩ := openEw (hval 0 22 v0 rfl rfl) h0
  obtain ⟨L1, R1, Q1⟩ := openEw (hval 1 22 v1 rfl rfl) h1
  obtain ⟨L2, R2, Q2⟩ := openEw (hval 2 22 v2 rfl rfl) h2
  obtain ⟨a3, rfl, rfl, rfl, w3⟩ := open_int Try.underlying23 (hval 3 23 v3 rfl rfl) h3
  have b3 := lit_u64 w3
  obtain ⟨L4, R4, Q4⟩ := openF (hval 4 72 v4 rfl rfl) h4
  obtain ⟨L5, R5, Q5⟩ := openF (hval 5 72 v5 rfl rfl) h5
  obtain ⟨a6, rfl, rfl, rfl⟩ := open_bool Try.underlying4 (hval 6 4 v6 rfl rfl) h6
  refine (lawOf s_mc (args := [.at (.slc 0), .at (.slc 1), .at (.slc 2), .at (.val (.int .u64 a3)), .at (.slc 3), .at (.slc 4), .at (.val (.bool a6))]) (H := [Chunk.row false EC.ent L0, Chunk.row false EC.ent L1, Chunk.row false EC.ent L2, Chunk.row false EC.edm L4, Chunk.row false EC.edm L5]) (vs := [v0, v1, v2, .int .u64 a3, v4, v5, .bool a6]) (σ := fun n => [v0, v1, v2, v4, v5].getD n undef) (w := W) (fun K h => ⟨b3.1, fun x hx => (Q0 x hx).1, fun x hx => (Q1 x hx).1, fun x hx => (Q2 x hx).1, fun x hx => (Q4 x hx).1, fun x hx => (Q5 x hx).1, h⟩)
    (Sat.imms [v0, v1, v2, v4, v5] _ fun n c hc => by match n, hc with | 0, hc => exact ⟨_, _, (Option.some.inj hc).symm, R0⟩ | 1, hc => exact ⟨_, _, (Option.some.inj hc).symm, R1⟩ | 2, hc => exact ⟨_, _, (Option.some.inj hc).symm, R2⟩ | 3, hc => exact ⟨_, _, (Option.some.inj hc).symm, R4⟩ | 4, hc => exact ⟨_, _, (Option.some.inj hc).symm, R5⟩ | n + 5, hc => simp at hc) (Rels.cons rfl (Rels.cons rfl (Rels.cons rfl (Rels.cons rfl (Rels.cons rfl (Rels.cons rfl (Rels.cons rfl Rels.nil))))))) (by simp [TV.names, At.names])).mono fun e W' ⟨he, hg⟩ => ?_
  subst he
  exact ⟨_, rfl, _, _, _, [] ++ [], _, [], hW', (trodAll_cons_mk (shut_bool Try.underlying4 true) trodAll_mk0), (trodAll_cons_mk (Below.trod laidO (by kernel_rfl) (of_decide_eq_true (by kernel_rfl)) k0 hg l0) (trodAll_cons_mk (Below.trod laidO (by kernel_rfl) (of_decide_eq_true (by kernel_rfl)) k1 hg l1) (trodAll_cons_mk (Below.trod laidO (by kernel_rfl) (of_decide_eq_true (by kernel_rfl)) k2 hg l2) (trodAll_cons_mk (Below.trod laidO (by kernel_rfl) (of_decide_eq_true (by kernel_rfl)) k3 hg l3) (trodAll_cons_mk (Below.trod laidO (by kernel_rfl) (of_decide_eq_true (by kernel_rfl)) k4 hg l4) (trodAll_cons_mk (Below.trod laidO (by kernel_rfl) (of_decide_eq_true (by kernel_rfl)) k5 hg l5) (trodAll_cons_mk (Below.trod laidO (by kernel_rfl) (of_decide_eq_true (by kernel_rfl)) k6 hg l6) trodAll_mk0))))))), rfl, hg.frame _, fun h => by cases h⟩

theorem over : Rows.mergeConflictsRow.holds Try.pinned (OpenSpec.ofChange Rows.mergeConflictsSpec) :=
  OpenClaim.holds_of_wide 13 Try.f13 rfl rfl rfl rfl rfl rfl rfl ⟨rfl, rfl, rfl, rfl, rfl⟩ rfl rfl rfl rfl rfl (by kernel_rfl) Try.func13 (by kernel_rfl)
    (of_decide_eq_true (by kernel_rfl)) (by unfold Func.isWrapper; first | (rw [if_pos (by decide +kernel)]; kernel_rfl) | (rw [if_neg (by decide +kernel)]; exact ⟨rfl, rfl⟩))
    (fun os started H enc _ => lifted os started H enc)

theorem proved : Rows.MergeConflictsSaid := over
#print axioms proved
end Go.Proofs.Ytbonbaccmlomhaa.mergeConflicts
end
