/- A part of the proof. -/
import Derived.Test.YtbonbaccmlomhaaGreatG13
import Derived.Test.YtbonbaccmlomhaaGreatG10
import Derived.Test.YtbonbaccmlomhaaGreatG9
import Derived.Test.YtbonbaccmlomhaaGreatG12
import Derived.Test.YtbonbaccmlomhaaGreatG11
import Derived.Test.YtbonbaccmlomhaaGreatProg
import Derived.Test.YtbonbaccmlomhaaGreatChecked
import Derived.WalkKit
import Derived.ProofKit
import Derived.OpenShut
import Derived.SizedLaws
import Derived.Carry
section
/- The law that Delete deletes. -/
namespace Go.Proofs.YtbonbaccmlomhaaGreat.Sx
open Go

/-KEEP Wf exW inU live Arn.cap Arn.free Rep rdS retL Tr.size Tr.list slotsOf orderOf PlantR newS insE outE listE getE TrR upM Hn keptD Asc Tr.Bal ht dB RepD List.Perm-/
structure XUe (P : Arn → Int → List Ent → Int → Prop) where
  S : Arn
  i : Int
  l : List Ent
  need : Int
  k : Int
  h : P S i l need
structure UdS where
  S0 : Arn
  S : Arn
  root : Int
  l : List Ent
  need : Int
  k : Int
  v : Int
  is : Bool
  d : List SlotT
  o : List Int
  r : Int
  i : Int
  w : Int
  f : Int
structure XUd (P : UdS → Prop) where
  z : UdS
  h : P z
structure XUw (P : UdS → Int → Prop) where
  z : UdS
  want : Int
  h : P z want
abbrev chUd (raw : List Ent) (z : UdS) : List (Chunk C0) := [.row false EC.ent raw] ++ chSk 1 z.S ++ [.row true EC.ent z.l, .box [.slc 10, .slc 11], .row true EC.slot z.d, .row true EC.u32 z.o]
def tUd : Tfm C0 := fun args H K => match args, H with
  | [.at (.slc 0), .at (.val (.int .u64 t)), .at (.val (.int .i64 _)), .at (.val (.int .i64 at')), .at (.val (.int .u16 f))], [.row false .ent raw] => 0 ≤ t ∧ -9223372036854775808 ≤ at' ∧ at' ≤ 9223372036854775807 ∧ 0 ≤ f ∧ f ≤ 65535 ∧ K (.one (.at (vB true))) [.row false EC.ent raw] []
  | _, _ => False
theorem outE_flt (l : List Ent) (k : Int) : outE l k k = flt (neK k) l := by
  unfold outE flt neK
  congr 1
  funext x
  by_cases h : x.1 = k
  · simp [h]
  · rw [decide_eq_true (show x.1 ≠ k from h)]
    simp; omega
def PUe (S : Arn) (i : Int) (l : List Ent) (need : Int) : Prop := ∃ t, upM S [i] t i ∧ t.list = l ∧ t.size = l.length ∧ l.length ≤ 150 ∧ need = 4 * (Hn (l.length : Int) + 2) ∧ S.reads = 0
/-- What Delete comes to. -/
def PUd (z : UdS) : Prop := ∃ t, upM z.S0 [z.root] t z.root ∧ t.list = z.l ∧ t.size = z.l.length ∧ z.l.length ≤ 150 ∧ z.need = 4 * (Hn (z.l.length : Int) + 2) ∧ z.r = 0 ∧ z.d = slotsOf z.S0 ∧ z.o = orderOf z.S0 ∧ 0 ≤ z.S.reads ∧ z.S.reads ≤ 60 * (Hn ((z.l.length : Int) + 1) + 2) ∧ z.v = (getE z.l z.k).getD 0 ∧ z.is = (getE z.l z.k).isSome ∧
  ((getE z.l z.k = none ∧ z.f = 4 ∧ z.i = 0 ∧ z.w = 0 ∧ ∃ m, z.S = rdS z.S0 m) ∨
   ((getE z.l z.k).isSome = true ∧ z.S0.free < z.need ∧ z.f = 2 ∧ z.i = 0 ∧ z.w = 0 ∧ ∃ m, z.S = rdS z.S0 m) ∨
   ((getE z.l z.k).isSome = true ∧ z.need ≤ z.S0.free ∧ z.f = 0 ∧ z.w = z.v ∧ ∃ (m r : Nat), (m : Int) ≤ z.need ∧ TrR z.S0 [z.root] (flt (neK z.k) z.l) m r z.S z.i))
def PUw (z : UdS) (want : Int) : Prop := PUd z ∧ want = z.f
end Go.Proofs.YtbonbaccmlomhaaGreat.Sx
end
section
/- update.Increase, and the laws that updates increase, commute and share. -/
namespace Go.Proofs.YtbonbaccmlomhaaGreat.Sx
open Go

/-KEEP Wf exW inU live Arn.cap Arn.free Rep rdS retL Tr.size Tr.list slotsOf orderOf PlantR newS insE outE listE getE TrR upM Hn keptD Asc Tr.Bal ht dB iB RepD List.Perm flt neK-/
noncomputable def aInc : Ann C0 := { Γ := [(27, frameT [] tGetT), (58, frameT [] tUpIn)] }
def tInc : Tfm C0 := fun args H K => match args with
  | [.at (.ptr 0 0), .at (.val (.int .u32 r)), .at (.val (.int .i64 k)), .at (.val (.int .i64 n))] => arM H fun S => ∃ hs t, upM S hs t r ∧ S.reads ≤ 900000000000000000 ∧ 4 * (Hn (t.size + 1) + 2) ≤ S.free ∧
    ∀ S' j w, w = IntKind.i64.wrap ((getE t.list k).getD 0 + n) → TrR S hs (insE t.list (k, w)) (iB t.size) (5 * iB t.size + 2 * ht t + 1) S' j → K (.tup [.at (vU j), .at (vI w), .at (vI 0)]) (chS S') W7
  | _ => False
structure XUc (P : Arn → Int → List Ent → Prop) where
  S : Arn
  i : Int
  l : List Ent
  k : Int
  h : P S i l
def tUc : Tfm C0 := fun args H K => match args, H with
  | [.at (.slc 0), .at (.val (.int .u64 t)), .at (.val (.int .i64 _)), .at (.val (.int .i64 n)), .at (.val (.int .i64 at'))], [.row false .ent raw] => 0 ≤ t ∧ (-9223372036854775808 ≤ n ∧ n ≤ 9223372036854775807) ∧ (-9223372036854775808 ≤ at' ∧ at' ≤ 9223372036854775807) ∧ (∀ x ∈ raw, -9223372036854775808 ≤ x.2 ∧ x.2 ≤ 9223372036854775807) ∧ K (.one (.at (vB true))) [.row false EC.ent raw] []
  | _, _ => False
/-! ### The law that Increase increases -/
theorem Hn_le {n m : Nat} (h : n ≤ m) : Hn n ≤ Hn m := by
  have a := gN_size n
  have b := gN_size m
  have c := gN_mono (v := n + 1) (w := m + 1) (by omega) (by omega)
  omega
theorem gN_top {w v g : Nat} (h8 : v ≤ w) (hg : g < 80) (hw : (w : Int) < wt (g + 1)) : gN v ≤ g := by
  by_cases c : gN v ≤ g
  · exact c
  · by_cases z : 1 ≤ v
    · have h1 := gN_wt z
      have h2 := wt_mono (show g + 1 ≤ gN v by omega) (gN_rng v)
      omega
    · have : v = 0 := by omega
      subst this
      exact absurd (show gN 0 ≤ g by have : gN 0 = 0 := by decide
                                     omega) c
theorem Hn_104 {n : Nat} (h : n ≤ 112) : Hn n ≤ 13 := by
  have a := gN_size n
  have b := gN_top (w := 113) (v := n + 1) (g := 13) (by omega) (by omega) (by have : wt (13 + 1) = 115 := by decide
                                                                               omega)
  omega
def PUc (S : Arn) (i : Int) (l : List Ent) : Prop := ∃ t, upM S [i] t i ∧ t.list = l ∧ t.size = l.length ∧ l.length ≤ 100 ∧ S.free = 200 ∧ S.reads = 0 ∧ ∀ x ∈ l, -9223372036854775808 ≤ x.2 ∧ x.2 ≤ 9223372036854775807
end Go.Proofs.YtbonbaccmlomhaaGreat.Sx
end
section
/- Building and listing trees where there is room. -/
namespace Go.Proofs.YtbonbaccmlomhaaGreat.Sx
open Go

/-- Where there is room, an ascending list becomes a tree. -/
def tBuildOk : Tfm C0 := fun args H K => match args with
  | [.at (.ptr 0 0), .at (.slc 7)] => arMr H fun S rest => match rest with
    | [.row false .ent l] => ∃ hs, Wf S hs ∧ Asc l ∧ l.length ≤ 60000 ∧ hs.length ≤ 900000 ∧ (l.length : Int) ≤ S.free ∧ S.reads ≤ 900000000000000000 ∧ ∀ S' i, TrR S hs l 65537 0 S' i → K (.tup [.at (vU i), .at (vI 0)]) (chS S' ++ [.row false EC.ent l]) W7
    | _ => False
  | _ => False
theorem shp_sizeV {t : Tr} {l : List Ent} (h : ShpT t l) : t.size = l.length := by rw [← t.list_len, h.list]
theorem shp_balV : ∀ {t : Tr} {l : List Ent}, ShpT t l → t.Bal
  | .nil, _, _ => trivial
  | .node a k v b, l, h => by
    obtain ⟨h1, h2, h3, h4⟩ := h
    have s3 := shp_sizeV h3
    have s4 := shp_sizeV h4
    simp only [List.length_take, List.length_drop] at s3 s4
    refine ⟨?_, shp_balV h3, shp_balV h4⟩
    unfold balN
    omega
theorem ascB_of {l : List Ent} (h : Asc l) : ascB l = true := decide_eq_true h
theorem build_tr {S S' : Arn} {hs : List Int} {l : List Ent} {i : Int} (w : Wf S hs) (b : BuildR S hs l S' i) (hl : l.length ≤ 60000) : TrR S hs l 65537 0 S' i := by
  obtain ⟨t, rp, sp⟩ := b.rep
  exact ⟨⟨b.wf, b.stay, b.len, by rw [b.nu]; omega, by rw [b.rds]; exact Int.le_refl _, by rw [b.rds]; omega⟩, t, rp, sp.list, shp_balV sp⟩
theorem s_buildOk : SoundT C0 26 tBuildOk := s_build.weak fun args H K h => by
  unfold tBuildOk at h
  unfold tBuild
  split at h <;> try exact h.elim
  unfold arMr at h ⊢
  split at h <;> try exact h.elim
  dsimp only at h ⊢
  split at h <;> try exact h.elim
  obtain ⟨hs, w, asc, hl, hh, hf, hr, h⟩ := h
  exact ⟨hs, w, by omega, by omega, fun e => absurd (ascB_of asc) (by rw [e]; decide), fun _ c => absurd hf (by omega), fun _ _ S' i b => h S' i (build_tr w b hl)⟩
def tLsOk : Tfm C0 := fun args H K => match args with
  | [.at (.ptr 0 0), .at (.val (.int .u32 i))] => arM H fun S => ∃ hs t, Wf S hs ∧ Rep S t i ∧ Asc t.list ∧ Kin t.list ∧ t.size ≤ 60000 ∧ S.reads ≤ 1000000000000000000 ∧
    ∀ S' m (out : List Ent), S' = rdS S m → m ≤ t.size → out = t.list → K (.one (.at (.slc 7))) (chS S' ++ [.row true EC.ent out]) [0]
  | _ => False
theorem cap_new (c : Nat) : (newS c).cap = c := by unfold Arn.cap newS; simp
theorem Hld.new {c : Nat} (h1 : 1 ≤ c) (h2 : c ≤ 65536) : Hld (newS c) [] := ⟨Wf.new h1 h2, fun _ h => (by cases h), fun _ h => (by cases h), fun _ h => (by cases h)⟩
end Go.Proofs.YtbonbaccmlomhaaGreat.Sx
end
section
/- Edits: what stays in range. No program in sight. -/
namespace Go.Proofs.YtbonbaccmlomhaaGreat.Sx
open Go

theorem kin_ins {l : List Ent} {e : Ent} (ha : Asc l) (h : Kin l) (he : -9223372036854775808 ≤ e.1 ∧ e.1 ≤ 9223372036854775807) : Kin (insE l e) := fun x hx => by
  rcases insE_mem ha hx with rfl | c
  · exact he
  · exact h x c
theorem kin_flt {p : Int → Bool} {l : List Ent} (h : Kin l) : Kin (flt p l) := fun x hx => h x (flt_mem hx)
theorem numsB {t : Tr} (h : t.size ≤ 110) (bal : t.Bal) : 5 * iB t.size + ht t + 1 ≤ 300 ∧ 5 * dB t.size + ht t + 1 ≤ 300 ∧ (iB t.size : Int) = 4 * Hn t.size + 1 ∧ (dB t.size : Int) ≤ 4 * Hn t.size + 4 := by
  have a := iB_Hn t.size
  have b := dB_Hn t.size
  have c := Bal.height bal (by omega)
  have d := Hn_104 (n := t.size) (by omega)
  omega
def KinD (l : List EdtT) : Prop := ∀ e ∈ l, -9223372036854775808 ≤ e.ent.1 ∧ e.ent.1 ≤ 9223372036854775807
end Go.Proofs.YtbonbaccmlomhaaGreat.Sx
end
section
/- law20: edit, fork, awake; merges where there is room. -/
namespace Go.Proofs.YtbonbaccmlomhaaGreat.Sx
open Go

/-KEEP EdM Wf Kept exW inU live Arn.cap Arn.free Rep rdS retL Tr.size Tr.list Tr.Bal Asc Kin KinD PlantR listE newS insE outE flt neK getE TrR Got upM Hn iB dB ht min MgM needM confE mergeE BuildR-/
structure EdM (S : Arn) (hs : List Int) (x : Int) (l : List Ent) (ed : List EdtT) (I : Nat) : Prop where
  wf : Wf S hs
  tree : ∃ t, Rep S t x ∧ t.list = l ∧ t.Bal
  asc : Asc l
  kin : Kin l
  kd : KinD ed
  len : l.length ≤ 60
  hl : hs.length ≤ 1000
  rd : S.reads ≤ 1000000
  i4 : 4 * (Hn ((l.length + 9 : Nat) : Int) + 2) ≤ (I : Int)
  i60 : I ≤ 100
  free : ((8 * I : Nat) : Int) ≤ S.free
structure XE1 (P : Nat → Arn → Int → List Ent → Prop) where
  i : Nat
  S : Arn
  y : Int
  m : List Ent
  h : P i S y m
structure XE2 (P : Nat → Arn → Int → Int → List Ent → Prop) where
  i : Nat
  S : Arn
  y : Int
  z : Int
  m : List Ent
  h : P i S y z m
noncomputable def aEd (P1 : Nat → Arn → Int → List Ent → Prop) (P2 : Nat → Arn → Int → Int → List Ent → Prop) (l : List Ent) (ed : List EdtT) : Ann C0 := { rounds := fun n => if n = 4 then 1 else 0, Γ := [(55, frameT [] tRetL), (8, frameT [] tMod), (56, frameT [] tUpDe), (57, frameT [] tDel), (58, frameT [] tUpIn), (53, frameT [] tIns), (59, frameT [] tRel)], inv := fun k => match k with
  | 4 => some { X := XE1 P1, sl := [1, 2, 11], wr := W7, tf := fun x => [vi .u32 x.y, .one (.at (.slc 9)), vi .i64 x.i], hf := fun x => chS x.S ++ [.row false EC.ent l, .row false EC.edm ed, .row true EC.ent x.m], μ := fun x => min ed.length 8 - x.i }
  | 1014 => some { X := XE2 P2, sl := [1, 11, 12, 13, 14], wr := W7, tf := fun x => [vi .u32 x.y, vi .i64 x.i, vi .u32 x.z, vi .i64 0, .one (.at (.slc 9))], hf := fun x => chS x.S ++ [.row false EC.ent l, .row false EC.edm ed, .row true EC.ent x.m], rel := fun T _ x => slotI T 11 x.i }
  | _ => none }
def tEd : Tfm C0 := fun args H K => match args with
  | [.at (.ptr 0 0), .at (.val (.int .u32 x)), .at (.slc 7), .at (.slc 8)] => arMr H fun S rest => match rest with
    | [.row false .ent l, .row false .edm ed] => ∃ hs I, EdM S hs x l ed I ∧
      (ed.length = 0 → ∀ S', TrR S hs l (8 * I) 8000 S' x → K (.tup [.at (vU x), .at (.slc 7), .at (vB true)]) (chS S' ++ [.row false EC.ent l, .row false EC.edm ed]) W7) ∧
      (∀ S' y m, TrR S hs m (8 * I) 8000 S' y → Asc m → Kin m → m.length ≤ l.length + 8 → K (.tup [.at (vU y), .at (.slc 9), .at (vB true)]) (chS S' ++ [.row false EC.ent l, .row false EC.edm ed, .row true EC.ent m]) W7)
    | _ => False
  | _ => False
/-- Three trees of one arena, with their entries. -/
structure FkR (S : Arn) (b o t : Int) (lb lo lt : List Ent) (sp : Int) : Prop where
  h : Hld S [(t, lt), (o, lo), (b, lb)]
  sb : lb.length ≤ 60
  so : lo.length ≤ 68
  st : lt.length ≤ 68
  rd : S.reads ≤ 20000
  free : sp ≤ S.free
  cap : lb.length + sp + 144 ≤ S.cap
  top : S.cap ≤ lb.length + sp + 1100
structure XF0 (P : Arn → Int → Prop) where
  S : Arn
  b : Int
  h : P S b
structure XF1 (P : Arn → Int → Int → List Ent → Prop) where
  S : Arn
  b : Int
  o : Int
  lo : List Ent
  h : P S b o lo
structure XF2 (P : Arn → Int → Int → Int → List Ent → List Ent → Prop) where
  S : Arn
  b : Int
  o : Int
  t : Int
  lo : List Ent
  lt : List Ent
  h : P S b o t lo lt
abbrev zT : List (Chunk C0) := [.box [.val (.pointer none), vU 0, vU 0, vU 0, .slc 12, .slc 13, .slc 14], .row true EC.ent [], .row true EC.ent [], .row true EC.ent []]
noncomputable def aFk (P0 : Arn → Int → Prop) (P1 : Arn → Int → Int → List Ent → Prop) (P2 : Arn → Int → Int → Int → List Ent → List Ent → Prop) (raw B : List Ent) (e1 e2 : List EdtT) : Ann C0 := { trunc := fun n => n = 17 || n = 20, Γ := [(21, frameT [] tLst), (23, frameT [] (tRes1 4 1)), (22, frameT [] tGrow), (24, frameT [] tEd)], inv := fun k => match k with
  | 1005 => some { X := XF0 P0, sl := [10, 12, 13, 14], tf := fun x => [.one (.at (.ptr 11 0)), .one (.at (.slc 10)), .one (.at (.ptr 3 0)), vi .u32 x.b], hf := fun x => [.row false EC.ent raw, .row false EC.edm e1, .row false EC.edm e2] ++ chSk 3 x.S ++ [.row false EC.ent B] ++ zT }
  | 1006 => some { X := XF1 P1, sl := [10, 12, 13, 14, 16, 17, 18], tf := fun x => [.one (.at (.ptr 11 0)), .one (.at (.slc 10)), .one (.at (.ptr 3 0)), vi .u32 x.b, vi .u32 x.o, .one (.at (.slc 15)), vb true], hf := fun x => [.row false EC.ent raw, .row false EC.edm e1, .row false EC.edm e2] ++ chSk 3 x.S ++ [.row false EC.ent B] ++ zT ++ [.row false EC.ent x.lo] }
  | 1007 => some { X := XF2 P2, sl := [10, 12, 13, 14, 16, 17, 18, 19, 20, 21], tf := fun x => [.one (.at (.ptr 11 0)), .one (.at (.slc 10)), .one (.at (.ptr 3 0)), vi .u32 x.b, vi .u32 x.o, .one (.at (.slc 15)), vb true, vi .u32 x.t, .one (.at (.slc 16)), vb true], hf := fun x => [.row false EC.ent raw, .row false EC.edm e1, .row false EC.edm e2] ++ chSk 3 x.S ++ [.row false EC.ent B] ++ zT ++ [.row false EC.ent x.lo, .row false EC.ent x.lt] }
  | _ => none }
/-- Where there is room, and no conflict is refused. -/
def tMgK : Tfm C0 := fun args H K => match args with
  | [.at (.ptr 0 0), .at (.val (.int .u32 b)), .at (.val (.int .u32 o)), .at (.val (.int .u32 t)), .at (.val (.int .i64 pol))] => arM H fun S => ∃ hs tb to tt, MgM S hs tb to tt b o t ∧ 1 ≤ pol ∧ pol ≤ 4 ∧ needM tb to tt ≤ S.free ∧ (pol = 3 → confE tb.list to.list tt.list = []) ∧
    ∀ S' i c, c = confE tb.list to.list tt.list → TrR S hs (mergeE tb.list to.list tt.list pol) 65537 2000000000 S' i → K (.tup [.at (vU i), .at (.slc 7), .at (vI 0)]) (chS S' ++ [.row true EC.i64 c]) W7
  | _ => False
noncomputable def aAw20 : Ann C0 := { Γ := [(25, frameT [] tNew), (26, frameT [] tBuildOk), (11, frameT [] tMgK), (27, frameT [] tGetT), (28, frameT [] tSize)] }
def tAw20 : Tfm C0 := fun args H K => match args, H with
  | [], [] => K (.one (.at (vB true))) [] []
  | _, _ => False
def PE1 (S0 : Arn) (hs : List Int) (l : List Ent) (n I : Nat) : Nat → Arn → Int → List Ent → Prop := fun i S y m => i ≤ n ∧ Asc m ∧ Kin m ∧ m.length ≤ l.length + i ∧ TrR S0 hs m (i * I) (1000 * i) S y
def PE2 (S0 : Arn) (hs : List Int) (l : List Ent) (n I : Nat) : Nat → Arn → Int → Int → List Ent → Prop := fun i S y z m => i < n ∧ Asc m ∧ Kin m ∧ m.length ≤ l.length + i + 1 ∧ Got S0 hs ((i + 1) * I) (1000 * (i + 1)) S (z :: y :: hs) ∧ ∃ t, Rep S t z ∧ t.list = m ∧ t.Bal
theorem ed_up {S0 S : Arn} {hs : List Int} {x y : Int} {l m : List Ent} {ed : List EdtT} {n I i : Nat} (E : EdM S0 hs x l ed I) (h : PE1 S0 hs l n I i S y m) (hi : i < n) (hn : n ≤ 8) :
    ∃ ty, upM S (y :: hs) ty y ∧ ty.list = m ∧ m.length ≤ 67 ∧ 4 * (Hn ty.size + 2) ≤ S.free ∧ 4 * (Hn ((ty.size : Int) + 1) + 2) ≤ S.free ∧ iB ty.size ≤ I ∧ dB ty.size ≤ I ∧ 5 * iB ty.size + ht ty + 1 ≤ 1000 ∧ 5 * dB ty.size + ht ty + 1 ≤ 1000 := by
  obtain ⟨_, am, km, lm, tr⟩ := h
  obtain ⟨ty, ry, ly, bY⟩ := tr.tree
  have zy : ty.size = m.length := by rw [← ty.list_len, ly]
  have le := E.len
  have f := tr.got.free E.wf
  have q := tr.got.rd
  have rd := E.rd
  have fr := E.free
  have hl := E.hl
  have i4 := E.i4
  have mu : (i + 1) * I ≤ 8 * I := Nat.mul_le_mul_right _ (by omega)
  rw [Nat.succ_mul] at mu
  have h1 := Hn_le (n := ty.size) (m := l.length + 9) (by omega)
  have h2 := Hn_le (n := ty.size + 1) (m := l.length + 9) (by omega)
  have nb := numsB (t := ty) (by omega) bY
  rw [show ((ty.size + 1 : Nat) : Int) = (ty.size : Int) + 1 by omega] at h2
  exact ⟨ty, ⟨tr.got.wf, ry, bY, by rw [ly]; exact am, by omega, by simp; omega, by omega⟩, ly, by omega, by omega, by omega, by omega, by omega, by omega, by omega⟩
theorem ed_step {S0 S S' : Arn} {hs : List Int} {y j : Int} {l m L : List Ent} {n I i a r : Nat} (h : PE1 S0 hs l n I i S y m) (hi : i < n) (tr : TrR S (y :: hs) L a r S' j) (ha : a ≤ I) (hr : r ≤ 1000) (asc : Asc L) (kin : Kin L) (hl : L.length ≤ l.length + i + 1) : PE2 S0 hs l n I i S' y j L := by
  obtain ⟨_, _, _, _, t0⟩ := h
  have g := t0.got.seq tr.got (h := hs) (fun _ h => h) (fun i hi => List.mem_cons_of_mem _ hi)
  exact ⟨hi, asc, kin, hl, g.mono (by rw [Nat.succ_mul]; omega) (by omega), tr.tree⟩
theorem ed_rel {S0 S S' : Arn} {hs : List Int} {y z : Int} {l m : List Ent} {n I i : Nat} (h : PE2 S0 hs l n I i S y z m) (w3 : Wf S' (z :: hs)) (kp : Kept S S') : PE1 S0 hs l n I (i + 1) S' z m := by
  obtain ⟨hi, am, km, lm, g, t, rt, lt, bt⟩ := h
  have w' : Wf S (y :: z :: hs) := g.wf.perm (List.Perm.swap _ _ _)
  have g2 := rel_got w' w3 kp
  have g3 := g.seq g2 (h := hs) (fun _ h => h) (fun i hi => List.mem_cons_of_mem _ hi)
  exact ⟨hi, am, km, by omega, g3.mono (Nat.le_refl _) (Nat.le_refl _), t, rt.held w' g2.stay (.inr (by simp)), lt, bt⟩
theorem vc_ed (S : Arn) (x : Int) (l : List Ent) (ed : List EdtT) (K : KT) (hs : List Int) (I : Nat) (E : EdM S hs x l ed I)
    (h1 : ed.length = 0 → ∀ S', TrR S hs l (8 * I) 8000 S' x → K (.tup [.at (vU x), .at (.slc 7), .at (vB true)]) (chS S' ++ [.row false EC.ent l, .row false EC.edm ed]) W7)
    (h2 : ∀ S' y m, TrR S hs m (8 * I) 8000 S' y → Asc m → Kin m → m.length ≤ l.length + 8 → K (.tup [.at (vU y), .at (.slc 9), .at (vB true)]) (chS S' ++ [.row false EC.ent l, .row false EC.edm ed, .row true EC.ent m]) W7) :
    vc C0 (aEd (PE1 S hs l (min ed.length 8) I) (PE2 S hs l (min ed.length 8) I) l ed) Tryz.f24 [.at (.ptr 0 0), .at (vU x), .at (.slc 7), .at (.slc 8)] (chS S ++ [.row false EC.ent l, .row false EC.edm ed]) (normK 9 (wideK W7 K)) := by
  generalize hP1 : PE1 S hs l (min ed.length 8) I = P1
  generalize hP2 : PE2 S hs l (min ed.length 8) I = P2
  refine Eq.mp (show ((live S x) ∧
(exW S) ∧
(∀ S' : Arn, (((S') = (retL S x)) → (brS (decide (0 < (↑ed.length : Int))) (((((0 : Int) ≤ 0) ∧ (0 < (↑ed.length : Int)) ∧ (brS ((ed.getD (Int.toNat 0) { del := false, at_ := 0, ent := (0, 0) : EdtT }).del) ((brS (decide ((↑l.length : Int) > 0)) ((((0 : Int) ≤ 0) ∧ (0 < (↑ed.length : Int)) ∧ (0 < (↑l.length : Int)) ∧ ((↑l.length : Int) ≤ 9223372036854775807) ∧ (∀ x1 : Int, (((x1) = ((ed.getD (Int.toNat 0) { del := false, at_ := 0, ent := (0, 0) : EdtT }).at_ % (↑l.length : Int))) → ((0 ≤ x1) ∧ (x1 < (↑l.length : Int)) ∧ (∃ hs : List Int, (∃ t : Tr, (∃ v : Int, ((upM S' hs t x) ∧ ((getE t.list (l.getD x1.toNat (0, 0)).fst) = (some (v))) ∧ (4 * (Hn (↑t.size : Int) + 2) ≤ S'.free) ∧ (∀ S'1 : Arn, (∀ j : Int, ((TrR S' hs (flt (neK (l.getD x1.toNat (0, 0)).fst) t.list) (dB t.size) (5 * dB t.size + ht t + 1) S'1 j) → ((l.length ≤ 1000000) ∧ (∃ x2 : XE2 P2, ((0 = ((↑x2.i : Int))) ∧ (True ∧ ((Value.int IntKind.u32 (x)) = (Value.int IntKind.u32 (x2.y))) ∧ True ∧ ((Value.int IntKind.i64 0) = (Value.int IntKind.i64 ((↑x2.i : Int)))) ∧ ((Value.int IntKind.u32 (j)) = (Value.int IntKind.u32 (x2.z))) ∧ ((Value.int IntKind.i64 0) = (Value.int IntKind.i64 0)) ∧ True ∧ True) ∧ (True ∧ True ∧ True ∧ ((Value.int IntKind.u64 (S'1.reads)) = (Value.int IntKind.u64 (x2.S.reads))) ∧ True) ∧ (True ∧ True ∧ True ∧ ((Value.int IntKind.u32 (S'1.fresh)) = (Value.int IntKind.u32 (x2.S.fresh))) ∧ True) ∧ ((S'1.nodes) = (x2.S.nodes)) ∧ ((S'1.counts) = (x2.S.counts)) ∧
    ((S'1.used) = (x2.S.used)) ∧ ((S'1.gen) = (x2.S.gen)) ∧ ((S'1.rel) = (x2.S.rel)) ∧ ((l) = (l)) ∧ ((ed) = (ed)) ∧ ((outE l (l.getD x1.toNat (0, 0)).fst (l.getD x1.toNat (0, 0)).fst) = (x2.m)) ∧ True))))))))))))))) ((((0 : Int) ≤ 0) ∧ (0 < (↑ed.length : Int)) ∧ (∃ hs : List Int, (∃ t : Tr, ((upM S' hs t x) ∧ (4 * (Hn ((↑t.size : Int) + 1) + 2) ≤ S'.free) ∧ (∀ S'1 : Arn, (∀ j : Int, (∀ o : Option Int, (((o) = (getE t.list (ed.getD (Int.toNat 0) { del := false, at_ := 0, ent := (0, 0) : EdtT }).ent.fst)) → ((TrR S' hs (insE t.list (ed.getD (Int.toNat 0) { del := false, at_ := 0, ent := (0, 0) : EdtT }).ent) (iB t.size) (5 * iB t.size + ht t + 1) S'1 j) → (((0 : Int) ≤ 0) ∧ (0 < (↑ed.length : Int)) ∧ (l.length ≤ 1000000) ∧ (∃ x1 : XE2 P2, ((0 = ((↑x1.i : Int))) ∧ (True ∧ ((Value.int IntKind.u32 (x)) = (Value.int IntKind.u32 (x1.y))) ∧ True ∧ ((Value.int IntKind.i64 0) = (Value.int IntKind.i64 ((↑x1.i : Int)))) ∧ ((Value.int IntKind.u32 (j)) = (Value.int IntKind.u32 (x1.z))) ∧ ((Value.int IntKind.i64 0) = (Value.int IntKind.i64 0)) ∧ True ∧ True) ∧ (True ∧ True ∧ True ∧ ((Value.int IntKind.u64 (S'1.reads)) = (Value.int IntKind.u64 (x1.S.reads))) ∧ True) ∧ (True ∧ True ∧ True ∧ ((Value.int IntKind.u32 (S'1.fresh)) = (Value.int IntKind.u32 (x1.S.fresh))) ∧ True) ∧ ((S'1.nodes) = (x1.S.nodes)) ∧ ((S'1.counts) = (x1.S.counts)) ∧ ((S'1.used) = (x1.S.used)) ∧ ((S'1.gen) = (x1.S.gen)) ∧ ((S'1.rel) = (x1.S.rel)) ∧ ((l) = (l)) ∧ ((ed) = (ed)) ∧
    ((insE l (ed.getD (Int.toNat 0) { del := false, at_ := 0, ent := (0, 0) : EdtT }).ent) = (x1.m)) ∧ True))))))))))))))) ((((0 : Int) ≤ 0) ∧ (0 < (↑ed.length : Int)) ∧ (∃ hs : List Int, (∃ t : Tr, ((upM S' hs t x) ∧ (4 * (Hn ((↑t.size : Int) + 1) + 2) ≤ S'.free) ∧ (∀ S'1 : Arn, (∀ j : Int, (∀ o : Option Int, (((o) = (getE t.list (ed.getD (Int.toNat 0) { del := false, at_ := 0, ent := (0, 0) : EdtT }).ent.fst)) → ((TrR S' hs (insE t.list (ed.getD (Int.toNat 0) { del := false, at_ := 0, ent := (0, 0) : EdtT }).ent) (iB t.size) (5 * iB t.size + ht t + 1) S'1 j) → (((0 : Int) ≤ 0) ∧ (0 < (↑ed.length : Int)) ∧ (l.length ≤ 1000000) ∧ (∃ x1 : XE2 P2, ((0 = ((↑x1.i : Int))) ∧ (True ∧ ((Value.int IntKind.u32 (x)) = (Value.int IntKind.u32 (x1.y))) ∧ True ∧ ((Value.int IntKind.i64 0) = (Value.int IntKind.i64 ((↑x1.i : Int)))) ∧ ((Value.int IntKind.u32 (j)) = (Value.int IntKind.u32 (x1.z))) ∧ ((Value.int IntKind.i64 0) = (Value.int IntKind.i64 0)) ∧ True ∧ True) ∧ (True ∧ True ∧ True ∧ ((Value.int IntKind.u64 (S'1.reads)) = (Value.int IntKind.u64 (x1.S.reads))) ∧ True) ∧ (True ∧ True ∧ True ∧ ((Value.int IntKind.u32 (S'1.fresh)) = (Value.int IntKind.u32 (x1.S.fresh))) ∧ True) ∧ ((S'1.nodes) = (x1.S.nodes)) ∧ ((S'1.counts) = (x1.S.counts)) ∧ ((S'1.used) = (x1.S.used)) ∧ ((S'1.gen) = (x1.S.gen)) ∧ ((S'1.rel) = (x1.S.rel)) ∧ ((l) = (l)) ∧ ((ed) = (ed)) ∧ ((insE l (ed.getD (Int.toNat 0) { del := false, at_ := 0, ent := (0, 0) : EdtT }).ent) = (x1.m)) ∧ True))))))))))))))) ∧ (∀ x1 : XE2 P2,
    ((0 = ((↑x1.i : Int))) → (∃ hs : List Int, ((Wf x1.S (x1.y :: hs)) ∧ (∀ S'1 : Arn, (∀ fr : Int, ((Wf S'1 hs) → ((Kept x1.S S'1) → ((∃ x2 : XE1 P1, (True ∧ (True ∧ ((Value.int IntKind.u32 (x1.z)) = (Value.int IntKind.u32 (x2.y))) ∧ True ∧ True ∧ ((Value.int IntKind.i64 (IntKind.i64.wrap ((↑x1.i : Int) + 1))) = (Value.int IntKind.i64 ((↑x2.i : Int)))) ∧ True) ∧ (True ∧ True ∧ True ∧ ((Value.int IntKind.u64 (S'1.reads)) = (Value.int IntKind.u64 (x2.S.reads))) ∧ True) ∧ (True ∧ True ∧ True ∧ ((Value.int IntKind.u32 (S'1.fresh)) = (Value.int IntKind.u32 (x2.S.fresh))) ∧ True) ∧ ((S'1.nodes) = (x2.S.nodes)) ∧ ((S'1.counts) = (x2.S.counts)) ∧ ((S'1.used) = (x2.S.used)) ∧ ((S'1.gen) = (x2.S.gen)) ∧ ((S'1.rel) = (x2.S.rel)) ∧ ((l) = (l)) ∧ ((ed) = (ed)) ∧ ((x1.m) = (x2.m)) ∧ True)) ∧ (∀ x2 : XE1 P1, (True → (brS (decide ((↑x2.i : Int) < (↑ed.length : Int))) ((brS (decide ((↑x2.i : Int) < 8)) ((((0 ≤ (↑x2.i : Int)) ∧ ((↑x2.i : Int) < (↑ed.length : Int)) ∧ (brS ((ed.getD (↑x2.i : Int).toNat { del := false, at_ := 0, ent := (0, 0) : EdtT }).del) ((brS (decide ((↑x2.m.length : Int) > 0)) (((0 ≤ (↑x2.i : Int)) ∧ ((↑x2.i : Int) < (↑ed.length : Int)) ∧ (0 < (↑x2.m.length : Int)) ∧ ((↑x2.m.length : Int) ≤ 9223372036854775807) ∧ (∀ x3 : Int, (((x3) = ((ed.getD (↑x2.i : Int).toNat { del := false, at_ := 0, ent := (0, 0) : EdtT }).at_ % (↑x2.m.length : Int))) → ((0 ≤ x3) ∧ (x3 < (↑x2.m.length : Int)) ∧ (∃ hs1 : List Int, (∃ t : Tr, (∃ v : Int, ((upM x2.S hs1 t x2.y) ∧
    ((getE t.list (x2.m.getD x3.toNat (0, 0)).fst) = (some (v))) ∧ (4 * (Hn (↑t.size : Int) + 2) ≤ x2.S.free) ∧ (∀ S'2 : Arn, (∀ j : Int, ((TrR x2.S hs1 (flt (neK (x2.m.getD x3.toNat (0, 0)).fst) t.list) (dB t.size) (5 * dB t.size + ht t + 1) S'2 j) → ((x2.m.length ≤ 1000000) ∧ (∃ x4 : XE2 P2, ((((↑x2.i : Int)) = ((↑x4.i : Int))) ∧ (True ∧ ((Value.int IntKind.u32 (x2.y)) = (Value.int IntKind.u32 (x4.y))) ∧ True ∧ ((Value.int IntKind.i64 ((↑x2.i : Int))) = (Value.int IntKind.i64 ((↑x4.i : Int)))) ∧ ((Value.int IntKind.u32 (j)) = (Value.int IntKind.u32 (x4.z))) ∧ ((Value.int IntKind.i64 0) = (Value.int IntKind.i64 0)) ∧ True ∧ True) ∧ (True ∧ True ∧ True ∧ ((Value.int IntKind.u64 (S'2.reads)) = (Value.int IntKind.u64 (x4.S.reads))) ∧ True) ∧ (True ∧ True ∧ True ∧ ((Value.int IntKind.u32 (S'2.fresh)) = (Value.int IntKind.u32 (x4.S.fresh))) ∧ True) ∧ ((S'2.nodes) = (x4.S.nodes)) ∧ ((S'2.counts) = (x4.S.counts)) ∧ ((S'2.used) = (x4.S.used)) ∧ ((S'2.gen) = (x4.S.gen)) ∧ ((S'2.rel) = (x4.S.rel)) ∧ ((l) = (l)) ∧ ((ed) = (ed)) ∧ ((outE x2.m (x2.m.getD x3.toNat (0, 0)).fst (x2.m.getD x3.toNat (0, 0)).fst) = (x4.m)) ∧ True))))))))))))))) (((0 ≤ (↑x2.i : Int)) ∧ ((↑x2.i : Int) < (↑ed.length : Int)) ∧ (∃ hs1 : List Int, (∃ t : Tr, ((upM x2.S hs1 t x2.y) ∧ (4 * (Hn ((↑t.size : Int) + 1) + 2) ≤ x2.S.free) ∧ (∀ S'2 : Arn, (∀ j : Int, (∀ o : Option Int, (((o) = (getE t.list (ed.getD (↑x2.i : Int).toNat { del := false, at_ := 0, ent := (0, 0) : EdtT }).ent.fst)) →
    ((TrR x2.S hs1 (insE t.list (ed.getD (↑x2.i : Int).toNat { del := false, at_ := 0, ent := (0, 0) : EdtT }).ent) (iB t.size) (5 * iB t.size + ht t + 1) S'2 j) → ((0 ≤ (↑x2.i : Int)) ∧ ((↑x2.i : Int) < (↑ed.length : Int)) ∧ (x2.m.length ≤ 1000000) ∧ (∃ x3 : XE2 P2, ((((↑x2.i : Int)) = ((↑x3.i : Int))) ∧ (True ∧ ((Value.int IntKind.u32 (x2.y)) = (Value.int IntKind.u32 (x3.y))) ∧ True ∧ ((Value.int IntKind.i64 ((↑x2.i : Int))) = (Value.int IntKind.i64 ((↑x3.i : Int)))) ∧ ((Value.int IntKind.u32 (j)) = (Value.int IntKind.u32 (x3.z))) ∧ ((Value.int IntKind.i64 0) = (Value.int IntKind.i64 0)) ∧ True ∧ True) ∧ (True ∧ True ∧ True ∧ ((Value.int IntKind.u64 (S'2.reads)) = (Value.int IntKind.u64 (x3.S.reads))) ∧ True) ∧ (True ∧ True ∧ True ∧ ((Value.int IntKind.u32 (S'2.fresh)) = (Value.int IntKind.u32 (x3.S.fresh))) ∧ True) ∧ ((S'2.nodes) = (x3.S.nodes)) ∧ ((S'2.counts) = (x3.S.counts)) ∧ ((S'2.used) = (x3.S.used)) ∧ ((S'2.gen) = (x3.S.gen)) ∧ ((S'2.rel) = (x3.S.rel)) ∧ ((l) = (l)) ∧ ((ed) = (ed)) ∧ ((insE x2.m (ed.getD (↑x2.i : Int).toNat { del := false, at_ := 0, ent := (0, 0) : EdtT }).ent) = (x3.m)) ∧ True))))))))))))))) (((0 ≤ (↑x2.i : Int)) ∧ ((↑x2.i : Int) < (↑ed.length : Int)) ∧ (∃ hs1 : List Int, (∃ t : Tr, ((upM x2.S hs1 t x2.y) ∧ (4 * (Hn ((↑t.size : Int) + 1) + 2) ≤ x2.S.free) ∧ (∀ S'2 : Arn, (∀ j : Int, (∀ o : Option Int, (((o) = (getE t.list (ed.getD (↑x2.i : Int).toNat { del := false, at_ := 0, ent := (0, 0) : EdtT }).ent.fst)) →
    ((TrR x2.S hs1 (insE t.list (ed.getD (↑x2.i : Int).toNat { del := false, at_ := 0, ent := (0, 0) : EdtT }).ent) (iB t.size) (5 * iB t.size + ht t + 1) S'2 j) → ((0 ≤ (↑x2.i : Int)) ∧ ((↑x2.i : Int) < (↑ed.length : Int)) ∧ (x2.m.length ≤ 1000000) ∧ (∃ x3 : XE2 P2, ((((↑x2.i : Int)) = ((↑x3.i : Int))) ∧ (True ∧ ((Value.int IntKind.u32 (x2.y)) = (Value.int IntKind.u32 (x3.y))) ∧ True ∧ ((Value.int IntKind.i64 ((↑x2.i : Int))) = (Value.int IntKind.i64 ((↑x3.i : Int)))) ∧ ((Value.int IntKind.u32 (j)) = (Value.int IntKind.u32 (x3.z))) ∧ ((Value.int IntKind.i64 0) = (Value.int IntKind.i64 0)) ∧ True ∧ True) ∧ (True ∧ True ∧ True ∧ ((Value.int IntKind.u64 (S'2.reads)) = (Value.int IntKind.u64 (x3.S.reads))) ∧ True) ∧ (True ∧ True ∧ True ∧ ((Value.int IntKind.u32 (S'2.fresh)) = (Value.int IntKind.u32 (x3.S.fresh))) ∧ True) ∧ ((S'2.nodes) = (x3.S.nodes)) ∧ ((S'2.counts) = (x3.S.counts)) ∧ ((S'2.used) = (x3.S.used)) ∧ ((S'2.gen) = (x3.S.gen)) ∧ ((S'2.rel) = (x3.S.rel)) ∧ ((l) = (l)) ∧ ((ed) = (ed)) ∧ ((insE x2.m (ed.getD (↑x2.i : Int).toNat { del := false, at_ := 0, ent := (0, 0) : EdtT }).ent) = (x3.m)) ∧ True))))))))))))))) ∧ (∀ x3 : XE2 P2, ((((↑x2.i : Int)) = ((↑x3.i : Int))) → (∃ hs1 : List Int, ((Wf x3.S (x3.y :: hs1)) ∧ (∀ S'2 : Arn, (∀ fr1 : Int, ((Wf S'2 hs1) → ((Kept x3.S S'2) → (∃ x' : XE1 P1, (True ∧ ((True ∧ ((Value.int IntKind.u32 (x3.z)) = (Value.int IntKind.u32 (x'.y))) ∧ True ∧ True ∧
    ((Value.int IntKind.i64 (IntKind.i64.wrap ((↑x3.i : Int) + 1))) = (Value.int IntKind.i64 ((↑x'.i : Int)))) ∧ True) ∧ (True ∧ True ∧ True ∧ ((Value.int IntKind.u64 (S'2.reads)) = (Value.int IntKind.u64 (x'.S.reads))) ∧ True) ∧ (True ∧ True ∧ True ∧ ((Value.int IntKind.u32 (S'2.fresh)) = (Value.int IntKind.u32 (x'.S.fresh))) ∧ True) ∧ ((S'2.nodes) = (x'.S.nodes)) ∧ ((S'2.counts) = (x'.S.counts)) ∧ ((S'2.used) = (x'.S.used)) ∧ ((S'2.gen) = (x'.S.gen)) ∧ ((S'2.rel) = (x'.S.rel)) ∧ ((l) = (l)) ∧ ((ed) = (ed)) ∧ ((x3.m) = (x'.m)) ∧ True) ∧ (min ed.length 8 - x'.i < min ed.length 8 - x2.i))))))))))))) ((K (SV.tup [(TV.at (At.val (Value.int IntKind.u32 (x2.y)))), (TV.at (At.slc 9)), (TV.at (At.val (Value.bool true)))]) [(Chunk.box [(At.ptr 1 0), (At.slc 2), (At.slc 3), (At.val (Value.int IntKind.u64 (x2.S.reads)))]), (Chunk.box [(At.slc 4), (At.slc 5), (At.slc 6), (At.val (Value.int IntKind.u32 (x2.S.fresh)))]), (Chunk.row true (EC.node) (x2.S.nodes)), (Chunk.row true (EC.int) (x2.S.counts)), (Chunk.row true (EC.bool) (x2.S.used)), (Chunk.row true (EC.u32) (x2.S.gen)), (Chunk.row true (EC.u32) (x2.S.rel)), (Chunk.row false (EC.ent) (l)), (Chunk.row false (EC.edm) (ed)), (Chunk.row true (EC.ent) (x2.m))] [0, 1, 2, 3, 4, 5, 6]))))
    ((K (SV.tup [(TV.at (At.val (Value.int IntKind.u32 (x2.y)))), (TV.at (At.slc 9)), (TV.at (At.val (Value.bool true)))]) [(Chunk.box [(At.ptr 1 0), (At.slc 2), (At.slc 3), (At.val (Value.int IntKind.u64 (x2.S.reads)))]), (Chunk.box [(At.slc 4), (At.slc 5), (At.slc 6), (At.val (Value.int IntKind.u32 (x2.S.fresh)))]), (Chunk.row true (EC.node) (x2.S.nodes)), (Chunk.row true (EC.int) (x2.S.counts)), (Chunk.row true (EC.bool) (x2.S.used)), (Chunk.row true (EC.u32) (x2.S.gen)), (Chunk.row true (EC.u32) (x2.S.rel)), (Chunk.row false (EC.ent) (l)), (Chunk.row false (EC.edm) (ed)), (Chunk.row true (EC.ent) (x2.m))] [0, 1, 2, 3, 4, 5, 6])))))))))))))))) ((K (SV.tup [(TV.at (At.val (Value.int IntKind.u32 (x)))), (TV.at (At.slc 7)), (TV.at (At.val (Value.bool true)))]) [(Chunk.box [(At.ptr 1 0), (At.slc 2), (At.slc 3), (At.val (Value.int IntKind.u64 (S'.reads)))]), (Chunk.box [(At.slc 4), (At.slc 5), (At.slc 6), (At.val (Value.int IntKind.u32 (S'.fresh)))]), (Chunk.row true (EC.node) (S'.nodes)), (Chunk.row true (EC.int) (S'.counts)), (Chunk.row true (EC.bool) (S'.used)), (Chunk.row true (EC.u32) (S'.gen)), (Chunk.row true (EC.u32) (S'.rel)), (Chunk.row false (EC.ent) (l)), (Chunk.row false (EC.edm) (ed))] [0, 1, 2, 3, 4, 5, 6])))))) = _ by kernel_rfl) ?_
  subst hP1 hP2
  obtain ⟨tx, rx, lx, bx⟩ := E.tree
  have hl := E.hl
  refine ⟨rx.us, ⟨_, E.wf⟩, fun S1 e1 => ?_⟩
  have t0 : TrR S hs l 0 0 S1 x := by rw [e1]; exact ⟨retL_got E.wf rx.us (by omega), tx, rx.retL, lx, bx⟩
  clear e1
  have mx : ∀ i, i ≤ 8 → i * I ≤ 8 * I := fun i hi => Nat.mul_le_mul_right _ hi
  have hn8 : min ed.length 8 ≤ 8 := Nat.min_le_right _ _
  have hnl : min ed.length 8 ≤ ed.length := Nat.min_le_left _ _
  have hnx : ∀ i : Nat, i < ed.length → i < 8 → i < min ed.length 8 := fun i a b => by omega
  generalize min ed.length 8 = n at *
  have hm1 : PE1 S hs l n I 0 S1 x l := ⟨Nat.zero_le _, E.asc, E.kin, by omega, t0.mono (by omega) (by omega)⟩
  refine brS_of (fun c => ⟨⟨by decide, by have := of_decide_eq_true c; omega, ?_⟩, fun x2 q => ?_⟩) fun c => h1 (by have := of_decide_eq_false c; omega) S1 (t0.mono (by omega) (by omega))
  · have c : 0 < ed.length := by have := of_decide_eq_true c; omega
    have c := hnx 0 c (by omega)
    obtain ⟨ty, up, ly, l67, f1, f2, b1, b2, b3, b4⟩ := ed_up E hm1 c hn8
    have am := E.asc
    have km := E.kin
    have hit : Int.toNat 0 = 0 := rfl
    rw [hit]
    have hmem : ed.getD 0 { del := false, at_ := 0, ent := (0, 0) } ∈ ed := by
      rw [List.getD_eq_getElem?_getD, List.getElem?_eq_getElem (by omega)]; exact List.getElem_mem _
    have hen := E.kd _ hmem
    generalize ed.getD 0 { del := false, at_ := 0, ent := (0, 0) } = en at *
    have il := insE_len l en.ent
    refine brS_of (fun d => brS_of (fun g => ?_) fun g => ?_) fun d => ?_
    · have g : 0 < l.length := by have := of_decide_eq_true g; omega
      refine ⟨by omega, by omega, by omega, by omega, fun z ez => ?_⟩
      obtain ⟨z0, z1⟩ := mod_rng (by omega) ez
      have hz : l.getD z.toNat (0, 0) ∈ l := by
        rw [List.getD_eq_getElem?_getD, List.getElem?_eq_getElem (by omega)]; exact List.getElem_mem _
      have fl := flt_len (p := neK (l.getD z.toNat (0, 0)).fst) (l := l)
      refine ⟨z0, z1, _, ty, (l.getD z.toNat (0, 0)).snd, up, by rw [ly, getE_fnd, am.fnd_self hz]; rfl, f1, fun S2 j tr => ⟨by omega, ⟨0, S2, x, j, outE l (l.getD z.toNat (0, 0)).fst (l.getD z.toNat (0, 0)).fst, ?_⟩, ?_⟩⟩
      · rw [ly] at tr
        rw [outE_flt]
        exact ed_step hm1 c tr (by omega) (by omega) (flt_asc am) (kin_flt km) (by omega)
      · (repeat' first | exact trivial | exact rfl | refine And.intro ?_ ?_)
    all_goals
      refine ⟨by omega, by omega, _, ty, up, f2, fun S2 j o eo tr => ⟨by omega, by omega, by omega, ⟨0, S2, x, j, insE l en.ent, ?_⟩, ?_⟩⟩
      · rw [ly] at tr
        exact ed_step hm1 c tr (by omega) (by omega) (insE_asc _ am) (kin_ins am km hen) (by omega)
      · (repeat' first | exact trivial | exact rfl | refine And.intro ?_ ?_)
  · have c : 0 < ed.length := by have := of_decide_eq_true c; omega
    obtain ⟨i2, S2, y, z, m, hi2, am, km, lm, g, tz⟩ := x2
    have q : (0 : Int) = i2 := q
    obtain rfl : 0 = i2 := by omega
    dsimp only
    have w' : Wf S2 (y :: z :: hs) := g.wf.perm (List.Perm.swap _ _ _)
    refine ⟨_, w', fun S3 _ w3 kp => ⟨⟨⟨1, S3, z, m, ed_rel ⟨hi2, am, km, lm, g, tz⟩ w3 kp⟩, ?_⟩, fun x3 _ => ?_⟩⟩
    · (repeat' first | exact trivial | exact rfl | refine And.intro ?_ ?_)
    obtain ⟨i, S1, y, m, hm1⟩ := x3
    dsimp only
    obtain ⟨hin, am, km, lm, t0⟩ := id hm1
    have fin : n ≤ i → K (.tup [.at (vU y), .at (.slc 9), .at (vB true)]) (chS S1 ++ [.row false EC.ent l, .row false EC.edm ed, .row true EC.ent m]) W7 := fun e => by
      have m8 := mx i (by omega)
      exact h2 S1 y m (t0.mono m8 (by omega)) am km (by omega)
    refine brS_of (fun c => brS_of (fun c8 => ⟨⟨by omega, by have := of_decide_eq_true c; omega, ?_⟩, fun x4 q => ?_⟩) fun c8 => fin (by have := of_decide_eq_false c8; omega)) fun c => fin (by have := of_decide_eq_false c; omega)
    · have cl : i < ed.length := by have := of_decide_eq_true c; omega
      have c8 : i < 8 := by have := of_decide_eq_true c8; omega
      have c := hnx i cl c8
      obtain ⟨ty, up, ly, l67, f1, f2, b1, b2, b3, b4⟩ := ed_up E hm1 c hn8
      have hit : (i : Int).toNat = i := rfl
      rw [hit]
      have hmem : ed.getD i { del := false, at_ := 0, ent := (0, 0) } ∈ ed := by
        rw [List.getD_eq_getElem?_getD, List.getElem?_eq_getElem (by omega)]; exact List.getElem_mem _
      have hen := E.kd _ hmem
      generalize ed.getD i { del := false, at_ := 0, ent := (0, 0) } = en at *
      have il := insE_len m en.ent
      refine brS_of (fun d => brS_of (fun g => ?_) fun g => ?_) fun d => ?_
      · have g : 0 < m.length := by have := of_decide_eq_true g; omega
        refine ⟨by omega, by omega, by omega, by omega, fun z ez => ?_⟩
        obtain ⟨z0, z1⟩ := mod_rng (by omega) ez
        have hz : m.getD z.toNat (0, 0) ∈ m := by
          rw [List.getD_eq_getElem?_getD, List.getElem?_eq_getElem (by omega)]; exact List.getElem_mem _
        have fl := flt_len (p := neK (m.getD z.toNat (0, 0)).fst) (l := m)
        refine ⟨z0, z1, _, ty, (m.getD z.toNat (0, 0)).snd, up, by rw [ly, getE_fnd, am.fnd_self hz]; rfl, f1, fun S2 j tr => ⟨by omega, ⟨i, S2, y, j, outE m (m.getD z.toNat (0, 0)).fst (m.getD z.toNat (0, 0)).fst, ?_⟩, ?_⟩⟩
        · rw [ly] at tr
          rw [outE_flt]
          exact ed_step hm1 c tr (by omega) (by omega) (flt_asc am) (kin_flt km) (by omega)
        · (repeat' first | exact trivial | exact rfl | refine And.intro ?_ ?_)
      all_goals
        refine ⟨by omega, by omega, _, ty, up, f2, fun S2 j o eo tr => ⟨by omega, by omega, by omega, ⟨i, S2, y, j, insE m en.ent, ?_⟩, ?_⟩⟩
        · rw [ly] at tr
          exact ed_step hm1 c tr (by omega) (by omega) (insE_asc _ am) (kin_ins am km hen) (by omega)
        · (repeat' first | exact trivial | exact rfl | refine And.intro ?_ ?_)
    · have cl : i < ed.length := by have := of_decide_eq_true c; omega
      have c8 : i < 8 := by have := of_decide_eq_true c8; omega
      have c := hnx i cl c8
      obtain ⟨i2, S2, y, z, m, hi2, am, km, lm, g, tz⟩ := x4
      have q : (i : Int) = i2 := q
      obtain rfl : i = i2 := by omega
      dsimp only
      have w' : Wf S2 (y :: z :: hs) := g.wf.perm (List.Perm.swap _ _ _)
      refine ⟨_, w', fun S3 _ w3 kp => ⟨⟨i + 1, S3, z, m, ed_rel ⟨hi2, am, km, lm, g, tz⟩ w3 kp⟩, trivial, ?_, by show n - (i + 1) < n - i; omega⟩⟩
      (repeat' first | exact trivial | exact rfl | refine And.intro ?_ ?_)
      exact congrArg (Value.int .i64) (show IntKind.i64.wrap ((i : Int) + 1) = ((i + 1 : Nat) : Int) by rw [wrap_id (by omega) (by omega)]; omega)
theorem s_ed : SoundT C0 24 tEd := by
  refine .ofW W7 Tryz.func24 (by decide) rfl fun args H K h hB => ?_
  unfold tEd at h
  split at h <;> try exact h.elim
  unfold arMr at h
  split at h <;> try exact h.elim
  split at h <;> try exact h.elim
  rename_i x _ rd fr nd ct us gn rl _ l ed
  obtain ⟨hs, I, h1, h2, h3⟩ := h
  exact ⟨aEd (PE1 ⟨us, gn, rl, fr, nd, ct, rd⟩ hs l (min ed.length 8) I) (PE2 ⟨us, gn, rl, fr, nd, ct, rd⟩ hs l (min ed.length 8) I) l ed, ⟨frame C0.ok s_retL _, frame C0.ok s_mod _, frame C0.ok s_upDe _, frame C0.ok s_del _, frame C0.ok s_upIn _, frame C0.ok s_ins _, frame C0.ok s_rel _, trivial⟩, vc_ed ⟨us, gn, rl, fr, nd, ct, rd⟩ x l ed K hs I h1 h2 h3⟩
abbrev chFk (raw : List Ent) (e1 e2 : List EdtT) (lb lo lt : List Ent) (S : Arn) : List (Chunk C0) := [.row false EC.ent raw, .row false EC.edm e1, .row false EC.edm e2, .box [.ptr 7 0, .slc 8, .slc 9, vU64 S.reads], .row false EC.ent lb, .row false EC.ent lo, .row false EC.ent lt, .box [.slc 10, .slc 11, .slc 12, vU S.fresh], .row true EC.node S.nodes, .row true EC.int S.counts, .row true EC.bool S.used, .row true EC.u32 S.gen, .row true EC.u32 S.rel]
def tFk : Tfm C0 := fun args H K => match args, H with
  | [.at (.slc 0), .at (.val (.int .u64 t)), .at (.slc 1), .at (.slc 2), .at (.val (.int .i64 sp))], [.row false .ent raw, .row false .edm e1, .row false .edm e2] => 0 ≤ t ∧ 0 ≤ sp ∧ sp ≤ 20000 ∧ Kin raw ∧ KinD e1 ∧ KinD e2 ∧
    ∀ S b o t lo lt, FkR S b o t (listE raw 60) lo lt sp → K (.tup [.agg [.ptr 3 0, vU b, vU o, vU t, .slc 4, .slc 5, .slc 6], .at (vB true)]) (chFk raw e1 e2 (listE raw 60) lo lt S) []
  | _, _ => False
def PF0 (B : List Ent) (I : Nat) (sp : Int) : Arn → Int → Prop := fun S b => Hld S [(b, B)] ∧ S.reads = 0 ∧ (18 * I : Nat) + sp ≤ S.free ∧ S.cap = B.length + (18 * I : Nat) + sp
def PF1 (B : List Ent) (I : Nat) (sp : Int) : Arn → Int → Int → List Ent → Prop := fun S b o lo => Hld S [(o, lo), (b, B)] ∧ lo.length ≤ 68 ∧ S.reads ≤ 8000 ∧ (10 * I : Nat) + sp ≤ S.free ∧ S.cap = B.length + (18 * I : Nat) + sp
def PF2 (B : List Ent) (sp : Int) : Arn → Int → Int → Int → List Ent → List Ent → Prop := fun S b o t lo lt => FkR S b o t B lo lt sp
theorem fk_ed {S : Arn} {E : List (Int × List Ent)} {b : Int} {B : List Ent} {ed : List EdtT} {I : Nat} (h : Hld S E) (hb : (b, B) ∈ E) (hE : E.length ≤ 100) (kd : KinD ed) (lb : B.length ≤ 60) (rd : S.reads ≤ 1000000) (i4 : (I : Int) = 4 * (Hn ((B.length + 9 : Nat) : Int) + 2)) (fr : ((8 * I : Nat) : Int) ≤ S.free) : EdM S (E.map Prod.fst) b B ed I := by
  have h13 := Hn_104 (n := B.length + 9) (by omega)
  exact ⟨h.wf, h.rep _ hb, h.asc _ hb, h.kin _ hb, kd, lb, by simp; omega, rd, by omega, by omega, fr⟩
theorem vc_fk (raw : List Ent) (e1 e2 : List EdtT) (t sp : Int) (K : KT) (h0 : 0 ≤ t) (s0 : 0 ≤ sp) (s1 : sp ≤ 20000) (hk : Kin raw) (k1 : KinD e1) (k2 : KinD e2)
    (h : ∀ S b o t lo lt, FkR S b o t (listE raw 60) lo lt sp → K (.tup [.agg [.ptr 3 0, vU b, vU o, vU t, .slc 4, .slc 5, .slc 6], .at (vB true)]) (chFk raw e1 e2 (listE raw 60) lo lt S) []) :
    vc C0 (aFk (PF0 (listE raw 60) (4 * (Hn (((listE raw 60).length + 9 : Nat) : Int) + 2)).toNat sp) (PF1 (listE raw 60) (4 * (Hn (((listE raw 60).length + 9 : Nat) : Int) + 2)).toNat sp) (PF2 (listE raw 60) sp) raw (listE raw 60) e1 e2) Tryz.f4 [.at (.slc 0), .at (vU64 t), .at (.slc 1), .at (.slc 2), .at (vI sp)] [.row false EC.ent raw, .row false EC.edm e1, .row false EC.edm e2] (normK 3 K) := by
  obtain ⟨la, ll⟩ := listE_spec raw 60
  have kB : Kin (listE raw 60) := fun x hx => hk x (listE_sub raw 60 x hx)
  have h13 := Hn_104 (n := (listE raw 60).length + 9) (by omega)
  have hr := Hn_rng (((listE raw 60).length + 9 : Nat) : Int)
  generalize hI : (4 * (Hn (((listE raw 60).length + 9 : Nat) : Int) + 2)).toNat = I
  have hII : (I : Int) = 4 * (Hn (((listE raw 60).length + 9 : Nat) : Int) + 2) := by omega
  clear hI
  generalize hP0 : PF0 (listE raw 60) I sp = P0
  generalize hP1 : PF1 (listE raw 60) I sp = P1
  generalize hP2 : PF2 (listE raw 60) sp = P2
  refine Eq.mp (show (((0 : Int) ≤ 60) ∧
((60 : Int) ≤ 1000000) ∧
(0 ≤ IntKind.i64.wrap ((↑(listE raw (Int.toNat 60)).length : Int) + 8)) ∧
(IntKind.i64.wrap ((↑(listE raw (Int.toNat 60)).length : Int) + 8) ≤ 65536) ∧
(∀ p : Int, (((p) = (4 * (Hn (IntKind.i64.wrap ((↑(listE raw (Int.toNat 60)).length : Int) + 8) + 1) + 2))) → ((0 ≤ t) ∧ (1 ≤ IntKind.i64.wrap (IntKind.i64.wrap (18 * p) + sp)) ∧ (IntKind.i64.wrap (IntKind.i64.wrap (18 * p) + sp) ≤ 30000) ∧ ((listE raw (Int.toNat 60)).length ≤ 30000) ∧ (∀ S' : Arn, (∀ i : Int, ((PlantR (newS ((↑(listE raw (Int.toNat 60)).length : Int) + IntKind.i64.wrap (IntKind.i64.wrap (18 * p) + sp)).toNat) [] (listE raw (Int.toNat 60)) S' i) → ((∃ x : XF0 P0, (True ∧ (True ∧ True ∧ True ∧ True ∧ True ∧ ((Value.int IntKind.u32 (i)) = (Value.int IntKind.u32 (x.b))) ∧ True) ∧ ((raw) = (raw)) ∧ ((e1) = (e1)) ∧ ((e2) = (e2)) ∧ (True ∧ True ∧ True ∧ ((Value.int IntKind.u64 (S'.reads)) = (Value.int IntKind.u64 (x.S.reads))) ∧ True) ∧ (True ∧ True ∧ True ∧ ((Value.int IntKind.u32 (S'.fresh)) = (Value.int IntKind.u32 (x.S.fresh))) ∧ True) ∧ ((S'.nodes) = (x.S.nodes)) ∧ ((S'.counts) = (x.S.counts)) ∧ ((S'.used) = (x.S.used)) ∧ ((S'.gen) = (x.S.gen)) ∧ ((S'.rel) = (x.S.rel)) ∧ ((listE raw (Int.toNat 60)) = (listE raw 60)) ∧ (((Value.pointer none) = (Value.pointer none)) ∧ ((Value.int IntKind.u32 0) = (Value.int IntKind.u32 0)) ∧ ((Value.int IntKind.u32 0) = (Value.int IntKind.u32 0)) ∧ ((Value.int IntKind.u32 0) = (Value.int IntKind.u32 0)) ∧ True ∧ True ∧ True ∧ True) ∧
    ((([] : List Ent) = [])) ∧ ((([] : List Ent) = [])) ∧ ((([] : List Ent) = [])) ∧ True)) ∧ (∀ x : XF0 P0, (True → ((∃ hs : List Int, (∃ I : Nat, ((EdM x.S hs x.b (listE raw 60) e1 I) ∧ (((e1.length) = 0) → (∀ S'1 : Arn, ((TrR x.S hs (listE raw 60) (8 * I) 8000 S'1 x.b) → (∃ x1 : XF1 P1, (True ∧ (True ∧ True ∧ True ∧ True ∧ ((Value.int IntKind.u32 (x.b)) = (Value.int IntKind.u32 (x1.b))) ∧ ((Value.int IntKind.u32 (x.b)) = (Value.int IntKind.u32 (x1.o))) ∧ True ∧ ((Value.bool true) = (Value.bool true)) ∧ True) ∧ ((raw) = (raw)) ∧ ((e1) = (e1)) ∧ ((e2) = (e2)) ∧ (True ∧ True ∧ True ∧ ((Value.int IntKind.u64 (S'1.reads)) = (Value.int IntKind.u64 (x1.S.reads))) ∧ True) ∧ (True ∧ True ∧ True ∧ ((Value.int IntKind.u32 (S'1.fresh)) = (Value.int IntKind.u32 (x1.S.fresh))) ∧ True) ∧ ((S'1.nodes) = (x1.S.nodes)) ∧ ((S'1.counts) = (x1.S.counts)) ∧ ((S'1.used) = (x1.S.used)) ∧ ((S'1.gen) = (x1.S.gen)) ∧ ((S'1.rel) = (x1.S.rel)) ∧ ((listE raw 60) = (listE raw 60)) ∧ (((Value.pointer none) = (Value.pointer none)) ∧ ((Value.int IntKind.u32 0) = (Value.int IntKind.u32 0)) ∧ ((Value.int IntKind.u32 0) = (Value.int IntKind.u32 0)) ∧ ((Value.int IntKind.u32 0) = (Value.int IntKind.u32 0)) ∧ True ∧ True ∧ True ∧ True) ∧ ((([] : List Ent) = [])) ∧ ((([] : List Ent) = [])) ∧ ((([] : List Ent) = [])) ∧ ((listE raw 60) = (x1.lo)) ∧ True))))) ∧ (∀ S'1 : Arn, (∀ y : Int, (∀ m : List Ent, ((TrR x.S hs m (8 * I) 8000 S'1 y) → ((Asc m) → ((Kin m) → ((m.length ≤ (listE raw 60).length + 8) → (∃ x1 : XF1 P1,
    (True ∧ (True ∧ True ∧ True ∧ True ∧ ((Value.int IntKind.u32 (x.b)) = (Value.int IntKind.u32 (x1.b))) ∧ ((Value.int IntKind.u32 (y)) = (Value.int IntKind.u32 (x1.o))) ∧ True ∧ ((Value.bool true) = (Value.bool true)) ∧ True) ∧ ((raw) = (raw)) ∧ ((e1) = (e1)) ∧ ((e2) = (e2)) ∧ (True ∧ True ∧ True ∧ ((Value.int IntKind.u64 (S'1.reads)) = (Value.int IntKind.u64 (x1.S.reads))) ∧ True) ∧ (True ∧ True ∧ True ∧ ((Value.int IntKind.u32 (S'1.fresh)) = (Value.int IntKind.u32 (x1.S.fresh))) ∧ True) ∧ ((S'1.nodes) = (x1.S.nodes)) ∧ ((S'1.counts) = (x1.S.counts)) ∧ ((S'1.used) = (x1.S.used)) ∧ ((S'1.gen) = (x1.S.gen)) ∧ ((S'1.rel) = (x1.S.rel)) ∧ ((listE raw 60) = (listE raw 60)) ∧ (((Value.pointer none) = (Value.pointer none)) ∧ ((Value.int IntKind.u32 0) = (Value.int IntKind.u32 0)) ∧ ((Value.int IntKind.u32 0) = (Value.int IntKind.u32 0)) ∧ ((Value.int IntKind.u32 0) = (Value.int IntKind.u32 0)) ∧ True ∧ True ∧ True ∧ True) ∧ ((([] : List Ent) = [])) ∧ ((([] : List Ent) = [])) ∧ ((([] : List Ent) = [])) ∧ ((m) = (x1.lo)) ∧ True)))))))))))) ∧ (∀ x1 : XF1 P1, (True → ((∃ hs : List Int, (∃ I : Nat, ((EdM x1.S hs x1.b (listE raw 60) e2 I) ∧ (((e2.length) = 0) → (∀ S'1 : Arn, ((TrR x1.S hs (listE raw 60) (8 * I) 8000 S'1 x1.b) → (∃ x2 : XF2 P2, (True ∧ (True ∧ True ∧ True ∧ ((Value.int IntKind.u32 (x1.b)) = (Value.int IntKind.u32 (x2.b))) ∧ ((Value.int IntKind.u32 (x1.o)) = (Value.int IntKind.u32 (x2.o))) ∧ True ∧ ((Value.bool true) = (Value.bool true)) ∧
    ((Value.int IntKind.u32 (x1.b)) = (Value.int IntKind.u32 (x2.t))) ∧ True ∧ ((Value.bool true) = (Value.bool true)) ∧ True) ∧ ((raw) = (raw)) ∧ ((e1) = (e1)) ∧ ((e2) = (e2)) ∧ (True ∧ True ∧ True ∧ ((Value.int IntKind.u64 (S'1.reads)) = (Value.int IntKind.u64 (x2.S.reads))) ∧ True) ∧ (True ∧ True ∧ True ∧ ((Value.int IntKind.u32 (S'1.fresh)) = (Value.int IntKind.u32 (x2.S.fresh))) ∧ True) ∧ ((S'1.nodes) = (x2.S.nodes)) ∧ ((S'1.counts) = (x2.S.counts)) ∧ ((S'1.used) = (x2.S.used)) ∧ ((S'1.gen) = (x2.S.gen)) ∧ ((S'1.rel) = (x2.S.rel)) ∧ ((listE raw 60) = (listE raw 60)) ∧ (((Value.pointer none) = (Value.pointer none)) ∧ ((Value.int IntKind.u32 0) = (Value.int IntKind.u32 0)) ∧ ((Value.int IntKind.u32 0) = (Value.int IntKind.u32 0)) ∧ ((Value.int IntKind.u32 0) = (Value.int IntKind.u32 0)) ∧ True ∧ True ∧ True ∧ True) ∧ ((([] : List Ent) = [])) ∧ ((([] : List Ent) = [])) ∧ ((([] : List Ent) = [])) ∧ ((x1.lo) = (x2.lo)) ∧ ((listE raw 60) = (x2.lt)) ∧ True))))) ∧ (∀ S'1 : Arn, (∀ y : Int, (∀ m : List Ent, ((TrR x1.S hs m (8 * I) 8000 S'1 y) → ((Asc m) → ((Kin m) → ((m.length ≤ (listE raw 60).length + 8) → (∃ x2 : XF2 P2, (True ∧ (True ∧ True ∧ True ∧ ((Value.int IntKind.u32 (x1.b)) = (Value.int IntKind.u32 (x2.b))) ∧ ((Value.int IntKind.u32 (x1.o)) = (Value.int IntKind.u32 (x2.o))) ∧ True ∧ ((Value.bool true) = (Value.bool true)) ∧ ((Value.int IntKind.u32 (y)) = (Value.int IntKind.u32 (x2.t))) ∧ True ∧ ((Value.bool true) = (Value.bool true)) ∧ True) ∧ ((raw) = (raw)) ∧
    ((e1) = (e1)) ∧ ((e2) = (e2)) ∧ (True ∧ True ∧ True ∧ ((Value.int IntKind.u64 (S'1.reads)) = (Value.int IntKind.u64 (x2.S.reads))) ∧ True) ∧ (True ∧ True ∧ True ∧ ((Value.int IntKind.u32 (S'1.fresh)) = (Value.int IntKind.u32 (x2.S.fresh))) ∧ True) ∧ ((S'1.nodes) = (x2.S.nodes)) ∧ ((S'1.counts) = (x2.S.counts)) ∧ ((S'1.used) = (x2.S.used)) ∧ ((S'1.gen) = (x2.S.gen)) ∧ ((S'1.rel) = (x2.S.rel)) ∧ ((listE raw 60) = (listE raw 60)) ∧ (((Value.pointer none) = (Value.pointer none)) ∧ ((Value.int IntKind.u32 0) = (Value.int IntKind.u32 0)) ∧ ((Value.int IntKind.u32 0) = (Value.int IntKind.u32 0)) ∧ ((Value.int IntKind.u32 0) = (Value.int IntKind.u32 0)) ∧ True ∧ True ∧ True ∧ True) ∧ ((([] : List Ent) = [])) ∧ ((([] : List Ent) = [])) ∧ ((([] : List Ent) = [])) ∧ ((x1.lo) = (x2.lo)) ∧ ((m) = (x2.lt)) ∧ True)))))))))))) ∧ (∀ x2 : XF2 P2, (True →
    (K (SV.tup [(TV.agg [(At.ptr 3 0), (At.val (Value.int IntKind.u32 (x2.b))), (At.val (Value.int IntKind.u32 (x2.o))), (At.val (Value.int IntKind.u32 (x2.t))), (At.slc 4), (At.slc 5), (At.slc 6)]), (TV.at (At.val (Value.bool true)))]) [(Chunk.row false (EC.ent) (raw)), (Chunk.row false (EC.edm) (e1)), (Chunk.row false (EC.edm) (e2)), (Chunk.box [(At.ptr 7 0), (At.slc 8), (At.slc 9), (At.val (Value.int IntKind.u64 (x2.S.reads)))]), (Chunk.row false (EC.ent) (listE raw 60)), (Chunk.row false (EC.ent) (x2.lo)), (Chunk.row false (EC.ent) (x2.lt)), (Chunk.box [(At.slc 10), (At.slc 11), (At.slc 12), (At.val (Value.int IntKind.u32 (x2.S.fresh)))]), (Chunk.row true (EC.node) (x2.S.nodes)), (Chunk.row true (EC.int) (x2.S.counts)), (Chunk.row true (EC.bool) (x2.S.used)), (Chunk.row true (EC.u32) (x2.S.gen)), (Chunk.row true (EC.u32) (x2.S.rel))] []))))))))))))))))) = _ by kernel_rfl) ?_
  subst hP0 hP1 hP2
  have e60 : Int.toNat 60 = 60 := rfl
  rw [e60]
  generalize listE raw 60 = B at *
  rw [wrap_id (x := (B.length : Int) + 8) (by omega) (by omega)]
  refine ⟨by decide, by decide, by omega, by omega, fun p ep => ?_⟩
  have ep : p = (I : Int) := by rw [ep, hII, show ((B.length + 9 : Nat) : Int) = (B.length : Int) + 8 + 1 by omega]
  subst ep
  rw [wrap_id (x := 18 * (I : Int)) (by omega) (by omega), wrap_id (x := 18 * (I : Int) + sp) (by omega) (by omega)]
  refine ⟨h0, by omega, by omega, by omega, fun S1 b hp => ⟨⟨⟨S1, b, ?_⟩, ?_⟩, fun x0 _ => ?_⟩⟩
  · obtain ⟨t1, up, lt, zt⟩ := plant_up hp la (by omega)
    have fr := plant_free hp
    have cp : S1.cap = (B.length : Int) + (18 * (I : Int) + sp) := by
      have := cap_len hp.len
      rw [this, cap_new]; omega
    refine ⟨⟨up.1, ?_, ?_, ?_⟩, by rw [hp.rds]; rfl, by omega, by omega⟩
    · intro q hq; simp at hq; subst hq; exact ⟨t1, up.2.1, lt, up.2.2.1⟩
    · intro q hq; simp at hq; subst hq; exact la
    · intro q hq; simp at hq; subst hq; exact kB
  · (repeat' first | exact trivial | exact rfl | refine And.intro ?_ ?_)
  obtain ⟨S, b, hh, rd, fr, cp⟩ := x0
  dsimp only
  have i8 : 8 ≤ I := by omega
  refine ⟨⟨_, I, fk_ed (I := I) (ed := e1) hh (List.mem_cons_self ..) (by simp) k1 (by omega) (by omega) hII (by omega), fun _ S2 tr => ⟨⟨S2, b, b, B, ?_⟩, ?_⟩, fun S2 o lo tr am km lm => ⟨⟨S2, b, o, lo, ?_⟩, ?_⟩⟩, fun x1 _ => ?_⟩
  · have f := tr.got.free hh.wf
    have q := tr.got.rd
    exact ⟨hh.step tr la kB, by omega, by omega, by omega, by rw [tr_cap tr]; exact cp⟩
  · (repeat' first | exact trivial | exact rfl | refine And.intro ?_ ?_)
  · have f := tr.got.free hh.wf
    have q := tr.got.rd
    exact ⟨hh.step tr am km, by omega, by omega, by omega, by rw [tr_cap tr]; exact cp⟩
  · (repeat' first | exact trivial | exact rfl | refine And.intro ?_ ?_)
  clear hh rd fr cp b S
  obtain ⟨S, b, o, lo, hh, lo68, rd, fr, cp⟩ := x1
  dsimp only
  refine ⟨⟨_, I, fk_ed (I := I) (ed := e2) hh (b := b) (B := B) (by simp) (by simp) k2 (by omega) (by omega) hII (by omega), fun _ S2 tr => ⟨⟨S2, b, o, b, lo, B, ?_⟩, ?_⟩, fun S2 t lt tr am km lm => ⟨⟨S2, b, o, t, lo, lt, ?_⟩, ?_⟩⟩, fun x2 _ => ?_⟩
  · have f := tr.got.free hh.wf
    have q := tr.got.rd
    exact ⟨hh.step tr la kB, by omega, by omega, by omega, by omega, by omega, by rw [tr_cap tr]; omega, by rw [tr_cap tr]; omega⟩
  · (repeat' first | exact trivial | exact rfl | refine And.intro ?_ ?_)
  · have f := tr.got.free hh.wf
    have q := tr.got.rd
    exact ⟨hh.step tr am km, by omega, by omega, by omega, by omega, by omega, by rw [tr_cap tr]; omega, by rw [tr_cap tr]; omega⟩
  · (repeat' first | exact trivial | exact rfl | refine And.intro ?_ ?_)
  · exact h x2.S x2.b x2.o x2.t x2.lo x2.lt x2.h
theorem s_fk : SoundT C0 4 tFk := by
  refine .of Tryz.func4 (by decide) rfl fun args H K h hB => ?_
  unfold tFk at h
  split at h <;> try exact h.elim
  rename_i t sp raw e1 e2
  refine ⟨_, ?_, vc_fk raw e1 e2 t sp K h.1 h.2.1 h.2.2.1 h.2.2.2.1 h.2.2.2.2.1 h.2.2.2.2.2.1 h.2.2.2.2.2.2⟩
  exact ⟨frame C0.ok s_lst _, frame C0.ok s_nIns _, frame C0.ok s_grow _, frame C0.ok s_ed _, trivial⟩
theorem merge_triv {lb lo lt : List Ent} (hb : Asc lb) (ho : Asc lo) (ht : Asc lt) (pol : Int) : (lb = lo → mergeE lb lo lt pol = lt) ∧ (lb = lt → mergeE lb lo lt pol = lo) ∧ (lo = lt → mergeE lb lo lt pol = lo) := by
  refine ⟨fun e => Asc.ext (mergeE_asc ..) ht fun k => ?_, fun e => Asc.ext (mergeE_asc ..) ho fun k => ?_, fun e => Asc.ext (mergeE_asc ..) ho fun k => ?_⟩
  all_goals rw [mergeE_get]; unfold mergedO
  · subst e
    by_cases c : getE lb k = getE lt k
    · rw [if_pos (.inl c)]; exact c
    · rw [if_neg (fun d => d.elim c c), if_pos rfl]
  · subst e; rw [if_pos (.inr rfl)]
  · subst e; rw [if_pos (.inl rfl)]
theorem s_mgK : SoundT C0 11 tMgK := s_mg.weak fun args H K h => by
  unfold tMgK at h
  unfold tMg
  split at h <;> try exact h.elim
  unfold arM at h ⊢
  split at h <;> try exact h.elim
  rename_i b o t pol _ rd fr nd ct us gn rl
  obtain ⟨hs, tb, to, tt, hm, p1, p2, hf, hc, h⟩ := h
  refine ⟨hs, tb, to, tt, hm, fun S' i c e r => ?_⟩
  have h0 := hm.wf.us0 (Int.le_refl 0)
  have hrd := hm.rd
  have hl := hm.hl
  rcases r with ⟨a, _⟩ | ⟨_, a, b1, b2, b3, b4⟩ | ⟨_, _, a, _⟩ | ⟨_, _, _, a, _⟩ | ⟨_, _, _, _, b1, b2, b3⟩
  · exact absurd ⟨p1, p2⟩ a
  · rw [b1, b3]
    refine h S' i [] (conf_triv hm a).symm ?_
    have mt := merge_triv hm.ab hm.ao hm.at_ pol
    rw [b2] at b4 ⊢
    unfold trivI at b4 ⊢
    split at b4
    · rename_i q
      have r := hm.ro; rw [← q] at r
      rw [if_pos q]
      exact hold_tr (m := 0) hm.wf hm.rt hm.bt (by omega) (by omega) (by rw [b4, rdS_zero]) (by omega) (mt.1 (by rw [r.inj h0 hm.rb])).symm
    · rename_i q
      rw [if_neg q]
      refine hold_tr (m := 0) hm.wf hm.ro hm.bo (by omega) (by omega) (by rw [b4, rdS_zero]) (by omega) ?_
      rcases a with e | e | e
      · exact absurd e q
      · have r := hm.rt; rw [← e] at r
        exact (mt.2.1 (by rw [r.inj h0 hm.rb])).symm
      · have r := hm.rt; rw [← e] at r
        exact (mt.2.2 (by rw [r.inj h0 hm.ro])).symm
  · omega
  · exact absurd (hc a.1) a.2
  · rw [b1]; exact h S' i c b2 b3
theorem Hld.mg {S : Arn} {E : List (Int × List Ent)} {b o t : Int} {lb lo lt : List Ent} (e : Hld S E) (hb : (b, lb) ∈ E) (ho : (o, lo) ∈ E) (ht : (t, lt) ∈ E) (l1 : lb.length ≤ 30000) (l2 : lo.length ≤ 30000) (l3 : lt.length ≤ 30000) (he : E.length ≤ 900000) (hr : S.reads ≤ 500000000000000000) :
    ∃ tb to tt, MgM S (E.map Prod.fst) tb to tt b o t ∧ tb.list = lb ∧ to.list = lo ∧ tt.list = lt ∧ needM tb to tt = (lb.length : Int) + lo.length + lt.length + 12 * (Hn ((lb.length : Int) + lo.length + lt.length) + 2) := by
  obtain ⟨tb, rb, eb, bb⟩ := e.rep _ hb
  obtain ⟨to, ro, eo, bo⟩ := e.rep _ ho
  obtain ⟨tt, rt, et, bt⟩ := e.rep _ ht
  have eb : tb.list = lb := eb
  have eo : to.list = lo := eo
  have et : tt.list = lt := et
  have zb : tb.size = lb.length := by rw [← tb.list_len, eb]
  have zo : to.size = lo.length := by rw [← to.list_len, eo]
  have zt : tt.size = lt.length := by rw [← tt.list_len, et]
  refine ⟨tb, to, tt, ⟨e.wf, rb, ro, rt, bb, bo, bt, by rw [eb]; exact e.asc _ hb, by rw [eo]; exact e.asc _ ho, by rw [et]; exact e.asc _ ht, by rw [eb]; exact e.kin _ hb, by rw [eo]; exact e.kin _ ho, by rw [et]; exact e.kin _ ht, by omega, by omega, by omega, by simpa using he, hr⟩, eb, eo, et, by unfold needM; rw [zb, zo, zt]⟩
theorem kin_lit {l : List Ent} (h : l.all (fun x => decide (-9223372036854775808 ≤ x.1) && decide (x.1 ≤ 9223372036854775807)) = true) : Kin l := fun x hx => by
  have := List.all_eq_true.1 h x hx
  simpa using this
theorem ce20 : confE [((1 : Int), (10 : Int))] [(1, 11)] [(1, 10), (2, 20)] = [] := by decide
theorem me20 : mergeE [((1 : Int), (10 : Int))] [(1, 11)] [(1, 10), (2, 20)] 3 = [(1, 11), (2, 20)] := by decide
theorem vc_aw20 (K : KT) (h : K (.one (.at (vB true))) [] []) : vc C0 aAw20 Tryz.f5 [] [] (normK 0 K) := by
  refine Eq.mp (show ((((300 : Int) < 1 ∨ (65536 : Int) < 300) →
(K (SV.one (TV.at (At.val (Value.bool false)))) [] [])) ∧
(((1 : Int) ≤ 300) →
(((300 : Int) ≤ 65536) →
(∀ S : Arn, (((S) = (newS (Int.toNat 300))) → (∃ hs : List Int, ((Wf S hs) ∧ (Asc ([(1, 10)] : List Ent)) ∧ (([(1, 10)] : List Ent).length ≤ 60000) ∧ (hs.length ≤ 900000) ∧ ((↑([(1, 10)] : List Ent).length : Int) ≤ S.free) ∧ (S.reads ≤ 900000000000000000) ∧ (∀ S' : Arn, (∀ i : Int, ((TrR S hs ([(1, 10)] : List Ent) 65537 0 S' i) → (∃ hs1 : List Int, ((Wf S' hs1) ∧ (Asc ([(1, 11)] : List Ent)) ∧ (([(1, 11)] : List Ent).length ≤ 60000) ∧ (hs1.length ≤ 900000) ∧ ((↑([(1, 11)] : List Ent).length : Int) ≤ S'.free) ∧ (S'.reads ≤ 900000000000000000) ∧ (∀ S'1 : Arn, (∀ i1 : Int, ((TrR S' hs1 ([(1, 11)] : List Ent) 65537 0 S'1 i1) → (∃ hs2 : List Int, ((Wf S'1 hs2) ∧ (Asc ([(1, 10), (2, 20)] : List Ent)) ∧ (([(1, 10), (2, 20)] : List Ent).length ≤ 60000) ∧ (hs2.length ≤ 900000) ∧ ((↑([(1, 10), (2, 20)] : List Ent).length : Int) ≤ S'1.free) ∧ (S'1.reads ≤ 900000000000000000) ∧ (∀ S'2 : Arn, (∀ i2 : Int, ((TrR S'1 hs2 ([(1, 10), (2, 20)] : List Ent) 65537 0 S'2 i2) → (∃ hs3 : List Int, (∃ tb : Tr, (∃ to : Tr, (∃ tt : Tr, ((MgM S'2 hs3 tb to tt i i1 i2) ∧ ((1 : Int) ≤ 3) ∧ ((3 : Int) ≤ 4) ∧ (needM tb to tt ≤ S'2.free) ∧ (((3 : Int) = 3) → ((confE tb.list to.list tt.list) = [])) ∧ (∀ S'3 : Arn, (∀ i3 : Int, (∀ c : List Int, (((c) = (confE tb.list to.list tt.list)) → ((TrR S'2 hs3 (mergeE tb.list to.list tt.list 3) 65537 2000000000 S'3 i3) →
    (∃ hs4 : List Int, (∃ t : Tr, ((Wf S'3 hs4) ∧ (Rep S'3 t i3) ∧ (Asc t.list) ∧ (t.size ≤ 1000000) ∧ (S'3.reads + (↑t.size : Int) ≤ 3000000000000000000) ∧ (∀ S'4 : Arn, (∀ m : Nat, (∀ o : Option Int, (((S'4) = (rdS S'3 m)) → ((m ≤ ht t) → (((o) = (getE t.list 1)) → (brS ((↑c.length : Int) == 0) ((brS (o.isSome) ((brS (o.getD 0 == 11) (((inU i3) ∧ (exW S'4) ∧ (S'4.reads < 4000000000000000000) ∧ (∀ S'5 : Arn, (((S'5) = (rdS S'4 (S'4.us i3).toNat)) → (K (SV.one (TV.at (At.val (Value.bool ((S'4.nd i3).size == 2))))) [] []))))) ((K (SV.one (TV.at (At.val (Value.bool false)))) [] [])))) ((K (SV.one (TV.at (At.val (Value.bool false)))) [] [])))) ((K (SV.one (TV.at (At.val (Value.bool false)))) [] [])))))))))))))))))))))))))))))))))))))))))) = _ by kernel_rfl) ?_
  refine ⟨fun c => by omega, fun _ _ S0 e => ?_⟩
  have e5 : Int.toNat 300 = 300 := rfl
  rw [e5] at e
  have h0 : Hld S0 [] := by rw [e]; exact Hld.new (by omega) (by omega)
  have c0 : S0.cap = 300 := by rw [e]; exact cap_new 300
  have r0 : S0.reads = 0 := by rw [e]; rfl
  clear e
  have f0 := h0.room
  simp only [sumL_nil] at f0
  refine ⟨_, h0.wf, by decide, by decide, by simp, by simp; omega, by omega, fun S1 b t1 => ?_⟩
  have h1 := h0.step t1 (by decide) (kin_lit rfl)
  have c1 := tr_cap t1
  have r1 := t1.got.rd
  have f1 := h1.room
  simp only [sumL_nil, sumL_cons] at f1
  refine ⟨_, h1.wf, by decide, by decide, by simp, by simp at f1 ⊢; omega, by omega, fun S2 o t2 => ?_⟩
  have h2 := h1.step t2 (by decide) (kin_lit rfl)
  have c2 := tr_cap t2
  have r2 := t2.got.rd
  have f2 := h2.room
  simp only [sumL_nil, sumL_cons] at f2
  refine ⟨_, h2.wf, by decide, by decide, by simp, by simp at f2 ⊢; omega, by omega, fun S3 t t3 => ?_⟩
  have h3 := h2.step t3 (by decide) (kin_lit rfl)
  have c3 := tr_cap t3
  have r3 := t3.got.rd
  have f3 := h3.room
  simp only [sumL_nil, sumL_cons] at f3
  obtain ⟨tb, to, tt, hm, eb, eo, et, nm⟩ := h3.mg (b := b) (o := o) (t := t) (lb := [(1, 10)]) (lo := [(1, 11)]) (lt := [(1, 10), (2, 20)]) (by simp) (by simp) (by simp) (by decide) (by decide) (by decide) (by simp) (by omega)
  have n2 : needM tb to tt ≤ S3.free := by
    have e : needM tb to tt = 4 + 12 * (Hn 4 + 2) := by rw [nm]; rfl
    have e2 : Hn 4 ≤ 4 := by decide
    simp at f3
    omega
  have ce := ce20
  have me := me20
  refine ⟨_, tb, to, tt, hm, by decide, by decide, n2, fun _ => by rw [eb, eo, et]; exact ce, fun S4 m c ec t4 => ?_⟩
  rw [eb, eo, et] at ec t4
  rw [ce] at ec
  rw [me] at t4
  obtain ⟨u, rp, lu, bu⟩ := t4.tree
  have w4 := t4.got.wf
  have r4 := t4.got.rd
  have su : u.size = 2 := by rw [← u.list_len, lu]; rfl
  refine ⟨_, u, w4, rp, by rw [lu]; decide, by omega, by omega, fun S5 m5 o5 e5 b5 eo5 => ?_⟩
  rw [lu] at eo5
  have eo5 : o5 = some 11 := eo5
  have hb := Bal.height bu (by omega)
  have hr := Hn_rng u.size
  have w5 := w4.rd (n := m5) (by omega)
  rw [← e5] at w5
  have rp5 : Rep S5 u m := by rw [e5]; exact rp.rdn
  have r5 : S5.reads = S4.reads + m5 := by rw [e5]; rfl
  refine bt7 (by rw [ec]; rfl) (bt7 (by rw [eo5]; rfl) (bt7 (by rw [eo5]; rfl) ⟨inU_of w5 rp5.us, ⟨_, w5⟩, by omega, fun S6 _ => ?_⟩))
  rw [rp5.size w5, su]
  exact h
theorem s_aw20 : SoundT C0 5 tAw20 := by
  refine .of Tryz.func5 (by decide) rfl fun args H K h hB => ?_
  unfold tAw20 at h
  split at h <;> try exact h.elim
  exact ⟨aAw20, ⟨frame C0.ok s_new _, frame C0.ok s_buildOk _, frame C0.ok s_mgK _, frame C0.ok s_getT _, frame C0.ok s_size _, trivial⟩, vc_aw20 K h⟩
end Go.Proofs.YtbonbaccmlomhaaGreat.Sx
end
section
/- The law MergeConflicts. -/
namespace Go.Proofs.YtbonbaccmlomhaaGreat.Sx
open Go

/-KEEP EdM Wf Kept exW inU live Arn.cap Arn.free Rep rdS retL Tr.size Tr.list Tr.Bal Asc Kin KinD FkR listE TrR Got Hn ht MgM needM confE mergeE sameB slotsOf orderOf PlantR-/
/-- fork, beside two further rows. -/
abbrev zT5 : List (Chunk C0) := [.box [.val (.pointer none), vU 0, vU 0, vU 0, .slc 14, .slc 15, .slc 16], .row true EC.ent [], .row true EC.ent [], .row true EC.ent []]
abbrev hd5 (raw oth thi : List Ent) (e1 e2 : List EdtT) : List (Chunk C0) := [.row false EC.ent raw, .row false EC.ent oth, .row false EC.ent thi, .row false EC.edm e1, .row false EC.edm e2]
noncomputable def aFk5 (P0 : Arn → Int → Prop) (P1 : Arn → Int → Int → List Ent → Prop) (P2 : Arn → Int → Int → Int → List Ent → List Ent → Prop) (raw oth thi B : List Ent) (e1 e2 : List EdtT) : Ann C0 := { trunc := fun n => n = 17 || n = 20, Γ := [(21, frameT [] tLst), (23, frameT [] (tRes1 4 1)), (22, frameT [] tGrow), (24, frameT [] tEd)], inv := fun k => match k with
  | 1005 => some { X := XF0 P0, sl := [10, 12, 13, 14], tf := fun x => [.one (.at (.ptr 13 0)), .one (.at (.slc 12)), .one (.at (.ptr 5 0)), vi .u32 x.b], hf := fun x => hd5 raw oth thi e1 e2 ++ chSk 5 x.S ++ [.row false EC.ent B] ++ zT5 }
  | 1006 => some { X := XF1 P1, sl := [10, 12, 13, 14, 16, 17, 18], tf := fun x => [.one (.at (.ptr 13 0)), .one (.at (.slc 12)), .one (.at (.ptr 5 0)), vi .u32 x.b, vi .u32 x.o, .one (.at (.slc 17)), vb true], hf := fun x => hd5 raw oth thi e1 e2 ++ chSk 5 x.S ++ [.row false EC.ent B] ++ zT5 ++ [.row false EC.ent x.lo] }
  | 1007 => some { X := XF2 P2, sl := [10, 12, 13, 14, 16, 17, 18, 19, 20, 21], tf := fun x => [.one (.at (.ptr 13 0)), .one (.at (.slc 12)), .one (.at (.ptr 5 0)), vi .u32 x.b, vi .u32 x.o, .one (.at (.slc 17)), vb true, vi .u32 x.t, .one (.at (.slc 18)), vb true], hf := fun x => hd5 raw oth thi e1 e2 ++ chSk 5 x.S ++ [.row false EC.ent B] ++ zT5 ++ [.row false EC.ent x.lo, .row false EC.ent x.lt] }
  | _ => none }
def confL (b o t : List Ent) (ks : List Int) : List Int := ks.filter fun k => decide (Cf b o t k)
structure XCf (b o t : List Ent) where
  i : Nat
  h : i ≤ (keys3 b o t).length
structure XCg (b o t : List Ent) where
  i : Nat
  z : Bool
  h : i < (keys3 b o t).length ∧ z = decide (Cf b o t (iA (keys3 b o t) i))
noncomputable def aCf9 (b o t : List Ent) : Ann C0 := { quiet := [45], Γ := [(44, frameT [] tKeys), (45, frameT [] tGet)], inv := fun k => match k with
  | 4 => some { X := XCf b o t, sl := [9, 8, 7], tf := fun x => [vi .i64 x.i, .one (.at (.slc 3)), .one (.at (.slc 4))], hf := fun x => [.row false EC.ent b, .row false EC.ent o, .row false EC.ent t, .row true EC.i64 (keys3 b o t), .row true EC.i64 (confL b o t ((keys3 b o t).take x.i))], μ := fun x => (keys3 b o t).length - x.i }
  | 1010 => some { X := XCg b o t, sl := [9, 8, 7, 83], tf := fun x => [vi .i64 x.i, .one (.at (.slc 3)), .one (.at (.slc 4)), vb x.z], hf := fun x => [.row false EC.ent b, .row false EC.ent o, .row false EC.ent t, .row true EC.i64 (keys3 b o t), .row true EC.i64 (confL b o t ((keys3 b o t).take x.i))], rel := fun T _ x => slotI T 9 x.i }
  | _ => none }
def tCf9 : Tfm C0 := fun args H K => match args, H with
  | [.at (.slc 0), .at (.slc 1), .at (.slc 2)], [.row false .ent b, .row false .ent o, .row false .ent t] => b.length + o.length + t.length ≤ 1000000 ∧ K (.one (.at (.slc 3))) [.row false EC.ent b, .row false EC.ent o, .row false EC.ent t, .row true EC.i64 (confE b o t)] []
  | _, _ => False
abbrev chFk5 (raw oth thi : List Ent) (e1 e2 : List EdtT) (lb lo lt : List Ent) (S : Arn) : List (Chunk C0) := [.row false EC.ent raw, .row false EC.ent oth, .row false EC.ent thi, .row false EC.edm e1, .row false EC.edm e2, .box [.ptr 9 0, .slc 10, .slc 11, vU64 S.reads], .row false EC.ent lb, .row false EC.ent lo, .row false EC.ent lt, .box [.slc 12, .slc 13, .slc 14, vU S.fresh], .row true EC.node S.nodes, .row true EC.int S.counts, .row true EC.bool S.used, .row true EC.u32 S.gen, .row true EC.u32 S.rel]
def tFk5 : Tfm C0 := fun args H K => match args, H with
  | [.at (.slc 0), .at (.val (.int .u64 t)), .at (.slc 3), .at (.slc 4), .at (.val (.int .i64 sp))], [.row false .ent raw, .row false .ent oth, .row false .ent thi, .row false .edm e1, .row false .edm e2] => 0 ≤ t ∧ 0 ≤ sp ∧ sp ≤ 20000 ∧ Kin raw ∧ KinD e1 ∧ KinD e2 ∧
    ∀ S b o t lo lt, FkR S b o t (listE raw 60) lo lt sp → K (.tup [.agg [.ptr 5 0, vU b, vU o, vU t, .slc 6, .slc 7, .slc 8], .at (vB true)]) (chFk5 raw oth thi e1 e2 (listE raw 60) lo lt S) []
  | _, _ => False
theorem confL_snoc (b o t : List Ent) {ks : List Int} {i : Nat} (h : i < ks.length) : confL b o t (ks.take (i + 1)) = confL b o t (ks.take i) ++ (if Cf b o t (iA ks i) then [iA ks i] else []) := by
  unfold confL
  rw [take_snoc (iA_get h), List.filter_append]
  by_cases c : Cf b o t (iA ks i)
  · rw [if_pos c]; simp [c]
  · rw [if_neg c]; simp [c]
theorem confL_len (b o t : List Ent) (ks : List Int) (i : Nat) : (confL b o t (ks.take i)).length ≤ i := Nat.le_trans (List.length_filter_le _ _) (List.length_take_le _ _)
theorem conf_tt {x y z : Option Int} {b o t : List Ent} {k : Int} (e1 : x = getE b k) (e2 : y = getE o k) (e3 : z = getE t k) : (y = z → decide (Cf b o t k) = false) ∧ (x = y → decide (Cf b o t k) = false) ∧ (x = z → decide (Cf b o t k) = false) ∧ (y ≠ z → x ≠ y → x ≠ z → decide (Cf b o t k) = true) := by
  subst e1 e2 e3
  exact ⟨fun e => decide_eq_false fun c => c.1 e, fun e => decide_eq_false fun c => c.2.1 e, fun e => decide_eq_false fun c => c.2.2 e, fun a b c => decide_eq_true ⟨a, b, c⟩⟩
theorem one1 {x y : Option Int} (h1 : (x.isSome == y.isSome) = false) : x ≠ y := fun e => by rw [e] at h1; simp at h1
theorem lb {x y : Option Int} (h : (!x.getD 0 == y.getD 0) = true) : x ≠ y := fun e => by rw [e] at h; simp at h
theorem lc {x y : Option Int} (h1 : (x.isSome == y.isSome) = true) (h : (!x.getD 0 == y.getD 0) = false) : x = y := val_eq.2 ⟨by simpa using h1, by simpa using h⟩
theorem la {x y z : Option Int} {b o t : List Ent} {k : Int} (a : (x.isSome == z.isSome) = true) (cf : (y = z → decide (Cf b o t k) = false) ∧ (x = y → decide (Cf b o t k) = false) ∧ (x = z → decide (Cf b o t k) = false) ∧ (y ≠ z → x ≠ y → x ≠ z → decide (Cf b o t k) = true)) (n1 : y ≠ z) (n2 : x ≠ y) : (!x.getD 0 == z.getD 0) = decide (Cf b o t k) := by
  by_cases q : x = z
  · rw [cf.2.2.1 q, q]; simp
  · rw [cf.2.2.2 n1 n2 q]
    cases e : (!x.getD 0 == z.getD 0) with
    | true => rfl
    | false => exact absurd (lc a e) q
theorem vc_cf9 (b o t : List Ent) (K : KT) (hsm : b.length + o.length + t.length ≤ 1000000) (h : K (.one (.at (.slc 3))) [.row false EC.ent b, .row false EC.ent o, .row false EC.ent t, .row true EC.i64 (confE b o t)] []) :
    vc C0 (aCf9 b o t) Tryz.f12 [.at (.slc 0), .at (.slc 1), .at (.slc 2)] [.row false EC.ent b, .row false EC.ent o, .row false EC.ent t] (normK 3 K) := by
  refine Eq.mp (show ((b.length + o.length + t.length ≤ 1000000) ∧
(∃ x : XCf b o t, (True ∧ (True ∧ True ∧ True ∧ True ∧ True ∧ ((Value.int IntKind.i64 0) = (Value.int IntKind.i64 ((↑x.i : Int)))) ∧ True) ∧ ((b) = (b)) ∧ ((o) = (o)) ∧ ((t) = (t)) ∧ ((keys3 b o t) = (keys3 b o t)) ∧ ([] = (confL b o t (List.take x.i (keys3 b o t)))) ∧ True)) ∧
(∀ x : XCf b o t, (True → (brS (decide ((↑x.i : Int) < (↑(keys3 b o t).length : Int))) (((0 ≤ (↑x.i : Int)) ∧ ((↑x.i : Int) < (↑(keys3 b o t).length : Int)) ∧ (∀ x1 : Option Int, (((x1) = (getE b (iA (keys3 b o t) x.i))) → ((0 ≤ (↑x.i : Int)) ∧ ((↑x.i : Int) < (↑(keys3 b o t).length : Int)) ∧ (∀ x2 : Option Int, (((x2) = (getE o (iA (keys3 b o t) x.i))) → ((0 ≤ (↑x.i : Int)) ∧ ((↑x.i : Int) < (↑(keys3 b o t).length : Int)) ∧ (∀ x3 : Option Int, (((x3) = (getE t (iA (keys3 b o t) x.i))) → ((brS (x2.isSome == x3.isSome) ((brS (!x2.getD 0 == x3.getD 0) ((brS (x1.isSome == x2.isSome) ((brS (!x1.getD 0 == x2.getD 0) ((brS (x1.isSome == x3.isSome) ((∃ x4 : XCg b o t, ((((↑x.i : Int)) = ((↑x4.i : Int))) ∧ (True ∧ True ∧ True ∧ True ∧ True ∧ ((Value.int IntKind.i64 ((↑x.i : Int))) = (Value.int IntKind.i64 ((↑x4.i : Int)))) ∧ ((Value.bool (!x1.getD 0 == x3.getD 0)) = (Value.bool (x4.z))) ∧ True) ∧ ((b) = (b)) ∧ ((o) = (o)) ∧ ((t) = (t)) ∧ ((keys3 b o t) = (keys3 b o t)) ∧ ((confL b o t (List.take x.i (keys3 b o t))) = (confL b o t (List.take x4.i (keys3 b o t)))) ∧ True))) ((∃ x4 : XCg b o t, ((((↑x.i : Int)) = ((↑x4.i : Int))) ∧ (True ∧ True ∧ True ∧ True ∧ True ∧
    ((Value.int IntKind.i64 ((↑x.i : Int))) = (Value.int IntKind.i64 ((↑x4.i : Int)))) ∧ ((Value.bool true) = (Value.bool (x4.z))) ∧ True) ∧ ((b) = (b)) ∧ ((o) = (o)) ∧ ((t) = (t)) ∧ ((keys3 b o t) = (keys3 b o t)) ∧ ((confL b o t (List.take x.i (keys3 b o t))) = (confL b o t (List.take x4.i (keys3 b o t)))) ∧ True))))) ((∃ x4 : XCg b o t, ((((↑x.i : Int)) = ((↑x4.i : Int))) ∧ (True ∧ True ∧ True ∧ True ∧ True ∧ ((Value.int IntKind.i64 ((↑x.i : Int))) = (Value.int IntKind.i64 ((↑x4.i : Int)))) ∧ ((Value.bool false) = (Value.bool (x4.z))) ∧ True) ∧ ((b) = (b)) ∧ ((o) = (o)) ∧ ((t) = (t)) ∧ ((keys3 b o t) = (keys3 b o t)) ∧ ((confL b o t (List.take x.i (keys3 b o t))) = (confL b o t (List.take x4.i (keys3 b o t)))) ∧ True))))) ((brS (x1.isSome == x3.isSome) ((∃ x4 : XCg b o t, ((((↑x.i : Int)) = ((↑x4.i : Int))) ∧ (True ∧ True ∧ True ∧ True ∧ True ∧ ((Value.int IntKind.i64 ((↑x.i : Int))) = (Value.int IntKind.i64 ((↑x4.i : Int)))) ∧ ((Value.bool (!x1.getD 0 == x3.getD 0)) = (Value.bool (x4.z))) ∧ True) ∧ ((b) = (b)) ∧ ((o) = (o)) ∧ ((t) = (t)) ∧ ((keys3 b o t) = (keys3 b o t)) ∧ ((confL b o t (List.take x.i (keys3 b o t))) = (confL b o t (List.take x4.i (keys3 b o t)))) ∧ True))) ((∃ x4 : XCg b o t, ((((↑x.i : Int)) = ((↑x4.i : Int))) ∧ (True ∧ True ∧ True ∧ True ∧ True ∧ ((Value.int IntKind.i64 ((↑x.i : Int))) = (Value.int IntKind.i64 ((↑x4.i : Int)))) ∧ ((Value.bool true) = (Value.bool (x4.z))) ∧ True) ∧ ((b) = (b)) ∧ ((o) = (o)) ∧ ((t) = (t)) ∧ ((keys3 b o t) = (keys3 b o t)) ∧
    ((confL b o t (List.take x.i (keys3 b o t))) = (confL b o t (List.take x4.i (keys3 b o t)))) ∧ True))))))) ((∃ x4 : XCg b o t, ((((↑x.i : Int)) = ((↑x4.i : Int))) ∧ (True ∧ True ∧ True ∧ True ∧ True ∧ ((Value.int IntKind.i64 ((↑x.i : Int))) = (Value.int IntKind.i64 ((↑x4.i : Int)))) ∧ ((Value.bool false) = (Value.bool (x4.z))) ∧ True) ∧ ((b) = (b)) ∧ ((o) = (o)) ∧ ((t) = (t)) ∧ ((keys3 b o t) = (keys3 b o t)) ∧ ((confL b o t (List.take x.i (keys3 b o t))) = (confL b o t (List.take x4.i (keys3 b o t)))) ∧ True))))) ((brS (x1.isSome == x2.isSome) ((brS (!x1.getD 0 == x2.getD 0) ((brS (x1.isSome == x3.isSome) ((∃ x4 : XCg b o t, ((((↑x.i : Int)) = ((↑x4.i : Int))) ∧ (True ∧ True ∧ True ∧ True ∧ True ∧ ((Value.int IntKind.i64 ((↑x.i : Int))) = (Value.int IntKind.i64 ((↑x4.i : Int)))) ∧ ((Value.bool (!x1.getD 0 == x3.getD 0)) = (Value.bool (x4.z))) ∧ True) ∧ ((b) = (b)) ∧ ((o) = (o)) ∧ ((t) = (t)) ∧ ((keys3 b o t) = (keys3 b o t)) ∧ ((confL b o t (List.take x.i (keys3 b o t))) = (confL b o t (List.take x4.i (keys3 b o t)))) ∧ True))) ((∃ x4 : XCg b o t, ((((↑x.i : Int)) = ((↑x4.i : Int))) ∧ (True ∧ True ∧ True ∧ True ∧ True ∧ ((Value.int IntKind.i64 ((↑x.i : Int))) = (Value.int IntKind.i64 ((↑x4.i : Int)))) ∧ ((Value.bool true) = (Value.bool (x4.z))) ∧ True) ∧ ((b) = (b)) ∧ ((o) = (o)) ∧ ((t) = (t)) ∧ ((keys3 b o t) = (keys3 b o t)) ∧ ((confL b o t (List.take x.i (keys3 b o t))) = (confL b o t (List.take x4.i (keys3 b o t)))) ∧ True))))) ((∃ x4 : XCg b o t,
    ((((↑x.i : Int)) = ((↑x4.i : Int))) ∧ (True ∧ True ∧ True ∧ True ∧ True ∧ ((Value.int IntKind.i64 ((↑x.i : Int))) = (Value.int IntKind.i64 ((↑x4.i : Int)))) ∧ ((Value.bool false) = (Value.bool (x4.z))) ∧ True) ∧ ((b) = (b)) ∧ ((o) = (o)) ∧ ((t) = (t)) ∧ ((keys3 b o t) = (keys3 b o t)) ∧ ((confL b o t (List.take x.i (keys3 b o t))) = (confL b o t (List.take x4.i (keys3 b o t)))) ∧ True))))) ((brS (x1.isSome == x3.isSome) ((∃ x4 : XCg b o t, ((((↑x.i : Int)) = ((↑x4.i : Int))) ∧ (True ∧ True ∧ True ∧ True ∧ True ∧ ((Value.int IntKind.i64 ((↑x.i : Int))) = (Value.int IntKind.i64 ((↑x4.i : Int)))) ∧ ((Value.bool (!x1.getD 0 == x3.getD 0)) = (Value.bool (x4.z))) ∧ True) ∧ ((b) = (b)) ∧ ((o) = (o)) ∧ ((t) = (t)) ∧ ((keys3 b o t) = (keys3 b o t)) ∧ ((confL b o t (List.take x.i (keys3 b o t))) = (confL b o t (List.take x4.i (keys3 b o t)))) ∧ True))) ((∃ x4 : XCg b o t, ((((↑x.i : Int)) = ((↑x4.i : Int))) ∧ (True ∧ True ∧ True ∧ True ∧ True ∧ ((Value.int IntKind.i64 ((↑x.i : Int))) = (Value.int IntKind.i64 ((↑x4.i : Int)))) ∧ ((Value.bool true) = (Value.bool (x4.z))) ∧ True) ∧ ((b) = (b)) ∧ ((o) = (o)) ∧ ((t) = (t)) ∧ ((keys3 b o t) = (keys3 b o t)) ∧ ((confL b o t (List.take x.i (keys3 b o t))) = (confL b o t (List.take x4.i (keys3 b o t)))) ∧ True)))))))) ∧ (∀ x4 : XCg b o t, ((((↑x.i : Int)) = ((↑x4.i : Int))) → (brS (x4.z) (((0 ≤ (↑x4.i : Int)) ∧ ((↑x4.i : Int) < (↑(keys3 b o t).length : Int)) ∧
    (((confL b o t (List.take x4.i (keys3 b o t))).length + [iA (keys3 b o t) x4.i].length) * bytesOf C0 EC.i64 ≤ 140737488355328) ∧ (∃ x' : XCf b o t, (True ∧ ((True ∧ True ∧ True ∧ True ∧ True ∧ ((Value.int IntKind.i64 (IntKind.i64.wrap ((↑x4.i : Int) + 1))) = (Value.int IntKind.i64 ((↑x'.i : Int)))) ∧ True) ∧ ((b) = (b)) ∧ ((o) = (o)) ∧ ((t) = (t)) ∧ ((keys3 b o t) = (keys3 b o t)) ∧ ((confL b o t (List.take x4.i (keys3 b o t)) ++ [iA (keys3 b o t) x4.i]) = (confL b o t (List.take x'.i (keys3 b o t)))) ∧ True) ∧ ((keys3 b o t).length - x'.i < (keys3 b o t).length - x.i))))) ((∃ x' : XCf b o t, (True ∧ ((True ∧ True ∧ True ∧ True ∧ True ∧ ((Value.int IntKind.i64 (IntKind.i64.wrap ((↑x4.i : Int) + 1))) = (Value.int IntKind.i64 ((↑x'.i : Int)))) ∧ True) ∧ ((b) = (b)) ∧ ((o) = (o)) ∧ ((t) = (t)) ∧ ((keys3 b o t) = (keys3 b o t)) ∧ ((confL b o t (List.take x4.i (keys3 b o t))) = (confL b o t (List.take x'.i (keys3 b o t)))) ∧ True) ∧ ((keys3 b o t).length - x'.i < (keys3 b o t).length - x.i)))))))))))))))))) ((K (SV.one (TV.at (At.slc 3))) [(Chunk.row false (EC.ent) (b)), (Chunk.row false (EC.ent) (o)), (Chunk.row false (EC.ent) (t)), (Chunk.row true (EC.i64) (confL b o t (List.take x.i (keys3 b o t))))] [])))))) = _ by kernel_rfl) ?_
  have lk := keys3_len b o t
  refine ⟨hsm, ⟨⟨0, Nat.zero_le _⟩, ?_⟩, fun x _ => brS_of (fun c => ?_) fun c => ?_⟩
  · (repeat' first | exact trivial | exact rfl | refine And.intro ?_ ?_)
  · obtain ⟨i, hi⟩ := x
    dsimp only at c ⊢
    have c : i < (keys3 b o t).length := by have := of_decide_eq_true c; omega
    refine ⟨by omega, by omega, fun x1 e1 => ⟨by omega, by omega, fun x2 e2 => ⟨by omega, by omega, fun x3 e3 => ⟨?_, fun x4 e4 => ?_⟩⟩⟩⟩
    · have cf := conf_tt e1 e2 e3
      exact brS_of (fun f => brS_of (fun g => brS_of (fun d => brS_of (fun e => brS_of (fun a => ⟨⟨i, (!x1.getD 0 == x3.getD 0), c, la a cf (lb g) (lb e)⟩, rfl, by (repeat' first | exact trivial | exact rfl | refine And.intro ?_ ?_)⟩) fun a => ⟨⟨i, true, c, (cf.2.2.2 (lb g) (lb e) (one1 a)).symm⟩, rfl, by (repeat' first | exact trivial | exact rfl | refine And.intro ?_ ?_)⟩) fun e => ⟨⟨i, false, c, (cf.2.1 (lc d e)).symm⟩, rfl, by (repeat' first | exact trivial | exact rfl | refine And.intro ?_ ?_)⟩) fun d => brS_of (fun a => ⟨⟨i, (!x1.getD 0 == x3.getD 0), c, la a cf (lb g) (one1 d)⟩, rfl, by (repeat' first | exact trivial | exact rfl | refine And.intro ?_ ?_)⟩) fun a => ⟨⟨i, true, c, (cf.2.2.2 (lb g) (one1 d) (one1 a)).symm⟩, rfl, by (repeat' first | exact trivial | exact rfl | refine And.intro ?_ ?_)⟩) fun g => ⟨⟨i, false, c, (cf.1 (lc f g)).symm⟩, rfl, by (repeat' first | exact trivial | exact rfl | refine And.intro ?_ ?_)⟩) fun f => brS_of (fun d => brS_of (fun e => brS_of (fun a => ⟨⟨i, (!x1.getD 0 == x3.getD 0), c, la a cf (one1 f) (lb e)⟩, rfl, by (repeat' first | exact trivial | exact rfl | refine And.intro ?_ ?_)⟩) fun a => ⟨⟨i, true, c, (cf.2.2.2 (one1 f) (lb e) (one1 a)).symm⟩, rfl, by (repeat' first | exact trivial | exact rfl | refine And.intro ?_ ?_)⟩) fun e => ⟨⟨i, false, c, (cf.2.1 (lc d e)).symm⟩, rfl, by (repeat' first | exact trivial | exact rfl | refine And.intro ?_ ?_)⟩) fun d => brS_of (fun a => ⟨⟨i, (!x1.getD 0 == x3.getD 0), c, la a cf (one1 f) (one1 d)⟩, rfl, by (repeat' first | exact trivial | exact rfl | refine And.intro ?_ ?_)⟩) fun a => ⟨⟨i, true, c, (cf.2.2.2 (one1 f) (one1 d) (one1 a)).symm⟩, rfl, by (repeat' first | exact trivial | exact rfl | refine And.intro ?_ ?_)⟩
    · obtain ⟨i4, z, h4, hz⟩ := x4
      have e4 : (i : Int) = i4 := e4
      obtain rfl : i = i4 := by omega
      dsimp only
      have sn := confL_snoc b o t c
      have ln := confL_len b o t (keys3 b o t) i
      have nx := wrap_next c (by omega)
      refine brS_of (fun q => ⟨by omega, by omega, ?_, ⟨i + 1, c⟩, trivial, ?_, by show _ - (i + 1) < _; omega⟩) fun q => ⟨⟨i + 1, c⟩, trivial, ?_, by show _ - (i + 1) < _; omega⟩
      · rw [bytes_i64]; simp only [List.length_singleton]; omega
      · rw [q] at hz
        rw [if_pos (of_decide_eq_true hz.symm)] at sn
        (repeat' first | exact trivial | exact rfl | exact congrArg (Value.int .i64) nx | exact sn.symm | refine And.intro ?_ ?_)
      · rw [q] at hz
        rw [if_neg (of_decide_eq_false hz.symm), List.append_nil] at sn
        (repeat' first | exact trivial | exact rfl | exact congrArg (Value.int .i64) nx | exact sn.symm | refine And.intro ?_ ?_)
  · have e : x.i = (keys3 b o t).length := by have := x.h; have := of_decide_eq_false c; omega
    rw [e, List.take_length]
    exact h
theorem s_cf9 : SoundT C0 12 tCf9 := by
  refine .of Tryz.func12 (by decide) rfl fun args H K h hB => ?_
  unfold tCf9 at h
  split at h <;> try exact h.elim
  rename_i b o t
  exact ⟨aCf9 b o t, ⟨frame C0.ok s_keys _, frame C0.ok s_get _, trivial⟩, vc_cf9 b o t K h.1 h.2⟩
end Go.Proofs.YtbonbaccmlomhaaGreat.Sx
end
section
/- The law MergeMerges. -/
namespace Go.Proofs.YtbonbaccmlomhaaGreat.Sx
open Go

/-KEEP Wf Kept exW inU live Arn.cap Arn.free Rep rdS retL Tr.size Tr.list Tr.Bal Asc Kin KinD FkR listE TrR Got Hn ht MgM MgR needM confE mergeE sameB trivB trivI SqR slotsOf orderOf keptD RepD List.Perm-/
structure XMy (P : Arn → Int → Int → Int → List Ent → List Ent → Int → Int → Prop) where
  S : Arn
  b : Int
  o : Int
  t : Int
  lo : List Ent
  lt : List Ent
  need : Int
  room : Int
  h : P S b o t lo lt need room
structure XMyT (P : Arn → Int → Int → Int → List Ent → List Ent → Int → List Int → Int → List SlotT → List Int → Int → Int → List Int → Int → Int → Bool → Bool → Prop) where
  S : Arn
  b : Int
  o : Int
  t : Int
  lo : List Ent
  lt : List Ent
  need : Int
  L : List Int
  p : Int
  d : List SlotT
  od : List Int
  r : Int
  i : Int
  c : List Int
  e : Int
  res : Int
  same : Bool
  z : Bool
  h : P S b o t lo lt need L p d od r i c e res same z
noncomputable def aMy (P1 : Arn → Int → Int → Int → List Ent → List Ent → Int → Int → Prop) (P2 P3 P4 P5 : Arn → Int → Int → Int → List Ent → List Ent → Int → List Int → Int → List SlotT → List Int → Int → Int → List Int → Int → Int → Bool → Bool → Prop) (raw B : List Ent) (e1 e2 : List EdtT) : Ann C0 := { quiet := [9999999, 9, 10, 14, 15, 16, 17, 18, 19, 20], Γ := [(4, tFk), (5, frameT [] tAw20), (6, frameT [] tResM), (7, frameT [] tSq), (8, frameT [] tMod), (9, frameT [] tDump), (10, frameT [] tReads), (11, frameT [] tMg), (12, frameT [] tCf9), (13, frameT [] tS3), (14, frameT [] tSameD), (15, frameT [] tWi), (16, frameT [] tSound), (17, frameT [] tSame_i64), (18, frameT [] tTr7), (19, frameT [] tM9), (20, frameT [] tKept)], inv := fun n => match n with
  | 1008 => some { X := XMy P1, sl := [13, 15, 16], tf := fun x => [.one (.at (.ptr 13 0)), vi .i64 x.need, vi .i64 x.room], hf := fun x => [.row false EC.ent raw, .row false EC.edm e1, .row false EC.edm e2] ++ chSk 3 x.S ++ [.row false EC.ent B, .row false EC.ent x.lo, .row false EC.ent x.lt, .box [.ptr 3 0, vU x.b, vU x.o, vU x.t, .slc 10, .slc 11, .slc 12]] }
  | 1014 => some { X := XMyT P5, sl := [13, 15, 17, 18, 19, 20], tf := fun x => [.one (.at (.ptr 13 0)), vi .i64 x.need, .one (.at (.slc 14)), vi .i64 x.p, .one (.at (.ptr 15 0)), vi .u64 x.r], hf := fun x => [.row false EC.ent raw, .row false EC.edm e1, .row false EC.edm e2] ++ chSk 3 x.S ++ [.row false EC.ent B, .row false EC.ent x.lo, .row false EC.ent x.lt, .box [.ptr 3 0, vU x.b, vU x.o, vU x.t, .slc 10, .slc 11, .slc 12], .row true EC.u32 x.L, .box [.slc 16, .slc 17], .row true EC.slot x.d, .row true EC.u32 x.od] }
  | 1018 => some { X := XMyT P2, sl := [13, 15, 17, 18, 19, 20, 21, 22, 23, 24, 25, 26, 27], tf := fun x => [.one (.at (.ptr 13 0)), vi .i64 x.need, .one (.at (.slc 14)), vi .i64 x.p, .one (.at (.ptr 15 0)), vi .u64 x.r, vi .u32 x.i, .one (.at (.slc 18)), vi .i64 x.e, .one (.at (.slc 19)), vi .u32 x.res, vb x.same, .one (.at (.ptr 20 0))], hf := fun x => [.row false EC.ent raw, .row false EC.edm e1, .row false EC.edm e2] ++ chSk 3 x.S ++ [.row false EC.ent B, .row false EC.ent x.lo, .row false EC.ent x.lt, .box [.ptr 3 0, vU x.b, vU x.o, vU x.t, .slc 10, .slc 11, .slc 12], .row true EC.u32 x.L, .box [.slc 16, .slc 17], .row true EC.slot x.d, .row true EC.u32 x.od, .row true EC.i64 x.c, .row true EC.i64 (confE B x.lo x.lt), .box [.slc 21, .slc 22], .row true EC.slot (slotsOf x.S), .row true EC.u32 (orderOf x.S)] }
  | 1019 => some { X := XMyT P3, sl := [13, 15, 17, 18, 19, 20, 21, 22, 23, 24, 25, 26, 27, 119], tf := fun x => [.one (.at (.ptr 13 0)), vi .i64 x.need, .one (.at (.slc 14)), vi .i64 x.p, .one (.at (.ptr 15 0)), vi .u64 x.r, vi .u32 x.i, .one (.at (.slc 18)), vi .i64 x.e, .one (.at (.slc 19)), vi .u32 x.res, vb x.same, .one (.at (.ptr 20 0)), vb x.z], hf := fun x => [.row false EC.ent raw, .row false EC.edm e1, .row false EC.edm e2] ++ chSk 3 x.S ++ [.row false EC.ent B, .row false EC.ent x.lo, .row false EC.ent x.lt, .box [.ptr 3 0, vU x.b, vU x.o, vU x.t, .slc 10, .slc 11, .slc 12], .row true EC.u32 x.L, .box [.slc 16, .slc 17], .row true EC.slot x.d, .row true EC.u32 x.od, .row true EC.i64 x.c, .row true EC.i64 (confE B x.lo x.lt), .box [.slc 21, .slc 22], .row true EC.slot (slotsOf x.S), .row true EC.u32 (orderOf x.S)] }
  | 1025 => some { X := XMyT P4, sl := [13, 15, 17, 18, 19, 20, 21, 22, 23, 24, 25, 26, 27, 202], tf := fun x => [.one (.at (.ptr 13 0)), vi .i64 x.need, .one (.at (.slc 14)), vi .i64 x.p, .one (.at (.ptr 15 0)), vi .u64 x.r, vi .u32 x.i, .one (.at (.slc 18)), vi .i64 x.e, .one (.at (.slc 19)), vi .u32 x.res, vb x.same, .one (.at (.ptr 20 0)), vb x.z], hf := fun x => [.row false EC.ent raw, .row false EC.edm e1, .row false EC.edm e2] ++ chSk 3 x.S ++ [.row false EC.ent B, .row false EC.ent x.lo, .row false EC.ent x.lt, .box [.ptr 3 0, vU x.b, vU x.o, vU x.t, .slc 10, .slc 11, .slc 12], .row true EC.u32 x.L, .box [.slc 16, .slc 17], .row true EC.slot x.d, .row true EC.u32 x.od, .row true EC.i64 x.c, .row true EC.i64 (confE B x.lo x.lt), .box [.slc 21, .slc 22], .row true EC.slot (slotsOf x.S), .row true EC.u32 (orderOf x.S)] }
  | _ => none }
def tMy : Tfm C0 := fun args H K => match args, H with
  | [.at (.slc 0), .at (.val (.int .u64 t)), .at (.slc 1), .at (.slc 2), .at (.val (.int .i64 _)), .at (.val (.int .u16 f))], [.row false .ent raw, .row false .edm e1, .row false .edm e2] => 0 ≤ t ∧ 0 ≤ f ∧ f ≤ 65535 ∧ Kin raw ∧ KinD e1 ∧ KinD e2 ∧ K (.one (.at (vB true))) [.row false EC.ent raw, .row false EC.edm e1, .row false EC.edm e2] []
  | _, _ => False
def nM (B lo lt : List Ent) : Int := (B.length : Int) + lo.length + lt.length + 12 * (Hn ((B.length : Int) + lo.length + lt.length) + 2)
def PY1 (B : List Ent) : Arn → Int → Int → Int → List Ent → List Ent → Int → Int → Prop := fun S b o t lo lt need room => FkR S b o t B lo lt 300 ∧ need = nM B lo lt ∧ 0 ≤ room
structure MyC (B : List Ent) (S0 : Arn) (hs : List Int) (tb to tt : Tr) (S : Arn) (b o t : Int) (lo lt : List Ent) (need : Int) (L : List Int) (p : Int) (d : List SlotT) (od : List Int) (r i : Int) (c : List Int) (e res : Int) (same : Bool) : Prop where
  hm : MgM S0 hs tb to tt b o t
  perm : L.Perm hs
  len : L.length ≤ 20000
  rd : S0.reads ≤ 20000
  ed : d = slotsOf S0
  eod : od = orderOf S0
  er : r = S0.reads
  eb : tb.list = B
  eo : to.list = lo
  et : tt.list = lt
  l1 : B.length ≤ 60
  l2 : lo.length ≤ 68
  l3 : lt.length ≤ 68
  en : need = needM tb to tt
  mg : MgR S0 hs tb to tt b o t p S i c e
  es : same = decide (trivB b o t)
  er2 : trivB b o t → res = trivI b o t
def PY2 (B : List Ent) : Arn → Int → Int → Int → List Ent → List Ent → Int → List Int → Int → List SlotT → List Int → Int → Int → List Int → Int → Int → Bool → Bool → Prop := fun S b o t lo lt need L p d od r i c e res same _ => ∃ S0 hs tb to tt, MyC B S0 hs tb to tt S b o t lo lt need L p d od r i c e res same
def PY3 (B : List Ent) : Arn → Int → Int → Int → List Ent → List Ent → Int → List Int → Int → List SlotT → List Int → Int → Int → List Int → Int → Int → Bool → Bool → Prop := fun S b o t lo lt need L p d od r i c e res same z => z = decide (¬ (1 ≤ p ∧ p ≤ 4)) ∧ ∃ S0 hs tb to tt, MyC B S0 hs tb to tt S b o t lo lt need L p d od r i c e res same
def PY4 (B : List Ent) : Arn → Int → Int → Int → List Ent → List Ent → Int → List Int → Int → List SlotT → List Int → Int → Int → List Int → Int → Int → Bool → Bool → Prop := fun S b o t lo lt need L p d od r i c e res same z => z = decide (p = 3 ∧ confE B lo lt ≠ []) ∧ (1 ≤ p ∧ p ≤ 4) ∧ ¬ trivB b o t ∧ ∃ S0 hs tb to tt, needM tb to tt ≤ S0.free ∧ MyC B S0 hs tb to tt S b o t lo lt need L p d od r i c e res same
/-- Leaves were made beside the three trees. -/
theorem sq_mg {S S' : Arn} {b o t : Int} {B lo lt : List Ent} {sp : Int} {k : Nat} {L : List Int} (fk : FkR S b o t B lo lt sp) (sq : SqR S [t, o, b] k S' L) (hk : k ≤ 10000) :
    ∃ tb to tt, MgM S' (L ++ [t, o, b]) tb to tt b o t ∧ tb.list = B ∧ to.list = lo ∧ tt.list = lt ∧ needM tb to tt = nM B lo lt ∧ S'.reads ≤ 20000 := by
  have hh := fk.h
  obtain ⟨tb, rb, eb, bb⟩ := hh.rep (b, B) (by simp)
  obtain ⟨to, ro, eo, bo⟩ := hh.rep (o, lo) (by simp)
  obtain ⟨tt, rt, et, bt⟩ := hh.rep (t, lt) (by simp)
  have eb : tb.list = B := eb
  have eo : to.list = lo := eo
  have et : tt.list = lt := et
  have zb : tb.size = B.length := by rw [← tb.list_len, eb]
  have zo : to.size = lo.length := by rw [← to.list_len, eo]
  have zt : tt.size = lt.length := by rw [← tt.list_len, et]
  have q := sq.got.rd
  have rd := fk.rd
  have l1 := fk.sb
  have l2 := fk.so
  have l3 := fk.st
  have e0 := sq.len
  have st := sq.got.stay
  refine ⟨tb, to, tt, ⟨sq.wf, rb.held hh.wf st (.inr (by simp)), ro.held hh.wf st (.inr (by simp)), rt.held hh.wf st (.inr (by simp)), bb, bo, bt, by rw [eb]; exact hh.asc (b, B) (by simp), by rw [eo]; exact hh.asc (o, lo) (by simp), by rw [et]; exact hh.asc (t, lt) (by simp), by rw [eb]; exact hh.kin (b, B) (by simp), by rw [eo]; exact hh.kin (o, lo) (by simp), by rw [et]; exact hh.kin (t, lt) (by simp), by omega, by omega, by omega, by rw [List.length_append]; simp; omega, by omega⟩, eb, eo, et, by unfold needM nM; rw [zb, zo, zt], by omega⟩
theorem perm_sq {α : Type} (L : List α) (a b c : α) : (L ++ [a, b, c]).Perm (L ++ [c, b, a]) := List.Perm.append_left L (List.reverse_perm [c, b, a])
theorem perm_end {α : Type} {L hs : List α} (i : α) (h : L.Perm hs) : (L ++ [i]).Perm (i :: hs) := List.perm_append_comm.trans (List.Perm.cons i h)
def PY5 (B : List Ent) : Arn → Int → Int → Int → List Ent → List Ent → Int → List Int → Int → List SlotT → List Int → Int → Int → List Int → Int → Int → Bool → Bool → Prop := fun S b o t lo lt need L _ d od r _ _ _ _ _ _ => ∃ hs tb to tt, MgM S hs tb to tt b o t ∧ L.Perm hs ∧ L.length ≤ 20000 ∧ S.reads ≤ 20000 ∧ d = slotsOf S ∧ od = orderOf S ∧ r = S.reads ∧ tb.list = B ∧ to.list = lo ∧ tt.list = lt ∧ B.length ≤ 60 ∧ lo.length ≤ 68 ∧ lt.length ≤ 68 ∧ need = needM tb to tt
theorem MgM.triv {S : Arn} {hs : List Int} {tb to tt : Tr} {b o t : Int} (hm : MgM S hs tb to tt b o t) : Wf (retL S (trivI b o t)) (trivI b o t :: hs) := by
  have hl := hm.hl
  refine retL_wf hm.wf ?_ (by omega)
  unfold trivI
  split
  · exact hm.rt.us
  · exact hm.ro.us
theorem MgR.ex {S S' : Arn} {hs c : List Int} {tb to tt : Tr} {b o t p i e : Int} (hm : MgM S hs tb to tt b o t) (h : MgR S hs tb to tt b o t p S' i c e) : exW S' := by
  have hr := hm.rd
  rcases h with ⟨_, _, _, _, h⟩ | ⟨_, _, _, q, _, h⟩ | ⟨_, _, _, _, _, _, m, _, h⟩ | ⟨_, _, _, _, _, _, _, m, _, h⟩ | ⟨_, _, _, _, _, _, h⟩
  · rw [h]; exact ⟨_, hm.wf⟩
  · rw [h, q]; exact ⟨_, hm.triv⟩
  · rw [h]; exact ⟨_, hm.wf.rd (by omega)⟩
  · rw [h]; exact ⟨_, hm.wf.rd (by omega)⟩
  · exact ⟨_, h.got.wf⟩
theorem vc_my (raw : List Ent) (e1 e2 : List EdtT) (t pol f : Int) (K : KT) (h0 : 0 ≤ t) (f0 : 0 ≤ f) (f1 : f ≤ 65535) (hk : Kin raw) (k1 : KinD e1) (k2 : KinD e2) (h : K (.one (.at (vB true))) [.row false EC.ent raw, .row false EC.edm e1, .row false EC.edm e2] []) :
    vc C0 (aMy (PY1 (listE raw 60)) (PY2 (listE raw 60)) (PY3 (listE raw 60)) (PY4 (listE raw 60)) (PY5 (listE raw 60)) raw (listE raw 60) e1 e2) Tryz.f3 [.at (.slc 0), .at (vU64 t), .at (.slc 1), .at (.slc 2), .at (vI pol), .at (.val (.int .u16 f))] [.row false EC.ent raw, .row false EC.edm e1, .row false EC.edm e2] (normK 3 K) := by
  generalize hP1 : PY1 (listE raw 60) = P1
  generalize hP2 : PY2 (listE raw 60) = P2
  generalize hP3 : PY3 (listE raw 60) = P3
  generalize hP4 : PY4 (listE raw 60) = P4
  generalize hP5 : PY5 (listE raw 60) = P5
  refine Eq.mp (show ((0 ≤ t) ∧
((0 : Int) ≤ 300) ∧
((300 : Int) ≤ 20000) ∧
(Kin raw) ∧
(KinD e1) ∧
(KinD e2) ∧
(∀ S : Arn, (∀ b : Int, (∀ o : Int, (∀ t1 : Int, (∀ lo : List Ent, (∀ lt : List Ent, ((FkR S b o t1 (listE raw 60) lo lt 300) → ((0 ≤ (↑(listE raw 60).length : Int)) ∧ ((↑(listE raw 60).length : Int) ≤ 30000) ∧ (0 ≤ (↑lo.length : Int)) ∧ ((↑lo.length : Int) ≤ 30000) ∧ (0 ≤ (↑lt.length : Int)) ∧ ((↑lt.length : Int) ≤ 30000) ∧ (∀ p : Int, (((p) = ((↑(listE raw 60).length : Int) + (↑lo.length : Int) + (↑lt.length : Int) + 12 * (Hn ((↑(listE raw 60).length : Int) + (↑lo.length : Int) + (↑lt.length : Int)) + 2))) → ((brS (f.tmod 4 == 0) (((IntKind.i64.wrap (p + 1) ≠ 0) ∧ (∃ x : XMy P1, (True ∧ (((Value.int IntKind.i64 (pol)) = (Value.int IntKind.i64 (pol))) ∧ True ∧ ((Value.int IntKind.i64 (p)) = (Value.int IntKind.i64 (x.need))) ∧ ((Value.int IntKind.i64 ((IntKind.i64.wrap f).tmod (IntKind.i64.wrap (p + 1)))) = (Value.int IntKind.i64 (x.room))) ∧ True) ∧ ((raw) = (raw)) ∧ ((e1) = (e1)) ∧ ((e2) = (e2)) ∧ (True ∧ True ∧ True ∧ ((Value.int IntKind.u64 (S.reads)) = (Value.int IntKind.u64 (x.S.reads))) ∧ True) ∧ (True ∧ True ∧ True ∧ ((Value.int IntKind.u32 (S.fresh)) = (Value.int IntKind.u32 (x.S.fresh))) ∧ True) ∧ ((S.nodes) = (x.S.nodes)) ∧ ((S.counts) = (x.S.counts)) ∧ ((S.used) = (x.S.used)) ∧ ((S.gen) = (x.S.gen)) ∧ ((S.rel) = (x.S.rel)) ∧ ((listE raw 60) = (listE raw 60)) ∧ ((lo) = (x.lo)) ∧ ((lt) = (x.lt)) ∧ (True ∧ ((Value.int IntKind.u32 (b)) = (Value.int IntKind.u32 (x.b))) ∧
    ((Value.int IntKind.u32 (o)) = (Value.int IntKind.u32 (x.o))) ∧ ((Value.int IntKind.u32 (t1)) = (Value.int IntKind.u32 (x.t))) ∧ True ∧ True ∧ True ∧ True) ∧ True)))) ((∃ x : XMy P1, (True ∧ (((Value.int IntKind.i64 (pol)) = (Value.int IntKind.i64 (pol))) ∧ True ∧ ((Value.int IntKind.i64 (p)) = (Value.int IntKind.i64 (x.need))) ∧ ((Value.int IntKind.i64 (IntKind.i64.wrap (p + IntKind.i64.wrap (f.tmod 5)))) = (Value.int IntKind.i64 (x.room))) ∧ True) ∧ ((raw) = (raw)) ∧ ((e1) = (e1)) ∧ ((e2) = (e2)) ∧ (True ∧ True ∧ True ∧ ((Value.int IntKind.u64 (S.reads)) = (Value.int IntKind.u64 (x.S.reads))) ∧ True) ∧ (True ∧ True ∧ True ∧ ((Value.int IntKind.u32 (S.fresh)) = (Value.int IntKind.u32 (x.S.fresh))) ∧ True) ∧ ((S.nodes) = (x.S.nodes)) ∧ ((S.counts) = (x.S.counts)) ∧ ((S.used) = (x.S.used)) ∧ ((S.gen) = (x.S.gen)) ∧ ((S.rel) = (x.S.rel)) ∧ ((listE raw 60) = (listE raw 60)) ∧ ((lo) = (x.lo)) ∧ ((lt) = (x.lt)) ∧ (True ∧ ((Value.int IntKind.u32 (b)) = (Value.int IntKind.u32 (x.b))) ∧ ((Value.int IntKind.u32 (o)) = (Value.int IntKind.u32 (x.o))) ∧ ((Value.int IntKind.u32 (t1)) = (Value.int IntKind.u32 (x.t))) ∧ True ∧ True ∧ True ∧ True) ∧ True)))) ∧ (∀ x : XMy P1, (True → (∃ hs : List Int, ((Wf x.S hs) ∧ (hs.length ≤ 1000) ∧ (0 ≤ x.room) ∧ (∀ S' : Arn, (∀ k : Nat, (∀ L : List Int, ((SqR x.S hs k S' L) → ((k ≤ 10000) → (((L.length + [x.b, x.o, x.t].length) * bytesOf C0 EC.u32 ≤ 140737488355328) ∧ ((0 : Int) < 6) ∧ ((6 : Int) ≤ 9223372036854775807) ∧ (∀ x1 : Int,
    (((x1) = (pol % 6)) → ((((exW S') ∧ (∀ d : List SlotT, (∀ o1 : List Int, (((d) = (slotsOf S')) → (((o1) = (orderOf S')) → ((∃ x2 : XMyT P5, (True ∧ (True ∧ ((Value.int IntKind.i64 (x.need)) = (Value.int IntKind.i64 (x2.need))) ∧ True ∧ ((Value.int IntKind.i64 (x1)) = (Value.int IntKind.i64 (x2.p))) ∧ True ∧ ((Value.int IntKind.u64 (S'.reads)) = (Value.int IntKind.u64 (x2.r))) ∧ True) ∧ ((raw) = (raw)) ∧ ((e1) = (e1)) ∧ ((e2) = (e2)) ∧ (True ∧ True ∧ True ∧ ((Value.int IntKind.u64 (S'.reads)) = (Value.int IntKind.u64 (x2.S.reads))) ∧ True) ∧ (True ∧ True ∧ True ∧ ((Value.int IntKind.u32 (S'.fresh)) = (Value.int IntKind.u32 (x2.S.fresh))) ∧ True) ∧ ((S'.nodes) = (x2.S.nodes)) ∧ ((S'.counts) = (x2.S.counts)) ∧ ((S'.used) = (x2.S.used)) ∧ ((S'.gen) = (x2.S.gen)) ∧ ((S'.rel) = (x2.S.rel)) ∧ ((listE raw 60) = (listE raw 60)) ∧ ((x.lo) = (x2.lo)) ∧ ((x.lt) = (x2.lt)) ∧ (True ∧ ((Value.int IntKind.u32 (x.b)) = (Value.int IntKind.u32 (x2.b))) ∧ ((Value.int IntKind.u32 (x.o)) = (Value.int IntKind.u32 (x2.o))) ∧ ((Value.int IntKind.u32 (x.t)) = (Value.int IntKind.u32 (x2.t))) ∧ True ∧ True ∧ True ∧ True) ∧ ((L ++ [x.b, x.o, x.t]) = (x2.L)) ∧ (True ∧ True ∧ True) ∧ ((d) = (x2.d)) ∧ ((o1) = (x2.od)) ∧ True)) ∧ (∃ x2 : XMyT P5, (True ∧ (True ∧ ((Value.int IntKind.i64 (x.need)) = (Value.int IntKind.i64 (x2.need))) ∧ True ∧ ((Value.int IntKind.i64 (x1)) = (Value.int IntKind.i64 (x2.p))) ∧ True ∧ ((Value.int IntKind.u64 (S'.reads)) = (Value.int IntKind.u64 (x2.r))) ∧ True) ∧ ((raw) = (raw)) ∧
    ((e1) = (e1)) ∧ ((e2) = (e2)) ∧ (True ∧ True ∧ True ∧ ((Value.int IntKind.u64 (S'.reads)) = (Value.int IntKind.u64 (x2.S.reads))) ∧ True) ∧ (True ∧ True ∧ True ∧ ((Value.int IntKind.u32 (S'.fresh)) = (Value.int IntKind.u32 (x2.S.fresh))) ∧ True) ∧ ((S'.nodes) = (x2.S.nodes)) ∧ ((S'.counts) = (x2.S.counts)) ∧ ((S'.used) = (x2.S.used)) ∧ ((S'.gen) = (x2.S.gen)) ∧ ((S'.rel) = (x2.S.rel)) ∧ ((listE raw 60) = (listE raw 60)) ∧ ((x.lo) = (x2.lo)) ∧ ((x.lt) = (x2.lt)) ∧ (True ∧ ((Value.int IntKind.u32 (x.b)) = (Value.int IntKind.u32 (x2.b))) ∧ ((Value.int IntKind.u32 (x.o)) = (Value.int IntKind.u32 (x2.o))) ∧ ((Value.int IntKind.u32 (x.t)) = (Value.int IntKind.u32 (x2.t))) ∧ True ∧ True ∧ True ∧ True) ∧ ((L ++ [x.b, x.o, x.t]) = (x2.L)) ∧ (True ∧ True ∧ True) ∧ ((d) = (x2.d)) ∧ ((o1) = (x2.od)) ∧ True)))))))) ∧ (exW S') ∧ (∀ d : List SlotT, (∀ o1 : List Int, (((d) = (slotsOf S')) → (((o1) = (orderOf S')) → (∃ x2 : XMyT P5, (True ∧ (True ∧ ((Value.int IntKind.i64 (x.need)) = (Value.int IntKind.i64 (x2.need))) ∧ True ∧ ((Value.int IntKind.i64 (x1)) = (Value.int IntKind.i64 (x2.p))) ∧ True ∧ ((Value.int IntKind.u64 (S'.reads)) = (Value.int IntKind.u64 (x2.r))) ∧ True) ∧ ((raw) = (raw)) ∧ ((e1) = (e1)) ∧ ((e2) = (e2)) ∧ (True ∧ True ∧ True ∧ ((Value.int IntKind.u64 (S'.reads)) = (Value.int IntKind.u64 (x2.S.reads))) ∧ True) ∧ (True ∧ True ∧ True ∧ ((Value.int IntKind.u32 (S'.fresh)) = (Value.int IntKind.u32 (x2.S.fresh))) ∧ True) ∧ ((S'.nodes) = (x2.S.nodes)) ∧
    ((S'.counts) = (x2.S.counts)) ∧ ((S'.used) = (x2.S.used)) ∧ ((S'.gen) = (x2.S.gen)) ∧ ((S'.rel) = (x2.S.rel)) ∧ ((listE raw 60) = (listE raw 60)) ∧ ((x.lo) = (x2.lo)) ∧ ((x.lt) = (x2.lt)) ∧ (True ∧ ((Value.int IntKind.u32 (x.b)) = (Value.int IntKind.u32 (x2.b))) ∧ ((Value.int IntKind.u32 (x.o)) = (Value.int IntKind.u32 (x2.o))) ∧ ((Value.int IntKind.u32 (x.t)) = (Value.int IntKind.u32 (x2.t))) ∧ True ∧ True ∧ True ∧ True) ∧ ((L ++ [x.b, x.o, x.t]) = (x2.L)) ∧ (True ∧ True ∧ True) ∧ ((d) = (x2.d)) ∧ ((o1) = (x2.od)) ∧ True))))))) ∧ (∀ x2 : XMyT P5, (True → (∃ hs1 : List Int, (∃ tb : Tr, (∃ to : Tr, (∃ tt : Tr, ((MgM x2.S hs1 tb to tt x2.b x2.o x2.t) ∧ (∀ S'1 : Arn, (∀ i : Int, (∀ c : List Int, (∀ e : Int, ((MgR x2.S hs1 tb to tt x2.b x2.o x2.t x2.p S'1 i c e) → (((listE raw 60).length + x2.lo.length + x2.lt.length ≤ 1000000) ∧ (∀ r : Int, (∀ s : Bool, (((s) = (decide (trivB x2.b x2.o x2.t))) → (((trivB x2.b x2.o x2.t) → ((r) = (trivI x2.b x2.o x2.t))) → (((exW S'1) ∧ (∀ d : List SlotT, (∀ o1 : List Int, (((d) = (slotsOf S'1)) → (((o1) = (orderOf S'1)) → (∃ x3 : XMyT P2, (True ∧ (True ∧ ((Value.int IntKind.i64 (x2.need)) = (Value.int IntKind.i64 (x3.need))) ∧ True ∧ ((Value.int IntKind.i64 (x2.p)) = (Value.int IntKind.i64 (x3.p))) ∧ True ∧ ((Value.int IntKind.u64 (x2.r)) = (Value.int IntKind.u64 (x3.r))) ∧ ((Value.int IntKind.u32 (i)) = (Value.int IntKind.u32 (x3.i))) ∧ True ∧ ((Value.int IntKind.i64 (e)) = (Value.int IntKind.i64 (x3.e))) ∧ True ∧
    ((Value.int IntKind.u32 (r)) = (Value.int IntKind.u32 (x3.res))) ∧ ((Value.bool (s)) = (Value.bool (x3.same))) ∧ True ∧ True) ∧ ((raw) = (raw)) ∧ ((e1) = (e1)) ∧ ((e2) = (e2)) ∧ (True ∧ True ∧ True ∧ ((Value.int IntKind.u64 (S'1.reads)) = (Value.int IntKind.u64 (x3.S.reads))) ∧ True) ∧ (True ∧ True ∧ True ∧ ((Value.int IntKind.u32 (S'1.fresh)) = (Value.int IntKind.u32 (x3.S.fresh))) ∧ True) ∧ ((S'1.nodes) = (x3.S.nodes)) ∧ ((S'1.counts) = (x3.S.counts)) ∧ ((S'1.used) = (x3.S.used)) ∧ ((S'1.gen) = (x3.S.gen)) ∧ ((S'1.rel) = (x3.S.rel)) ∧ ((listE raw 60) = (listE raw 60)) ∧ ((x2.lo) = (x3.lo)) ∧ ((x2.lt) = (x3.lt)) ∧ (True ∧ ((Value.int IntKind.u32 (x2.b)) = (Value.int IntKind.u32 (x3.b))) ∧ ((Value.int IntKind.u32 (x2.o)) = (Value.int IntKind.u32 (x3.o))) ∧ ((Value.int IntKind.u32 (x2.t)) = (Value.int IntKind.u32 (x3.t))) ∧ True ∧ True ∧ True ∧ True) ∧ ((x2.L) = (x3.L)) ∧ (True ∧ True ∧ True) ∧ ((x2.d) = (x3.d)) ∧ ((x2.od) = (x3.od)) ∧ ((c) = (x3.c)) ∧ ((confE (listE raw 60) x2.lo x2.lt) = (confE (listE raw 60) x3.lo x3.lt)) ∧ (True ∧ True ∧ True) ∧ ((d) = (slotsOf x3.S)) ∧ ((o1) = (orderOf x3.S)) ∧ True))))))) ∧ (∀ x3 : XMyT P2, (True → ((brS (decide (x3.p < 1)) ((∃ x4 : XMyT P3, (True ∧ (True ∧ ((Value.int IntKind.i64 (x3.need)) = (Value.int IntKind.i64 (x4.need))) ∧ True ∧ ((Value.int IntKind.i64 (x3.p)) = (Value.int IntKind.i64 (x4.p))) ∧ True ∧ ((Value.int IntKind.u64 (x3.r)) = (Value.int IntKind.u64 (x4.r))) ∧
    ((Value.int IntKind.u32 (x3.i)) = (Value.int IntKind.u32 (x4.i))) ∧ True ∧ ((Value.int IntKind.i64 (x3.e)) = (Value.int IntKind.i64 (x4.e))) ∧ True ∧ ((Value.int IntKind.u32 (x3.res)) = (Value.int IntKind.u32 (x4.res))) ∧ ((Value.bool (x3.same)) = (Value.bool (x4.same))) ∧ True ∧ ((Value.bool true) = (Value.bool (x4.z))) ∧ True) ∧ ((raw) = (raw)) ∧ ((e1) = (e1)) ∧ ((e2) = (e2)) ∧ (True ∧ True ∧ True ∧ ((Value.int IntKind.u64 (x3.S.reads)) = (Value.int IntKind.u64 (x4.S.reads))) ∧ True) ∧ (True ∧ True ∧ True ∧ ((Value.int IntKind.u32 (x3.S.fresh)) = (Value.int IntKind.u32 (x4.S.fresh))) ∧ True) ∧ ((x3.S.nodes) = (x4.S.nodes)) ∧ ((x3.S.counts) = (x4.S.counts)) ∧ ((x3.S.used) = (x4.S.used)) ∧ ((x3.S.gen) = (x4.S.gen)) ∧ ((x3.S.rel) = (x4.S.rel)) ∧ ((listE raw 60) = (listE raw 60)) ∧ ((x3.lo) = (x4.lo)) ∧ ((x3.lt) = (x4.lt)) ∧ (True ∧ ((Value.int IntKind.u32 (x3.b)) = (Value.int IntKind.u32 (x4.b))) ∧ ((Value.int IntKind.u32 (x3.o)) = (Value.int IntKind.u32 (x4.o))) ∧ ((Value.int IntKind.u32 (x3.t)) = (Value.int IntKind.u32 (x4.t))) ∧ True ∧ True ∧ True ∧ True) ∧ ((x3.L) = (x4.L)) ∧ (True ∧ True ∧ True) ∧ ((x3.d) = (x4.d)) ∧ ((x3.od) = (x4.od)) ∧ ((x3.c) = (x4.c)) ∧ ((confE (listE raw 60) x3.lo x3.lt) = (confE (listE raw 60) x4.lo x4.lt)) ∧ (True ∧ True ∧ True) ∧ ((slotsOf x3.S) = (slotsOf x4.S)) ∧ ((orderOf x3.S) = (orderOf x4.S)) ∧ True))) ((∃ x4 : XMyT P3, (True ∧ (True ∧ ((Value.int IntKind.i64 (x3.need)) = (Value.int IntKind.i64 (x4.need))) ∧ True ∧
    ((Value.int IntKind.i64 (x3.p)) = (Value.int IntKind.i64 (x4.p))) ∧ True ∧ ((Value.int IntKind.u64 (x3.r)) = (Value.int IntKind.u64 (x4.r))) ∧ ((Value.int IntKind.u32 (x3.i)) = (Value.int IntKind.u32 (x4.i))) ∧ True ∧ ((Value.int IntKind.i64 (x3.e)) = (Value.int IntKind.i64 (x4.e))) ∧ True ∧ ((Value.int IntKind.u32 (x3.res)) = (Value.int IntKind.u32 (x4.res))) ∧ ((Value.bool (x3.same)) = (Value.bool (x4.same))) ∧ True ∧ ((Value.bool (decide (x3.p > 4))) = (Value.bool (x4.z))) ∧ True) ∧ ((raw) = (raw)) ∧ ((e1) = (e1)) ∧ ((e2) = (e2)) ∧ (True ∧ True ∧ True ∧ ((Value.int IntKind.u64 (x3.S.reads)) = (Value.int IntKind.u64 (x4.S.reads))) ∧ True) ∧ (True ∧ True ∧ True ∧ ((Value.int IntKind.u32 (x3.S.fresh)) = (Value.int IntKind.u32 (x4.S.fresh))) ∧ True) ∧ ((x3.S.nodes) = (x4.S.nodes)) ∧ ((x3.S.counts) = (x4.S.counts)) ∧ ((x3.S.used) = (x4.S.used)) ∧ ((x3.S.gen) = (x4.S.gen)) ∧ ((x3.S.rel) = (x4.S.rel)) ∧ ((listE raw 60) = (listE raw 60)) ∧ ((x3.lo) = (x4.lo)) ∧ ((x3.lt) = (x4.lt)) ∧ (True ∧ ((Value.int IntKind.u32 (x3.b)) = (Value.int IntKind.u32 (x4.b))) ∧ ((Value.int IntKind.u32 (x3.o)) = (Value.int IntKind.u32 (x4.o))) ∧ ((Value.int IntKind.u32 (x3.t)) = (Value.int IntKind.u32 (x4.t))) ∧ True ∧ True ∧ True ∧ True) ∧ ((x3.L) = (x4.L)) ∧ (True ∧ True ∧ True) ∧ ((x3.d) = (x4.d)) ∧ ((x3.od) = (x4.od)) ∧ ((x3.c) = (x4.c)) ∧ ((confE (listE raw 60) x3.lo x3.lt) = (confE (listE raw 60) x4.lo x4.lt)) ∧ (True ∧ True ∧ True) ∧ ((slotsOf x3.S) = (slotsOf x4.S)) ∧
    ((orderOf x3.S) = (orderOf x4.S)) ∧ True)))) ∧ (∀ x4 : XMyT P3, (True → (brS (x4.z) ((brS (x4.e == 1) ((brS (x4.i == 0) ((brS ((↑x4.c.length : Int) == 0) ((((slotsOf x4.S) = (x4.d)) ∧ ((orderOf x4.S) = (x4.od)) ∧ ((slotsOf x4.S).length ≤ 1000000) ∧ ((orderOf x4.S).length ≤ 1000000) ∧ (K (SV.one (TV.at (At.val (Value.bool true)))) [(Chunk.row false (EC.ent) (raw)), (Chunk.row false (EC.edm) (e1)), (Chunk.row false (EC.edm) (e2))] []))) ((K (SV.one (TV.at (At.val (Value.bool false)))) [(Chunk.row false (EC.ent) (raw)), (Chunk.row false (EC.edm) (e1)), (Chunk.row false (EC.edm) (e2))] [])))) ((K (SV.one (TV.at (At.val (Value.bool false)))) [(Chunk.row false (EC.ent) (raw)), (Chunk.row false (EC.edm) (e1)), (Chunk.row false (EC.edm) (e2))] [])))) ((K (SV.one (TV.at (At.val (Value.bool false)))) [(Chunk.row false (EC.ent) (raw)), (Chunk.row false (EC.edm) (e1)), (Chunk.row false (EC.edm) (e2))] [])))) ((brS (x4.same) ((brS (x4.e == 0) ((brS (x4.i == x4.res) ((brS ((↑x4.c.length : Int) == 0) ((brS ((↑(orderOf x4.S).length : Int) == (↑x4.od.length : Int)) (((0 ≤ x4.r) ∧ (x4.r ≤ x4.S.reads) ∧ (x4.S.reads ≤ 4000000000000000000) ∧ (x4.S.reads - x4.r ≤ 4) ∧ ((4 : Int) ≤ 4000000000000000000) ∧ ((x4.L.length + [x4.i].length) * bytesOf C0 EC.u32 ≤ 140737488355328) ∧ (∃ hs2 : List Int, ((Wf x4.S hs2) ∧ ((x4.L ++ [x4.i]).Perm hs2) ∧ ((x4.L ++ [x4.i]).length ≤ 1000000) ∧
    (K (SV.one (TV.at (At.val (Value.bool true)))) [(Chunk.row false (EC.ent) (raw)), (Chunk.row false (EC.edm) (e1)), (Chunk.row false (EC.edm) (e2))] []))))) ((K (SV.one (TV.at (At.val (Value.bool false)))) [(Chunk.row false (EC.ent) (raw)), (Chunk.row false (EC.edm) (e1)), (Chunk.row false (EC.edm) (e2))] [])))) ((K (SV.one (TV.at (At.val (Value.bool false)))) [(Chunk.row false (EC.ent) (raw)), (Chunk.row false (EC.edm) (e1)), (Chunk.row false (EC.edm) (e2))] [])))) ((K (SV.one (TV.at (At.val (Value.bool false)))) [(Chunk.row false (EC.ent) (raw)), (Chunk.row false (EC.edm) (e1)), (Chunk.row false (EC.edm) (e2))] [])))) ((K (SV.one (TV.at (At.val (Value.bool false)))) [(Chunk.row false (EC.ent) (raw)), (Chunk.row false (EC.edm) (e1)), (Chunk.row false (EC.edm) (e2))] [])))) ((brS (decide ((↑x4.od.length : Int) < x4.need)) ((brS (x4.e == 2) ((brS (x4.i == 0) ((brS ((↑x4.c.length : Int) == 0) ((((slotsOf x4.S) = (x4.d)) ∧ ((orderOf x4.S) = (x4.od)) ∧ ((slotsOf x4.S).length ≤ 1000000) ∧ ((orderOf x4.S).length ≤ 1000000) ∧ (K (SV.one (TV.at (At.val (Value.bool true)))) [(Chunk.row false (EC.ent) (raw)), (Chunk.row false (EC.edm) (e1)), (Chunk.row false (EC.edm) (e2))] []))) ((K (SV.one (TV.at (At.val (Value.bool false)))) [(Chunk.row false (EC.ent) (raw)), (Chunk.row false (EC.edm) (e1)), (Chunk.row false (EC.edm) (e2))] [])))) ((K (SV.one (TV.at (At.val (Value.bool false)))) [(Chunk.row false (EC.ent) (raw)), (Chunk.row false (EC.edm) (e1)), (Chunk.row false (EC.edm) (e2))] []))))
    ((K (SV.one (TV.at (At.val (Value.bool false)))) [(Chunk.row false (EC.ent) (raw)), (Chunk.row false (EC.edm) (e1)), (Chunk.row false (EC.edm) (e2))] [])))) (((brS (x4.p == 3) ((∃ x5 : XMyT P4, (True ∧ (True ∧ ((Value.int IntKind.i64 (x4.need)) = (Value.int IntKind.i64 (x5.need))) ∧ True ∧ ((Value.int IntKind.i64 (x4.p)) = (Value.int IntKind.i64 (x5.p))) ∧ True ∧ ((Value.int IntKind.u64 (x4.r)) = (Value.int IntKind.u64 (x5.r))) ∧ ((Value.int IntKind.u32 (x4.i)) = (Value.int IntKind.u32 (x5.i))) ∧ True ∧ ((Value.int IntKind.i64 (x4.e)) = (Value.int IntKind.i64 (x5.e))) ∧ True ∧ ((Value.int IntKind.u32 (x4.res)) = (Value.int IntKind.u32 (x5.res))) ∧ ((Value.bool (x4.same)) = (Value.bool (x5.same))) ∧ True ∧ ((Value.bool (decide ((↑(confE (listE raw 60) x4.lo x4.lt).length : Int) > 0))) = (Value.bool (x5.z))) ∧ True) ∧ ((raw) = (raw)) ∧ ((e1) = (e1)) ∧ ((e2) = (e2)) ∧ (True ∧ True ∧ True ∧ ((Value.int IntKind.u64 (x4.S.reads)) = (Value.int IntKind.u64 (x5.S.reads))) ∧ True) ∧ (True ∧ True ∧ True ∧ ((Value.int IntKind.u32 (x4.S.fresh)) = (Value.int IntKind.u32 (x5.S.fresh))) ∧ True) ∧ ((x4.S.nodes) = (x5.S.nodes)) ∧ ((x4.S.counts) = (x5.S.counts)) ∧ ((x4.S.used) = (x5.S.used)) ∧ ((x4.S.gen) = (x5.S.gen)) ∧ ((x4.S.rel) = (x5.S.rel)) ∧ ((listE raw 60) = (listE raw 60)) ∧ ((x4.lo) = (x5.lo)) ∧ ((x4.lt) = (x5.lt)) ∧ (True ∧ ((Value.int IntKind.u32 (x4.b)) = (Value.int IntKind.u32 (x5.b))) ∧ ((Value.int IntKind.u32 (x4.o)) = (Value.int IntKind.u32 (x5.o))) ∧
    ((Value.int IntKind.u32 (x4.t)) = (Value.int IntKind.u32 (x5.t))) ∧ True ∧ True ∧ True ∧ True) ∧ ((x4.L) = (x5.L)) ∧ (True ∧ True ∧ True) ∧ ((x4.d) = (x5.d)) ∧ ((x4.od) = (x5.od)) ∧ ((x4.c) = (x5.c)) ∧ ((confE (listE raw 60) x4.lo x4.lt) = (confE (listE raw 60) x5.lo x5.lt)) ∧ (True ∧ True ∧ True) ∧ ((slotsOf x4.S) = (slotsOf x5.S)) ∧ ((orderOf x4.S) = (orderOf x5.S)) ∧ True))) ((∃ x5 : XMyT P4, (True ∧ (True ∧ ((Value.int IntKind.i64 (x4.need)) = (Value.int IntKind.i64 (x5.need))) ∧ True ∧ ((Value.int IntKind.i64 (x4.p)) = (Value.int IntKind.i64 (x5.p))) ∧ True ∧ ((Value.int IntKind.u64 (x4.r)) = (Value.int IntKind.u64 (x5.r))) ∧ ((Value.int IntKind.u32 (x4.i)) = (Value.int IntKind.u32 (x5.i))) ∧ True ∧ ((Value.int IntKind.i64 (x4.e)) = (Value.int IntKind.i64 (x5.e))) ∧ True ∧ ((Value.int IntKind.u32 (x4.res)) = (Value.int IntKind.u32 (x5.res))) ∧ ((Value.bool (x4.same)) = (Value.bool (x5.same))) ∧ True ∧ ((Value.bool false) = (Value.bool (x5.z))) ∧ True) ∧ ((raw) = (raw)) ∧ ((e1) = (e1)) ∧ ((e2) = (e2)) ∧ (True ∧ True ∧ True ∧ ((Value.int IntKind.u64 (x4.S.reads)) = (Value.int IntKind.u64 (x5.S.reads))) ∧ True) ∧ (True ∧ True ∧ True ∧ ((Value.int IntKind.u32 (x4.S.fresh)) = (Value.int IntKind.u32 (x5.S.fresh))) ∧ True) ∧ ((x4.S.nodes) = (x5.S.nodes)) ∧ ((x4.S.counts) = (x5.S.counts)) ∧ ((x4.S.used) = (x5.S.used)) ∧ ((x4.S.gen) = (x5.S.gen)) ∧ ((x4.S.rel) = (x5.S.rel)) ∧ ((listE raw 60) = (listE raw 60)) ∧ ((x4.lo) = (x5.lo)) ∧ ((x4.lt) = (x5.lt)) ∧ (True ∧
    ((Value.int IntKind.u32 (x4.b)) = (Value.int IntKind.u32 (x5.b))) ∧ ((Value.int IntKind.u32 (x4.o)) = (Value.int IntKind.u32 (x5.o))) ∧ ((Value.int IntKind.u32 (x4.t)) = (Value.int IntKind.u32 (x5.t))) ∧ True ∧ True ∧ True ∧ True) ∧ ((x4.L) = (x5.L)) ∧ (True ∧ True ∧ True) ∧ ((x4.d) = (x5.d)) ∧ ((x4.od) = (x5.od)) ∧ ((x4.c) = (x5.c)) ∧ ((confE (listE raw 60) x4.lo x4.lt) = (confE (listE raw 60) x5.lo x5.lt)) ∧ (True ∧ True ∧ True) ∧ ((slotsOf x4.S) = (slotsOf x5.S)) ∧ ((orderOf x4.S) = (orderOf x5.S)) ∧ True)))) ∧ (∀ x5 : XMyT P4, (True → (brS (x5.z) ((brS (x5.e == 10) ((brS (x5.i == 0) ((brS (sameB x5.c (confE (listE raw 60) x5.lo x5.lt)) ((∃ hs2 : List Int, ((Wf x5.S hs2) ∧ (x5.L.Perm hs2) ∧ (x5.L.length ≤ 1000000) ∧ (K (SV.one (TV.at (At.val (Value.bool ((↑(orderOf x5.S).length : Int) == (↑x5.od.length : Int)))))) [(Chunk.row false (EC.ent) (raw)), (Chunk.row false (EC.edm) (e1)), (Chunk.row false (EC.edm) (e2))] [])))) ((K (SV.one (TV.at (At.val (Value.bool false)))) [(Chunk.row false (EC.ent) (raw)), (Chunk.row false (EC.edm) (e1)), (Chunk.row false (EC.edm) (e2))] [])))) ((K (SV.one (TV.at (At.val (Value.bool false)))) [(Chunk.row false (EC.ent) (raw)), (Chunk.row false (EC.edm) (e1)), (Chunk.row false (EC.edm) (e2))] [])))) ((K (SV.one (TV.at (At.val (Value.bool false)))) [(Chunk.row false (EC.ent) (raw)), (Chunk.row false (EC.edm) (e1)), (Chunk.row false (EC.edm) (e2))] [])))) ((brS (x5.e == 0) ((brS (sameB x5.c (confE (listE raw 60) x5.lo x5.lt))
    ((((listE raw 60).length + x5.lo.length + x5.lt.length ≤ 1000000) ∧ ((slotsOf x5.S).length ≤ 1000000) ∧ (∃ t2 : Tr, ((RepD (slotsOf x5.S) t2 x5.i) ∧ (Asc t2.list) ∧ (t2.Bal) ∧ (t2.size ≤ 2 * (slotsOf x5.S).length + 2) ∧ (t2.size ≤ 1000000) ∧ ((t2.list) = (mergeE (listE raw 60) x5.lo x5.lt x5.p)))) ∧ (keptD x5.d (slotsOf x5.S)) ∧ (x5.d.length ≤ 1000000) ∧ ((x5.L.length + [x5.i].length) * bytesOf C0 EC.u32 ≤ 140737488355328) ∧ (∃ hs2 : List Int, ((Wf x5.S hs2) ∧ ((x5.L ++ [x5.i]).Perm hs2) ∧ ((x5.L ++ [x5.i]).length ≤ 1000000) ∧ (K (SV.one (TV.at (At.val (Value.bool true)))) [(Chunk.row false (EC.ent) (raw)), (Chunk.row false (EC.edm) (e1)), (Chunk.row false (EC.edm) (e2))] []))))) ((K (SV.one (TV.at (At.val (Value.bool false)))) [(Chunk.row false (EC.ent) (raw)), (Chunk.row false (EC.edm) (e1)), (Chunk.row false (EC.edm) (e2))] [])))) ((K (SV.one (TV.at (At.val (Value.bool false)))) [(Chunk.row false (EC.ent) (raw)), (Chunk.row false (EC.edm) (e1)), (Chunk.row false (EC.edm) (e2))] [])))))))))))))))))))))))))))))))))))))))))))))))))))))))))))))) = _ by kernel_rfl) ?_
  subst hP1 hP2 hP3 hP4 hP5
  generalize listE raw 60 = B at *
  refine ⟨h0, by decide, by decide, hk, k1, k2, fun S b o t1 lo lt fk => ?_⟩
  have l1 := fk.sb
  have l2 := fk.so
  have l3 := fk.st
  have hn := Hn_rng ((B.length : Int) + lo.length + lt.length)
  refine ⟨by omega, by omega, by omega, by omega, by omega, by omega, fun p ep => ⟨brS_of (fun _ => ?_) fun _ => ?_, fun x _ => ?_⟩⟩
  · have e1 : IntKind.i64.wrap (p + 1) = p + 1 := wrap_id (by omega) (by omega)
    have hr : 0 ≤ (IntKind.i64.wrap f).tmod (IntKind.i64.wrap (p + 1)) := by
      rw [wrap_id (x := f) (by omega) (by omega)]
      exact Int.tmod_nonneg _ f0
    refine ⟨by omega, ⟨S, b, o, t1, lo, lt, p, _, fk, ep, hr⟩, ?_⟩
    (repeat' first | exact trivial | exact rfl | refine And.intro ?_ ?_)
  · have a1 : 0 ≤ f.tmod 5 := Int.tmod_nonneg _ f0
    have a2 : f.tmod 5 < 5 := Int.tmod_lt_of_pos _ (by decide)
    have e2 : IntKind.i64.wrap (f.tmod 5) = f.tmod 5 := wrap_id (by omega) (by omega)
    have hr : 0 ≤ IntKind.i64.wrap (p + IntKind.i64.wrap (f.tmod 5)) := by
      rw [e2, wrap_id (by omega) (by omega)]
      omega
    refine ⟨⟨S, b, o, t1, lo, lt, p, _, fk, ep, hr⟩, ?_⟩
    (repeat' first | exact trivial | exact rfl | refine And.intro ?_ ?_)
  clear hn ep l1 l2 l3 fk
  obtain ⟨S, b, o, t, lo, lt, need, room, fk, en, hr⟩ := x
  dsimp only
  refine ⟨_, fk.h.wf, by simp, hr, fun S1 k L sq hk => ?_⟩
  obtain ⟨tb, to, tt, hm, eb, eo, et, ne, rd⟩ := sq_mg fk sq hk
  have len : (L ++ [b, o, t]).length ≤ 20000 := by rw [List.length_append, sq.len]; simp; omega
  refine ⟨by rw [bytes_u32, sq.len]; simp; omega, by decide, by decide, fun p ep => ⟨?_, fun x _ => ?_⟩⟩
  · have hQ : ∀ d od, d = slotsOf S1 → od = orderOf S1 → PY5 B S1 b o t lo lt need (L ++ [b, o, t]) p d od S1.reads 0 [] 0 0 false false := fun d od e1 e2 =>
      ⟨_, tb, to, tt, hm, perm_sq L b o t, len, rd, e1, e2, rfl, eb, eo, et, fk.sb, fk.so, fk.st, by rw [ne]; exact en⟩
    refine ⟨⟨⟨_, hm.wf⟩, fun d od e1 e2 => ⟨⟨⟨_, _, _, _, _, _, _, _, _, _, _, _, _, _, _, _, _, _, hQ d od e1 e2⟩, ?_⟩, ⟨_, _, _, _, _, _, _, _, _, _, _, _, _, _, _, _, _, _, hQ d od e1 e2⟩, ?_⟩⟩, ⟨_, hm.wf⟩, fun d od e1 e2 => ⟨⟨_, _, _, _, _, _, _, _, _, _, _, _, _, _, _, _, _, _, hQ d od e1 e2⟩, ?_⟩⟩
    all_goals (repeat' first | exact trivial | exact rfl | refine And.intro ?_ ?_)
  clear len rd ne et eo eb hm tb to tt sq hk hr en fk
  obtain ⟨S, b, o, t, lo, lt, need, L, p, d, od, r, _, _, _, _, _, _, hs, tb, to, tt, hm, pm, len, rd, ed, eo, er, qb, qo, qt, l1, l2, l3, en⟩ := x
  dsimp only
  refine ⟨hs, tb, to, tt, hm, fun S1 i c e mg => ⟨by omega, fun res same es er2 => ⟨⟨mg.ex hm, fun d1 o1 e1 e2 => ?_⟩, fun x _ => ?_⟩⟩⟩
  · have hQ : PY2 B S1 b o t lo lt need L p d od r i c e res same false := ⟨S, hs, tb, to, tt, hm, pm, len, rd, ed, eo, er, qb, qo, qt, l1, l2, l3, en, mg, es, er2⟩
    refine ⟨⟨_, _, _, _, _, _, _, _, _, _, _, _, _, _, _, _, _, _, hQ⟩, ?_⟩
    (repeat' first | exact trivial | exact rfl | exact e1 | exact e2 | refine And.intro ?_ ?_)
  clear er2 es mg S1 i c e res same en l1 l2 l3 qb qo qt er eo ed rd len pm hm
  obtain ⟨S, b, o, t, lo, lt, need, L, p, d, od, r, i, c, e, res, same, _, S0, hs, tb, to, tt, hc⟩ := x
  dsimp only
  refine ⟨?_, fun x _ => ?_⟩
  · refine brS_of (fun q => ?_) fun q => ?_
    · have q := of_decide_eq_true q
      have hQ : PY3 B S b o t lo lt need L p d od r i c e res same true := ⟨(decide_eq_true (by omega)).symm, S0, hs, tb, to, tt, hc⟩
      refine ⟨⟨_, _, _, _, _, _, _, _, _, _, _, _, _, _, _, _, _, _, hQ⟩, ?_⟩
      (repeat' first | exact trivial | exact rfl | refine And.intro ?_ ?_)
    · have q := of_decide_eq_false q
      have hQ : PY3 B S b o t lo lt need L p d od r i c e res same (decide (p > 4)) := ⟨decide_eq_decide.2 (by omega), S0, hs, tb, to, tt, hc⟩
      refine ⟨⟨_, _, _, _, _, _, _, _, _, _, _, _, _, _, _, _, _, _, hQ⟩, ?_⟩
      (repeat' first | exact trivial | exact rfl | refine And.intro ?_ ?_)
  clear hc
  obtain ⟨S, b, o, t, lo, lt, need, L, p, d, od, r, i, c, e, res, same, z, ez, S0, hs, tb, to, tt, hc⟩ := x
  dsimp only
  have hm := hc.hm
  have w0 := hm.wf
  have ol : (od.length : Int) = S0.free := by rw [hc.eod]; exact order_free w0
  have sl0 := slots_le w0
  have ol0 := order_len w0
  have r0 := w0.rds.1
  have rd := hc.rd
  have len := hc.len
  have lp := hc.perm.length_eq
  have er := hc.er
  have en := hc.en
  have mg := hc.mg
  refine brS_of (fun q => ?_) fun q => brS_of (fun qs => ?_) fun qs => brS_of (fun qf => ?_) fun qf => ⟨?_, fun x _ => ?_⟩
  · rw [ez] at q
    have q := of_decide_eq_true q
    rcases mg with ⟨_, m1, m2, m3, m4⟩ | ⟨m, _⟩ | ⟨m, _⟩ | ⟨m, _⟩ | ⟨m, _⟩
    · subst m4
      exact bt7 (by rw [m1]; rfl) (bt7 (by rw [m2]; rfl) (bt7 (by rw [m3]; rfl) ⟨hc.ed.symm, hc.eod.symm, by omega, by omega, h⟩))
    all_goals exact absurd m q
  · rw [ez] at q
    have q : 1 ≤ p ∧ p ≤ 4 := Decidable.not_not.1 (of_decide_eq_false q)
    rw [hc.es] at qs
    have qs := of_decide_eq_true qs
    rcases mg with ⟨m, _⟩ | ⟨_, _, m1, m2, m3, m4⟩ | ⟨_, m, _⟩ | ⟨_, m, _⟩ | ⟨_, m, _⟩
    · exact absurd q m
    · have w := hm.triv
      have re := (retL_flds S0 i).1
      rw [← m2] at w
      subst m4
      refine bt7 (by rw [m1]; rfl) (bt7 (by rw [m2, hc.er2 qs]; simp) (bt7 (by rw [m3]; rfl) (bt7 (by rw [retL_orders, hc.eod]; simp) ⟨by omega, by omega, by omega, by omega, by decide, by rw [bytes_u32]; simp; omega, _, w, perm_end i hc.perm, by simp; omega, h⟩)))
    all_goals exact absurd qs m
  · rw [ez] at q
    have q : 1 ≤ p ∧ p ≤ 4 := Decidable.not_not.1 (of_decide_eq_false q)
    rw [hc.es] at qs
    have qs := of_decide_eq_false qs
    have qf := of_decide_eq_true qf
    rcases mg with ⟨m, _⟩ | ⟨_, m, _⟩ | ⟨_, _, _, m1, m2, m3, m, mb, m4⟩ | ⟨_, _, m, _⟩ | ⟨_, _, m, _⟩
    · exact absurd q m
    · exact absurd m qs
    · subst m4
      refine bt7 (by rw [m1]; rfl) (bt7 (by rw [m2]; rfl) (bt7 (by rw [m3]; rfl) ⟨by rw [hc.ed]; rfl, by rw [hc.eod]; rfl, ?_, ?_, h⟩))
      · show (slotsOf S0).length ≤ _; omega
      · show (orderOf S0).length ≤ _; omega
    all_goals omega
  · rw [ez] at q
    have q : 1 ≤ p ∧ p ≤ 4 := Decidable.not_not.1 (of_decide_eq_false q)
    rw [hc.es] at qs
    have qs := of_decide_eq_false qs
    have qf := of_decide_eq_false qf
    have qf : needM tb to tt ≤ S0.free := by omega
    refine brS_of (fun q3 => ?_) fun q3 => ?_
    · have q3 : p = 3 := by simpa using q3
      have hQ : PY4 B S b o t lo lt need L p d od r i c e res same (decide (((confE B lo lt).length : Int) > 0)) := ⟨by rw [Bool.eq_iff_iff, conf_pos, decide_eq_true_iff]; exact ⟨fun h => ⟨q3, h⟩, fun h => h.2⟩, q, qs, S0, hs, tb, to, tt, qf, hc⟩
      refine ⟨⟨_, _, _, _, _, _, _, _, _, _, _, _, _, _, _, _, _, _, hQ⟩, ?_⟩
      (repeat' first | exact trivial | exact rfl | refine And.intro ?_ ?_)
    · have q3 : p ≠ 3 := by simpa using q3
      have hQ : PY4 B S b o t lo lt need L p d od r i c e res same false := ⟨(decide_eq_false fun h => q3 h.1).symm, q, qs, S0, hs, tb, to, tt, qf, hc⟩
      refine ⟨⟨_, _, _, _, _, _, _, _, _, _, _, _, _, _, _, _, _, _, hQ⟩, ?_⟩
      (repeat' first | exact trivial | exact rfl | refine And.intro ?_ ?_)
  clear mg en er lp len rd r0 ol0 sl0 ol w0 hm hc ez q qs qf
  obtain ⟨S, b, o, t, lo, lt, need, L, p, d, od, r, i, c, e, res, same, z, ez, q, qs, S0, hs, tb, to, tt, qf, hc⟩ := x
  dsimp only
  have hm := hc.hm
  have w0 := hm.wf
  have ol : (od.length : Int) = S0.free := by rw [hc.eod]; exact order_free w0
  have sl0 := slots_le w0
  have rd := hc.rd
  have len := hc.len
  have lp := hc.perm.length_eq
  have l1 := hc.l1
  have l2 := hc.l2
  have l3 := hc.l3
  have mg := hc.mg
  unfold MgR at mg
  rw [hc.eb, hc.eo, hc.et] at mg
  refine brS_of (fun qc => ?_) fun qc => ?_
  · rw [ez] at qc
    have qc := of_decide_eq_true qc
    rcases mg with ⟨m, _⟩ | ⟨_, m, _⟩ | ⟨_, _, m, _⟩ | ⟨_, _, _, _, m1, m2, m3, m, mb, m4⟩ | ⟨_, _, _, m, _⟩
    · exact absurd q m
    · exact absurd m qs
    · omega
    · have w := w0.rd (n := m) (by omega)
      subst m4
      refine bt7 (by rw [m1]; rfl) (bt7 (by rw [m2]; rfl) (bt7 (by rw [m3]; simp [sameB]) ⟨_, w, hc.perm, by omega, ?_⟩))
      rw [show (((orderOf (rdS S0 m)).length : Int) == (od.length : Int)) = true by rw [hc.eod]; exact beq_self_eq_true _]
      exact h
    · exact absurd qc m
  · rw [ez] at qc
    have qc := of_decide_eq_false qc
    rcases mg with ⟨m, _⟩ | ⟨_, m, _⟩ | ⟨_, _, m, _⟩ | ⟨_, _, _, m, _⟩ | ⟨_, _, _, _, m1, m2, m3⟩
    · exact absurd q m
    · exact absurd m qs
    · omega
    · exact absurd m qc
    · have w := m3.got.wf
      obtain ⟨u, rp, lu, bu⟩ := m3.tree
      have ut := tr_tree w rp lu bu (mergeE_asc ..)
      have sl := slots_le w
      refine bt7 (by rw [m1]; rfl) (bt7 (by rw [m2]; simp [sameB]) ⟨by omega, by omega, ut, by rw [hc.ed]; exact kept_of w0 m3.got.stay m3.got.len, by rw [hc.ed]; omega, by rw [bytes_u32]; simp; omega, _, w, perm_end i hc.perm, by simp; omega, h⟩)
theorem s_my : SoundT C0 3 tMy := by
  refine .of Tryz.func3 (by decide) rfl fun args H K h hB => ?_
  unfold tMy at h
  split at h <;> try exact h.elim
  rename_i t pol f raw e1 e2
  refine ⟨_, ?_, vc_my raw e1 e2 t pol f K h.1 h.2.1 h.2.2.1 h.2.2.2.1 h.2.2.2.2.1 h.2.2.2.2.2.1 h.2.2.2.2.2.2⟩
  exact ⟨s_fk, frame C0.ok s_aw20 _, frame C0.ok s_nMg _, frame C0.ok s_sq _, frame C0.ok s_mod _, frame C0.ok s_dump _, frame C0.ok s_rds _, frame C0.ok s_mg _, frame C0.ok s_cf9 _, frame C0.ok s_s3 _, frame C0.ok s_sameD _, frame C0.ok s_wi _, frame C0.ok s_sound _, frame C0.ok s_sameI _, frame C0.ok s_tr7 _, frame C0.ok s_m9 _, frame C0.ok s_kept _, trivial⟩
end Go.Proofs.YtbonbaccmlomhaaGreat.Sx
end
section
/- What every law's last step leans on. -/
namespace Go.Proofs.YtbonbaccmlomhaaGreat
open Go.ChangeShapes Go.WideShapes Go.ChangeAt Go.RowKit

theorem ownK : ownKnob Tryz.prog.godebug = none := by kernel_rfl
theorem laidO : laidOutB Tryz.prog = true := by kernel_rfl

theorem lit_i64 {a : Int} (h : (Lit.int .i64 a).wf = true) : -9223372036854775808 ≤ a ∧ a ≤ 9223372036854775807 := by
  have h1 : IntKind.i64.min = -9223372036854775808 := rfl
  have h2 : IntKind.i64.max = 9223372036854775807 := rfl
  simp only [Lit.wf, Bool.and_eq_true, decide_eq_true_eq] at h
  omega
theorem lit_u64 {a : Int} (h : (Lit.int .u64 a).wf = true) : 0 ≤ a ∧ a ≤ 18446744073709551615 := by
  have h1 : IntKind.u64.min = 0 := rfl
  have h2 : IntKind.u64.max = 18446744073709551615 := rfl
  simp only [Lit.wf, Bool.and_eq_true, decide_eq_true_eq] at h
  omega
theorem lit_u16 {a : Int} (h : (Lit.int .u16 a).wf = true) : 0 ≤ a ∧ a ≤ 65535 := by
  have h1 : IntKind.u16.min = 0 := rfl
  have h2 : IntKind.u16.max = 65535 := rfl
  simp only [Lit.wf, Bool.and_eq_true, decide_eq_true_eq] at h
  omega
end Go.Proofs.YtbonbaccmlomhaaGreat
end
