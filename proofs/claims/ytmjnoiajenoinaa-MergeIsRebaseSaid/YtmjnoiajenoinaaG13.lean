/- A part of the proof. -/
import Derived.Test.YtmjnoiajenoinaaG12
import Derived.Test.YtmjnoiajenoinaaG10
import Derived.Test.YtmjnoiajenoinaaG11
section
/- The law that Delete deletes. -/
namespace Go.Proofs.Ytmjnoiajenoinaa.Sx
open Go

/-KEEP Wf exW inU live Arn.cap Arn.free Rep rdS retL Tr.size Tr.list slotsOf orderOf PlantR newS insE outE listE getE TrR upM Hn keptD Asc Tr.Bal ht dB RepD List.Perm-/
structure XUe (P : Arn → Int → List Ent → Int → Prop) where
  S : Arn
  i : Int
  l : List Ent
  need : Int
  k : Int
  h : P S i l need
structure UdS where
  S0 : Arn
  S : Arn
  root : Int
  l : List Ent
  need : Int
  k : Int
  v : Int
  is : Bool
  d : List SlotT
  o : List Int
  r : Int
  i : Int
  w : Int
  f : Int
structure XUd (P : UdS → Prop) where
  z : UdS
  h : P z
structure XUw (P : UdS → Int → Prop) where
  z : UdS
  want : Int
  h : P z want
abbrev chUd (raw : List Ent) (z : UdS) : List (Chunk C0) := [.row false EC.ent raw] ++ chSk 1 z.S ++ [.row true EC.ent z.l, .box [.slc 10, .slc 11], .row true EC.slot z.d, .row true EC.u32 z.o]
def tUd : Tfm C0 := fun args H K => match args, H with
  | [.at (.slc 0), .at (.val (.int .u64 t)), .at (.val (.int .i64 _)), .at (.val (.int .i64 at')), .at (.val (.int .u16 f))], [.row false .ent raw] => 0 ≤ t ∧ -9223372036854775808 ≤ at' ∧ at' ≤ 9223372036854775807 ∧ 0 ≤ f ∧ f ≤ 65535 ∧ K (.one (.at (vB true))) [.row false EC.ent raw] []
  | _, _ => False
theorem outE_flt (l : List Ent) (k : Int) : outE l k k = flt (neK k) l := by
  unfold outE flt neK
  congr 1
  funext x
  by_cases h : x.1 = k
  · simp [h]
  · rw [decide_eq_true (show x.1 ≠ k from h)]
    simp; omega
def PUe (S : Arn) (i : Int) (l : List Ent) (need : Int) : Prop := ∃ t, upM S [i] t i ∧ t.list = l ∧ t.size = l.length ∧ l.length ≤ 150 ∧ need = 4 * (Hn (l.length : Int) + 2) ∧ S.reads = 0
/-- What Delete comes to. -/
def PUd (z : UdS) : Prop := ∃ t, upM z.S0 [z.root] t z.root ∧ t.list = z.l ∧ t.size = z.l.length ∧ z.l.length ≤ 150 ∧ z.need = 4 * (Hn (z.l.length : Int) + 2) ∧ z.r = 0 ∧ z.d = slotsOf z.S0 ∧ z.o = orderOf z.S0 ∧ 0 ≤ z.S.reads ∧ z.S.reads ≤ 60 * (Hn ((z.l.length : Int) + 1) + 2) ∧ z.v = (getE z.l z.k).getD 0 ∧ z.is = (getE z.l z.k).isSome ∧
  ((getE z.l z.k = none ∧ z.f = 4 ∧ z.i = 0 ∧ z.w = 0 ∧ ∃ m, z.S = rdS z.S0 m) ∨
   ((getE z.l z.k).isSome = true ∧ z.S0.free < z.need ∧ z.f = 2 ∧ z.i = 0 ∧ z.w = 0 ∧ ∃ m, z.S = rdS z.S0 m) ∨
   ((getE z.l z.k).isSome = true ∧ z.need ≤ z.S0.free ∧ z.f = 0 ∧ z.w = z.v ∧ ∃ (m r : Nat), (m : Int) ≤ z.need ∧ TrR z.S0 [z.root] (flt (neK z.k) z.l) m r z.S z.i))
def PUw (z : UdS) (want : Int) : Prop := PUd z ∧ want = z.f
end Go.Proofs.Ytmjnoiajenoinaa.Sx
end
section
/- update.Increase, and the laws that updates increase, commute and share. -/
namespace Go.Proofs.Ytmjnoiajenoinaa.Sx
open Go

/-KEEP Wf exW inU live Arn.cap Arn.free Rep rdS retL Tr.size Tr.list slotsOf orderOf PlantR newS insE outE listE getE TrR upM Hn keptD Asc Tr.Bal ht dB iB RepD List.Perm flt neK-/
noncomputable def aInc : Ann C0 := { Γ := [(69, frameT [] tGetT), (32, frameT [] tUpIn)] }
def tInc : Tfm C0 := fun args H K => match args with
  | [.at (.ptr 0 0), .at (.val (.int .u32 r)), .at (.val (.int .i64 k)), .at (.val (.int .i64 n))] => arM H fun S => ∃ hs t, upM S hs t r ∧ S.reads ≤ 900000000000000000 ∧ 4 * (Hn (t.size + 1) + 2) ≤ S.free ∧
    ∀ S' j w, w = IntKind.i64.wrap ((getE t.list k).getD 0 + n) → TrR S hs (insE t.list (k, w)) (iB t.size) (5 * iB t.size + 2 * ht t + 1) S' j → K (.tup [.at (vU j), .at (vI w), .at (vI 0)]) (chS S') W7
  | _ => False
structure XUc (P : Arn → Int → List Ent → Prop) where
  S : Arn
  i : Int
  l : List Ent
  k : Int
  h : P S i l
def tUc : Tfm C0 := fun args H K => match args, H with
  | [.at (.slc 0), .at (.val (.int .u64 t)), .at (.val (.int .i64 _)), .at (.val (.int .i64 n)), .at (.val (.int .i64 at'))], [.row false .ent raw] => 0 ≤ t ∧ (-9223372036854775808 ≤ n ∧ n ≤ 9223372036854775807) ∧ (-9223372036854775808 ≤ at' ∧ at' ≤ 9223372036854775807) ∧ (∀ x ∈ raw, -9223372036854775808 ≤ x.2 ∧ x.2 ≤ 9223372036854775807) ∧ K (.one (.at (vB true))) [.row false EC.ent raw] []
  | _, _ => False
/-! ### The law that Increase increases -/
theorem Hn_le {n m : Nat} (h : n ≤ m) : Hn n ≤ Hn m := by
  have a := gN_size n
  have b := gN_size m
  have c := gN_mono (v := n + 1) (w := m + 1) (by omega) (by omega)
  omega
theorem gN_top {w v g : Nat} (h8 : v ≤ w) (hg : g < 80) (hw : (w : Int) < wt (g + 1)) : gN v ≤ g := by
  by_cases c : gN v ≤ g
  · exact c
  · by_cases z : 1 ≤ v
    · have h1 := gN_wt z
      have h2 := wt_mono (show g + 1 ≤ gN v by omega) (gN_rng v)
      omega
    · have : v = 0 := by omega
      subst this
      exact absurd (show gN 0 ≤ g by have : gN 0 = 0 := by decide
                                     omega) c
theorem Hn_104 {n : Nat} (h : n ≤ 112) : Hn n ≤ 13 := by
  have a := gN_size n
  have b := gN_top (w := 113) (v := n + 1) (g := 13) (by omega) (by omega) (by have : wt (13 + 1) = 115 := by decide
                                                                               omega)
  omega
def PUc (S : Arn) (i : Int) (l : List Ent) : Prop := ∃ t, upM S [i] t i ∧ t.list = l ∧ t.size = l.length ∧ l.length ≤ 100 ∧ S.free = 200 ∧ S.reads = 0 ∧ ∀ x ∈ l, -9223372036854775808 ≤ x.2 ∧ x.2 ≤ 9223372036854775807
end Go.Proofs.Ytmjnoiajenoinaa.Sx
end
section
/- Building and listing trees where there is room. -/
namespace Go.Proofs.Ytmjnoiajenoinaa.Sx
open Go

/-- Where there is room, an ascending list becomes a tree. -/
def tBuildOk : Tfm C0 := fun args H K => match args with
  | [.at (.ptr 0 0), .at (.slc 7)] => arMr H fun S rest => match rest with
    | [.row false .ent l] => ∃ hs, Wf S hs ∧ Asc l ∧ l.length ≤ 60000 ∧ hs.length ≤ 900000 ∧ (l.length : Int) ≤ S.free ∧ S.reads ≤ 900000000000000000 ∧ ∀ S' i, TrR S hs l 65537 0 S' i → K (.tup [.at (vU i), .at (vI 0)]) (chS S' ++ [.row false EC.ent l]) W7
    | _ => False
  | _ => False
theorem shp_sizeV {t : Tr} {l : List Ent} (h : ShpT t l) : t.size = l.length := by rw [← t.list_len, h.list]
theorem shp_balV : ∀ {t : Tr} {l : List Ent}, ShpT t l → t.Bal
  | .nil, _, _ => trivial
  | .node a k v b, l, h => by
    obtain ⟨h1, h2, h3, h4⟩ := h
    have s3 := shp_sizeV h3
    have s4 := shp_sizeV h4
    simp only [List.length_take, List.length_drop] at s3 s4
    refine ⟨?_, shp_balV h3, shp_balV h4⟩
    unfold balN
    omega
theorem ascB_of {l : List Ent} (h : Asc l) : ascB l = true := decide_eq_true h
theorem build_tr {S S' : Arn} {hs : List Int} {l : List Ent} {i : Int} (w : Wf S hs) (b : BuildR S hs l S' i) (hl : l.length ≤ 60000) : TrR S hs l 65537 0 S' i := by
  obtain ⟨t, rp, sp⟩ := b.rep
  exact ⟨⟨b.wf, b.stay, b.len, by rw [b.nu]; omega, by rw [b.rds]; exact Int.le_refl _, by rw [b.rds]; omega⟩, t, rp, sp.list, shp_balV sp⟩
theorem s_buildOk : SoundT C0 101 tBuildOk := s_build.weak fun args H K h => by
  unfold tBuildOk at h
  unfold tBuild
  split at h <;> try exact h.elim
  unfold arMr at h ⊢
  split at h <;> try exact h.elim
  dsimp only at h ⊢
  split at h <;> try exact h.elim
  obtain ⟨hs, w, asc, hl, hh, hf, hr, h⟩ := h
  exact ⟨hs, w, by omega, by omega, fun e => absurd (ascB_of asc) (by rw [e]; decide), fun _ c => absurd hf (by omega), fun _ _ S' i b => h S' i (build_tr w b hl)⟩
def tLsOk : Tfm C0 := fun args H K => match args with
  | [.at (.ptr 0 0), .at (.val (.int .u32 i))] => arM H fun S => ∃ hs t, Wf S hs ∧ Rep S t i ∧ Asc t.list ∧ Kin t.list ∧ t.size ≤ 60000 ∧ S.reads ≤ 1000000000000000000 ∧
    ∀ S' m (out : List Ent), S' = rdS S m → m ≤ t.size → out = t.list → K (.one (.at (.slc 7))) (chS S' ++ [.row true EC.ent out]) [0]
  | _ => False
theorem rangeR_few2 (t : Tr) (lo hi lim : Int) : (rangeR t lo hi lim).2 ≤ t.size := by
  unfold rangeR
  split
  · simp
  · exact (lk_len t lo hi _).2.2
theorem s_lsOk : SoundT C0 54 tLsOk := s_list.weak fun args H K h => by
  unfold tLsOk at h
  unfold tList
  split at h <;> try exact h.elim
  unfold arM at h ⊢
  split at h <;> try exact h.elim
  obtain ⟨hs, t, w, rp, asc, kw, sz, rd, h⟩ := h
  exact ⟨hs, t, w, rp, by omega, by omega, fun S' out e eo => h S' _ out e (rangeR_few2 t _ _ _) (by rw [eo]; exact range_all asc kw (by omega))⟩
theorem cap_new (c : Nat) : (newS c).cap = c := by unfold Arn.cap newS; simp
theorem Hld.new {c : Nat} (h1 : 1 ≤ c) (h2 : c ≤ 65536) : Hld (newS c) [] := ⟨Wf.new h1 h2, fun _ h => (by cases h), fun _ h => (by cases h), fun _ h => (by cases h)⟩
end Go.Proofs.Ytmjnoiajenoinaa.Sx
end
section
/- Edits: what stays in range. No program in sight. -/
namespace Go.Proofs.Ytmjnoiajenoinaa.Sx
open Go

theorem kin_ins {l : List Ent} {e : Ent} (ha : Asc l) (h : Kin l) (he : -9223372036854775808 ≤ e.1 ∧ e.1 ≤ 9223372036854775807) : Kin (insE l e) := fun x hx => by
  rcases insE_mem ha hx with rfl | c
  · exact he
  · exact h x c
theorem kin_flt {p : Int → Bool} {l : List Ent} (h : Kin l) : Kin (flt p l) := fun x hx => h x (flt_mem hx)
theorem numsB {t : Tr} (h : t.size ≤ 110) (bal : t.Bal) : 5 * iB t.size + ht t + 1 ≤ 300 ∧ 5 * dB t.size + ht t + 1 ≤ 300 ∧ (iB t.size : Int) = 4 * Hn t.size + 1 ∧ (dB t.size : Int) ≤ 4 * Hn t.size + 4 := by
  have a := iB_Hn t.size
  have b := dB_Hn t.size
  have c := Bal.height bal (by omega)
  have d := Hn_104 (n := t.size) (by omega)
  omega
def KinD (l : List EdtT) : Prop := ∀ e ∈ l, -9223372036854775808 ≤ e.ent.1 ∧ e.ent.1 ≤ 9223372036854775807
end Go.Proofs.Ytmjnoiajenoinaa.Sx
end
section
/- law20: edit, fork, awake; merges where there is room. -/
namespace Go.Proofs.Ytmjnoiajenoinaa.Sx
open Go

/-KEEP EdM Wf Kept exW inU live Arn.cap Arn.free Rep rdS retL Tr.size Tr.list Tr.Bal Asc Kin KinD PlantR listE newS insE outE flt neK getE TrR Got upM Hn iB dB ht min MgM needM confE mergeE BuildR-/
structure EdM (S : Arn) (hs : List Int) (x : Int) (l : List Ent) (ed : List EdtT) (I : Nat) : Prop where
  wf : Wf S hs
  tree : ∃ t, Rep S t x ∧ t.list = l ∧ t.Bal
  asc : Asc l
  kin : Kin l
  kd : KinD ed
  len : l.length ≤ 60
  hl : hs.length ≤ 1000
  rd : S.reads ≤ 1000000
  i4 : 4 * (Hn ((l.length + 9 : Nat) : Int) + 2) ≤ (I : Int)
  i60 : I ≤ 100
  free : ((8 * I : Nat) : Int) ≤ S.free
structure XE1 (P : Nat → Arn → Int → List Ent → Prop) where
  i : Nat
  S : Arn
  y : Int
  m : List Ent
  h : P i S y m
structure XE2 (P : Nat → Arn → Int → Int → List Ent → Prop) where
  i : Nat
  S : Arn
  y : Int
  z : Int
  m : List Ent
  h : P i S y z m
noncomputable def aEd (P1 : Nat → Arn → Int → List Ent → Prop) (P2 : Nat → Arn → Int → Int → List Ent → Prop) (l : List Ent) (ed : List EdtT) : Ann C0 := { rounds := fun n => if n = 4 then 1 else 0, Γ := [(61, frameT [] tRetL), (10, frameT [] tMod), (29, frameT [] tUpDe), (30, frameT [] tDel), (32, frameT [] tUpIn), (33, frameT [] tIns), (14, frameT [] tRel)], inv := fun k => match k with
  | 4 => some { X := XE1 P1, sl := [1, 2, 11], wr := W7, tf := fun x => [vi .u32 x.y, .one (.at (.slc 9)), vi .i64 x.i], hf := fun x => chS x.S ++ [.row false EC.ent l, .row false EC.edm ed, .row true EC.ent x.m], μ := fun x => min ed.length 8 - x.i }
  | 1014 => some { X := XE2 P2, sl := [1, 11, 12, 13, 14], wr := W7, tf := fun x => [vi .u32 x.y, vi .i64 x.i, vi .u32 x.z, vi .i64 0, .one (.at (.slc 9))], hf := fun x => chS x.S ++ [.row false EC.ent l, .row false EC.edm ed, .row true EC.ent x.m], rel := fun T _ x => slotI T 11 x.i }
  | _ => none }
def tEd : Tfm C0 := fun args H K => match args with
  | [.at (.ptr 0 0), .at (.val (.int .u32 x)), .at (.slc 7), .at (.slc 8)] => arMr H fun S rest => match rest with
    | [.row false .ent l, .row false .edm ed] => ∃ hs I, EdM S hs x l ed I ∧
      (ed.length = 0 → ∀ S', TrR S hs l (8 * I) 8000 S' x → K (.tup [.at (vU x), .at (.slc 7), .at (vB true)]) (chS S' ++ [.row false EC.ent l, .row false EC.edm ed]) W7) ∧
      (∀ S' y m, TrR S hs m (8 * I) 8000 S' y → Asc m → Kin m → m.length ≤ l.length + 8 → K (.tup [.at (vU y), .at (.slc 9), .at (vB true)]) (chS S' ++ [.row false EC.ent l, .row false EC.edm ed, .row true EC.ent m]) W7)
    | _ => False
  | _ => False
/-- Three trees of one arena, with their entries. -/
structure FkR (S : Arn) (b o t : Int) (lb lo lt : List Ent) (sp : Int) : Prop where
  h : Hld S [(t, lt), (o, lo), (b, lb)]
  sb : lb.length ≤ 60
  so : lo.length ≤ 68
  st : lt.length ≤ 68
  rd : S.reads ≤ 20000
  free : sp ≤ S.free
  cap : lb.length + sp + 144 ≤ S.cap
  top : S.cap ≤ lb.length + sp + 1100
structure XF0 (P : Arn → Int → Prop) where
  S : Arn
  b : Int
  h : P S b
structure XF1 (P : Arn → Int → Int → List Ent → Prop) where
  S : Arn
  b : Int
  o : Int
  lo : List Ent
  h : P S b o lo
structure XF2 (P : Arn → Int → Int → Int → List Ent → List Ent → Prop) where
  S : Arn
  b : Int
  o : Int
  t : Int
  lo : List Ent
  lt : List Ent
  h : P S b o t lo lt
abbrev zT : List (Chunk C0) := [.box [.val (.pointer none), vU 0, vU 0, vU 0, .slc 12, .slc 13, .slc 14], .row true EC.ent [], .row true EC.ent [], .row true EC.ent []]
noncomputable def aFk (P0 : Arn → Int → Prop) (P1 : Arn → Int → Int → List Ent → Prop) (P2 : Arn → Int → Int → Int → List Ent → List Ent → Prop) (raw B : List Ent) (e1 e2 : List EdtT) : Ann C0 := { trunc := fun n => n = 17 || n = 20, Γ := [(36, frameT [] tLst), (38, frameT [] (tRes1 4 1)), (37, frameT [] tGrow), (100, frameT [] tEd)], inv := fun k => match k with
  | 1005 => some { X := XF0 P0, sl := [10, 12, 13, 14], tf := fun x => [.one (.at (.ptr 11 0)), .one (.at (.slc 10)), .one (.at (.ptr 3 0)), vi .u32 x.b], hf := fun x => [.row false EC.ent raw, .row false EC.edm e1, .row false EC.edm e2] ++ chSk 3 x.S ++ [.row false EC.ent B] ++ zT }
  | 1006 => some { X := XF1 P1, sl := [10, 12, 13, 14, 16, 17, 18], tf := fun x => [.one (.at (.ptr 11 0)), .one (.at (.slc 10)), .one (.at (.ptr 3 0)), vi .u32 x.b, vi .u32 x.o, .one (.at (.slc 15)), vb true], hf := fun x => [.row false EC.ent raw, .row false EC.edm e1, .row false EC.edm e2] ++ chSk 3 x.S ++ [.row false EC.ent B] ++ zT ++ [.row false EC.ent x.lo] }
  | 1007 => some { X := XF2 P2, sl := [10, 12, 13, 14, 16, 17, 18, 19, 20, 21], tf := fun x => [.one (.at (.ptr 11 0)), .one (.at (.slc 10)), .one (.at (.ptr 3 0)), vi .u32 x.b, vi .u32 x.o, .one (.at (.slc 15)), vb true, vi .u32 x.t, .one (.at (.slc 16)), vb true], hf := fun x => [.row false EC.ent raw, .row false EC.edm e1, .row false EC.edm e2] ++ chSk 3 x.S ++ [.row false EC.ent B] ++ zT ++ [.row false EC.ent x.lo, .row false EC.ent x.lt] }
  | _ => none }
/-- Where there is room, and no conflict is refused. -/
def tMgK : Tfm C0 := fun args H K => match args with
  | [.at (.ptr 0 0), .at (.val (.int .u32 b)), .at (.val (.int .u32 o)), .at (.val (.int .u32 t)), .at (.val (.int .i64 pol))] => arM H fun S => ∃ hs tb to tt, MgM S hs tb to tt b o t ∧ 1 ≤ pol ∧ pol ≤ 4 ∧ needM tb to tt ≤ S.free ∧ (pol = 3 → confE tb.list to.list tt.list = []) ∧
    ∀ S' i c, c = confE tb.list to.list tt.list → TrR S hs (mergeE tb.list to.list tt.list pol) 65537 2000000000 S' i → K (.tup [.at (vU i), .at (.slc 7), .at (vI 0)]) (chS S' ++ [.row true EC.i64 c]) W7
  | _ => False
noncomputable def aAw20 : Ann C0 := { Γ := [(11, frameT [] tNew), (101, frameT [] tBuildOk), (45, frameT [] tMgK), (69, frameT [] tGetT), (17, frameT [] tSize)] }
def tAw20 : Tfm C0 := fun args H K => match args, H with
  | [], [] => K (.one (.at (vB true))) [] []
  | _, _ => False
def PE1 (S0 : Arn) (hs : List Int) (l : List Ent) (n I : Nat) : Nat → Arn → Int → List Ent → Prop := fun i S y m => i ≤ n ∧ Asc m ∧ Kin m ∧ m.length ≤ l.length + i ∧ TrR S0 hs m (i * I) (1000 * i) S y
def PE2 (S0 : Arn) (hs : List Int) (l : List Ent) (n I : Nat) : Nat → Arn → Int → Int → List Ent → Prop := fun i S y z m => i < n ∧ Asc m ∧ Kin m ∧ m.length ≤ l.length + i + 1 ∧ Got S0 hs ((i + 1) * I) (1000 * (i + 1)) S (z :: y :: hs) ∧ ∃ t, Rep S t z ∧ t.list = m ∧ t.Bal
theorem ed_up {S0 S : Arn} {hs : List Int} {x y : Int} {l m : List Ent} {ed : List EdtT} {n I i : Nat} (E : EdM S0 hs x l ed I) (h : PE1 S0 hs l n I i S y m) (hi : i < n) (hn : n ≤ 8) :
    ∃ ty, upM S (y :: hs) ty y ∧ ty.list = m ∧ m.length ≤ 67 ∧ 4 * (Hn ty.size + 2) ≤ S.free ∧ 4 * (Hn ((ty.size : Int) + 1) + 2) ≤ S.free ∧ iB ty.size ≤ I ∧ dB ty.size ≤ I ∧ 5 * iB ty.size + ht ty + 1 ≤ 1000 ∧ 5 * dB ty.size + ht ty + 1 ≤ 1000 := by
  obtain ⟨_, am, km, lm, tr⟩ := h
  obtain ⟨ty, ry, ly, bY⟩ := tr.tree
  have zy : ty.size = m.length := by rw [← ty.list_len, ly]
  have le := E.len
  have f := tr.got.free E.wf
  have q := tr.got.rd
  have rd := E.rd
  have fr := E.free
  have hl := E.hl
  have i4 := E.i4
  have mu : (i + 1) * I ≤ 8 * I := Nat.mul_le_mul_right _ (by omega)
  rw [Nat.succ_mul] at mu
  have h1 := Hn_le (n := ty.size) (m := l.length + 9) (by omega)
  have h2 := Hn_le (n := ty.size + 1) (m := l.length + 9) (by omega)
  have nb := numsB (t := ty) (by omega) bY
  rw [show ((ty.size + 1 : Nat) : Int) = (ty.size : Int) + 1 by omega] at h2
  exact ⟨ty, ⟨tr.got.wf, ry, bY, by rw [ly]; exact am, by omega, by simp; omega, by omega⟩, ly, by omega, by omega, by omega, by omega, by omega, by omega, by omega⟩
theorem ed_step {S0 S S' : Arn} {hs : List Int} {y j : Int} {l m L : List Ent} {n I i a r : Nat} (h : PE1 S0 hs l n I i S y m) (hi : i < n) (tr : TrR S (y :: hs) L a r S' j) (ha : a ≤ I) (hr : r ≤ 1000) (asc : Asc L) (kin : Kin L) (hl : L.length ≤ l.length + i + 1) : PE2 S0 hs l n I i S' y j L := by
  obtain ⟨_, _, _, _, t0⟩ := h
  have g := t0.got.seq tr.got (h := hs) (fun _ h => h) (fun i hi => List.mem_cons_of_mem _ hi)
  exact ⟨hi, asc, kin, hl, g.mono (by rw [Nat.succ_mul]; omega) (by omega), tr.tree⟩
theorem ed_rel {S0 S S' : Arn} {hs : List Int} {y z : Int} {l m : List Ent} {n I i : Nat} (h : PE2 S0 hs l n I i S y z m) (w3 : Wf S' (z :: hs)) (kp : Kept S S') : PE1 S0 hs l n I (i + 1) S' z m := by
  obtain ⟨hi, am, km, lm, g, t, rt, lt, bt⟩ := h
  have w' : Wf S (y :: z :: hs) := g.wf.perm (List.Perm.swap _ _ _)
  have g2 := rel_got w' w3 kp
  have g3 := g.seq g2 (h := hs) (fun _ h => h) (fun i hi => List.mem_cons_of_mem _ hi)
  exact ⟨hi, am, km, by omega, g3.mono (Nat.le_refl _) (Nat.le_refl _), t, rt.held w' g2.stay (.inr (by simp)), lt, bt⟩
theorem vc_ed (S : Arn) (x : Int) (l : List Ent) (ed : List EdtT) (K : KT) (hs : List Int) (I : Nat) (E : EdM S hs x l ed I)
    (h1 : ed.length = 0 → ∀ S', TrR S hs l (8 * I) 8000 S' x → K (.tup [.at (vU x), .at (.slc 7), .at (vB true)]) (chS S' ++ [.row false EC.ent l, .row false EC.edm ed]) W7)
    (h2 : ∀ S' y m, TrR S hs m (8 * I) 8000 S' y → Asc m → Kin m → m.length ≤ l.length + 8 → K (.tup [.at (vU y), .at (.slc 9), .at (vB true)]) (chS S' ++ [.row false EC.ent l, .row false EC.edm ed, .row true EC.ent m]) W7) :
    vc C0 (aEd (PE1 S hs l (min ed.length 8) I) (PE2 S hs l (min ed.length 8) I) l ed) Try.f100 [.at (.ptr 0 0), .at (vU x), .at (.slc 7), .at (.slc 8)] (chS S ++ [.row false EC.ent l, .row false EC.edm ed]) (normK 9 (wideK W7 K)) := by
  generalize hP1 : PE1 S hs l (min ed.length 8) I = P1
  generalize hP2 : PE2 S hs l (min ed.length 8) I = P2
  refine Eq.mp (show ((live S x) ∧
(exW S) ∧
(∀ S' : Arn, (((S') = (retL S x)) → (brS (decide (0 < (↑ed.length : Int))) (((((0 : Int) ≤ 0) ∧ (0 < (↑ed.length : Int)) ∧ (brS ((ed.getD (Int.toNat 0) { del := false, at_ := 0, ent := (0, 0) : EdtT }).del) ((brS (decide ((↑l.length : Int) > 0)) ((((0 : Int) ≤ 0) ∧ (0 < (↑ed.length : Int)) ∧ (0 < (↑l.length : Int)) ∧ ((↑l.length : Int) ≤ 9223372036854775807) ∧ (∀ x1 : Int, (((x1) = ((ed.getD (Int.toNat 0) { del := false, at_ := 0, ent := (0, 0) : EdtT }).at_ % (↑l.length : Int))) → ((0 ≤ x1) ∧ (x1 < (↑l.length : Int)) ∧ (∃ hs : List Int, (∃ t : Tr, (∃ v : Int, ((upM S' hs t x) ∧ ((getE t.list (l.getD x1.toNat (0, 0)).fst) = (some (v))) ∧ (4 * (Hn (↑t.size : Int) + 2) ≤ S'.free) ∧ (∀ S'1 : Arn, (∀ j : Int, ((TrR S' hs (flt (neK (l.getD x1.toNat (0, 0)).fst) t.list) (dB t.size) (5 * dB t.size + ht t + 1) S'1 j) → ((l.length ≤ 1000000) ∧ (∃ x2 : XE2 P2, ((0 = ((↑x2.i : Int))) ∧ (True ∧ ((Value.int IntKind.u32 (x)) = (Value.int IntKind.u32 (x2.y))) ∧ True ∧ ((Value.int IntKind.i64 0) = (Value.int IntKind.i64 ((↑x2.i : Int)))) ∧ ((Value.int IntKind.u32 (j)) = (Value.int IntKind.u32 (x2.z))) ∧ ((Value.int IntKind.i64 0) = (Value.int IntKind.i64 0)) ∧ True ∧ True) ∧ (True ∧ True ∧ True ∧ ((Value.int IntKind.u64 (S'1.reads)) = (Value.int IntKind.u64 (x2.S.reads))) ∧ True) ∧ (True ∧ True ∧ True ∧ ((Value.int IntKind.u32 (S'1.fresh)) = (Value.int IntKind.u32 (x2.S.fresh))) ∧ True) ∧ ((S'1.nodes) = (x2.S.nodes)) ∧ ((S'1.counts) = (x2.S.counts)) ∧
    ((S'1.used) = (x2.S.used)) ∧ ((S'1.gen) = (x2.S.gen)) ∧ ((S'1.rel) = (x2.S.rel)) ∧ ((l) = (l)) ∧ ((ed) = (ed)) ∧ ((outE l (l.getD x1.toNat (0, 0)).fst (l.getD x1.toNat (0, 0)).fst) = (x2.m)) ∧ True))))))))))))))) ((((0 : Int) ≤ 0) ∧ (0 < (↑ed.length : Int)) ∧ (∃ hs : List Int, (∃ t : Tr, ((upM S' hs t x) ∧ (4 * (Hn ((↑t.size : Int) + 1) + 2) ≤ S'.free) ∧ (∀ S'1 : Arn, (∀ j : Int, (∀ o : Option Int, (((o) = (getE t.list (ed.getD (Int.toNat 0) { del := false, at_ := 0, ent := (0, 0) : EdtT }).ent.fst)) → ((TrR S' hs (insE t.list (ed.getD (Int.toNat 0) { del := false, at_ := 0, ent := (0, 0) : EdtT }).ent) (iB t.size) (5 * iB t.size + ht t + 1) S'1 j) → (((0 : Int) ≤ 0) ∧ (0 < (↑ed.length : Int)) ∧ (l.length ≤ 1000000) ∧ (∃ x1 : XE2 P2, ((0 = ((↑x1.i : Int))) ∧ (True ∧ ((Value.int IntKind.u32 (x)) = (Value.int IntKind.u32 (x1.y))) ∧ True ∧ ((Value.int IntKind.i64 0) = (Value.int IntKind.i64 ((↑x1.i : Int)))) ∧ ((Value.int IntKind.u32 (j)) = (Value.int IntKind.u32 (x1.z))) ∧ ((Value.int IntKind.i64 0) = (Value.int IntKind.i64 0)) ∧ True ∧ True) ∧ (True ∧ True ∧ True ∧ ((Value.int IntKind.u64 (S'1.reads)) = (Value.int IntKind.u64 (x1.S.reads))) ∧ True) ∧ (True ∧ True ∧ True ∧ ((Value.int IntKind.u32 (S'1.fresh)) = (Value.int IntKind.u32 (x1.S.fresh))) ∧ True) ∧ ((S'1.nodes) = (x1.S.nodes)) ∧ ((S'1.counts) = (x1.S.counts)) ∧ ((S'1.used) = (x1.S.used)) ∧ ((S'1.gen) = (x1.S.gen)) ∧ ((S'1.rel) = (x1.S.rel)) ∧ ((l) = (l)) ∧ ((ed) = (ed)) ∧
    ((insE l (ed.getD (Int.toNat 0) { del := false, at_ := 0, ent := (0, 0) : EdtT }).ent) = (x1.m)) ∧ True))))))))))))))) ((((0 : Int) ≤ 0) ∧ (0 < (↑ed.length : Int)) ∧ (∃ hs : List Int, (∃ t : Tr, ((upM S' hs t x) ∧ (4 * (Hn ((↑t.size : Int) + 1) + 2) ≤ S'.free) ∧ (∀ S'1 : Arn, (∀ j : Int, (∀ o : Option Int, (((o) = (getE t.list (ed.getD (Int.toNat 0) { del := false, at_ := 0, ent := (0, 0) : EdtT }).ent.fst)) → ((TrR S' hs (insE t.list (ed.getD (Int.toNat 0) { del := false, at_ := 0, ent := (0, 0) : EdtT }).ent) (iB t.size) (5 * iB t.size + ht t + 1) S'1 j) → (((0 : Int) ≤ 0) ∧ (0 < (↑ed.length : Int)) ∧ (l.length ≤ 1000000) ∧ (∃ x1 : XE2 P2, ((0 = ((↑x1.i : Int))) ∧ (True ∧ ((Value.int IntKind.u32 (x)) = (Value.int IntKind.u32 (x1.y))) ∧ True ∧ ((Value.int IntKind.i64 0) = (Value.int IntKind.i64 ((↑x1.i : Int)))) ∧ ((Value.int IntKind.u32 (j)) = (Value.int IntKind.u32 (x1.z))) ∧ ((Value.int IntKind.i64 0) = (Value.int IntKind.i64 0)) ∧ True ∧ True) ∧ (True ∧ True ∧ True ∧ ((Value.int IntKind.u64 (S'1.reads)) = (Value.int IntKind.u64 (x1.S.reads))) ∧ True) ∧ (True ∧ True ∧ True ∧ ((Value.int IntKind.u32 (S'1.fresh)) = (Value.int IntKind.u32 (x1.S.fresh))) ∧ True) ∧ ((S'1.nodes) = (x1.S.nodes)) ∧ ((S'1.counts) = (x1.S.counts)) ∧ ((S'1.used) = (x1.S.used)) ∧ ((S'1.gen) = (x1.S.gen)) ∧ ((S'1.rel) = (x1.S.rel)) ∧ ((l) = (l)) ∧ ((ed) = (ed)) ∧ ((insE l (ed.getD (Int.toNat 0) { del := false, at_ := 0, ent := (0, 0) : EdtT }).ent) = (x1.m)) ∧ True))))))))))))))) ∧ (∀ x1 : XE2 P2,
    ((0 = ((↑x1.i : Int))) → (∃ hs : List Int, ((Wf x1.S (x1.y :: hs)) ∧ (∀ S'1 : Arn, (∀ fr : Int, ((Wf S'1 hs) → ((Kept x1.S S'1) → ((∃ x2 : XE1 P1, (True ∧ (True ∧ ((Value.int IntKind.u32 (x1.z)) = (Value.int IntKind.u32 (x2.y))) ∧ True ∧ True ∧ ((Value.int IntKind.i64 (IntKind.i64.wrap ((↑x1.i : Int) + 1))) = (Value.int IntKind.i64 ((↑x2.i : Int)))) ∧ True) ∧ (True ∧ True ∧ True ∧ ((Value.int IntKind.u64 (S'1.reads)) = (Value.int IntKind.u64 (x2.S.reads))) ∧ True) ∧ (True ∧ True ∧ True ∧ ((Value.int IntKind.u32 (S'1.fresh)) = (Value.int IntKind.u32 (x2.S.fresh))) ∧ True) ∧ ((S'1.nodes) = (x2.S.nodes)) ∧ ((S'1.counts) = (x2.S.counts)) ∧ ((S'1.used) = (x2.S.used)) ∧ ((S'1.gen) = (x2.S.gen)) ∧ ((S'1.rel) = (x2.S.rel)) ∧ ((l) = (l)) ∧ ((ed) = (ed)) ∧ ((x1.m) = (x2.m)) ∧ True)) ∧ (∀ x2 : XE1 P1, (True → (brS (decide ((↑x2.i : Int) < (↑ed.length : Int))) ((brS (decide ((↑x2.i : Int) < 8)) ((((0 ≤ (↑x2.i : Int)) ∧ ((↑x2.i : Int) < (↑ed.length : Int)) ∧ (brS ((ed.getD (↑x2.i : Int).toNat { del := false, at_ := 0, ent := (0, 0) : EdtT }).del) ((brS (decide ((↑x2.m.length : Int) > 0)) (((0 ≤ (↑x2.i : Int)) ∧ ((↑x2.i : Int) < (↑ed.length : Int)) ∧ (0 < (↑x2.m.length : Int)) ∧ ((↑x2.m.length : Int) ≤ 9223372036854775807) ∧ (∀ x3 : Int, (((x3) = ((ed.getD (↑x2.i : Int).toNat { del := false, at_ := 0, ent := (0, 0) : EdtT }).at_ % (↑x2.m.length : Int))) → ((0 ≤ x3) ∧ (x3 < (↑x2.m.length : Int)) ∧ (∃ hs1 : List Int, (∃ t : Tr, (∃ v : Int, ((upM x2.S hs1 t x2.y) ∧
    ((getE t.list (x2.m.getD x3.toNat (0, 0)).fst) = (some (v))) ∧ (4 * (Hn (↑t.size : Int) + 2) ≤ x2.S.free) ∧ (∀ S'2 : Arn, (∀ j : Int, ((TrR x2.S hs1 (flt (neK (x2.m.getD x3.toNat (0, 0)).fst) t.list) (dB t.size) (5 * dB t.size + ht t + 1) S'2 j) → ((x2.m.length ≤ 1000000) ∧ (∃ x4 : XE2 P2, ((((↑x2.i : Int)) = ((↑x4.i : Int))) ∧ (True ∧ ((Value.int IntKind.u32 (x2.y)) = (Value.int IntKind.u32 (x4.y))) ∧ True ∧ ((Value.int IntKind.i64 ((↑x2.i : Int))) = (Value.int IntKind.i64 ((↑x4.i : Int)))) ∧ ((Value.int IntKind.u32 (j)) = (Value.int IntKind.u32 (x4.z))) ∧ ((Value.int IntKind.i64 0) = (Value.int IntKind.i64 0)) ∧ True ∧ True) ∧ (True ∧ True ∧ True ∧ ((Value.int IntKind.u64 (S'2.reads)) = (Value.int IntKind.u64 (x4.S.reads))) ∧ True) ∧ (True ∧ True ∧ True ∧ ((Value.int IntKind.u32 (S'2.fresh)) = (Value.int IntKind.u32 (x4.S.fresh))) ∧ True) ∧ ((S'2.nodes) = (x4.S.nodes)) ∧ ((S'2.counts) = (x4.S.counts)) ∧ ((S'2.used) = (x4.S.used)) ∧ ((S'2.gen) = (x4.S.gen)) ∧ ((S'2.rel) = (x4.S.rel)) ∧ ((l) = (l)) ∧ ((ed) = (ed)) ∧ ((outE x2.m (x2.m.getD x3.toNat (0, 0)).fst (x2.m.getD x3.toNat (0, 0)).fst) = (x4.m)) ∧ True))))))))))))))) (((0 ≤ (↑x2.i : Int)) ∧ ((↑x2.i : Int) < (↑ed.length : Int)) ∧ (∃ hs1 : List Int, (∃ t : Tr, ((upM x2.S hs1 t x2.y) ∧ (4 * (Hn ((↑t.size : Int) + 1) + 2) ≤ x2.S.free) ∧ (∀ S'2 : Arn, (∀ j : Int, (∀ o : Option Int, (((o) = (getE t.list (ed.getD (↑x2.i : Int).toNat { del := false, at_ := 0, ent := (0, 0) : EdtT }).ent.fst)) →
    ((TrR x2.S hs1 (insE t.list (ed.getD (↑x2.i : Int).toNat { del := false, at_ := 0, ent := (0, 0) : EdtT }).ent) (iB t.size) (5 * iB t.size + ht t + 1) S'2 j) → ((0 ≤ (↑x2.i : Int)) ∧ ((↑x2.i : Int) < (↑ed.length : Int)) ∧ (x2.m.length ≤ 1000000) ∧ (∃ x3 : XE2 P2, ((((↑x2.i : Int)) = ((↑x3.i : Int))) ∧ (True ∧ ((Value.int IntKind.u32 (x2.y)) = (Value.int IntKind.u32 (x3.y))) ∧ True ∧ ((Value.int IntKind.i64 ((↑x2.i : Int))) = (Value.int IntKind.i64 ((↑x3.i : Int)))) ∧ ((Value.int IntKind.u32 (j)) = (Value.int IntKind.u32 (x3.z))) ∧ ((Value.int IntKind.i64 0) = (Value.int IntKind.i64 0)) ∧ True ∧ True) ∧ (True ∧ True ∧ True ∧ ((Value.int IntKind.u64 (S'2.reads)) = (Value.int IntKind.u64 (x3.S.reads))) ∧ True) ∧ (True ∧ True ∧ True ∧ ((Value.int IntKind.u32 (S'2.fresh)) = (Value.int IntKind.u32 (x3.S.fresh))) ∧ True) ∧ ((S'2.nodes) = (x3.S.nodes)) ∧ ((S'2.counts) = (x3.S.counts)) ∧ ((S'2.used) = (x3.S.used)) ∧ ((S'2.gen) = (x3.S.gen)) ∧ ((S'2.rel) = (x3.S.rel)) ∧ ((l) = (l)) ∧ ((ed) = (ed)) ∧ ((insE x2.m (ed.getD (↑x2.i : Int).toNat { del := false, at_ := 0, ent := (0, 0) : EdtT }).ent) = (x3.m)) ∧ True))))))))))))))) (((0 ≤ (↑x2.i : Int)) ∧ ((↑x2.i : Int) < (↑ed.length : Int)) ∧ (∃ hs1 : List Int, (∃ t : Tr, ((upM x2.S hs1 t x2.y) ∧ (4 * (Hn ((↑t.size : Int) + 1) + 2) ≤ x2.S.free) ∧ (∀ S'2 : Arn, (∀ j : Int, (∀ o : Option Int, (((o) = (getE t.list (ed.getD (↑x2.i : Int).toNat { del := false, at_ := 0, ent := (0, 0) : EdtT }).ent.fst)) →
    ((TrR x2.S hs1 (insE t.list (ed.getD (↑x2.i : Int).toNat { del := false, at_ := 0, ent := (0, 0) : EdtT }).ent) (iB t.size) (5 * iB t.size + ht t + 1) S'2 j) → ((0 ≤ (↑x2.i : Int)) ∧ ((↑x2.i : Int) < (↑ed.length : Int)) ∧ (x2.m.length ≤ 1000000) ∧ (∃ x3 : XE2 P2, ((((↑x2.i : Int)) = ((↑x3.i : Int))) ∧ (True ∧ ((Value.int IntKind.u32 (x2.y)) = (Value.int IntKind.u32 (x3.y))) ∧ True ∧ ((Value.int IntKind.i64 ((↑x2.i : Int))) = (Value.int IntKind.i64 ((↑x3.i : Int)))) ∧ ((Value.int IntKind.u32 (j)) = (Value.int IntKind.u32 (x3.z))) ∧ ((Value.int IntKind.i64 0) = (Value.int IntKind.i64 0)) ∧ True ∧ True) ∧ (True ∧ True ∧ True ∧ ((Value.int IntKind.u64 (S'2.reads)) = (Value.int IntKind.u64 (x3.S.reads))) ∧ True) ∧ (True ∧ True ∧ True ∧ ((Value.int IntKind.u32 (S'2.fresh)) = (Value.int IntKind.u32 (x3.S.fresh))) ∧ True) ∧ ((S'2.nodes) = (x3.S.nodes)) ∧ ((S'2.counts) = (x3.S.counts)) ∧ ((S'2.used) = (x3.S.used)) ∧ ((S'2.gen) = (x3.S.gen)) ∧ ((S'2.rel) = (x3.S.rel)) ∧ ((l) = (l)) ∧ ((ed) = (ed)) ∧ ((insE x2.m (ed.getD (↑x2.i : Int).toNat { del := false, at_ := 0, ent := (0, 0) : EdtT }).ent) = (x3.m)) ∧ True))))))))))))))) ∧ (∀ x3 : XE2 P2, ((((↑x2.i : Int)) = ((↑x3.i : Int))) → (∃ hs1 : List Int, ((Wf x3.S (x3.y :: hs1)) ∧ (∀ S'2 : Arn, (∀ fr1 : Int, ((Wf S'2 hs1) → ((Kept x3.S S'2) → (∃ x' : XE1 P1, (True ∧ ((True ∧ ((Value.int IntKind.u32 (x3.z)) = (Value.int IntKind.u32 (x'.y))) ∧ True ∧ True ∧
    ((Value.int IntKind.i64 (IntKind.i64.wrap ((↑x3.i : Int) + 1))) = (Value.int IntKind.i64 ((↑x'.i : Int)))) ∧ True) ∧ (True ∧ True ∧ True ∧ ((Value.int IntKind.u64 (S'2.reads)) = (Value.int IntKind.u64 (x'.S.reads))) ∧ True) ∧ (True ∧ True ∧ True ∧ ((Value.int IntKind.u32 (S'2.fresh)) = (Value.int IntKind.u32 (x'.S.fresh))) ∧ True) ∧ ((S'2.nodes) = (x'.S.nodes)) ∧ ((S'2.counts) = (x'.S.counts)) ∧ ((S'2.used) = (x'.S.used)) ∧ ((S'2.gen) = (x'.S.gen)) ∧ ((S'2.rel) = (x'.S.rel)) ∧ ((l) = (l)) ∧ ((ed) = (ed)) ∧ ((x3.m) = (x'.m)) ∧ True) ∧ (min ed.length 8 - x'.i < min ed.length 8 - x2.i))))))))))))) ((K (SV.tup [(TV.at (At.val (Value.int IntKind.u32 (x2.y)))), (TV.at (At.slc 9)), (TV.at (At.val (Value.bool true)))]) [(Chunk.box [(At.ptr 1 0), (At.slc 2), (At.slc 3), (At.val (Value.int IntKind.u64 (x2.S.reads)))]), (Chunk.box [(At.slc 4), (At.slc 5), (At.slc 6), (At.val (Value.int IntKind.u32 (x2.S.fresh)))]), (Chunk.row true (EC.node) (x2.S.nodes)), (Chunk.row true (EC.int) (x2.S.counts)), (Chunk.row true (EC.bool) (x2.S.used)), (Chunk.row true (EC.u32) (x2.S.gen)), (Chunk.row true (EC.u32) (x2.S.rel)), (Chunk.row false (EC.ent) (l)), (Chunk.row false (EC.edm) (ed)), (Chunk.row true (EC.ent) (x2.m))] [0, 1, 2, 3, 4, 5, 6]))))
    ((K (SV.tup [(TV.at (At.val (Value.int IntKind.u32 (x2.y)))), (TV.at (At.slc 9)), (TV.at (At.val (Value.bool true)))]) [(Chunk.box [(At.ptr 1 0), (At.slc 2), (At.slc 3), (At.val (Value.int IntKind.u64 (x2.S.reads)))]), (Chunk.box [(At.slc 4), (At.slc 5), (At.slc 6), (At.val (Value.int IntKind.u32 (x2.S.fresh)))]), (Chunk.row true (EC.node) (x2.S.nodes)), (Chunk.row true (EC.int) (x2.S.counts)), (Chunk.row true (EC.bool) (x2.S.used)), (Chunk.row true (EC.u32) (x2.S.gen)), (Chunk.row true (EC.u32) (x2.S.rel)), (Chunk.row false (EC.ent) (l)), (Chunk.row false (EC.edm) (ed)), (Chunk.row true (EC.ent) (x2.m))] [0, 1, 2, 3, 4, 5, 6])))))))))))))))) ((K (SV.tup [(TV.at (At.val (Value.int IntKind.u32 (x)))), (TV.at (At.slc 7)), (TV.at (At.val (Value.bool true)))]) [(Chunk.box [(At.ptr 1 0), (At.slc 2), (At.slc 3), (At.val (Value.int IntKind.u64 (S'.reads)))]), (Chunk.box [(At.slc 4), (At.slc 5), (At.slc 6), (At.val (Value.int IntKind.u32 (S'.fresh)))]), (Chunk.row true (EC.node) (S'.nodes)), (Chunk.row true (EC.int) (S'.counts)), (Chunk.row true (EC.bool) (S'.used)), (Chunk.row true (EC.u32) (S'.gen)), (Chunk.row true (EC.u32) (S'.rel)), (Chunk.row false (EC.ent) (l)), (Chunk.row false (EC.edm) (ed))] [0, 1, 2, 3, 4, 5, 6])))))) = _ by kernel_rfl) ?_
  subst hP1 hP2
  obtain ⟨tx, rx, lx, bx⟩ := E.tree
  have hl := E.hl
  refine ⟨rx.us, ⟨_, E.wf⟩, fun S1 e1 => ?_⟩
  have t0 : TrR S hs l 0 0 S1 x := by rw [e1]; exact ⟨retL_got E.wf rx.us (by omega), tx, rx.retL, lx, bx⟩
  clear e1
  have mx : ∀ i, i ≤ 8 → i * I ≤ 8 * I := fun i hi => Nat.mul_le_mul_right _ hi
  have hn8 : min ed.length 8 ≤ 8 := Nat.min_le_right _ _
  have hnl : min ed.length 8 ≤ ed.length := Nat.min_le_left _ _
  have hnx : ∀ i : Nat, i < ed.length → i < 8 → i < min ed.length 8 := fun i a b => by omega
  generalize min ed.length 8 = n at *
  have hm1 : PE1 S hs l n I 0 S1 x l := ⟨Nat.zero_le _, E.asc, E.kin, by omega, t0.mono (by omega) (by omega)⟩
  refine brS_of (fun c => ⟨⟨by decide, by have := of_decide_eq_true c; omega, ?_⟩, fun x2 q => ?_⟩) fun c => h1 (by have := of_decide_eq_false c; omega) S1 (t0.mono (by omega) (by omega))
  · have c : 0 < ed.length := by have := of_decide_eq_true c; omega
    have c := hnx 0 c (by omega)
    obtain ⟨ty, up, ly, l67, f1, f2, b1, b2, b3, b4⟩ := ed_up E hm1 c hn8
    have am := E.asc
    have km := E.kin
    have hit : Int.toNat 0 = 0 := rfl
    rw [hit]
    have hmem : ed.getD 0 { del := false, at_ := 0, ent := (0, 0) } ∈ ed := by
      rw [List.getD_eq_getElem?_getD, List.getElem?_eq_getElem (by omega)]; exact List.getElem_mem _
    have hen := E.kd _ hmem
    generalize ed.getD 0 { del := false, at_ := 0, ent := (0, 0) } = en at *
    have il := insE_len l en.ent
    refine brS_of (fun d => brS_of (fun g => ?_) fun g => ?_) fun d => ?_
    · have g : 0 < l.length := by have := of_decide_eq_true g; omega
      refine ⟨by omega, by omega, by omega, by omega, fun z ez => ?_⟩
      obtain ⟨z0, z1⟩ := mod_rng (by omega) ez
      have hz : l.getD z.toNat (0, 0) ∈ l := by
        rw [List.getD_eq_getElem?_getD, List.getElem?_eq_getElem (by omega)]; exact List.getElem_mem _
      have fl := flt_len (p := neK (l.getD z.toNat (0, 0)).fst) (l := l)
      refine ⟨z0, z1, _, ty, (l.getD z.toNat (0, 0)).snd, up, by rw [ly, getE_fnd, am.fnd_self hz]; rfl, f1, fun S2 j tr => ⟨by omega, ⟨0, S2, x, j, outE l (l.getD z.toNat (0, 0)).fst (l.getD z.toNat (0, 0)).fst, ?_⟩, ?_⟩⟩
      · rw [ly] at tr
        rw [outE_flt]
        exact ed_step hm1 c tr (by omega) (by omega) (flt_asc am) (kin_flt km) (by omega)
      · (repeat' first | exact trivial | exact rfl | refine And.intro ?_ ?_)
    all_goals
      refine ⟨by omega, by omega, _, ty, up, f2, fun S2 j o eo tr => ⟨by omega, by omega, by omega, ⟨0, S2, x, j, insE l en.ent, ?_⟩, ?_⟩⟩
      · rw [ly] at tr
        exact ed_step hm1 c tr (by omega) (by omega) (insE_asc _ am) (kin_ins am km hen) (by omega)
      · (repeat' first | exact trivial | exact rfl | refine And.intro ?_ ?_)
  · have c : 0 < ed.length := by have := of_decide_eq_true c; omega
    obtain ⟨i2, S2, y, z, m, hi2, am, km, lm, g, tz⟩ := x2
    have q : (0 : Int) = i2 := q
    obtain rfl : 0 = i2 := by omega
    dsimp only
    have w' : Wf S2 (y :: z :: hs) := g.wf.perm (List.Perm.swap _ _ _)
    refine ⟨_, w', fun S3 _ w3 kp => ⟨⟨⟨1, S3, z, m, ed_rel ⟨hi2, am, km, lm, g, tz⟩ w3 kp⟩, ?_⟩, fun x3 _ => ?_⟩⟩
    · (repeat' first | exact trivial | exact rfl | refine And.intro ?_ ?_)
    obtain ⟨i, S1, y, m, hm1⟩ := x3
    dsimp only
    obtain ⟨hin, am, km, lm, t0⟩ := id hm1
    have fin : n ≤ i → K (.tup [.at (vU y), .at (.slc 9), .at (vB true)]) (chS S1 ++ [.row false EC.ent l, .row false EC.edm ed, .row true EC.ent m]) W7 := fun e => by
      have m8 := mx i (by omega)
      exact h2 S1 y m (t0.mono m8 (by omega)) am km (by omega)
    refine brS_of (fun c => brS_of (fun c8 => ⟨⟨by omega, by have := of_decide_eq_true c; omega, ?_⟩, fun x4 q => ?_⟩) fun c8 => fin (by have := of_decide_eq_false c8; omega)) fun c => fin (by have := of_decide_eq_false c; omega)
    · have cl : i < ed.length := by have := of_decide_eq_true c; omega
      have c8 : i < 8 := by have := of_decide_eq_true c8; omega
      have c := hnx i cl c8
      obtain ⟨ty, up, ly, l67, f1, f2, b1, b2, b3, b4⟩ := ed_up E hm1 c hn8
      have hit : (i : Int).toNat = i := rfl
      rw [hit]
      have hmem : ed.getD i { del := false, at_ := 0, ent := (0, 0) } ∈ ed := by
        rw [List.getD_eq_getElem?_getD, List.getElem?_eq_getElem (by omega)]; exact List.getElem_mem _
      have hen := E.kd _ hmem
      generalize ed.getD i { del := false, at_ := 0, ent := (0, 0) } = en at *
      have il := insE_len m en.ent
      refine brS_of (fun d => brS_of (fun g => ?_) fun g => ?_) fun d => ?_
      · have g : 0 < m.length := by have := of_decide_eq_true g; omega
        refine ⟨by omega, by omega, by omega, by omega, fun z ez => ?_⟩
        obtain ⟨z0, z1⟩ := mod_rng (by omega) ez
        have hz : m.getD z.toNat (0, 0) ∈ m := by
          rw [List.getD_eq_getElem?_getD, List.getElem?_eq_getElem (by omega)]; exact List.getElem_mem _
        have fl := flt_len (p := neK (m.getD z.toNat (0, 0)).fst) (l := m)
        refine ⟨z0, z1, _, ty, (m.getD z.toNat (0, 0)).snd, up, by rw [ly, getE_fnd, am.fnd_self hz]; rfl, f1, fun S2 j tr => ⟨by omega, ⟨i, S2, y, j, outE m (m.getD z.toNat (0, 0)).fst (m.getD z.toNat (0, 0)).fst, ?_⟩, ?_⟩⟩
        · rw [ly] at tr
          rw [outE_flt]
          exact ed_step hm1 c tr (by omega) (by omega) (flt_asc am) (kin_flt km) (by omega)
        · (repeat' first | exact trivial | exact rfl | refine And.intro ?_ ?_)
      all_goals
        refine ⟨by omega, by omega, _, ty, up, f2, fun S2 j o eo tr => ⟨by omega, by omega, by omega, ⟨i, S2, y, j, insE m en.ent, ?_⟩, ?_⟩⟩
        · rw [ly] at tr
          exact ed_step hm1 c tr (by omega) (by omega) (insE_asc _ am) (kin_ins am km hen) (by omega)
        · (repeat' first | exact trivial | exact rfl | refine And.intro ?_ ?_)
    · have cl : i < ed.length := by have := of_decide_eq_true c; omega
      have c8 : i < 8 := by have := of_decide_eq_true c8; omega
      have c := hnx i cl c8
      obtain ⟨i2, S2, y, z, m, hi2, am, km, lm, g, tz⟩ := x4
      have q : (i : Int) = i2 := q
      obtain rfl : i = i2 := by omega
      dsimp only
      have w' : Wf S2 (y :: z :: hs) := g.wf.perm (List.Perm.swap _ _ _)
      refine ⟨_, w', fun S3 _ w3 kp => ⟨⟨i + 1, S3, z, m, ed_rel ⟨hi2, am, km, lm, g, tz⟩ w3 kp⟩, trivial, ?_, by show n - (i + 1) < n - i; omega⟩⟩
      (repeat' first | exact trivial | exact rfl | refine And.intro ?_ ?_)
      exact congrArg (Value.int .i64) (show IntKind.i64.wrap ((i : Int) + 1) = ((i + 1 : Nat) : Int) by rw [wrap_id (by omega) (by omega)]; omega)
theorem s_ed : SoundT C0 100 tEd := by
  refine .ofW W7 Try.func100 (by decide) rfl fun args H K h hB => ?_
  unfold tEd at h
  split at h <;> try exact h.elim
  unfold arMr at h
  split at h <;> try exact h.elim
  split at h <;> try exact h.elim
  rename_i x _ rd fr nd ct us gn rl _ l ed
  obtain ⟨hs, I, h1, h2, h3⟩ := h
  exact ⟨aEd (PE1 ⟨us, gn, rl, fr, nd, ct, rd⟩ hs l (min ed.length 8) I) (PE2 ⟨us, gn, rl, fr, nd, ct, rd⟩ hs l (min ed.length 8) I) l ed, ⟨frame C0.ok s_retL _, frame C0.ok s_mod _, frame C0.ok s_upDe _, frame C0.ok s_del _, frame C0.ok s_upIn _, frame C0.ok s_ins _, frame C0.ok s_rel _, trivial⟩, vc_ed ⟨us, gn, rl, fr, nd, ct, rd⟩ x l ed K hs I h1 h2 h3⟩
abbrev chFk (raw : List Ent) (e1 e2 : List EdtT) (lb lo lt : List Ent) (S : Arn) : List (Chunk C0) := [.row false EC.ent raw, .row false EC.edm e1, .row false EC.edm e2, .box [.ptr 7 0, .slc 8, .slc 9, vU64 S.reads], .row false EC.ent lb, .row false EC.ent lo, .row false EC.ent lt, .box [.slc 10, .slc 11, .slc 12, vU S.fresh], .row true EC.node S.nodes, .row true EC.int S.counts, .row true EC.bool S.used, .row true EC.u32 S.gen, .row true EC.u32 S.rel]
def tFk : Tfm C0 := fun args H K => match args, H with
  | [.at (.slc 0), .at (.val (.int .u64 t)), .at (.slc 1), .at (.slc 2), .at (.val (.int .i64 sp))], [.row false .ent raw, .row false .edm e1, .row false .edm e2] => 0 ≤ t ∧ 0 ≤ sp ∧ sp ≤ 20000 ∧ Kin raw ∧ KinD e1 ∧ KinD e2 ∧
    ∀ S b o t lo lt, FkR S b o t (listE raw 60) lo lt sp → K (.tup [.agg [.ptr 3 0, vU b, vU o, vU t, .slc 4, .slc 5, .slc 6], .at (vB true)]) (chFk raw e1 e2 (listE raw 60) lo lt S) []
  | _, _ => False
def PF0 (B : List Ent) (I : Nat) (sp : Int) : Arn → Int → Prop := fun S b => Hld S [(b, B)] ∧ S.reads = 0 ∧ (18 * I : Nat) + sp ≤ S.free ∧ S.cap = B.length + (18 * I : Nat) + sp
def PF1 (B : List Ent) (I : Nat) (sp : Int) : Arn → Int → Int → List Ent → Prop := fun S b o lo => Hld S [(o, lo), (b, B)] ∧ lo.length ≤ 68 ∧ S.reads ≤ 8000 ∧ (10 * I : Nat) + sp ≤ S.free ∧ S.cap = B.length + (18 * I : Nat) + sp
def PF2 (B : List Ent) (sp : Int) : Arn → Int → Int → Int → List Ent → List Ent → Prop := fun S b o t lo lt => FkR S b o t B lo lt sp
theorem fk_ed {S : Arn} {E : List (Int × List Ent)} {b : Int} {B : List Ent} {ed : List EdtT} {I : Nat} (h : Hld S E) (hb : (b, B) ∈ E) (hE : E.length ≤ 100) (kd : KinD ed) (lb : B.length ≤ 60) (rd : S.reads ≤ 1000000) (i4 : (I : Int) = 4 * (Hn ((B.length + 9 : Nat) : Int) + 2)) (fr : ((8 * I : Nat) : Int) ≤ S.free) : EdM S (E.map Prod.fst) b B ed I := by
  have h13 := Hn_104 (n := B.length + 9) (by omega)
  exact ⟨h.wf, h.rep _ hb, h.asc _ hb, h.kin _ hb, kd, lb, by simp; omega, rd, by omega, by omega, fr⟩
theorem vc_fk (raw : List Ent) (e1 e2 : List EdtT) (t sp : Int) (K : KT) (h0 : 0 ≤ t) (s0 : 0 ≤ sp) (s1 : sp ≤ 20000) (hk : Kin raw) (k1 : KinD e1) (k2 : KinD e2)
    (h : ∀ S b o t lo lt, FkR S b o t (listE raw 60) lo lt sp → K (.tup [.agg [.ptr 3 0, vU b, vU o, vU t, .slc 4, .slc 5, .slc 6], .at (vB true)]) (chFk raw e1 e2 (listE raw 60) lo lt S) []) :
    vc C0 (aFk (PF0 (listE raw 60) (4 * (Hn (((listE raw 60).length + 9 : Nat) : Int) + 2)).toNat sp) (PF1 (listE raw 60) (4 * (Hn (((listE raw 60).length + 9 : Nat) : Int) + 2)).toNat sp) (PF2 (listE raw 60) sp) raw (listE raw 60) e1 e2) Try.f49 [.at (.slc 0), .at (vU64 t), .at (.slc 1), .at (.slc 2), .at (vI sp)] [.row false EC.ent raw, .row false EC.edm e1, .row false EC.edm e2] (normK 3 K) := by
  obtain ⟨la, ll⟩ := listE_spec raw 60
  have kB : Kin (listE raw 60) := fun x hx => hk x (listE_sub raw 60 x hx)
  have h13 := Hn_104 (n := (listE raw 60).length + 9) (by omega)
  have hr := Hn_rng (((listE raw 60).length + 9 : Nat) : Int)
  generalize hI : (4 * (Hn (((listE raw 60).length + 9 : Nat) : Int) + 2)).toNat = I
  have hII : (I : Int) = 4 * (Hn (((listE raw 60).length + 9 : Nat) : Int) + 2) := by omega
  clear hI
  generalize hP0 : PF0 (listE raw 60) I sp = P0
  generalize hP1 : PF1 (listE raw 60) I sp = P1
  generalize hP2 : PF2 (listE raw 60) sp = P2
  refine Eq.mp (show (((0 : Int) ≤ 60) ∧
((60 : Int) ≤ 1000000) ∧
(0 ≤ IntKind.i64.wrap ((↑(listE raw (Int.toNat 60)).length : Int) + 8)) ∧
(IntKind.i64.wrap ((↑(listE raw (Int.toNat 60)).length : Int) + 8) ≤ 65536) ∧
(∀ p : Int, (((p) = (4 * (Hn (IntKind.i64.wrap ((↑(listE raw (Int.toNat 60)).length : Int) + 8) + 1) + 2))) → ((0 ≤ t) ∧ (1 ≤ IntKind.i64.wrap (IntKind.i64.wrap (18 * p) + sp)) ∧ (IntKind.i64.wrap (IntKind.i64.wrap (18 * p) + sp) ≤ 30000) ∧ ((listE raw (Int.toNat 60)).length ≤ 30000) ∧ (∀ S' : Arn, (∀ i : Int, ((PlantR (newS ((↑(listE raw (Int.toNat 60)).length : Int) + IntKind.i64.wrap (IntKind.i64.wrap (18 * p) + sp)).toNat) [] (listE raw (Int.toNat 60)) S' i) → ((∃ x : XF0 P0, (True ∧ (True ∧ True ∧ True ∧ True ∧ True ∧ ((Value.int IntKind.u32 (i)) = (Value.int IntKind.u32 (x.b))) ∧ True) ∧ ((raw) = (raw)) ∧ ((e1) = (e1)) ∧ ((e2) = (e2)) ∧ (True ∧ True ∧ True ∧ ((Value.int IntKind.u64 (S'.reads)) = (Value.int IntKind.u64 (x.S.reads))) ∧ True) ∧ (True ∧ True ∧ True ∧ ((Value.int IntKind.u32 (S'.fresh)) = (Value.int IntKind.u32 (x.S.fresh))) ∧ True) ∧ ((S'.nodes) = (x.S.nodes)) ∧ ((S'.counts) = (x.S.counts)) ∧ ((S'.used) = (x.S.used)) ∧ ((S'.gen) = (x.S.gen)) ∧ ((S'.rel) = (x.S.rel)) ∧ ((listE raw (Int.toNat 60)) = (listE raw 60)) ∧ (((Value.pointer none) = (Value.pointer none)) ∧ ((Value.int IntKind.u32 0) = (Value.int IntKind.u32 0)) ∧ ((Value.int IntKind.u32 0) = (Value.int IntKind.u32 0)) ∧ ((Value.int IntKind.u32 0) = (Value.int IntKind.u32 0)) ∧ True ∧ True ∧ True ∧ True) ∧
    ((([] : List Ent) = [])) ∧ ((([] : List Ent) = [])) ∧ ((([] : List Ent) = [])) ∧ True)) ∧ (∀ x : XF0 P0, (True → ((∃ hs : List Int, (∃ I : Nat, ((EdM x.S hs x.b (listE raw 60) e1 I) ∧ (((e1.length) = 0) → (∀ S'1 : Arn, ((TrR x.S hs (listE raw 60) (8 * I) 8000 S'1 x.b) → (∃ x1 : XF1 P1, (True ∧ (True ∧ True ∧ True ∧ True ∧ ((Value.int IntKind.u32 (x.b)) = (Value.int IntKind.u32 (x1.b))) ∧ ((Value.int IntKind.u32 (x.b)) = (Value.int IntKind.u32 (x1.o))) ∧ True ∧ ((Value.bool true) = (Value.bool true)) ∧ True) ∧ ((raw) = (raw)) ∧ ((e1) = (e1)) ∧ ((e2) = (e2)) ∧ (True ∧ True ∧ True ∧ ((Value.int IntKind.u64 (S'1.reads)) = (Value.int IntKind.u64 (x1.S.reads))) ∧ True) ∧ (True ∧ True ∧ True ∧ ((Value.int IntKind.u32 (S'1.fresh)) = (Value.int IntKind.u32 (x1.S.fresh))) ∧ True) ∧ ((S'1.nodes) = (x1.S.nodes)) ∧ ((S'1.counts) = (x1.S.counts)) ∧ ((S'1.used) = (x1.S.used)) ∧ ((S'1.gen) = (x1.S.gen)) ∧ ((S'1.rel) = (x1.S.rel)) ∧ ((listE raw 60) = (listE raw 60)) ∧ (((Value.pointer none) = (Value.pointer none)) ∧ ((Value.int IntKind.u32 0) = (Value.int IntKind.u32 0)) ∧ ((Value.int IntKind.u32 0) = (Value.int IntKind.u32 0)) ∧ ((Value.int IntKind.u32 0) = (Value.int IntKind.u32 0)) ∧ True ∧ True ∧ True ∧ True) ∧ ((([] : List Ent) = [])) ∧ ((([] : List Ent) = [])) ∧ ((([] : List Ent) = [])) ∧ ((listE raw 60) = (x1.lo)) ∧ True))))) ∧ (∀ S'1 : Arn, (∀ y : Int, (∀ m : List Ent, ((TrR x.S hs m (8 * I) 8000 S'1 y) → ((Asc m) → ((Kin m) → ((m.length ≤ (listE raw 60).length + 8) → (∃ x1 : XF1 P1,
    (True ∧ (True ∧ True ∧ True ∧ True ∧ ((Value.int IntKind.u32 (x.b)) = (Value.int IntKind.u32 (x1.b))) ∧ ((Value.int IntKind.u32 (y)) = (Value.int IntKind.u32 (x1.o))) ∧ True ∧ ((Value.bool true) = (Value.bool true)) ∧ True) ∧ ((raw) = (raw)) ∧ ((e1) = (e1)) ∧ ((e2) = (e2)) ∧ (True ∧ True ∧ True ∧ ((Value.int IntKind.u64 (S'1.reads)) = (Value.int IntKind.u64 (x1.S.reads))) ∧ True) ∧ (True ∧ True ∧ True ∧ ((Value.int IntKind.u32 (S'1.fresh)) = (Value.int IntKind.u32 (x1.S.fresh))) ∧ True) ∧ ((S'1.nodes) = (x1.S.nodes)) ∧ ((S'1.counts) = (x1.S.counts)) ∧ ((S'1.used) = (x1.S.used)) ∧ ((S'1.gen) = (x1.S.gen)) ∧ ((S'1.rel) = (x1.S.rel)) ∧ ((listE raw 60) = (listE raw 60)) ∧ (((Value.pointer none) = (Value.pointer none)) ∧ ((Value.int IntKind.u32 0) = (Value.int IntKind.u32 0)) ∧ ((Value.int IntKind.u32 0) = (Value.int IntKind.u32 0)) ∧ ((Value.int IntKind.u32 0) = (Value.int IntKind.u32 0)) ∧ True ∧ True ∧ True ∧ True) ∧ ((([] : List Ent) = [])) ∧ ((([] : List Ent) = [])) ∧ ((([] : List Ent) = [])) ∧ ((m) = (x1.lo)) ∧ True)))))))))))) ∧ (∀ x1 : XF1 P1, (True → ((∃ hs : List Int, (∃ I : Nat, ((EdM x1.S hs x1.b (listE raw 60) e2 I) ∧ (((e2.length) = 0) → (∀ S'1 : Arn, ((TrR x1.S hs (listE raw 60) (8 * I) 8000 S'1 x1.b) → (∃ x2 : XF2 P2, (True ∧ (True ∧ True ∧ True ∧ ((Value.int IntKind.u32 (x1.b)) = (Value.int IntKind.u32 (x2.b))) ∧ ((Value.int IntKind.u32 (x1.o)) = (Value.int IntKind.u32 (x2.o))) ∧ True ∧ ((Value.bool true) = (Value.bool true)) ∧
    ((Value.int IntKind.u32 (x1.b)) = (Value.int IntKind.u32 (x2.t))) ∧ True ∧ ((Value.bool true) = (Value.bool true)) ∧ True) ∧ ((raw) = (raw)) ∧ ((e1) = (e1)) ∧ ((e2) = (e2)) ∧ (True ∧ True ∧ True ∧ ((Value.int IntKind.u64 (S'1.reads)) = (Value.int IntKind.u64 (x2.S.reads))) ∧ True) ∧ (True ∧ True ∧ True ∧ ((Value.int IntKind.u32 (S'1.fresh)) = (Value.int IntKind.u32 (x2.S.fresh))) ∧ True) ∧ ((S'1.nodes) = (x2.S.nodes)) ∧ ((S'1.counts) = (x2.S.counts)) ∧ ((S'1.used) = (x2.S.used)) ∧ ((S'1.gen) = (x2.S.gen)) ∧ ((S'1.rel) = (x2.S.rel)) ∧ ((listE raw 60) = (listE raw 60)) ∧ (((Value.pointer none) = (Value.pointer none)) ∧ ((Value.int IntKind.u32 0) = (Value.int IntKind.u32 0)) ∧ ((Value.int IntKind.u32 0) = (Value.int IntKind.u32 0)) ∧ ((Value.int IntKind.u32 0) = (Value.int IntKind.u32 0)) ∧ True ∧ True ∧ True ∧ True) ∧ ((([] : List Ent) = [])) ∧ ((([] : List Ent) = [])) ∧ ((([] : List Ent) = [])) ∧ ((x1.lo) = (x2.lo)) ∧ ((listE raw 60) = (x2.lt)) ∧ True))))) ∧ (∀ S'1 : Arn, (∀ y : Int, (∀ m : List Ent, ((TrR x1.S hs m (8 * I) 8000 S'1 y) → ((Asc m) → ((Kin m) → ((m.length ≤ (listE raw 60).length + 8) → (∃ x2 : XF2 P2, (True ∧ (True ∧ True ∧ True ∧ ((Value.int IntKind.u32 (x1.b)) = (Value.int IntKind.u32 (x2.b))) ∧ ((Value.int IntKind.u32 (x1.o)) = (Value.int IntKind.u32 (x2.o))) ∧ True ∧ ((Value.bool true) = (Value.bool true)) ∧ ((Value.int IntKind.u32 (y)) = (Value.int IntKind.u32 (x2.t))) ∧ True ∧ ((Value.bool true) = (Value.bool true)) ∧ True) ∧ ((raw) = (raw)) ∧
    ((e1) = (e1)) ∧ ((e2) = (e2)) ∧ (True ∧ True ∧ True ∧ ((Value.int IntKind.u64 (S'1.reads)) = (Value.int IntKind.u64 (x2.S.reads))) ∧ True) ∧ (True ∧ True ∧ True ∧ ((Value.int IntKind.u32 (S'1.fresh)) = (Value.int IntKind.u32 (x2.S.fresh))) ∧ True) ∧ ((S'1.nodes) = (x2.S.nodes)) ∧ ((S'1.counts) = (x2.S.counts)) ∧ ((S'1.used) = (x2.S.used)) ∧ ((S'1.gen) = (x2.S.gen)) ∧ ((S'1.rel) = (x2.S.rel)) ∧ ((listE raw 60) = (listE raw 60)) ∧ (((Value.pointer none) = (Value.pointer none)) ∧ ((Value.int IntKind.u32 0) = (Value.int IntKind.u32 0)) ∧ ((Value.int IntKind.u32 0) = (Value.int IntKind.u32 0)) ∧ ((Value.int IntKind.u32 0) = (Value.int IntKind.u32 0)) ∧ True ∧ True ∧ True ∧ True) ∧ ((([] : List Ent) = [])) ∧ ((([] : List Ent) = [])) ∧ ((([] : List Ent) = [])) ∧ ((x1.lo) = (x2.lo)) ∧ ((m) = (x2.lt)) ∧ True)))))))))))) ∧ (∀ x2 : XF2 P2, (True →
    (K (SV.tup [(TV.agg [(At.ptr 3 0), (At.val (Value.int IntKind.u32 (x2.b))), (At.val (Value.int IntKind.u32 (x2.o))), (At.val (Value.int IntKind.u32 (x2.t))), (At.slc 4), (At.slc 5), (At.slc 6)]), (TV.at (At.val (Value.bool true)))]) [(Chunk.row false (EC.ent) (raw)), (Chunk.row false (EC.edm) (e1)), (Chunk.row false (EC.edm) (e2)), (Chunk.box [(At.ptr 7 0), (At.slc 8), (At.slc 9), (At.val (Value.int IntKind.u64 (x2.S.reads)))]), (Chunk.row false (EC.ent) (listE raw 60)), (Chunk.row false (EC.ent) (x2.lo)), (Chunk.row false (EC.ent) (x2.lt)), (Chunk.box [(At.slc 10), (At.slc 11), (At.slc 12), (At.val (Value.int IntKind.u32 (x2.S.fresh)))]), (Chunk.row true (EC.node) (x2.S.nodes)), (Chunk.row true (EC.int) (x2.S.counts)), (Chunk.row true (EC.bool) (x2.S.used)), (Chunk.row true (EC.u32) (x2.S.gen)), (Chunk.row true (EC.u32) (x2.S.rel))] []))))))))))))))))) = _ by kernel_rfl) ?_
  subst hP0 hP1 hP2
  have e60 : Int.toNat 60 = 60 := rfl
  rw [e60]
  generalize listE raw 60 = B at *
  rw [wrap_id (x := (B.length : Int) + 8) (by omega) (by omega)]
  refine ⟨by decide, by decide, by omega, by omega, fun p ep => ?_⟩
  have ep : p = (I : Int) := by rw [ep, hII, show ((B.length + 9 : Nat) : Int) = (B.length : Int) + 8 + 1 by omega]
  subst ep
  rw [wrap_id (x := 18 * (I : Int)) (by omega) (by omega), wrap_id (x := 18 * (I : Int) + sp) (by omega) (by omega)]
  refine ⟨h0, by omega, by omega, by omega, fun S1 b hp => ⟨⟨⟨S1, b, ?_⟩, ?_⟩, fun x0 _ => ?_⟩⟩
  · obtain ⟨t1, up, lt, zt⟩ := plant_up hp la (by omega)
    have fr := plant_free hp
    have cp : S1.cap = (B.length : Int) + (18 * (I : Int) + sp) := by
      have := cap_len hp.len
      rw [this, cap_new]; omega
    refine ⟨⟨up.1, ?_, ?_, ?_⟩, by rw [hp.rds]; rfl, by omega, by omega⟩
    · intro q hq; simp at hq; subst hq; exact ⟨t1, up.2.1, lt, up.2.2.1⟩
    · intro q hq; simp at hq; subst hq; exact la
    · intro q hq; simp at hq; subst hq; exact kB
  · (repeat' first | exact trivial | exact rfl | refine And.intro ?_ ?_)
  obtain ⟨S, b, hh, rd, fr, cp⟩ := x0
  dsimp only
  have i8 : 8 ≤ I := by omega
  refine ⟨⟨_, I, fk_ed (I := I) (ed := e1) hh (List.mem_cons_self ..) (by simp) k1 (by omega) (by omega) hII (by omega), fun _ S2 tr => ⟨⟨S2, b, b, B, ?_⟩, ?_⟩, fun S2 o lo tr am km lm => ⟨⟨S2, b, o, lo, ?_⟩, ?_⟩⟩, fun x1 _ => ?_⟩
  · have f := tr.got.free hh.wf
    have q := tr.got.rd
    exact ⟨hh.step tr la kB, by omega, by omega, by omega, by rw [tr_cap tr]; exact cp⟩
  · (repeat' first | exact trivial | exact rfl | refine And.intro ?_ ?_)
  · have f := tr.got.free hh.wf
    have q := tr.got.rd
    exact ⟨hh.step tr am km, by omega, by omega, by omega, by rw [tr_cap tr]; exact cp⟩
  · (repeat' first | exact trivial | exact rfl | refine And.intro ?_ ?_)
  clear hh rd fr cp b S
  obtain ⟨S, b, o, lo, hh, lo68, rd, fr, cp⟩ := x1
  dsimp only
  refine ⟨⟨_, I, fk_ed (I := I) (ed := e2) hh (b := b) (B := B) (by simp) (by simp) k2 (by omega) (by omega) hII (by omega), fun _ S2 tr => ⟨⟨S2, b, o, b, lo, B, ?_⟩, ?_⟩, fun S2 t lt tr am km lm => ⟨⟨S2, b, o, t, lo, lt, ?_⟩, ?_⟩⟩, fun x2 _ => ?_⟩
  · have f := tr.got.free hh.wf
    have q := tr.got.rd
    exact ⟨hh.step tr la kB, by omega, by omega, by omega, by omega, by omega, by rw [tr_cap tr]; omega, by rw [tr_cap tr]; omega⟩
  · (repeat' first | exact trivial | exact rfl | refine And.intro ?_ ?_)
  · have f := tr.got.free hh.wf
    have q := tr.got.rd
    exact ⟨hh.step tr am km, by omega, by omega, by omega, by omega, by omega, by rw [tr_cap tr]; omega, by rw [tr_cap tr]; omega⟩
  · (repeat' first | exact trivial | exact rfl | refine And.intro ?_ ?_)
  · exact h x2.S x2.b x2.o x2.t x2.lo x2.lt x2.h
theorem s_fk : SoundT C0 49 tFk := by
  refine .of Try.func49 (by decide) rfl fun args H K h hB => ?_
  unfold tFk at h
  split at h <;> try exact h.elim
  rename_i t sp raw e1 e2
  refine ⟨_, ?_, vc_fk raw e1 e2 t sp K h.1 h.2.1 h.2.2.1 h.2.2.2.1 h.2.2.2.2.1 h.2.2.2.2.2.1 h.2.2.2.2.2.2⟩
  exact ⟨frame C0.ok s_lst _, frame C0.ok s_nIns _, frame C0.ok s_grow _, frame C0.ok s_ed _, trivial⟩
theorem merge_triv {lb lo lt : List Ent} (hb : Asc lb) (ho : Asc lo) (ht : Asc lt) (pol : Int) : (lb = lo → mergeE lb lo lt pol = lt) ∧ (lb = lt → mergeE lb lo lt pol = lo) ∧ (lo = lt → mergeE lb lo lt pol = lo) := by
  refine ⟨fun e => Asc.ext (mergeE_asc ..) ht fun k => ?_, fun e => Asc.ext (mergeE_asc ..) ho fun k => ?_, fun e => Asc.ext (mergeE_asc ..) ho fun k => ?_⟩
  all_goals rw [mergeE_get]; unfold mergedO
  · subst e
    by_cases c : getE lb k = getE lt k
    · rw [if_pos (.inl c)]; exact c
    · rw [if_neg (fun d => d.elim c c), if_pos rfl]
  · subst e; rw [if_pos (.inr rfl)]
  · subst e; rw [if_pos (.inl rfl)]
theorem s_mgK : SoundT C0 45 tMgK := s_mg.weak fun args H K h => by
  unfold tMgK at h
  unfold tMg
  split at h <;> try exact h.elim
  unfold arM at h ⊢
  split at h <;> try exact h.elim
  rename_i b o t pol _ rd fr nd ct us gn rl
  obtain ⟨hs, tb, to, tt, hm, p1, p2, hf, hc, h⟩ := h
  refine ⟨hs, tb, to, tt, hm, fun S' i c e r => ?_⟩
  have h0 := hm.wf.us0 (Int.le_refl 0)
  have hrd := hm.rd
  have hl := hm.hl
  rcases r with ⟨a, _⟩ | ⟨_, a, b1, b2, b3, b4⟩ | ⟨_, _, a, _⟩ | ⟨_, _, _, a, _⟩ | ⟨_, _, _, _, b1, b2, b3⟩
  · exact absurd ⟨p1, p2⟩ a
  · rw [b1, b3]
    refine h S' i [] (conf_triv hm a).symm ?_
    have mt := merge_triv hm.ab hm.ao hm.at_ pol
    rw [b2] at b4 ⊢
    unfold trivI at b4 ⊢
    split at b4
    · rename_i q
      have r := hm.ro; rw [← q] at r
      rw [if_pos q]
      exact hold_tr (m := 0) hm.wf hm.rt hm.bt (by omega) (by omega) (by rw [b4, rdS_zero]) (by omega) (mt.1 (by rw [r.inj h0 hm.rb])).symm
    · rename_i q
      rw [if_neg q]
      refine hold_tr (m := 0) hm.wf hm.ro hm.bo (by omega) (by omega) (by rw [b4, rdS_zero]) (by omega) ?_
      rcases a with e | e | e
      · exact absurd e q
      · have r := hm.rt; rw [← e] at r
        exact (mt.2.1 (by rw [r.inj h0 hm.rb])).symm
      · have r := hm.rt; rw [← e] at r
        exact (mt.2.2 (by rw [r.inj h0 hm.ro])).symm
  · omega
  · exact absurd (hc a.1) a.2
  · rw [b1]; exact h S' i c b2 b3
theorem Hld.mg {S : Arn} {E : List (Int × List Ent)} {b o t : Int} {lb lo lt : List Ent} (e : Hld S E) (hb : (b, lb) ∈ E) (ho : (o, lo) ∈ E) (ht : (t, lt) ∈ E) (l1 : lb.length ≤ 30000) (l2 : lo.length ≤ 30000) (l3 : lt.length ≤ 30000) (he : E.length ≤ 900000) (hr : S.reads ≤ 500000000000000000) :
    ∃ tb to tt, MgM S (E.map Prod.fst) tb to tt b o t ∧ tb.list = lb ∧ to.list = lo ∧ tt.list = lt ∧ needM tb to tt = (lb.length : Int) + lo.length + lt.length + 12 * (Hn ((lb.length : Int) + lo.length + lt.length) + 2) := by
  obtain ⟨tb, rb, eb, bb⟩ := e.rep _ hb
  obtain ⟨to, ro, eo, bo⟩ := e.rep _ ho
  obtain ⟨tt, rt, et, bt⟩ := e.rep _ ht
  have eb : tb.list = lb := eb
  have eo : to.list = lo := eo
  have et : tt.list = lt := et
  have zb : tb.size = lb.length := by rw [← tb.list_len, eb]
  have zo : to.size = lo.length := by rw [← to.list_len, eo]
  have zt : tt.size = lt.length := by rw [← tt.list_len, et]
  refine ⟨tb, to, tt, ⟨e.wf, rb, ro, rt, bb, bo, bt, by rw [eb]; exact e.asc _ hb, by rw [eo]; exact e.asc _ ho, by rw [et]; exact e.asc _ ht, by rw [eb]; exact e.kin _ hb, by rw [eo]; exact e.kin _ ho, by rw [et]; exact e.kin _ ht, by omega, by omega, by omega, by simpa using he, hr⟩, eb, eo, et, by unfold needM; rw [zb, zo, zt]⟩
theorem kin_lit {l : List Ent} (h : l.all (fun x => decide (-9223372036854775808 ≤ x.1) && decide (x.1 ≤ 9223372036854775807)) = true) : Kin l := fun x hx => by
  have := List.all_eq_true.1 h x hx
  simpa using this
theorem ce20 : confE [((1 : Int), (10 : Int))] [(1, 11)] [(1, 10), (2, 20)] = [] := by decide
theorem me20 : mergeE [((1 : Int), (10 : Int))] [(1, 11)] [(1, 10), (2, 20)] 3 = [(1, 11), (2, 20)] := by decide
theorem vc_aw20 (K : KT) (h : K (.one (.at (vB true))) [] []) : vc C0 aAw20 Try.f50 [] [] (normK 0 K) := by
  refine Eq.mp (show ((((300 : Int) < 1 ∨ (65536 : Int) < 300) →
(K (SV.one (TV.at (At.val (Value.bool false)))) [] [])) ∧
(((1 : Int) ≤ 300) →
(((300 : Int) ≤ 65536) →
(∀ S : Arn, (((S) = (newS (Int.toNat 300))) → (∃ hs : List Int, ((Wf S hs) ∧ (Asc ([(1, 10)] : List Ent)) ∧ (([(1, 10)] : List Ent).length ≤ 60000) ∧ (hs.length ≤ 900000) ∧ ((↑([(1, 10)] : List Ent).length : Int) ≤ S.free) ∧ (S.reads ≤ 900000000000000000) ∧ (∀ S' : Arn, (∀ i : Int, ((TrR S hs ([(1, 10)] : List Ent) 65537 0 S' i) → (∃ hs1 : List Int, ((Wf S' hs1) ∧ (Asc ([(1, 11)] : List Ent)) ∧ (([(1, 11)] : List Ent).length ≤ 60000) ∧ (hs1.length ≤ 900000) ∧ ((↑([(1, 11)] : List Ent).length : Int) ≤ S'.free) ∧ (S'.reads ≤ 900000000000000000) ∧ (∀ S'1 : Arn, (∀ i1 : Int, ((TrR S' hs1 ([(1, 11)] : List Ent) 65537 0 S'1 i1) → (∃ hs2 : List Int, ((Wf S'1 hs2) ∧ (Asc ([(1, 10), (2, 20)] : List Ent)) ∧ (([(1, 10), (2, 20)] : List Ent).length ≤ 60000) ∧ (hs2.length ≤ 900000) ∧ ((↑([(1, 10), (2, 20)] : List Ent).length : Int) ≤ S'1.free) ∧ (S'1.reads ≤ 900000000000000000) ∧ (∀ S'2 : Arn, (∀ i2 : Int, ((TrR S'1 hs2 ([(1, 10), (2, 20)] : List Ent) 65537 0 S'2 i2) → (∃ hs3 : List Int, (∃ tb : Tr, (∃ to : Tr, (∃ tt : Tr, ((MgM S'2 hs3 tb to tt i i1 i2) ∧ ((1 : Int) ≤ 3) ∧ ((3 : Int) ≤ 4) ∧ (needM tb to tt ≤ S'2.free) ∧ (((3 : Int) = 3) → ((confE tb.list to.list tt.list) = [])) ∧ (∀ S'3 : Arn, (∀ i3 : Int, (∀ c : List Int, (((c) = (confE tb.list to.list tt.list)) → ((TrR S'2 hs3 (mergeE tb.list to.list tt.list 3) 65537 2000000000 S'3 i3) →
    (∃ hs4 : List Int, (∃ t : Tr, ((Wf S'3 hs4) ∧ (Rep S'3 t i3) ∧ (Asc t.list) ∧ (t.size ≤ 1000000) ∧ (S'3.reads + (↑t.size : Int) ≤ 3000000000000000000) ∧ (∀ S'4 : Arn, (∀ m : Nat, (∀ o : Option Int, (((S'4) = (rdS S'3 m)) → ((m ≤ ht t) → (((o) = (getE t.list 1)) → (brS ((↑c.length : Int) == 0) ((brS (o.isSome) ((brS (o.getD 0 == 11) (((inU i3) ∧ (exW S'4) ∧ (S'4.reads < 4000000000000000000) ∧ (∀ S'5 : Arn, (((S'5) = (rdS S'4 (S'4.us i3).toNat)) → (K (SV.one (TV.at (At.val (Value.bool ((S'4.nd i3).size == 2))))) [] []))))) ((K (SV.one (TV.at (At.val (Value.bool false)))) [] [])))) ((K (SV.one (TV.at (At.val (Value.bool false)))) [] [])))) ((K (SV.one (TV.at (At.val (Value.bool false)))) [] [])))))))))))))))))))))))))))))))))))))))))) = _ by kernel_rfl) ?_
  refine ⟨fun c => by omega, fun _ _ S0 e => ?_⟩
  have e5 : Int.toNat 300 = 300 := rfl
  rw [e5] at e
  have h0 : Hld S0 [] := by rw [e]; exact Hld.new (by omega) (by omega)
  have c0 : S0.cap = 300 := by rw [e]; exact cap_new 300
  have r0 : S0.reads = 0 := by rw [e]; rfl
  clear e
  have f0 := h0.room
  simp only [sumL_nil] at f0
  refine ⟨_, h0.wf, by decide, by decide, by simp, by simp; omega, by omega, fun S1 b t1 => ?_⟩
  have h1 := h0.step t1 (by decide) (kin_lit rfl)
  have c1 := tr_cap t1
  have r1 := t1.got.rd
  have f1 := h1.room
  simp only [sumL_nil, sumL_cons] at f1
  refine ⟨_, h1.wf, by decide, by decide, by simp, by simp at f1 ⊢; omega, by omega, fun S2 o t2 => ?_⟩
  have h2 := h1.step t2 (by decide) (kin_lit rfl)
  have c2 := tr_cap t2
  have r2 := t2.got.rd
  have f2 := h2.room
  simp only [sumL_nil, sumL_cons] at f2
  refine ⟨_, h2.wf, by decide, by decide, by simp, by simp at f2 ⊢; omega, by omega, fun S3 t t3 => ?_⟩
  have h3 := h2.step t3 (by decide) (kin_lit rfl)
  have c3 := tr_cap t3
  have r3 := t3.got.rd
  have f3 := h3.room
  simp only [sumL_nil, sumL_cons] at f3
  obtain ⟨tb, to, tt, hm, eb, eo, et, nm⟩ := h3.mg (b := b) (o := o) (t := t) (lb := [(1, 10)]) (lo := [(1, 11)]) (lt := [(1, 10), (2, 20)]) (by simp) (by simp) (by simp) (by decide) (by decide) (by decide) (by simp) (by omega)
  have n2 : needM tb to tt ≤ S3.free := by
    have e : needM tb to tt = 4 + 12 * (Hn 4 + 2) := by rw [nm]; rfl
    have e2 : Hn 4 ≤ 4 := by decide
    simp at f3
    omega
  have ce := ce20
  have me := me20
  refine ⟨_, tb, to, tt, hm, by decide, by decide, n2, fun _ => by rw [eb, eo, et]; exact ce, fun S4 m c ec t4 => ?_⟩
  rw [eb, eo, et] at ec t4
  rw [ce] at ec
  rw [me] at t4
  obtain ⟨u, rp, lu, bu⟩ := t4.tree
  have w4 := t4.got.wf
  have r4 := t4.got.rd
  have su : u.size = 2 := by rw [← u.list_len, lu]; rfl
  refine ⟨_, u, w4, rp, by rw [lu]; decide, by omega, by omega, fun S5 m5 o5 e5 b5 eo5 => ?_⟩
  rw [lu] at eo5
  have eo5 : o5 = some 11 := eo5
  have hb := Bal.height bu (by omega)
  have hr := Hn_rng u.size
  have w5 := w4.rd (n := m5) (by omega)
  rw [← e5] at w5
  have rp5 : Rep S5 u m := by rw [e5]; exact rp.rdn
  have r5 : S5.reads = S4.reads + m5 := by rw [e5]; rfl
  refine bt7 (by rw [ec]; rfl) (bt7 (by rw [eo5]; rfl) (bt7 (by rw [eo5]; rfl) ⟨inU_of w5 rp5.us, ⟨_, w5⟩, by omega, fun S6 _ => ?_⟩))
  rw [rp5.size w5, su]
  exact h
theorem s_aw20 : SoundT C0 50 tAw20 := by
  refine .of Try.func50 (by decide) rfl fun args H K h hB => ?_
  unfold tAw20 at h
  split at h <;> try exact h.elim
  exact ⟨aAw20, ⟨frame C0.ok s_new _, frame C0.ok s_buildOk _, frame C0.ok s_mgK _, frame C0.ok s_getT _, frame C0.ok s_size _, trivial⟩, vc_aw20 K h⟩
end Go.Proofs.Ytmjnoiajenoinaa.Sx
end
section
/- The law MergeIsSymmetric. -/
namespace Go.Proofs.Ytmjnoiajenoinaa.Sx
open Go

/-KEEP Wf Kept exW inU live Arn.cap Arn.free Rep rdS retL Tr.size Tr.list Tr.Bal Asc Kin KinD FkR listE TrR Got Hn ht MgM needM confE mergeE sameB-/
structure XMs (P : Nat → Arn → Int → Int → Int → List Ent → List Ent → Prop) where
  k : Nat
  S : Arn
  b : Int
  o : Int
  t : Int
  lo : List Ent
  lt : List Ent
  h : P k S b o t lo lt
noncomputable def aMs (P : Nat → Arn → Int → Int → Int → List Ent → List Ent → Prop) (raw B : List Ent) (e1 e2 : List EdtT) : Ann C0 := { rounds := fun n => if n = 5 then 4 else 0, quiet := [47, 46], Γ := [(49, tFk), (50, frameT [] tAw20), (45, frameT [] tMgK), (54, frameT [] tLsOk), (47, frameT [] tSame_ent), (46, frameT [] tSame_i64)], inv := fun n => match n with
  | 1006 => some { X := XMs P, sl := [9], tf := fun x => [.one (.at (.ptr 13 0))], hf := fun x => [.row false EC.ent raw, .row false EC.edm e1, .row false EC.edm e2] ++ chSk 3 x.S ++ [.row false EC.ent B, .row false EC.ent x.lo, .row false EC.ent x.lt, .box [.ptr 3 0, vU x.b, vU x.o, vU x.t, .slc 10, .slc 11, .slc 12]], rel := fun T _ x => slotI T 11 x.k }
  | _ => none }
def tMs : Tfm C0 := fun args H K => match args, H with
  | [.at (.slc 0), .at (.val (.int .u64 t)), .at (.slc 1), .at (.slc 2)], [.row false .ent raw, .row false .edm e1, .row false .edm e2] => 0 ≤ t ∧ Kin raw ∧ KinD e1 ∧ KinD e2 ∧ K (.one (.at (vB true))) [.row false EC.ent raw, .row false EC.edm e1, .row false EC.edm e2] []
  | _, _ => False
theorem merged_none (p : Int) : mergedO p none none none = none := by unfold mergedO; rw [if_pos (.inl rfl)]
theorem merge_kin {lb lo lt : List Ent} (h1 : Kin lb) (h2 : Kin lo) (h3 : Kin lt) (p : Int) : Kin (mergeE lb lo lt p) := fun x hx => by
  have e := getE_in hx
  rw [mergeE_get] at e
  cases ea : getE lb x.1 with
  | some v => exact h1 (x.1, v) (getE_some ea)
  | none =>
    cases eb : getE lo x.1 with
    | some v => exact h2 (x.1, v) (getE_some eb)
    | none =>
      cases ec : getE lt x.1 with
      | some v => exact h3 (x.1, v) (getE_some ec)
      | none => rw [ea, eb, ec, merged_none] at e; exact absurd rfl e
theorem merge_len {lb lo lt : List Ent} (hb : Asc lb) (ho : Asc lo) (ht : Asc lt) (p : Int) : (mergeE lb lo lt p).length ≤ lb.length + lo.length + lt.length := by
  rw [← plan_merge hb ho ht p]
  have a := (perf_spec (planC_srt (p := btw lb lo) (btw_srt hb ht) p) ho).2.1
  have b := planC_len (btw lb lo) (btw lb lt) p
  have c := btw_len hb ht
  omega
/-- After k rounds. -/
def QMs (B : List Ent) (k : Nat) (S : Arn) (b o t : Int) (lo lt : List Ent) : Prop := ∃ E, Hld S E ∧ (b, B) ∈ E ∧ (o, lo) ∈ E ∧ (t, lt) ∈ E ∧ sumL E ≤ 196 + 392 * k ∧ E.length ≤ 3 + 2 * k ∧ B.length ≤ 60 ∧ lo.length ≤ 68 ∧ lt.length ≤ 68 ∧ S.reads ≤ 20000 + 5000000000 * k ∧ 3144 ≤ S.cap
end Go.Proofs.Ytmjnoiajenoinaa.Sx
end
