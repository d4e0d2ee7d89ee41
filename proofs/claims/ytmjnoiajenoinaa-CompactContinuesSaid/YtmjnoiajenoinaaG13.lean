/- A part of the proof. -/
import Derived.Test.YtmjnoiajenoinaaG12
import Derived.Test.YtmjnoiajenoinaaG11
import Derived.Test.YtmjnoiajenoinaaG6
import Derived.Test.YtmjnoiajenoinaaG10
import Derived.Test.YtmjnoiajenoinaaG7
import Derived.Test.YtmjnoiajenoinaaProg
import Derived.Test.YtmjnoiajenoinaaChecked
import Derived.WalkKit
import Derived.ProofKit
import Derived.OpenShut
import Derived.SizedLaws
import Derived.Carry
import Derived.Test.YtmjnoiajenoinaaG4
import Derived.Deep.Slices
import Derived.Lib.SmallJoins
import Derived.Test.YtmjnoiajenoinaaRows
section
/- The law that Delete deletes. -/
namespace Go.Proofs.Ytmjnoiajenoinaa.Sx
open Go

/-KEEP Wf exW inU live Arn.cap Arn.free Rep rdS retL Tr.size Tr.list slotsOf orderOf PlantR newS insE outE listE getE TrR upM Hn keptD Asc Tr.Bal ht dB RepD List.Perm-/
structure XUe (P : Arn → Int → List Ent → Int → Prop) where
  S : Arn
  i : Int
  l : List Ent
  need : Int
  k : Int
  h : P S i l need
structure UdS where
  S0 : Arn
  S : Arn
  root : Int
  l : List Ent
  need : Int
  k : Int
  v : Int
  is : Bool
  d : List SlotT
  o : List Int
  r : Int
  i : Int
  w : Int
  f : Int
structure XUd (P : UdS → Prop) where
  z : UdS
  h : P z
structure XUw (P : UdS → Int → Prop) where
  z : UdS
  want : Int
  h : P z want
end Go.Proofs.Ytmjnoiajenoinaa.Sx
end
section
/- update.Increase, and the laws that updates increase, commute and share. -/
namespace Go.Proofs.Ytmjnoiajenoinaa.Sx
open Go

/-KEEP Wf exW inU live Arn.cap Arn.free Rep rdS retL Tr.size Tr.list slotsOf orderOf PlantR newS insE outE listE getE TrR upM Hn keptD Asc Tr.Bal ht dB iB RepD List.Perm flt neK-/
structure XUc (P : Arn → Int → List Ent → Prop) where
  S : Arn
  i : Int
  l : List Ent
  k : Int
  h : P S i l
/-! ### The law that Increase increases -/
theorem Hn_le {n m : Nat} (h : n ≤ m) : Hn n ≤ Hn m := by
  have a := gN_size n
  have b := gN_size m
  have c := gN_mono (v := n + 1) (w := m + 1) (by omega) (by omega)
  omega
end Go.Proofs.Ytmjnoiajenoinaa.Sx
end
section
/- Building and listing trees where there is room. -/
namespace Go.Proofs.Ytmjnoiajenoinaa.Sx
open Go

theorem Hld.new {c : Nat} (h1 : 1 ≤ c) (h2 : c ≤ 65536) : Hld (newS c) [] := ⟨Wf.new h1 h2, fun _ h => (by cases h), fun _ h => (by cases h), fun _ h => (by cases h)⟩
end Go.Proofs.Ytmjnoiajenoinaa.Sx
end
section
/- Edits: what stays in range. No program in sight. -/
namespace Go.Proofs.Ytmjnoiajenoinaa.Sx
open Go

theorem kin_ins {l : List Ent} {e : Ent} (ha : Asc l) (h : Kin l) (he : -9223372036854775808 ≤ e.1 ∧ e.1 ≤ 9223372036854775807) : Kin (insE l e) := fun x hx => by
  rcases insE_mem ha hx with rfl | c
  · exact he
  · exact h x c
def KinD (l : List EdtT) : Prop := ∀ e ∈ l, -9223372036854775808 ≤ e.ent.1 ∧ e.ent.1 ≤ 9223372036854775807
end Go.Proofs.Ytmjnoiajenoinaa.Sx
end
section
/- law20: edit, fork, awake; merges where there is room. -/
namespace Go.Proofs.Ytmjnoiajenoinaa.Sx
open Go

/-KEEP EdM Wf Kept exW inU live Arn.cap Arn.free Rep rdS retL Tr.size Tr.list Tr.Bal Asc Kin KinD PlantR listE newS insE outE flt neK getE TrR Got upM Hn iB dB ht min MgM needM confE mergeE BuildR-/
structure EdM (S : Arn) (hs : List Int) (x : Int) (l : List Ent) (ed : List EdtT) (I : Nat) : Prop where
  wf : Wf S hs
  tree : ∃ t, Rep S t x ∧ t.list = l ∧ t.Bal
  asc : Asc l
  kin : Kin l
  kd : KinD ed
  len : l.length ≤ 60
  hl : hs.length ≤ 1000
  rd : S.reads ≤ 1000000
  i4 : 4 * (Hn ((l.length + 9 : Nat) : Int) + 2) ≤ (I : Int)
  i60 : I ≤ 100
  free : ((8 * I : Nat) : Int) ≤ S.free
structure XE1 (P : Nat → Arn → Int → List Ent → Prop) where
  i : Nat
  S : Arn
  y : Int
  m : List Ent
  h : P i S y m
structure XE2 (P : Nat → Arn → Int → Int → List Ent → Prop) where
  i : Nat
  S : Arn
  y : Int
  z : Int
  m : List Ent
  h : P i S y z m
/-- Three trees of one arena, with their entries. -/
structure FkR (S : Arn) (b o t : Int) (lb lo lt : List Ent) (sp : Int) : Prop where
  h : Hld S [(t, lt), (o, lo), (b, lb)]
  sb : lb.length ≤ 60
  so : lo.length ≤ 68
  st : lt.length ≤ 68
  rd : S.reads ≤ 20000
  free : sp ≤ S.free
  cap : lb.length + sp + 144 ≤ S.cap
  top : S.cap ≤ lb.length + sp + 1100
structure XF0 (P : Arn → Int → Prop) where
  S : Arn
  b : Int
  h : P S b
structure XF1 (P : Arn → Int → Int → List Ent → Prop) where
  S : Arn
  b : Int
  o : Int
  lo : List Ent
  h : P S b o lo
structure XF2 (P : Arn → Int → Int → Int → List Ent → List Ent → Prop) where
  S : Arn
  b : Int
  o : Int
  t : Int
  lo : List Ent
  lt : List Ent
  h : P S b o t lo lt
theorem merge_triv {lb lo lt : List Ent} (hb : Asc lb) (ho : Asc lo) (ht : Asc lt) (pol : Int) : (lb = lo → mergeE lb lo lt pol = lt) ∧ (lb = lt → mergeE lb lo lt pol = lo) ∧ (lo = lt → mergeE lb lo lt pol = lo) := by
  refine ⟨fun e => Asc.ext (mergeE_asc ..) ht fun k => ?_, fun e => Asc.ext (mergeE_asc ..) ho fun k => ?_, fun e => Asc.ext (mergeE_asc ..) ho fun k => ?_⟩
  all_goals rw [mergeE_get]; unfold mergedO
  · subst e
    by_cases c : getE lb k = getE lt k
    · rw [if_pos (.inl c)]; exact c
    · rw [if_neg (fun d => d.elim c c), if_pos rfl]
  · subst e; rw [if_pos (.inr rfl)]
  · subst e; rw [if_pos (.inl rfl)]
theorem Hld.mg {S : Arn} {E : List (Int × List Ent)} {b o t : Int} {lb lo lt : List Ent} (e : Hld S E) (hb : (b, lb) ∈ E) (ho : (o, lo) ∈ E) (ht : (t, lt) ∈ E) (l1 : lb.length ≤ 30000) (l2 : lo.length ≤ 30000) (l3 : lt.length ≤ 30000) (he : E.length ≤ 900000) (hr : S.reads ≤ 500000000000000000) :
    ∃ tb to tt, MgM S (E.map Prod.fst) tb to tt b o t ∧ tb.list = lb ∧ to.list = lo ∧ tt.list = lt ∧ needM tb to tt = (lb.length : Int) + lo.length + lt.length + 12 * (Hn ((lb.length : Int) + lo.length + lt.length) + 2) := by
  obtain ⟨tb, rb, eb, bb⟩ := e.rep _ hb
  obtain ⟨to, ro, eo, bo⟩ := e.rep _ ho
  obtain ⟨tt, rt, et, bt⟩ := e.rep _ ht
  have eb : tb.list = lb := eb
  have eo : to.list = lo := eo
  have et : tt.list = lt := et
  have zb : tb.size = lb.length := by rw [← tb.list_len, eb]
  have zo : to.size = lo.length := by rw [← to.list_len, eo]
  have zt : tt.size = lt.length := by rw [← tt.list_len, et]
  refine ⟨tb, to, tt, ⟨e.wf, rb, ro, rt, bb, bo, bt, by rw [eb]; exact e.asc _ hb, by rw [eo]; exact e.asc _ ho, by rw [et]; exact e.asc _ ht, by rw [eb]; exact e.kin _ hb, by rw [eo]; exact e.kin _ ho, by rw [et]; exact e.kin _ ht, by omega, by omega, by omega, by simpa using he, hr⟩, eb, eo, et, by unfold needM; rw [zb, zo, zt]⟩
end Go.Proofs.Ytmjnoiajenoinaa.Sx
end
section
/- What compacting keeps: trees, and all that is held. -/
namespace Go.Proofs.Ytmjnoiajenoinaa
open Go
variable {S B : Arn} {hs hb l : List Int} {c : Int}
theorem cp_rep (cp : CpB S l c l.length hb B) (ls : LsN S l) (hw : Wf S hs) : ∀ {t : Tr} {j : Int}, Rep S t j → (j = 0 ∨ j ∈ l) → Rep B t (plcN l j)
  | .nil, j, h, _ => by
    have h : j = 0 := h
    subst h
    exact ls.plc0 hw
  | .node a k v b, j, h, hj => by
    obtain ⟨u, h1, h2, h3, h4⟩ := h
    have jm : j ∈ l := hj.resolve_left fun e => by
      rw [e, hw.us0 (Int.le_refl 0)] at u; cases u
    obtain ⟨g1, g2⟩ := plcN_get jm
    obtain ⟨_, o1, o2⟩ := ls.ord _ j g1
    have r := plcN_rng l j
    have en := cp.nd _ j (by omega) g1
    rw [show (((plcN l j - 1).toNat : Nat) : Int) + 1 = plcN l j by omega] at en
    refine ⟨(cp.us _).2 ⟨g2, r.2⟩, by rw [en]; exact h1, by rw [en]; exact h2, ?_, ?_⟩
    · rw [en]
      exact cp_rep cp ls hw h3 ((Rep.us h3).imp id fun u => List.mem_of_mem_take (o1 u))
    · rw [en]
      exact cp_rep cp ls hw h4 ((Rep.us h4).imp id fun u => List.mem_of_mem_take (o2 u))
end Go.Proofs.Ytmjnoiajenoinaa
end
section
/- Law CompactContinues. -/
namespace Go.Proofs.Ytmjnoiajenoinaa.Sx
open Go

/-KEEP Wf Kept exW inU allV live rdS retL Arn.cap Arn.free Rep Tr.size Tr.list Tr.Bal Asc Kin listE insE getE TrR Got Hn ht upM MgM needM confE mergeE sameB NumsA NmB NmR CpO PlantR newS okRt slotsOf orderOf RepD MgF Hld iB-/
def MgF (S : Arn) (hs : List Int) (lb lo lt : List Ent) (pol : Int) (S' : Arn) (i : Int) (c : List Int) (e : Int) : Prop :=
  c = confE lb lo lt ∧ ((pol = 3 ∧ confE lb lo lt ≠ [] ∧ e = 10 ∧ i = 0 ∧ ∃ m, m ≤ 2000000 ∧ S' = rdS S m) ∨ (¬ (pol = 3 ∧ confE lb lo lt ≠ []) ∧ e = 0 ∧ TrR S hs (mergeE lb lo lt pol) 65537 2000000000 S' i))
def tMgF : Tfm C0 := fun args H K => match args with
  | [.at (.ptr 0 0), .at (.val (.int .u32 b)), .at (.val (.int .u32 o)), .at (.val (.int .u32 t)), .at (.val (.int .i64 pol))] => arM H fun S => ∃ hs tb to tt, MgM S hs tb to tt b o t ∧ 1 ≤ pol ∧ pol ≤ 4 ∧ needM tb to tt ≤ S.free ∧
    ∀ S' i c e, MgF S hs tb.list to.list tt.list pol S' i c e → K (.tup [.at (vU i), .at (.slc 7), .at (vI e)]) (chS S' ++ [.row true EC.i64 c]) W7
  | _ => False
theorem s_mgF : SoundT C0 45 tMgF := s_mg.weak fun args H K h => by
  unfold tMgF at h
  unfold tMg
  split at h <;> try exact h.elim
  unfold arM at h ⊢
  split at h <;> try exact h.elim
  rename_i b o t pol _ rd fr nd ct us gn rl
  obtain ⟨hs, tb, to, tt, hm, p1, p2, hf, h⟩ := h
  refine ⟨hs, tb, to, tt, hm, fun S' i c e r => h S' i c e ?_⟩
  have h0 := hm.wf.us0 (Int.le_refl 0)
  have hrd := hm.rd
  have hl := hm.hl
  rcases r with ⟨a, _⟩ | ⟨_, a, b1, b2, b3, b4⟩ | ⟨_, _, a, _⟩ | ⟨_, _, _, a, b1, b2, b3, b4⟩ | ⟨_, _, _, a, b1, b2, b3⟩
  · exact absurd ⟨p1, p2⟩ a
  · have cn := conf_triv hm a
    refine ⟨b3.trans cn.symm, .inr ⟨fun q => q.2 cn, b1, ?_⟩⟩
    have mt := merge_triv hm.ab hm.ao hm.at_ pol
    rw [b2] at b4 ⊢
    unfold trivI at b4 ⊢
    split at b4
    · rename_i q
      have r := hm.ro; rw [← q] at r
      rw [if_pos q]
      exact hold_tr (m := 0) hm.wf hm.rt hm.bt (by omega) (by omega) (by rw [b4, rdS_zero]) (by omega) (mt.1 (by rw [r.inj h0 hm.rb])).symm
    · rename_i q
      rw [if_neg q]
      refine hold_tr (m := 0) hm.wf hm.ro hm.bo (by omega) (by omega) (by rw [b4, rdS_zero]) (by omega) ?_
      rcases a with e | e | e
      · exact absurd e q
      · have r := hm.rt; rw [← e] at r
        exact (mt.2.1 (by rw [r.inj h0 hm.rb])).symm
      · have r := hm.rt; rw [← e] at r
        exact (mt.2.2 (by rw [r.inj h0 hm.ro])).symm
  · omega
  · exact ⟨b3, .inl ⟨a.1, a.2, b1, b2, b4⟩⟩
  · exact ⟨b2, .inr ⟨a, b1, b3⟩⟩
structure XNe (P : Arn → Int → Int → Int → Prop) where
  S : Arn
  r : Int
  x : Int
  y : Int
  h : P S r x y
structure XNf (P : Arn → Int → Int → Int → Arn → List Int → Int → Prop) where
  S : Arn
  r : Int
  x : Int
  y : Int
  B : Arn
  o : List Int
  p : Int
  h : P S r x y B o p
structure XNg (P : Arn → Arn → Int → Int → List Int → List Int → Int → Int → Prop) where
  S : Arn
  B : Arn
  m : Int
  n : Int
  c : List Int
  d : List Int
  j : Int
  k : Int
  h : P S B m n c d j k
noncomputable def aNe (P1 : Arn → Int → Int → Int → Prop) (P2 : Arn → Int → Int → Int → Arn → List Int → Int → Prop) (P3 : Arn → Arn → Int → Int → List Int → List Int → Int → Int → Prop) (raw : List Ent) : Ann C0 := { quiet := [21, 48, 47, 46], Γ := [(36, frameT [] tLst), (37, frameT [] tGrow), (12, frameT [] tAw29), (32, frameT [] tUpIn), (15, frameT [] tCpOk), (10, frameT [] tMod), (45, frameT [] tMgF), (21, frameT [] tDump), (48, frameT [] (tLi7 1000001)), (47, frameT [] tSame_ent), (46, frameT [] tSame_i64)], inv := fun n => match n with
  | 1009 => some { X := XNe P1, sl := [12, 13, 15, 19], tf := fun x => [.one (.at (.ptr 1 0)), vi .u32 x.r, vi .u32 x.x, vi .u32 x.y], hf := fun x => [.row false EC.ent raw] ++ chSk 1 x.S }
  | 1013 => some { X := XNf P2, sl := [12, 13, 15, 19, 23, 24, 26], tf := fun x => [.one (.at (.ptr 1 0)), vi .u32 x.r, vi .u32 x.x, vi .u32 x.y, .one (.at (.ptr 8 0)), .one (.at (.slc 15)), vi .i64 x.p], hf := fun x => [.row false EC.ent raw] ++ chSk 1 x.S ++ chSk 8 x.B ++ [.row false EC.u32 x.o] }
  | 1015 => some { X := XNg P3, sl := [12, 23, 27, 28, 29, 30, 31, 32], tf := fun x => [.one (.at (.ptr 1 0)), .one (.at (.ptr 8 0)), vi .u32 x.m, .one (.at (.slc 15)), vi .i64 x.j, vi .u32 x.n, .one (.at (.slc 16)), vi .i64 x.k], hf := fun x => [.row false EC.ent raw] ++ chSk 1 x.S ++ chSk 8 x.B ++ [.row false EC.i64 x.c, .row false EC.i64 x.d] }
  | _ => none }
def i64R (k : Int) : Prop := -9223372036854775808 ≤ k ∧ k ≤ 9223372036854775807
def tNe : Tfm C0 := fun args H K => match args, H with
  | [.at (.slc 0), .at (.val (.int .u64 t)), .agg [.val (.int .i64 ek), .val (.int .i64 _)], .agg [.val (.int .i64 fk), .val (.int .i64 _)], .at (.val (.int .i64 _))], [.row false .ent raw] => 0 ≤ t ∧ Kin raw ∧ i64R ek ∧ i64R fk ∧ K (.one (.at (vB true))) [.row false EC.ent raw] []
  | _, _ => False
theorem hld_up {S : Arn} {E : List (Int × List Ent)} {x : Int} {l : List Ent} (h : Hld S E) (hx : (x, l) ∈ E) (hl : l.length ≤ 60000) (hE : E.length ≤ 1000) (hr : S.reads ≤ 1000000000000000000) : ∃ t, upM S (E.map Prod.fst) t x ∧ t.list = l ∧ t.size = l.length ∧ t.Bal := by
  obtain ⟨t, rp, lt, bt⟩ := h.rep _ hx
  have lt : t.list = l := lt
  have sz : t.size = l.length := by rw [← t.list_len, lt]
  exact ⟨t, ⟨h.wf, rp, bt, by rw [lt]; exact h.asc _ hx, by omega, by simp; omega, hr⟩, lt, sz, bt⟩
theorem hld_plant {c : Nat} {S : Arn} {l : List Ent} {i : Int} (h : PlantR (newS c) [] l S i) (la : Asc l) (lk : Kin l) : Hld S [(i, l)] where
  wf := h.wf
  rep p hp := by rw [List.mem_singleton.1 hp]; exact h.rep
  asc p hp := by rw [List.mem_singleton.1 hp]; exact la
  kin p hp := by rw [List.mem_singleton.1 hp]; exact lk
/-- What is held in the old arena is held in the new one. -/
theorem Hld.cpt {S S' B : Arn} {E F : List (Int × List Ent)} {c : Int} {l o : List Int} (h : Hld S E) (hF : ∀ p ∈ F, p ∈ E) (cp : CpO S (F.map Prod.fst) c S' B l o) : Hld B (F.map fun p => (plcN l p.1, p.2)) where
  wf := by
    have w := cp.cp.wf
    rw [cp.eo, List.map_map] at w
    rw [List.map_map]; exact w
  rep q hq := by
    obtain ⟨p, hp, rfl⟩ := List.mem_map.1 hq
    obtain ⟨t, rp, lt, bt⟩ := h.rep p (hF p hp)
    refine ⟨t, cp_rep cp.cp (LsN.of h.wf cp.num) h.wf rp (rp.us.imp id fun u => cp.num.roots _ (List.mem_map.2 ⟨p, hp, rfl⟩) u), lt, bt⟩
  asc q hq := by
    obtain ⟨p, hp, rfl⟩ := List.mem_map.1 hq
    exact h.asc p (hF p hp)
  kin q hq := by
    obtain ⟨p, hp, rfl⟩ := List.mem_map.1 hq
    exact h.kin p (hF p hp)
theorem hn182 : Hn ((182 : Nat) : Int) ≤ 30 := by decide
def PNe1 (L0 L1 L2 : List Ent) : Arn → Int → Int → Int → Prop := fun S r x y => Hld S [(y, L2), (x, L1), (r, L0)] ∧ S.reads ≤ 1000000 ∧ (900 ≤ S.cap ∧ S.cap ≤ 960)
def PNe2 (L0 L1 L2 : List Ent) : Arn → Int → Int → Int → Arn → List Int → Int → Prop := fun S r x y B o p => (Hld S [(y, L2), (x, L1), (r, L0)] ∧ S.reads ≤ 2000000 ∧ 900 ≤ S.cap) ∧ ∃ r' x' y', o = [r', x', y'] ∧ Hld B [(r', L0), (x', L1), (y', L2)] ∧ B.reads = 0 ∧ B.cap = 1000 ∧ 1 ≤ p ∧ p ≤ 4
def LsT (S : Arn) (m : Int) (M : List Ent) : Prop := exW S ∧ (slotsOf S).length ≤ 1000000 ∧ ∃ t, RepD (slotsOf S) t m ∧ t.size ≤ 1000000 ∧ t.list = M
def PNe3 : Arn → Arn → Int → Int → List Int → List Int → Int → Int → Prop := fun S B m n c d j k => c = d ∧ j = k ∧ ∃ M, LsT S m M ∧ LsT B n M
theorem MgF.ls {S S' : Arn} {hs c : List Int} {lb lo lt : List Ent} {pol i e : Int} (w : Wf S hs) (hr : S.reads ≤ 2000000) (h : MgF S hs lb lo lt pol S' i c e) :
    c = confE lb lo lt ∧ (e = if pol = 3 ∧ confE lb lo lt ≠ [] then 10 else 0) ∧ LsT S' i (if pol = 3 ∧ confE lb lo lt ≠ [] then [] else mergeE lb lo lt pol) := by
  obtain ⟨h1, h2⟩ := h
  refine ⟨h1, ?_⟩
  rcases h2 with ⟨a, b, c, d, m, hm, es⟩ | ⟨a, b, tr⟩
  · rw [if_pos ⟨a, b⟩, if_pos ⟨a, b⟩]
    have w' : Wf S' hs := by rw [es]; exact w.rd (by omega)
    have sl := slots_le w'
    exact ⟨c, ⟨_, w'⟩, by omega, .nil, d, by simp [Tr.size], rfl⟩
  · rw [if_neg a, if_neg a]
    have w' := tr.got.wf
    have sl := slots_le w'
    obtain ⟨t, rp, lt, bt⟩ := tr.tree
    obtain ⟨u, u1, _, _, _, u2, u3⟩ := tr_tree w' rp lt bt (mergeE_asc ..)
    exact ⟨b, ⟨_, w'⟩, by omega, u, u1, u2, u3⟩
theorem need_fit {S : Arn} {E : List (Int × List Ent)} {lb lo lt : List Ent} (h : Hld S E) (hc : 900 ≤ S.cap) (hs : sumL E ≤ 182) (l1 : lb.length ≤ 60) (l2 : lo.length ≤ 61) (l3 : lt.length ≤ 61) {n : Int} (hn : n = (lb.length : Int) + lo.length + lt.length + 12 * (Hn ((lb.length : Int) + lo.length + lt.length) + 2)) : n ≤ S.free := by
  have a := h.room
  have b := Hn_le (n := lb.length + lo.length + lt.length) (m := 182) (by omega)
  have c := hn182
  rw [show (((lb.length + lo.length + lt.length : Nat)) : Int) = (lb.length : Int) + lo.length + lt.length by omega] at b
  omega
theorem vc_ne (raw : List Ent) (t ek ev fk fv pol : Int) (K : KT) (h0 : 0 ≤ t) (hk : Kin raw) (k1 : i64R ek) (k2 : i64R fk) (h : K (.one (.at (vB true))) [.row false EC.ent raw] []) :
    vc C0 (aNe (PNe1 (listE raw 60) (insE (listE raw 60) (ek, ev)) (insE (listE raw 60) (fk, fv))) (PNe2 (listE raw 60) (insE (listE raw 60) (ek, ev)) (insE (listE raw 60) (fk, fv))) PNe3 raw) Try.f8 [.at (.slc 0), .at (vU64 t), .agg [vI ek, vI ev], .agg [vI fk, vI fv], .at (vI pol)] [.row false EC.ent raw] (normK 1 K) := by
  generalize hP1 : PNe1 (listE raw 60) (insE (listE raw 60) (ek, ev)) (insE (listE raw 60) (fk, fv)) = P1
  generalize hP2 : PNe2 (listE raw 60) (insE (listE raw 60) (ek, ev)) (insE (listE raw 60) (fk, fv)) = P2
  generalize hP3 : PNe3 = P3
  refine Eq.mp (show (((0 : Int) ≤ 60) ∧
((60 : Int) ≤ 1000000) ∧
(0 ≤ t) ∧
((1 : Int) ≤ 900) ∧
((900 : Int) ≤ 30000) ∧
((listE raw (Int.toNat 60)).length ≤ 30000) ∧
(∀ S' : Arn, (∀ i : Int, ((PlantR (newS ((↑(listE raw (Int.toNat 60)).length : Int) + 900).toNat) [] (listE raw (Int.toNat 60)) S' i) → (∃ hs : List Int, (∃ t1 : Tr, ((upM S' hs t1 i) ∧ (4 * (Hn ((↑t1.size : Int) + 1) + 2) ≤ S'.free) ∧ (∀ S'1 : Arn, (∀ j : Int, (∀ o : Option Int, (((o) = (getE t1.list ek)) → ((TrR S' hs (insE t1.list (ek, ev)) (iB t1.size) (5 * iB t1.size + ht t1 + 1) S'1 j) → (∃ hs1 : List Int, (∃ t2 : Tr, ((upM S'1 hs1 t2 i) ∧ (4 * (Hn ((↑t2.size : Int) + 1) + 2) ≤ S'1.free) ∧ (∀ S'2 : Arn, (∀ j1 : Int, (∀ o1 : Option Int, (((o1) = (getE t2.list fk)) → ((TrR S'1 hs1 (insE t2.list (fk, fv)) (iB t2.size) (5 * iB t2.size + ht t2 + 1) S'2 j1) → ((∃ x : XNe P1, (True ∧ (((Value.int IntKind.i64 (pol)) = (Value.int IntKind.i64 (pol))) ∧ True ∧ ((Value.int IntKind.u32 (i)) = (Value.int IntKind.u32 (x.r))) ∧ ((Value.int IntKind.u32 (j)) = (Value.int IntKind.u32 (x.x))) ∧ ((Value.int IntKind.u32 (j1)) = (Value.int IntKind.u32 (x.y))) ∧ True) ∧ ((raw) = (raw)) ∧ (True ∧ True ∧ True ∧ ((Value.int IntKind.u64 (S'2.reads)) = (Value.int IntKind.u64 (x.S.reads))) ∧ True) ∧ (True ∧ True ∧ True ∧ ((Value.int IntKind.u32 (S'2.fresh)) = (Value.int IntKind.u32 (x.S.fresh))) ∧ True) ∧ ((S'2.nodes) = (x.S.nodes)) ∧ ((S'2.counts) = (x.S.counts)) ∧ ((S'2.used) = (x.S.used)) ∧ ((S'2.gen) = (x.S.gen)) ∧ ((S'2.rel) = (x.S.rel)) ∧ True)) ∧
    (∀ x : XNe P1, (True → ((NmB x.S [x.r, x.x, x.y]) ∧ (okRt x.S [x.r, x.x, x.y]) ∧ ((1 : Int) ≤ 1000) ∧ ((1000 : Int) ≤ 65536) ∧ (∃ l : List Int, ((NumsA x.S [x.r, x.x, x.y] [] l) ∧ ((↑l.length : Int) ≤ 1000))) ∧ (∀ S'3 : Arn, (∀ B : Arn, (∀ l : List Int, (∀ o2 : List Int, ((CpO x.S [x.r, x.x, x.y] 1000 S'3 B l o2) → (brS ((↑o2.length : Int) != 3) ((K (SV.one (TV.at (At.val (Value.bool false)))) [(Chunk.row false (EC.ent) (raw))] [])) (((((0 : Int) < 4) ∧ ((4 : Int) ≤ 9223372036854775807) ∧ (∀ x1 : Int, (((x1) = (pol % 4)) → (∃ x2 : XNf P2, (True ∧ (True ∧ ((Value.int IntKind.u32 (x.r)) = (Value.int IntKind.u32 (x2.r))) ∧ ((Value.int IntKind.u32 (x.x)) = (Value.int IntKind.u32 (x2.x))) ∧ ((Value.int IntKind.u32 (x.y)) = (Value.int IntKind.u32 (x2.y))) ∧ True ∧ True ∧ ((Value.int IntKind.i64 (IntKind.i64.wrap (1 + x1))) = (Value.int IntKind.i64 (x2.p))) ∧ True) ∧ ((raw) = (raw)) ∧ (True ∧ True ∧ True ∧ ((Value.int IntKind.u64 (S'3.reads)) = (Value.int IntKind.u64 (x2.S.reads))) ∧ True) ∧ (True ∧ True ∧ True ∧ ((Value.int IntKind.u32 (S'3.fresh)) = (Value.int IntKind.u32 (x2.S.fresh))) ∧ True) ∧ ((S'3.nodes) = (x2.S.nodes)) ∧ ((S'3.counts) = (x2.S.counts)) ∧ ((S'3.used) = (x2.S.used)) ∧ ((S'3.gen) = (x2.S.gen)) ∧ ((S'3.rel) = (x2.S.rel)) ∧ (True ∧ True ∧ True ∧ ((Value.int IntKind.u64 (B.reads)) = (Value.int IntKind.u64 (x2.B.reads))) ∧ True) ∧ (True ∧ True ∧ True ∧ ((Value.int IntKind.u32 (B.fresh)) = (Value.int IntKind.u32 (x2.B.fresh))) ∧ True) ∧ ((B.nodes) = (x2.B.nodes)) ∧
    ((B.counts) = (x2.B.counts)) ∧ ((B.used) = (x2.B.used)) ∧ ((B.gen) = (x2.B.gen)) ∧ ((B.rel) = (x2.B.rel)) ∧ ((o2) = (x2.o)) ∧ True))))) ∧ (∀ x1 : XNf P2, (True → (∃ hs2 : List Int, (∃ tb : Tr, (∃ to : Tr, (∃ tt : Tr, ((MgM x1.S hs2 tb to tt x1.r x1.x x1.y) ∧ (1 ≤ x1.p) ∧ (x1.p ≤ 4) ∧ (needM tb to tt ≤ x1.S.free) ∧ (∀ S'4 : Arn, (∀ i1 : Int, (∀ c : List Int, (∀ e : Int, ((MgF x1.S hs2 tb.list to.list tt.list x1.p S'4 i1 c e) → ((((0 : Int) ≤ 0) ∧ (0 < (↑x1.o.length : Int)) ∧ ((0 : Int) ≤ 1) ∧ (1 < (↑x1.o.length : Int)) ∧ ((0 : Int) ≤ 2) ∧ (2 < (↑x1.o.length : Int)) ∧ (∃ hs3 : List Int, (∃ tb1 : Tr, (∃ to1 : Tr, (∃ tt1 : Tr, ((MgM x1.B hs3 tb1 to1 tt1 (x1.o.getD (Int.toNat 0) 0) (x1.o.getD (Int.toNat 1) 0) (x1.o.getD (Int.toNat 2) 0)) ∧ (1 ≤ x1.p) ∧ (x1.p ≤ 4) ∧ (needM tb1 to1 tt1 ≤ x1.B.free) ∧ (∀ S'5 : Arn, (∀ i2 : Int, (∀ c1 : List Int, (∀ e1 : Int, ((MgF x1.B hs3 tb1.list to1.list tt1.list x1.p S'5 i2 c1 e1) → (∃ x2 : XNg P3, (True ∧ (True ∧ True ∧ ((Value.int IntKind.u32 (i1)) = (Value.int IntKind.u32 (x2.m))) ∧ True ∧ ((Value.int IntKind.i64 (e)) = (Value.int IntKind.i64 (x2.j))) ∧ ((Value.int IntKind.u32 (i2)) = (Value.int IntKind.u32 (x2.n))) ∧ True ∧ ((Value.int IntKind.i64 (e1)) = (Value.int IntKind.i64 (x2.k))) ∧ True) ∧ ((raw) = (raw)) ∧ (True ∧ True ∧ True ∧ ((Value.int IntKind.u64 (S'4.reads)) = (Value.int IntKind.u64 (x2.S.reads))) ∧ True) ∧ (True ∧ True ∧ True ∧ ((Value.int IntKind.u32 (S'4.fresh)) = (Value.int IntKind.u32 (x2.S.fresh))) ∧ True) ∧
    ((S'4.nodes) = (x2.S.nodes)) ∧ ((S'4.counts) = (x2.S.counts)) ∧ ((S'4.used) = (x2.S.used)) ∧ ((S'4.gen) = (x2.S.gen)) ∧ ((S'4.rel) = (x2.S.rel)) ∧ (True ∧ True ∧ True ∧ ((Value.int IntKind.u64 (S'5.reads)) = (Value.int IntKind.u64 (x2.B.reads))) ∧ True) ∧ (True ∧ True ∧ True ∧ ((Value.int IntKind.u32 (S'5.fresh)) = (Value.int IntKind.u32 (x2.B.fresh))) ∧ True) ∧ ((S'5.nodes) = (x2.B.nodes)) ∧ ((S'5.counts) = (x2.B.counts)) ∧ ((S'5.used) = (x2.B.used)) ∧ ((S'5.gen) = (x2.B.gen)) ∧ ((S'5.rel) = (x2.B.rel)) ∧ ((c) = (x2.c)) ∧ ((c1) = (x2.d)) ∧ True))))))))))))) ∧ (∀ x2 : XNg P3, (True → (brS (x2.j == x2.k) ((brS (sameB x2.c x2.d) (((exW x2.S) ∧ (∀ d : List SlotT, (∀ o3 : List Int, (((d) = (slotsOf x2.S)) → (((o3) = (orderOf x2.S)) → ((d.length ≤ 1000000) ∧ (∃ t3 : Tr, ((RepD d t3 x2.m) ∧ (t3.size < 1000001) ∧ (t3.size ≤ 1000000) ∧ (∀ r : List Ent, (((r) = (t3.list)) → ((exW x2.B) ∧ (∀ d1 : List SlotT, (∀ o4 : List Int, (((d1) = (slotsOf x2.B)) → (((o4) = (orderOf x2.B)) → ((d1.length ≤ 1000000) ∧ (∃ t4 : Tr, ((RepD d1 t4 x2.n) ∧ (t4.size < 1000001) ∧ (t4.size ≤ 1000000) ∧ (∀ r1 : List Ent, (((r1) = (t4.list)) → (K (SV.one (TV.at (At.val (Value.bool (sameB r r1))))) [(Chunk.row false (EC.ent) (raw))] [])))))))))))))))))))))) ((K (SV.one (TV.at (At.val (Value.bool false)))) [(Chunk.row false (EC.ent) (raw))] [])))) ((K (SV.one (TV.at (At.val (Value.bool false)))) [(Chunk.row false (EC.ent) (raw))] [])))))))))))))))))))))))))))))))))))))))))))))))))) = _ by kernel_rfl) ?_
  subst hP1 hP2 hP3
  have kB : Kin (listE raw 60) := fun x hx => hk x (listE_sub raw 60 x hx)
  obtain ⟨la, ll⟩ := listE_spec raw 60
  rw [show Int.toNat 60 = 60 from rfl]
  generalize listE raw 60 = L0 at *
  have a1 := insE_asc (ek, ev) la
  have a2 := insE_asc (fk, fv) la
  have q1 := kin_ins (e := (ek, ev)) la kB k1
  have q2 := kin_ins (e := (fk, fv)) la kB k2
  have n1 := insE_len L0 (ek, ev)
  have n2 := insE_len L0 (fk, fv)
  generalize e1 : insE L0 (ek, ev) = L1 at *
  generalize e2 : insE L0 (fk, fv) = L2 at *
  have hH := Hn_rng ((L0.length : Int) + 1)
  have hH0 := Hn_rng (L0.length : Int)
  refine ⟨by decide, by decide, h0, by decide, by decide, by omega, fun S i pl => ?_⟩
  have g0 := hld_plant pl la kB
  have r0 : S.reads = 0 := by rw [pl.rds]; rfl
  have c0 : S.cap = (L0.length : Int) + 900 := by
    unfold Arn.cap
    rw [pl.len]
    show ((List.replicate _ false).length : Int) - 1 = _
    rw [List.length_replicate]; omega
  have s0 : sumL [(i, L0)] = L0.length := by rw [sumL_cons, sumL_nil]; rfl
  have f0 := g0.room
  obtain ⟨t1, u1, l1, z1, b1⟩ := hld_up g0 (x := i) (l := L0) (by simp) (by omega) (by simp) (by omega)
  have ht1 := Bal.height b1 (by omega)
  have i1 := iB_Hn t1.size
  rw [z1] at ht1 i1
  refine ⟨_, t1, u1, by rw [z1]; omega, fun S1 x o eo tr => ?_⟩
  have tr : TrR S [i] L1 (iB t1.size) (5 * iB t1.size + ht t1 + 1) S1 x := by rw [l1, e1] at tr; exact tr
  rw [z1] at tr
  have g1 := g0.step tr a1 q1
  have r1 := tr.got.rd
  have c1 : S1.cap = S.cap := by unfold Arn.cap; rw [tr.got.len]
  have f1 := g1.room
  have s1 : sumL [(x, L1), (i, L0)] = L1.length + L0.length := by rw [sumL_cons, s0]
  obtain ⟨t2, u2, l2, z2, b2⟩ := hld_up g1 (x := i) (l := L0) (by simp) (by omega) (by simp) (by omega)
  have ht2 := Bal.height b2 (by omega)
  rw [z2] at ht2
  refine ⟨_, t2, u2, by rw [z2]; omega, fun S2 y o2 eo2 tr2 => ?_⟩
  have tr2 : TrR S1 [x, i] L2 (iB t2.size) (5 * iB t2.size + ht t2 + 1) S2 y := by rw [l2, e2] at tr2; exact tr2
  rw [z2] at tr2
  have g2 := g1.step tr2 a2 q2
  have r2 := tr2.got.rd
  have c2 : S2.cap = S1.cap := by unfold Arn.cap; rw [tr2.got.len]
  refine ⟨⟨⟨S2, i, x, y, g2, by omega, by omega, by omega⟩, ?_⟩, fun z _ => ?_⟩
  · (repeat' first | exact trivial | exact rfl | refine And.intro ?_ ?_)
  obtain ⟨S, r, x, y, hh, rd, c9, c6⟩ := z
  dsimp only
  have hw := hh.wf
  have lv : ∀ z ∈ [r, x, y], z = 0 ∨ S.us z = true := fun z hz => hw.held z (by simp at hz ⊢; omega)
  obtain ⟨nl, nn⟩ := numsA_ex hw [r, x, y] []
  have ls := LsN.of hw nn
  have nf := used_few hw ls.nd ls.used
  have nc : (S.used.length : Int) = S.cap + 1 := by unfold Arn.cap; omega
  refine ⟨⟨⟨_, hw⟩, by omega, by simp, fun z hz => inU_of hw (lv z hz)⟩, lv, by decide, by decide, ⟨nl, nn, by omega⟩, fun S3 B l o cp => ?_⟩
  have hB := hh.cpt (F := [(r, L0), (x, L1), (y, L2)]) (fun p hp => by simp at hp ⊢; rcases hp with e | e | e <;> simp [e]) cp
  have eo : o = [plcN l r, plcN l x, plcN l y] := cp.eo
  have bc : B.cap = 1000 := by unfold Arn.cap; have := cp.cp.len; omega
  have lw : l = nl := cp.num.det nn
  have g3 := hh.rd (n := 2 * l.length) (by rw [lw]; omega)
  have es := cp.st
  refine bf7 (by rw [eo]; rfl) ⟨⟨by decide, by decide, fun w ew => ⟨⟨S3, r, x, y, B, o, IntKind.i64.wrap (1 + w), ⟨by rw [es]; exact g3, by rw [es]; show S.reads + ((2 * l.length : Nat) : Int) ≤ _; rw [lw]; omega, by rw [es]; exact c9⟩, _, _, _, eo, hB, cp.cp.rd, bc, ?_, ?_⟩, ?_⟩⟩, fun z _ => ?_⟩
  · rw [wrap_id (by omega) (by omega)]; omega
  · rw [wrap_id (by omega) (by omega)]; omega
  · (repeat' first | exact trivial | exact rfl | refine And.intro ?_ ?_)
  obtain ⟨S, r, x, y, B, o, p, ⟨hh, rd, c9⟩, r', x', y', eo, hB, rB, cB, p1, p4⟩ := z
  subst eo
  dsimp only
  have sA : sumL [(y, L2), (x, L1), (r, L0)] ≤ 182 := by rw [sumL_cons, sumL_cons, sumL_cons, sumL_nil]; omega
  have sB : sumL [(r', L0), (x', L1), (y', L2)] ≤ 182 := by rw [sumL_cons, sumL_cons, sumL_cons, sumL_nil]; omega
  obtain ⟨tb, to, tt, m1, m2, m3, m4, m5⟩ := hh.mg (b := r) (o := x) (t := y) (lb := L0) (lo := L1) (lt := L2) (by simp) (by simp) (by simp) (by omega) (by omega) (by omega) (by simp) (by omega)
  obtain ⟨ub, uo, ut, v1, v2, v3, v4, v5⟩ := hB.mg (b := r') (o := x') (t := y') (lb := L0) (lo := L1) (lt := L2) (by simp) (by simp) (by simp) (by omega) (by omega) (by omega) (by simp) (by omega)
  refine ⟨_, tb, to, tt, m1, p1, p4, need_fit hh c9 sA ll (by omega) (by omega) m5, fun S4 m c e g4 => ⟨⟨by decide, by simp, by decide, by simp, by decide, by simp, _, ub, uo, ut, v1, p1, p4, need_fit hB (by omega) sB ll (by omega) (by omega) v5, fun S5 n d f g5 => ⟨⟨S4, S5, m, n, c, d, e, f, ?_⟩, ?_⟩⟩, fun z _ => ?_⟩⟩
  · rw [m2, m3, m4] at g4
    rw [v2, v3, v4] at g5
    obtain ⟨w1, w2, w3⟩ := g4.ls hh.wf rd
    obtain ⟨y1, y2, y3⟩ := g5.ls hB.wf (by omega)
    exact ⟨w1.trans y1.symm, w2.trans y2.symm, _, w3, y3⟩
  · (repeat' first | exact trivial | exact rfl | refine And.intro ?_ ?_)
  obtain ⟨S, B, m, n, c, d, j, k, ec, ej, M, ⟨xa, sa, ta, ra, za, la'⟩, ⟨xb, sb, tb, rb, zb, lb'⟩⟩ := z
  subst ec ej
  dsimp only
  refine bt7 (by simp) (bt7 (by simp [sameB]) ⟨xa, fun d1 o1 ed _ => ⟨by rw [ed]; exact sa, ta, by rw [ed]; exact ra, by omega, za, fun l1 el1 => ⟨xb, fun d2 o2 ed2 _ => ⟨by rw [ed2]; exact sb, tb, by rw [ed2]; exact rb, by omega, zb, fun l2 el2 => ?_⟩⟩⟩⟩)
  rw [el1, el2, la', lb', show sameB M M = true by simp [sameB]]
  exact h
theorem s_ne : SoundT C0 8 tNe := by
  refine .of Try.func8 (by decide) rfl fun args H K h hB => ?_
  unfold tNe at h
  split at h <;> try exact h.elim
  rename_i t ek ev fk fv pol raw
  refine ⟨_, ?_, vc_ne raw t ek ev fk fv pol K h.1 h.2.1 h.2.2.1 h.2.2.2.1 h.2.2.2.2⟩
  exact ⟨frame C0.ok s_lst _, frame C0.ok s_grow _, frame C0.ok s_aw29 _, frame C0.ok s_upIn _, frame C0.ok s_cpOk _, frame C0.ok s_mod _, frame C0.ok s_mgF _, frame C0.ok s_dump _, frame C0.ok (s_li7 1000001) _, frame C0.ok s_same9 _, frame C0.ok s_sameI _, trivial⟩
end Go.Proofs.Ytmjnoiajenoinaa.Sx
end
section
/- What every law's last step leans on. -/
namespace Go.Proofs.Ytmjnoiajenoinaa
open Go.ChangeShapes Go.WideShapes Go.ChangeAt Go.RowKit

theorem ownK : ownKnob Try.prog.godebug = none := by kernel_rfl
theorem laidO : laidOutB Try.prog = true := by kernel_rfl

theorem lit_i64 {a : Int} (h : (Lit.int .i64 a).wf = true) : -9223372036854775808 ≤ a ∧ a ≤ 9223372036854775807 := by
  have h1 : IntKind.i64.min = -9223372036854775808 := rfl
  have h2 : IntKind.i64.max = 9223372036854775807 := rfl
  simp only [Lit.wf, Bool.and_eq_true, decide_eq_true_eq] at h
  omega
theorem lit_u64 {a : Int} (h : (Lit.int .u64 a).wf = true) : 0 ≤ a ∧ a ≤ 18446744073709551615 := by
  have h1 : IntKind.u64.min = 0 := rfl
  have h2 : IntKind.u64.max = 18446744073709551615 := rfl
  simp only [Lit.wf, Bool.and_eq_true, decide_eq_true_eq] at h
  omega
end Go.Proofs.Ytmjnoiajenoinaa
end
section
/- From contracts to laws: the arguments as they come, what a law's call leaves. -/
namespace Go.Proofs.Ytmjnoiajenoinaa.Sx
open Go Go.Joins Go.ChangeShapes Go.WideShapes Go.ChangeAt Go.RowKit

theorem Sat.imms {C : Ctx} {w : World} (vs : List Value) (H : List (Chunk C)) (h : ∀ (n : Nat) (c : Chunk C), H[n]? = some c → ∃ e l, c = .row false e l ∧ Imm C w (vs.getD n undef) e l) : Sat C (fun n => vs.getD n undef) (fun _ _ => False) w H where
  holds n c hc := by
    obtain ⟨e, l, rfl, hi⟩ := h n c hc
    exact ⟨hi, fun _ hh => hh⟩
  dis _ _ _ hh := hh.elim
  bd _ _ hh := hh.elim
  imm _ _ _ _ _ _ hh := hh
  out _ _ _ hh := hh
  cl n c hc m hm := by
    obtain ⟨e, l, rfl, _⟩ := h n c hc
    simp [Chunk.names] at hm

theorem lawOf {f : FuncId} {t : Tfm C0} (hs : SoundT C0 f t) {args : List TV} {H : List (Chunk C0)} {vs : List Value} {σ : Nat → Value} {w : World} (ht : ∀ K : KT, K (.one (.at (vB true))) H [] → t args H K)
    (hsat : Sat C0 σ (fun _ _ => False) w H) (hr : Rels (TV.rel σ) args vs) (hn : ∀ x ∈ args, ∀ m ∈ x.names, m < H.length) : Calls Try.prog f vs.toArray w (fun e w' => e = .returned (.bool true) ∧ Below w.heap.size w w') := by
  have hc := hs.call args H (fun r _ _ => r = .one (.at (vB true))) (ht _ rfl) σ _ w vs hsat hr hn
  refine Calls.mono hc fun e w' hh => ?_
  cases e with
  | panicked ch => exact hh.elim
  | outgrown => exact hh.elim
  | returned v =>
    obtain ⟨r, H', ts, σ', φ', hout, rfl⟩ := hh
    have hv : v = .bool true := hout.rel
    exact ⟨by rw [hv], hout.adv.os, hout.adv.tape, hout.adv.output, hout.adv.size, fun k hk => hout.adv.fr k hk fun n hh => hh⟩

section
variable {HH : Type} {enc : TypeId × Value → HH} {P : Program} {w : World} {base b0 : Nat} {spare : Nat → Bool} {held : Bool} {r : Reach}
theorem openRowQ {α : Type} [Inhabited α] {t e : TypeId} {f : α → List Value} {Q : α → Prop} {sz : Nat} {v : Value} {d : DataW HH} {p : List MemPlace} (ht : P.underlying t = some (.slice e)) (hC : P.cellsOf e = sz) (hpos : 0 < sz) (hf : ∀ x, (f x).length = sz)
    (hel : ∀ {n : Nat} {cs : List Value} {x : DataW HH × List MemPlace}, DataW.trod enc P w base spare held n e cs = some x → ∃ a, cs = f a ∧ Q a) (hv : Value.okWide P w r b0 t v) (h : DataW.Trod enc P w base spare held t v d p) :
    ∃ A n c l, v = .slice A n c ∧ Rd f sz w A n c l ∧ ∀ x ∈ l, Q x := by
  obtain ⟨A, n, c, rfl⟩ := okWide_slice ht hv
  obtain ⟨fuel, hh⟩ := h
  have hh : DataW.trod enc P w base spare held fuel t [.slice A n c] = some (d, p) := by simpa [Value.cells] using hh
  rcases Go.Deep.open_slice ht hh with ⟨h1, _⟩ | ⟨a, len, cap, m, k, D, Pl, h1, hb, hle, hm, hmm, hx, hall⟩
  · simp only [List.cons.injEq, Value.slice.injEq, and_true] at h1
    obtain ⟨rfl, rfl, rfl⟩ := h1
    exact ⟨none, 0, 0, [], rfl, Rd.nil hf, fun x hx => by simp at hx⟩
  · simp only [List.cons.injEq, Value.slice.injEq, and_true] at h1
    obtain ⟨rfl, rfl, rfl⟩ := h1
    have hlm : n ≤ m := by rw [hmm]; split <;> omega
    have hel' : ∀ i, i < n → ∃ x : α, w.cells? base (a.add (i * P.cellsOf e)) (P.cellsOf e) = some (f x) ∧ Q x := fun i hi => by
      obtain ⟨cs', hc1, hc2⟩ := hall i (by omega)
      obtain ⟨x, rfl, hq⟩ := hel hc2
      exact ⟨x, hc1, hq⟩
    obtain ⟨F, hF⟩ := Go.Deep.choose_lt hel'
    have cell : ∀ i, i < n → ∀ j, j < sz → w.cell? ((a.add (i * sz)).add j) = (f (F i))[j]? := fun i hi j hj => by
      have h2 := (hF i hi).1
      rw [hC] at h2
      unfold World.cells? at h2
      split at h2
      · exact mapM_some_get h2 j j (by simp [hj])
      · cases h2
    refine ⟨some a, n, c, (List.range n).map F, rfl, ⟨by simp, hle, hm, hf, fun h => (by cases h), fun hn => ?_⟩, fun x hx => by obtain ⟨i, hi, rfl⟩ := List.mem_map.1 hx; exact (hF i (List.mem_range.1 hi)).2⟩
    obtain ⟨b, o, sp⟩ := a
    have hsome : ∀ i, i < n → ∀ j, j < sz → ∃ u, w.cell? (((⟨b, o, sp⟩ : Addr).add (i * sz)).add j) = some u := fun i hi j hj => by
      rw [cell i hi j hj]
      exact ⟨_, List.getElem?_eq_getElem (by rw [hf]; exact hj)⟩
    obtain ⟨u0, hu0⟩ := hsome 0 hn 0 hpos
    have hspot : sp = none := by simpa [Addr.add] using World.cell?_spot hu0
    subst hspot
    refine ⟨b, o, rfl, ?_, fun k x hx j u hu => ?_⟩
    · have hu1 : w.cell? ⟨b, o, none⟩ = some u0 := by simpa [Addr.add] using hu0
      unfold World.cell? at hu1
      split at hu1
      · rename_i hb2
        exact (Array.getElem?_eq_some_iff.1 hb2).1
      · cases hu1
    · rw [List.getElem?_map] at hx
      have hk : k < n := by
        rcases Nat.lt_or_ge k n with h2 | h2
        · exact h2
        · rw [List.getElem?_eq_none (by simpa using h2)] at hx; cases hx
      rw [List.getElem?_range hk] at hx
      simp only [Option.map_some, Option.some.injEq] at hx
      subst hx
      have hj : j < sz := by
        have := (List.getElem?_eq_some_iff.1 hu).1
        rwa [hf] at this
      have h3 := cell k hk j hj
      rw [hu] at h3
      rw [← h3]
      congr 1
      rw [Go.WideShapes.add_plain, Go.WideShapes.add_plain]
end

section
variable {HH : Type} {enc : TypeId × Value → HH} {w : World} {base b0 : Nat} {spare : Nat → Bool} {held : Bool} {r : Reach}
set_option maxRecDepth 100000 in
theorem elEw {n : Nat} {cs : List Value} {x : DataW HH × List MemPlace} (h : DataW.trod enc Try.prog w base spare held n 61 cs = some x) :
    ∃ a : Ent, cs = EC.enc .ent a ∧ ((-9223372036854775808 ≤ a.1 ∧ a.1 ≤ 9223372036854775807) ∧ (-9223372036854775808 ≤ a.2 ∧ a.2 ≤ 9223372036854775807)) := by
  obtain ⟨y0, y1, m, _, hl, h0, h1⟩ := trod_struct2 Try.underlying61 h
  obtain ⟨k, e0, _, w0⟩ := DataW.trod_int Try.underlying2 h0
  obtain ⟨v, e1, _, w1⟩ := DataW.trod_int Try.underlying2 h1
  have hl : cs.length = 2 := hl.trans (by kernel_rfl)
  have c1 : Try.prog.cellsOf 2 = 1 := by kernel_rfl
  match cs, hl with
  | [a, b], _ =>
    simp [c1] at e0 e1
    exact ⟨(k, v), by rw [e0, e1]; rfl, lit_i64 w0, lit_i64 w1⟩
set_option maxRecDepth 100000 in
/-- The same with what the entries' numbers are. -/
theorem openEw {v : Value} {d : DataW HH} {p : List MemPlace} (hv : Value.okWide Try.prog w r b0 58 v) (h : DataW.Trod enc Try.prog w base spare held 58 v d p) :
    ∃ (l : List Ent), Imm C0 w v EC.ent l ∧ ∀ x ∈ l, (-9223372036854775808 ≤ x.1 ∧ x.1 ≤ 9223372036854775807) ∧ (-9223372036854775808 ≤ x.2 ∧ x.2 ≤ 9223372036854775807) := by
  obtain ⟨A, n, c, l, rfl, hr, hq⟩ := openRowQ (α := Ent) (f := fun x => EC.enc .ent x) (sz := 2) Try.underlying58 (by kernel_rfl) (by decide) (fun _ => rfl) (fun h => elEw h) hv h
  obtain rfl := hr.len
  exact ⟨l, ⟨A, c, rfl, hr⟩, hq⟩
set_option maxRecDepth 100000 in
/-- An entry that comes by value. -/
theorem open_e {v : Value} {d : DataW HH} {p : List MemPlace} (hv : Value.okWide Try.prog w r b0 61 v) (h : DataW.Trod enc Try.prog w base spare held 61 v d p) :
    ∃ a b : Int, v = .agg #[.int .i64 a, .int .i64 b] ∧ ((-9223372036854775808 ≤ a ∧ a ≤ 9223372036854775807) ∧ (-9223372036854775808 ≤ b ∧ b ≤ 9223372036854775807)) := by
  obtain ⟨cs, rfl, _⟩ := okWide_struct Try.underlying61 hv
  obtain ⟨fuel, hh⟩ := h
  obtain ⟨a, e, hb⟩ := elEw hh
  refine ⟨a.1, a.2, ?_, hb⟩
  have e : cs.toList = [.int .i64 a.1, .int .i64 a.2] := e
  congr 1
  apply Array.ext'
  rw [e]
instance : Inhabited Chg := ⟨⟨0, 0, 0, 0⟩⟩
end
end Go.Proofs.Ytmjnoiajenoinaa.Sx
end
section
/- 'CompactContinues': the law returns true for every input, and its arguments read afterwards as they read before. -/
namespace Go.Proofs.Ytmjnoiajenoinaa.compactContinues
open Go.ChangeShapes Go.WideShapes Go.ChangeAt Go.RowKit Sx

set_option maxRecDepth 100000 in
theorem lifted (os : Os) (started : os.Started) (H : Type) (enc : TypeId × Value → H) :
    ReturnsInHanded {} Try.checked os 8 .any (Rows.compactContinuesSpec.pre6 enc Try.prog Try.f8 Rows.compactContinuesRow.domain false) (Rows.compactContinuesSpec.post enc Try.prog Try.f8 false true false false) := by
  refine returnsInHanded_of_change (C := Try.checked) ownK started (by kernel_rfl) Try.func8
    (ChangeSpec.witness6 (enc := enc) (C := Try.checked) false ⟨#[], #[.slice none 0 0, .int .u64 0, .agg #[.int .i64 0, .int .i64 0], .agg #[.int .i64 0, .int .i64 0], .int .i64 0], []⟩ 8 (by kernel_rfl) (by kernel_rfl) (by kernel_rfl) (by kernel_rfl)) ?_
  intro W base args ds gs before hval0 hW hcnd _
  have hval : ∀ (j : Nat) t v, Try.f8.params[j]? = some t → args[j]? = some v → Value.okWide Try.prog W .any base t v := hval0
  have hW' := hW
  obtain ⟨p, q, hA0, hV, rfl, hfz, hnd⟩ := hW
  have hA : DataW.TrodAll enc Try.prog W 0 (fun _ => true) true Try.f8.params.toList args.toList ds p := hA0
  rw [Try.params8] at hA hval
  obtain ⟨v0, vs0, d0, ds0, p0, q0, hargs, rfl, rfl, h0, r0⟩ := trodAll_cons hA
  obtain ⟨v1, vs1, d1, ds1, p1, q1, rfl, rfl, rfl, h1, r1⟩ := trodAll_cons r0
  obtain ⟨v2, vs2, d2, ds2, p2, q2, rfl, rfl, rfl, h2, r2⟩ := trodAll_cons r1
  obtain ⟨v3, vs3, d3, ds3, p3, q3, rfl, rfl, rfl, h3, r3⟩ := trodAll_cons r2
  obtain ⟨v4, vs4, d4, ds4, p4, q4, rfl, rfl, rfl, h4, r4⟩ := trodAll_cons r3
  obtain ⟨rfl, rfl, rfl⟩ := trodAll_nil r4
  obtain rfl : args = #[v0, v1, v2, v3, v4] := by cases args; simp_all
  obtain ⟨rfl, rfl⟩ := trodVars_none hV
  have k0 := h0
  have k1 := h1
  have k2 := h2
  have k3 := h3
  have k4 := h4
  clear hA0 hval0
  simp only [List.append_nil] at hW'
  have hlt : ∀ x ∈ p0 ++ (p1 ++ (p2 ++ (p3 ++ (p4)))), x.block < W.heap.size := fun x hx => by simpa using hW'.lt x (by simpa using hx)
  have l0 : ∀ x ∈ p0, x.block < W.heap.size := fun x hx => hlt x (by simp [hx])
  have l1 : ∀ x ∈ p1, x.block < W.heap.size := fun x hx => hlt x (by simp [hx])
  have l2 : ∀ x ∈ p2, x.block < W.heap.size := fun x hx => hlt x (by simp [hx])
  have l3 : ∀ x ∈ p3, x.block < W.heap.size := fun x hx => hlt x (by simp [hx])
  have l4 : ∀ x ∈ p4, x.block < W.heap.size := fun x hx => hlt x (by simp [hx])
  obtain ⟨L0, R0, Q0⟩ := openEw (hval 0 58 v0 rfl rfl) h0
  obtain ⟨a1, rfl, rfl, rfl, w1⟩ := open_int Try.underlying74 (hval 1 74 v1 rfl rfl) h1
  have b1 := lit_u64 w1
  obtain ⟨x2, y2, rfl, B2⟩ := open_e (hval 2 61 v2 rfl rfl) h2
  obtain ⟨x3, y3, rfl, B3⟩ := open_e (hval 3 61 v3 rfl rfl) h3
  obtain ⟨a4, rfl, rfl, rfl, w4⟩ := open_int Try.underlying3 (hval 4 3 v4 rfl rfl) h4
  have b4 := lit_i64 w4
  refine (lawOf s_ne (args := [.at (.slc 0), .at (.val (.int .u64 a1)), .agg [.val (.int .i64 x2), .val (.int .i64 y2)], .agg [.val (.int .i64 x3), .val (.int .i64 y3)], .at (.val (.int .i64 a4))]) (H := [Chunk.row false EC.ent L0]) (vs := [v0, .int .u64 a1, .agg #[.int .i64 x2, .int .i64 y2], .agg #[.int .i64 x3, .int .i64 y3], .int .i64 a4]) (σ := fun n => [v0].getD n undef) (w := W) (fun K h => ⟨b1.1, fun x hx => (Q0 x hx).1, B2.1, B3.1, h⟩)
    (Sat.imms [v0] _ fun n c hc => by match n, hc with | 0, hc => exact ⟨_, _, (Option.some.inj hc).symm, R0⟩ | n + 1, hc => simp at hc) (Rels.cons rfl (Rels.cons rfl (Rels.cons ⟨_, rfl, Rels.cons rfl (Rels.cons rfl Rels.nil)⟩ (Rels.cons ⟨_, rfl, Rels.cons rfl (Rels.cons rfl Rels.nil)⟩ (Rels.cons rfl Rels.nil))))) (by simp [TV.names, At.names])).mono fun e W' ⟨he, hg⟩ => ?_
  subst he
  exact ⟨_, rfl, _, _, _, [] ++ [], _, [], hW', (trodAll_cons_mk (shut_bool Try.underlying4 true) trodAll_mk0), (trodAll_cons_mk (Below.trod laidO (by kernel_rfl) (of_decide_eq_true (by kernel_rfl)) k0 hg l0) (trodAll_cons_mk (Below.trod laidO (by kernel_rfl) (of_decide_eq_true (by kernel_rfl)) k1 hg l1) (trodAll_cons_mk (Below.trod laidO (by kernel_rfl) (of_decide_eq_true (by kernel_rfl)) k2 hg l2) (trodAll_cons_mk (Below.trod laidO (by kernel_rfl) (of_decide_eq_true (by kernel_rfl)) k3 hg l3) (trodAll_cons_mk (Below.trod laidO (by kernel_rfl) (of_decide_eq_true (by kernel_rfl)) k4 hg l4) trodAll_mk0))))), rfl, hg.frame _, fun h => by cases h⟩

theorem over : Rows.compactContinuesRow.holds Try.pinned (OpenSpec.ofChange Rows.compactContinuesSpec) :=
  OpenClaim.holds_of_wide 8 Try.f8 rfl rfl rfl rfl rfl rfl rfl ⟨rfl, rfl, rfl, rfl, rfl⟩ rfl rfl rfl rfl rfl (by kernel_rfl) Try.func8 (by kernel_rfl)
    (of_decide_eq_true (by kernel_rfl)) (by unfold Func.isWrapper; first | (rw [if_pos (by decide +kernel)]; kernel_rfl) | (rw [if_neg (by decide +kernel)]; exact ⟨rfl, rfl⟩))
    (fun os started H enc _ => lifted os started H enc)

theorem proved : Rows.CompactContinuesSaid := over
#print axioms proved
end Go.Proofs.Ytmjnoiajenoinaa.compactContinues
end
