/- A part of the proof. -/
import Derived.Test.YtmjnoiajenoinaaG11
import Derived.Test.YtmjnoiajenoinaaG8
import Derived.Test.YtmjnoiajenoinaaG5
import Derived.Test.YtmjnoiajenoinaaG10
import Derived.Test.YtmjnoiajenoinaaG6
import Derived.Test.YtmjnoiajenoinaaG9
import Derived.Test.YtmjnoiajenoinaaProg
import Derived.Test.YtmjnoiajenoinaaChecked
import Derived.WalkKit
import Derived.ProofKit
import Derived.OpenShut
import Derived.SizedLaws
import Derived.Carry
import Derived.Test.YtmjnoiajenoinaaG4
import Derived.Deep.Slices
import Derived.Lib.SmallJoins
import Derived.Deep.Strs
import Derived.Test.YtmjnoiajenoinaaRows
section
/- The law that Delete deletes. -/
namespace Go.Proofs.Ytmjnoiajenoinaa.Sx
open Go

/-KEEP Wf exW inU live Arn.cap Arn.free Rep rdS retL Tr.size Tr.list slotsOf orderOf PlantR newS insE outE listE getE TrR upM Hn keptD Asc Tr.Bal ht dB RepD List.Perm-/
structure XUe (P : Arn → Int → List Ent → Int → Prop) where
  S : Arn
  i : Int
  l : List Ent
  need : Int
  k : Int
  h : P S i l need
structure UdS where
  S0 : Arn
  S : Arn
  root : Int
  l : List Ent
  need : Int
  k : Int
  v : Int
  is : Bool
  d : List SlotT
  o : List Int
  r : Int
  i : Int
  w : Int
  f : Int
structure XUd (P : UdS → Prop) where
  z : UdS
  h : P z
structure XUw (P : UdS → Int → Prop) where
  z : UdS
  want : Int
  h : P z want
theorem outE_flt (l : List Ent) (k : Int) : outE l k k = flt (neK k) l := by
  unfold outE flt neK
  congr 1
  funext x
  by_cases h : x.1 = k
  · simp [h]
  · rw [decide_eq_true (show x.1 ≠ k from h)]
    simp; omega
end Go.Proofs.Ytmjnoiajenoinaa.Sx
end
section
/- update.Increase, and the laws that updates increase, commute and share. -/
namespace Go.Proofs.Ytmjnoiajenoinaa.Sx
open Go

/-KEEP Wf exW inU live Arn.cap Arn.free Rep rdS retL Tr.size Tr.list slotsOf orderOf PlantR newS insE outE listE getE TrR upM Hn keptD Asc Tr.Bal ht dB iB RepD List.Perm flt neK-/
structure XUc (P : Arn → Int → List Ent → Prop) where
  S : Arn
  i : Int
  l : List Ent
  k : Int
  h : P S i l
/-! ### The law that Increase increases -/
end Go.Proofs.Ytmjnoiajenoinaa.Sx
end
section
/- Building and listing trees where there is room. -/
namespace Go.Proofs.Ytmjnoiajenoinaa.Sx
open Go

theorem Hld.new {c : Nat} (h1 : 1 ≤ c) (h2 : c ≤ 65536) : Hld (newS c) [] := ⟨Wf.new h1 h2, fun _ h => (by cases h), fun _ h => (by cases h), fun _ h => (by cases h)⟩
end Go.Proofs.Ytmjnoiajenoinaa.Sx
end
section
/- Edits: what stays in range. No program in sight. -/
namespace Go.Proofs.Ytmjnoiajenoinaa.Sx
open Go

theorem kin_ins {l : List Ent} {e : Ent} (ha : Asc l) (h : Kin l) (he : -9223372036854775808 ≤ e.1 ∧ e.1 ≤ 9223372036854775807) : Kin (insE l e) := fun x hx => by
  rcases insE_mem ha hx with rfl | c
  · exact he
  · exact h x c
theorem kin_flt {p : Int → Bool} {l : List Ent} (h : Kin l) : Kin (flt p l) := fun x hx => h x (flt_mem hx)
def KinD (l : List EdtT) : Prop := ∀ e ∈ l, -9223372036854775808 ≤ e.ent.1 ∧ e.ent.1 ≤ 9223372036854775807
end Go.Proofs.Ytmjnoiajenoinaa.Sx
end
section
/- law20: edit, fork, awake; merges where there is room. -/
namespace Go.Proofs.Ytmjnoiajenoinaa.Sx
open Go

/-KEEP EdM Wf Kept exW inU live Arn.cap Arn.free Rep rdS retL Tr.size Tr.list Tr.Bal Asc Kin KinD PlantR listE newS insE outE flt neK getE TrR Got upM Hn iB dB ht min MgM needM confE mergeE BuildR-/
structure EdM (S : Arn) (hs : List Int) (x : Int) (l : List Ent) (ed : List EdtT) (I : Nat) : Prop where
  wf : Wf S hs
  tree : ∃ t, Rep S t x ∧ t.list = l ∧ t.Bal
  asc : Asc l
  kin : Kin l
  kd : KinD ed
  len : l.length ≤ 60
  hl : hs.length ≤ 1000
  rd : S.reads ≤ 1000000
  i4 : 4 * (Hn ((l.length + 9 : Nat) : Int) + 2) ≤ (I : Int)
  i60 : I ≤ 100
  free : ((8 * I : Nat) : Int) ≤ S.free
structure XE1 (P : Nat → Arn → Int → List Ent → Prop) where
  i : Nat
  S : Arn
  y : Int
  m : List Ent
  h : P i S y m
structure XE2 (P : Nat → Arn → Int → Int → List Ent → Prop) where
  i : Nat
  S : Arn
  y : Int
  z : Int
  m : List Ent
  h : P i S y z m
/-- Three trees of one arena, with their entries. -/
structure FkR (S : Arn) (b o t : Int) (lb lo lt : List Ent) (sp : Int) : Prop where
  h : Hld S [(t, lt), (o, lo), (b, lb)]
  sb : lb.length ≤ 60
  so : lo.length ≤ 68
  st : lt.length ≤ 68
  rd : S.reads ≤ 20000
  free : sp ≤ S.free
  cap : lb.length + sp + 144 ≤ S.cap
  top : S.cap ≤ lb.length + sp + 1100
structure XF0 (P : Arn → Int → Prop) where
  S : Arn
  b : Int
  h : P S b
structure XF1 (P : Arn → Int → Int → List Ent → Prop) where
  S : Arn
  b : Int
  o : Int
  lo : List Ent
  h : P S b o lo
structure XF2 (P : Arn → Int → Int → Int → List Ent → List Ent → Prop) where
  S : Arn
  b : Int
  o : Int
  t : Int
  lo : List Ent
  lt : List Ent
  h : P S b o t lo lt
end Go.Proofs.Ytmjnoiajenoinaa.Sx
end
section
/- What compacting keeps: trees, and all that is held. -/
namespace Go.Proofs.Ytmjnoiajenoinaa
open Go
variable {S B : Arn} {hs hb l : List Int} {c : Int}
end Go.Proofs.Ytmjnoiajenoinaa
end
section
/- Law CompactContinues. -/
namespace Go.Proofs.Ytmjnoiajenoinaa.Sx
open Go

/-KEEP Wf Kept exW inU allV live rdS retL Arn.cap Arn.free Rep Tr.size Tr.list Tr.Bal Asc Kin listE insE getE TrR Got Hn ht upM MgM needM confE mergeE sameB NumsA NmB NmR CpO PlantR newS okRt slotsOf orderOf RepD MgF Hld iB-/
def MgF (S : Arn) (hs : List Int) (lb lo lt : List Ent) (pol : Int) (S' : Arn) (i : Int) (c : List Int) (e : Int) : Prop :=
  c = confE lb lo lt ∧ ((pol = 3 ∧ confE lb lo lt ≠ [] ∧ e = 10 ∧ i = 0 ∧ ∃ m, m ≤ 2000000 ∧ S' = rdS S m) ∨ (¬ (pol = 3 ∧ confE lb lo lt ≠ []) ∧ e = 0 ∧ TrR S hs (mergeE lb lo lt pol) 65537 2000000000 S' i))
structure XNe (P : Arn → Int → Int → Int → Prop) where
  S : Arn
  r : Int
  x : Int
  y : Int
  h : P S r x y
structure XNf (P : Arn → Int → Int → Int → Arn → List Int → Int → Prop) where
  S : Arn
  r : Int
  x : Int
  y : Int
  B : Arn
  o : List Int
  p : Int
  h : P S r x y B o p
structure XNg (P : Arn → Arn → Int → Int → List Int → List Int → Int → Int → Prop) where
  S : Arn
  B : Arn
  m : Int
  n : Int
  c : List Int
  d : List Int
  j : Int
  k : Int
  h : P S B m n c d j k
theorem hld_up {S : Arn} {E : List (Int × List Ent)} {x : Int} {l : List Ent} (h : Hld S E) (hx : (x, l) ∈ E) (hl : l.length ≤ 60000) (hE : E.length ≤ 1000) (hr : S.reads ≤ 1000000000000000000) : ∃ t, upM S (E.map Prod.fst) t x ∧ t.list = l ∧ t.size = l.length ∧ t.Bal := by
  obtain ⟨t, rp, lt, bt⟩ := h.rep _ hx
  have lt : t.list = l := lt
  have sz : t.size = l.length := by rw [← t.list_len, lt]
  exact ⟨t, ⟨h.wf, rp, bt, by rw [lt]; exact h.asc _ hx, by omega, by simp; omega, hr⟩, lt, sz, bt⟩
def LsT (S : Arn) (m : Int) (M : List Ent) : Prop := exW S ∧ (slotsOf S).length ≤ 1000000 ∧ ∃ t, RepD (slotsOf S) t m ∧ t.size ≤ 1000000 ∧ t.list = M
theorem MgF.ls {S S' : Arn} {hs c : List Int} {lb lo lt : List Ent} {pol i e : Int} (w : Wf S hs) (hr : S.reads ≤ 2000000) (h : MgF S hs lb lo lt pol S' i c e) :
    c = confE lb lo lt ∧ (e = if pol = 3 ∧ confE lb lo lt ≠ [] then 10 else 0) ∧ LsT S' i (if pol = 3 ∧ confE lb lo lt ≠ [] then [] else mergeE lb lo lt pol) := by
  obtain ⟨h1, h2⟩ := h
  refine ⟨h1, ?_⟩
  rcases h2 with ⟨a, b, c, d, m, hm, es⟩ | ⟨a, b, tr⟩
  · rw [if_pos ⟨a, b⟩, if_pos ⟨a, b⟩]
    have w' : Wf S' hs := by rw [es]; exact w.rd (by omega)
    have sl := slots_le w'
    exact ⟨c, ⟨_, w'⟩, by omega, .nil, d, by simp [Tr.size], rfl⟩
  · rw [if_neg a, if_neg a]
    have w' := tr.got.wf
    have sl := slots_le w'
    obtain ⟨t, rp, lt, bt⟩ := tr.tree
    obtain ⟨u, u1, _, _, _, u2, u3⟩ := tr_tree w' rp lt bt (mergeE_asc ..)
    exact ⟨b, ⟨_, w'⟩, by omega, u, u1, u2, u3⟩
end Go.Proofs.Ytmjnoiajenoinaa.Sx
end
section
/- Compacting what was compacted: the same arena. -/
namespace Go.Proofs.Ytmjnoiajenoinaa
open Go
section
variable {us us' : Int → Bool} {lf rg lf' rg' f : Int → Int} {P : Int → Prop}
theorem NumG.map (h1 : ∀ i, P i → us' (f i) = us i) (h2 : ∀ i, P i → us i = true → P (lf i) ∧ P (rg i) ∧ lf' (f i) = f (lf i) ∧ rg' (f i) = f (rg i)) (h3 : ∀ i j, P i → P j → us i = true → f i = f j → i = j)
    {i : Int} {acc a : List Int} (h : NumG us lf rg i acc a) (hi : P i) (ha : ∀ j ∈ acc, P j) : NumG us' lf' rg' (f i) (acc.map f) (a.map f) ∧ ∀ j ∈ a, P j := by
  induction h with
  | skip q => exact ⟨.skip (q.imp (fun e => (h1 _ hi).trans e) fun m => List.mem_map.2 ⟨_, m, rfl⟩), ha⟩
  | @go i acc a1 a2 u n k1 k2 ih1 ih2 =>
    obtain ⟨p1, p2, e1, e2⟩ := h2 i hi u
    obtain ⟨g1, q1⟩ := ih1 p1 ha
    obtain ⟨g2, q2⟩ := ih2 p2 q1
    refine ⟨?_, fun j hj => ?_⟩
    · rw [List.map_append]
      refine .go ((h1 i hi).trans u) (fun m => ?_) (by rw [e1]; exact g1) (by rw [e2]; exact g2)
      obtain ⟨j, hj, e⟩ := List.mem_map.1 m
      exact n (h3 i j hi (ha j hj) u e.symm ▸ hj)
    · rcases List.mem_append.1 hj with hj | hj
      · exact q2 j hj
      · rw [List.mem_singleton.1 hj]; exact hi
theorem NumsG.map (h1 : ∀ i, P i → us' (f i) = us i) (h2 : ∀ i, P i → us i = true → P (lf i) ∧ P (rg i) ∧ lf' (f i) = f (lf i) ∧ rg' (f i) = f (rg i)) (h3 : ∀ i j, P i → P j → us i = true → f i = f j → i = j)
    {r acc a : List Int} (h : NumsG us lf rg r acc a) (hr : ∀ i ∈ r, P i) (ha : ∀ j ∈ acc, P j) : NumsG us' lf' rg' (r.map f) (acc.map f) (a.map f) := by
  induction h with
  | nil => exact .nil
  | cons k1 _ ih =>
    obtain ⟨g1, q1⟩ := k1.map h1 h2 h3 (hr _ (List.mem_cons_self ..)) ha
    exact .cons g1 (ih (fun i hi => hr i (List.mem_cons_of_mem _ hi)) q1)
end
variable {S B C : Arn} {hs l o o2 rs : List Int} {c : Int} {n : Nat}
end Go.Proofs.Ytmjnoiajenoinaa
end
section
/- Law CompactKeepsTrees. -/
namespace Go.Proofs.Ytmjnoiajenoinaa.Sx
open Go

/-KEEP Wf Kept exW inU allV live rdS retL decS Arn.cap Arn.free Rep Tr.size Tr.list Tr.Bal Asc Kin listE insE getE TrR Got Hn ht upM sameB NumsA NmB NmR CpO PlantR newS okRt slotsOf orderOf RepD Hld iB minO eN List.Perm-/
abbrev eN (l : List Ent) (n : Nat) : Ent := l.getD n (0, 0)
structure XNh (P : Arn → Int → List Int → List (List Ent) → Nat → Prop) where
  S : Arn
  r : Int
  rs : List Int
  ll : List (List Ent)
  k : Nat
  h : P S r rs ll k
structure XNi (P : Arn → Int → List Int → List (List Ent) → Arn → List Int → Int → Prop) where
  S : Arn
  r : Int
  rs : List Int
  ll : List (List Ent)
  B : Arn
  o : List Int
  m : Int
  h : P S r rs ll B o m
structure XNj (P : Arn → Int → List Int → List (List Ent) → Arn → List Int → List SlotT → List Int → Nat → Prop) where
  S : Arn
  r : Int
  rs : List Int
  ll : List (List Ent)
  B : Arn
  o : List Int
  d : List SlotT
  f : List Int
  k : Nat
  h : P S r rs ll B o d f k
def lkN (L0 oth : List Ent) : Nat → List Ent
  | 0 => L0
  | k + 1 => insE (lkN L0 oth k) (eN oth k)
def lsK (L0 oth : List Ent) (k : Nat) : List (List Ent) := (List.range (k + 1)).map (lkN L0 oth)
section
variable {L0 oth : List Ent} {rs : List Int} {ll : List (List Ent)} {S S' : Arn} {E F : List (Int × List Ent)}
theorem zip_mem {i : Nat} (h : i < rs.length) (e : rs.length = ll.length) : (rs.getD i 0, ll.getD i []) ∈ rs.zip ll := by
  refine List.mem_of_getElem? (i := i) ?_
  rw [List.getElem?_zip_eq_some]
  exact ⟨getD_sm h, getD_sm (by omega)⟩
theorem fst_zip (e : rs.length = ll.length) : (rs.zip ll).map Prod.fst = rs := List.map_fst_zip (by omega)
theorem hld_perm (h : Hld S E) (p : E.Perm F) : Hld S F where
  wf := h.wf.perm (p.map _)
  rep q hq := h.rep q (p.mem_iff.2 hq)
  asc q hq := h.asc q (p.mem_iff.2 hq)
  kin q hq := h.kin q (p.mem_iff.2 hq)
theorem hld_tree (h : Hld S E) {x : Int} {l : List Ent} (hx : (x, l) ∈ E) : (slotsOf S).length ≤ 1000000 ∧ ∃ t, RepD (slotsOf S) t x ∧ Asc t.list ∧ t.Bal ∧ t.size ≤ 2 * (slotsOf S).length + 2 ∧ t.size ≤ 1000000 ∧ t.list = l := by
  obtain ⟨t, rp, lt, bt⟩ := h.rep _ hx
  have sl := slots_le h.wf
  exact ⟨by omega, tr_tree h.wf rp lt bt (h.asc _ hx)⟩
end
def nO (oth : List Ent) : Nat := min oth.length 8
structure PNa (L0 oth : List Ent) (p : Int) (S : Arn) (rs : List Int) (ll : List (List Ent)) (k : Nat) : Prop where
  len : rs.length = k + 1
  el : ll = lsK L0 oth k
  hh : Hld S (rs.zip ll)
  rd : S.reads ≤ 3000 * (k : Int)
  cap : S.cap ≤ 20000
  fr : ((nO oth : Int) + 1 - k) * p ≤ S.free
structure PNb (L0 : List Ent) (S : Arn) (r : Int) (rs : List Int) (ll : List (List Ent)) (o : List Int) : Prop where
  el : rs.length = ll.length
  pos : 0 < rs.length
  le : rs.length ≤ 9
  er : r = rs.getD 0 0
  e0 : ll.getD 0 [] = L0
  hh : Hld S (rs.zip ll)
  eo : o.length = rs.length
end Go.Proofs.Ytmjnoiajenoinaa.Sx
end
section
/- Updates where there is room, whether the key is there or not; held trees that are given back. -/
namespace Go.Proofs.Ytmjnoiajenoinaa.Sx
open Go

/-- What deleting comes to where there is room. -/
def UpdR (S : Arn) (hs : List Int) (t : Tr) (k : Int) (S' : Arn) (j f : Int) : Prop :=
  (getE t.list k = none ∧ f = 4 ∧ j = 0 ∧ ∃ m, m ≤ ht t ∧ S' = rdS S m) ∨ (getE t.list k ≠ none ∧ f = 0 ∧ TrR S hs (flt (neK k) t.list) (dB t.size) (5 * dB t.size + ht t + 1) S' j)
def tUpDx : Tfm C0 := fun args H K => match args with
  | [.at (.ptr 0 0), .at (.val (.int .u32 r)), .at (.val (.int .i64 k))] => arM H fun S => ∃ hs t, upM S hs t r ∧ 4 * (Hn t.size + 2) ≤ S.free ∧
    ∀ S' j v f, UpdR S hs t k S' j f → K (.tup [.at (vU j), .at (vI v), .at (vI f)]) (chS S') W7
  | _ => False
theorem s_upDx : SoundT C0 29 tUpDx := s_upD.weak fun args H K h => by
  unfold tUpDx at h
  unfold tUpD
  split at h <;> try exact h.elim
  unfold arM at h ⊢
  split at h <;> try exact h.elim
  obtain ⟨hs, t, hm, hf, h⟩ := h
  exact ⟨hs, t, hm, fun hn S' m e hm' => h S' 0 0 4 (.inl ⟨hn, rfl, rfl, m, hm', e⟩), fun v' _ hf' => absurd hf (by omega), fun v' he' _ S' j tr => h S' j v' 0 (.inr ⟨by rw [he']; simp, rfl, tr⟩)⟩
variable {S S' : Arn} {E : List (Int × List Ent)} {x : Int} {l : List Ent}
theorem Hld.drop (h : Hld S ((x, l) :: E)) (w : Wf S' (E.map Prod.fst)) (kp : Kept S S') : Hld S' E where
  wf := w
  rep p hp := by
    obtain ⟨t, rp, lt, bt⟩ := h.rep p (List.mem_cons_of_mem _ hp)
    have w0 : Wf S (x :: E.map Prod.fst) := h.wf
    have g := rel_got w0 w kp
    exact ⟨t, rp.held w0 g.stay (.inr (List.mem_map.2 ⟨p, hp, rfl⟩)), lt, bt⟩
  asc p hp := h.asc p (List.mem_cons_of_mem _ hp)
  kin p hp := h.kin p (List.mem_cons_of_mem _ hp)
theorem Hld.perm {E' : List (Int × List Ent)} (h : Hld S E) (p : E.Perm E') : Hld S E' where
  wf := h.wf.perm (p.map _)
  rep q hq := h.rep q (p.mem_iff.2 hq)
  asc q hq := h.asc q (p.mem_iff.2 hq)
  kin q hq := h.kin q (p.mem_iff.2 hq)
theorem kept_cap (k : Kept S S') : S'.cap = S.cap := by unfold Arn.cap; rw [k.len]
end Go.Proofs.Ytmjnoiajenoinaa.Sx
end
section
/- Law UpdateSequence. -/
namespace Go.Proofs.Ytmjnoiajenoinaa.Sx
open Go

/-KEEP Wf Kept exW inU live rdS retL decS Arn.cap Arn.free Rep Tr.size Tr.list Tr.Bal Asc Kin insE outE getE TrR Got Hn ht upM UpdR slotsOf orderOf RepD Hld iB newS eV List.Perm-/
abbrev eV (l : List EduT) (n : Nat) : EduT := l.getD n ⟨false, (0, 0)⟩
structure XNk (P : Arn → Int → List Ent → List Int → List (List Ent) → Nat → Prop) where
  S : Arn
  r : Int
  L : List Ent
  ks : List Int
  ll : List (List Ent)
  k : Nat
  h : P S r L ks ll k
structure XNl (P : Arn → Int → List Ent → List Int → List (List Ent) → Nat → Int → List Ent → Prop) where
  S : Arn
  r : Int
  L : List Ent
  ks : List Int
  ll : List (List Ent)
  k : Nat
  i : Int
  N : List Ent
  h : P S r L ks ll k i N
structure XNm (P : Arn → List Int → List (List Ent) → List SlotT → List Int → Nat → Prop) where
  S : Arn
  ks : List Int
  ll : List (List Ent)
  d : List SlotT
  f : List Int
  k : Nat
  h : P S ks ll d f k
structure XNn (P : Arn → List Int → Nat → Prop) where
  S : Arn
  ks : List Int
  k : Nat
  h : P S ks k
abbrev hfK (l : List EduT) (kp : List Bool) (S : Arn) (L : List Ent) (ks : List Int) (ll : List (List Ent)) : List (Chunk C0) := [.row false EC.edu l, .row false EC.bool kp] ++ chSk 2 S ++ [.row false EC.ent L, .row true EC.u32 ks, .rows EC.hent EC.ent ll]
noncomputable def aNk (P1 : Arn → Int → List Ent → List Int → List (List Ent) → Nat → Prop) (P2 : Arn → Int → List Ent → List Int → List (List Ent) → Nat → Int → List Ent → Prop) (P3 : Arn → List Int → List (List Ent) → List SlotT → List Int → Nat → Prop) (P4 : Arn → List Int → Nat → Prop) (l : List EduT) (kp : List Bool) : Ann C0 := { quiet := [9999999, 21, 34, 27, 18, 35, 33, 30, 31], Γ := [(28, frameT [] tAw14), (11, frameT [] tNew), (29, frameT [] tUpDx), (32, frameT [] tUpIn), (30, frameT [] tDel), (33, frameT [] tIns), (31, frameT [] tGet), (14, frameT [] tRelease), (21, frameT [] tDump), (27, frameT [] tSound), (34, frameT [] tTr7), (18, frameT [] tFree), (35, frameT [] tCap)], inv := fun n => match n with
  | 10 => some { X := XNk P1, sl := [5, 7, 8, 9, 10, 11], tf := fun x => [.one (.at (.ptr 2 0)), vi .u32 x.r, .one (.at (.slc 9)), .one (.at (.slc 10)), .one (.at (.slc 11)), vi .i64 x.k], hf := fun x => hfK l kp x.S x.L x.ks x.ll, μ := fun x => l.length - x.k }
  | 1026 => some { X := XNl P2, sl := [5, 7, 8, 9, 10, 11, 13, 15], tf := fun x => [.one (.at (.ptr 2 0)), vi .u32 x.r, .one (.at (.slc 9)), .one (.at (.slc 10)), .one (.at (.slc 11)), vi .i64 x.k, vi .u32 x.i, .one (.at (.slc 12))], hf := fun x => hfK l kp x.S x.L x.ks x.ll ++ [.row false EC.ent x.N], rel := fun T _ x => slotI T 11 x.k }
  | 37 => some { X := XNm P3, sl := [5, 9, 10, 20, 21], tf := fun x => [.one (.at (.ptr 2 0)), .one (.at (.slc 9)), .one (.at (.slc 10)), .one (.at (.ptr 11 0)), vi .i64 x.k], hf := fun x => [.row false EC.edu l, .row false EC.bool kp] ++ chSk 2 x.S ++ [.row true EC.u32 x.ks, .rows EC.hent EC.ent x.ll, .box [.slc 12, .slc 13], .row false EC.slot x.d, .row false EC.u32 x.f], μ := fun x => x.ks.length - x.k }
  | 42 => some { X := XNn P4, sl := [5, 9, 22], tf := fun x => [.one (.at (.ptr 2 0)), .one (.at (.slc 9)), vi .i64 x.k], hf := fun x => [.row false EC.edu l, .row false EC.bool kp] ++ chSk 2 x.S ++ [.row true EC.u32 x.ks], μ := fun x => x.ks.length - x.k }
  | _ => none }
def kinU (l : List EduT) : Prop := ∀ e ∈ l, -9223372036854775808 ≤ e.ent.1 ∧ e.ent.1 ≤ 9223372036854775807
def tNk : Tfm C0 := fun args H K => match args, H with
  | [.at (.slc 0), .at (.slc 1)], [.row false .edu l, .row false .bool kp] => kinU l ∧ K (.one (.at (vB true))) [.row false EC.edu l, .row false EC.bool kp] []
  | _, _ => False
structure KsR (S : Arn) (r : Int) (L : List Ent) (ks : List Int) (ll : List (List Ent)) (k : Nat) : Prop where
  el : ks.length = ll.length
  le : ks.length ≤ k
  hh : Hld S ((r, L) :: ks.zip ll)
  ln : L.length ≤ k
  k60 : k ≤ 60
  sm : sumL (ks.zip ll) ≤ 60 * k
  cap : S.cap = 4000
  rd : S.reads ≤ 4000 * (k : Int)
structure KsN (S : Arn) (r : Int) (L : List Ent) (ks : List Int) (ll : List (List Ent)) (k : Nat) (i : Int) (N : List Ent) : Prop where
  el : ks.length = ll.length
  le : ks.length ≤ k
  hh : Hld S ((i, N) :: (r, L) :: ks.zip ll)
  ln : L.length ≤ k
  nn : N.length ≤ k + 1
  k60 : k + 1 ≤ 60
  sm : sumL (ks.zip ll) ≤ 60 * k
  cap : S.cap = 4000
  rd : S.reads ≤ 4000 * ((k : Int) + 1)
section
variable {S S' : Arn} {r i : Int} {L N : List Ent} {ks : List Int} {ll : List (List Ent)} {k : Nat}
theorem sumL_snoc (E : List (Int × List Ent)) (p : Int × List Ent) : sumL (E ++ [p]) = sumL E + p.2.length := by unfold sumL; simp
theorem KsR.new : KsR (newS (Int.toNat 4000)) 0 [] [] [] 0 where
  el := rfl
  le := Nat.le_refl _
  hh := {
    wf := (Wf.new (by decide) (by decide)).zero_cons (by simp)
    rep := fun p hp => by rw [List.mem_singleton.1 hp]; exact ⟨.nil, rfl, rfl, trivial⟩
    asc := fun p hp => by rw [List.mem_singleton.1 hp]; exact List.Pairwise.nil
    kin := fun p hp => by rw [List.mem_singleton.1 hp]; exact fun x hx => (by cases hx) }
  ln := Nat.le_refl _
  k60 := Nat.zero_le _
  sm := Nat.zero_le _
  cap := by unfold Arn.cap; show ((List.replicate (Int.toNat 4000 + 1) false).length : Int) - 1 = 4000; rw [List.length_replicate]; rfl
  rd := by show (0 : Int) ≤ _; omega
theorem KsR.free (h : KsR S r L ks ll k) (hk : k < 60) : 328 ≤ S.free := by
  have a := h.hh.room
  rw [sumL_cons] at a
  have := h.sm
  have := h.ln
  have := h.cap
  omega
theorem KsR.next {mk rd : Nat} {j : Int} (h : KsR S r L ks ll k) (hk : k < 60) (tr : TrR S (((r, L) :: ks.zip ll).map Prod.fst) N mk rd S' j) (hr : rd ≤ 3900) (ha : Asc N) (hn : Kin N) (hl : N.length ≤ k + 1) : KsN S' r L ks ll k j N := by
  have q := tr.got.rd
  have c : S'.cap = S.cap := by unfold Arn.cap; rw [tr.got.len]
  have := h.rd
  exact ⟨h.el, h.le, h.hh.step tr ha hn, h.ln, hl, hk, h.sm, by rw [c]; exact h.cap, by omega⟩
theorem KsN.keep (h : KsN S r L ks ll k i N) : KsR S i N (ks ++ [r]) (ll ++ [L]) (k + 1) := by
  have el := h.el
  have le := h.le
  have ln := h.ln
  have k60 := h.k60
  have sm := h.sm
  have ez : (ks ++ [r]).zip (ll ++ [L]) = ks.zip ll ++ [(r, L)] := by rw [List.zip_append el]; rfl
  refine ⟨by simp [el], by simp; omega, ?_, h.nn, k60, ?_, h.cap, by have := h.rd; omega⟩
  · rw [ez]
    exact hld_perm h.hh (List.Perm.cons _ (List.perm_append_singleton _ _).symm)
  · rw [ez, sumL_snoc]
    show _ + L.length ≤ _
    omega
theorem KsN.wf (h : KsN S r L ks ll k i N) : Wf S (r :: i :: ks) := by
  have w := h.hh.wf
  rw [List.map_cons, List.map_cons, fst_zip h.el] at w
  exact w.perm (List.Perm.swap _ _ _)
theorem KsN.drop (h : KsN S r L ks ll k i N) (w : Wf S' (i :: ks)) (kp : Kept S S') : KsR S' i N ks ll (k + 1) := by
  have el := h.el
  have le := h.le
  have sm := h.sm
  have rd := h.rd
  have h2 : Hld S ((r, L) :: (i, N) :: ks.zip ll) := hld_perm h.hh (List.Perm.swap _ _ _)
  have h3 := h2.drop (by rw [List.map_cons, fst_zip el]; exact w) kp
  exact ⟨el, by omega, h3, h.nn, h.k60, by omega, by rw [kept_cap kp]; exact h.cap, by rw [kp.rds]; omega⟩
end
def PNk1 (l : List EduT) : Arn → Int → List Ent → List Int → List (List Ent) → Nat → Prop := fun S r L ks ll k => k ≤ l.length ∧ KsR S r L ks ll k
def PNk2 (l : List EduT) : Arn → Int → List Ent → List Int → List (List Ent) → Nat → Int → List Ent → Prop := fun S r L ks ll k i N => k + 1 ≤ l.length ∧ KsN S r L ks ll k i N
def PNk3 : Arn → List Int → List (List Ent) → List SlotT → List Int → Nat → Prop := fun S ks ll d _ k => ks.length = ll.length ∧ ks.length ≤ 61 ∧ k ≤ ks.length ∧ Wf S ks ∧ d.length ≤ 1000000 ∧ ∀ i < ks.length, ∃ t, RepD d t (ks.getD i 0) ∧ Asc t.list ∧ t.Bal ∧ t.size ≤ 2 * d.length + 2 ∧ t.size ≤ 1000000 ∧ t.list = ll.getD i []
def PNk4 : Arn → List Int → Nat → Prop := fun S ks k => ks.length ≤ 61 ∧ k ≤ ks.length ∧ Wf S (ks.drop k)
theorem vc_nk (l : List EduT) (kp : List Bool) (K : KT) (hk : kinU l) (h : K (.one (.at (vB true))) [.row false EC.edu l, .row false EC.bool kp] []) :
    vc C0 (aNk (PNk1 l) (PNk2 l) PNk3 PNk4 l kp) Try.f5 [.at (.slc 0), .at (.slc 1)] [.row false EC.edu l, .row false EC.bool kp] (normK 2 K) := by
  generalize hP1 : PNk1 l = P1
  generalize hP2 : PNk2 l = P2
  generalize hP3 : PNk3 = P3
  generalize hP4 : PNk4 = P4
  refine Eq.mp (show (brS (decide ((↑l.length : Int) > 60)) ((K (SV.one (TV.at (At.val (Value.bool true)))) [(Chunk.row false (EC.edu) (l)), (Chunk.row false (EC.bool) (kp))] [])) (((((4000 : Int) < 1 ∨ (65536 : Int) < 4000) → (K (SV.one (TV.at (At.val (Value.bool false)))) [(Chunk.row false (EC.edu) (l)), (Chunk.row false (EC.bool) (kp))] [])) ∧ (((1 : Int) ≤ 4000) → (((4000 : Int) ≤ 65536) → (∀ S : Arn, (((S) = (newS (Int.toNat 4000))) → ((∃ x : XNk P1, (True ∧ (True ∧ True ∧ True ∧ ((Value.int IntKind.u32 0) = (Value.int IntKind.u32 (x.r))) ∧ True ∧ True ∧ True ∧ ((Value.int IntKind.i64 0) = (Value.int IntKind.i64 ((↑x.k : Int)))) ∧ True) ∧ ((l) = (l)) ∧ ((kp) = (kp)) ∧ (True ∧ True ∧ True ∧ ((Value.int IntKind.u64 (S.reads)) = (Value.int IntKind.u64 (x.S.reads))) ∧ True) ∧ (True ∧ True ∧ True ∧ ((Value.int IntKind.u32 (S.fresh)) = (Value.int IntKind.u32 (x.S.fresh))) ∧ True) ∧ ((S.nodes) = (x.S.nodes)) ∧ ((S.counts) = (x.S.counts)) ∧ ((S.used) = (x.S.used)) ∧ ((S.gen) = (x.S.gen)) ∧ ((S.rel) = (x.S.rel)) ∧ ([] = (x.L)) ∧ ([] = (x.ks)) ∧ ([] = (x.ll)) ∧ True)) ∧ (∀ x : XNk P1, (True → (brS (decide ((↑x.k : Int) < (↑l.length : Int))) (((0 ≤ (↑x.k : Int)) ∧ ((↑x.k : Int) < (↑l.length : Int)) ∧ (0 ≤ (↑x.k : Int)) ∧ ((↑x.k : Int) < (↑l.length : Int)) ∧ (brS ((eV l (↑x.k : Int).toNat).del) ((∃ hs : List Int, (∃ t : Tr, ((upM x.S hs t x.r) ∧ (4 * (Hn (↑t.size : Int) + 2) ≤ x.S.free) ∧ (∀ S' : Arn, (∀ j : Int, (∀ v : Int, (∀ f : Int, ((UpdR x.S hs t (eV l (↑x.k : Int).toNat).ent.fst S' j f) →
    ((x.L.length ≤ 1000000) ∧ (∀ x1 : Option Int, (((x1) = (getE x.L (eV l (↑x.k : Int).toNat).ent.fst)) → (brS (!x1.isSome) ((brS (f != 4) ((K (SV.one (TV.at (At.val (Value.bool false)))) [(Chunk.row false (EC.edu) (l)), (Chunk.row false (EC.bool) (kp))] [])) ((∃ x' : XNk P1, (True ∧ ((True ∧ True ∧ True ∧ ((Value.int IntKind.u32 (x.r)) = (Value.int IntKind.u32 (x'.r))) ∧ True ∧ True ∧ True ∧ ((Value.int IntKind.i64 (IntKind.i64.wrap ((↑x.k : Int) + 1))) = (Value.int IntKind.i64 ((↑x'.k : Int)))) ∧ True) ∧ ((l) = (l)) ∧ ((kp) = (kp)) ∧ (True ∧ True ∧ True ∧ ((Value.int IntKind.u64 (S'.reads)) = (Value.int IntKind.u64 (x'.S.reads))) ∧ True) ∧ (True ∧ True ∧ True ∧ ((Value.int IntKind.u32 (S'.fresh)) = (Value.int IntKind.u32 (x'.S.fresh))) ∧ True) ∧ ((S'.nodes) = (x'.S.nodes)) ∧ ((S'.counts) = (x'.S.counts)) ∧ ((S'.used) = (x'.S.used)) ∧ ((S'.gen) = (x'.S.gen)) ∧ ((S'.rel) = (x'.S.rel)) ∧ ((x.L) = (x'.L)) ∧ ((x.ks) = (x'.ks)) ∧ ((x.ll) = (x'.ll)) ∧ True) ∧ (l.length - x'.k < l.length - x.k)))))) (((brS (f != 0) ((K (SV.one (TV.at (At.val (Value.bool false)))) [(Chunk.row false (EC.edu) (l)), (Chunk.row false (EC.bool) (kp))] [])) ((∃ x2 : XNl P2, ((((↑x.k : Int)) = ((↑x2.k : Int))) ∧ (True ∧ True ∧ True ∧ ((Value.int IntKind.u32 (x.r)) = (Value.int IntKind.u32 (x2.r))) ∧ True ∧ True ∧ True ∧ ((Value.int IntKind.i64 ((↑x.k : Int))) = (Value.int IntKind.i64 ((↑x2.k : Int)))) ∧ ((Value.int IntKind.u32 (j)) = (Value.int IntKind.u32 (x2.i))) ∧ True ∧ True) ∧ ((l) = (l)) ∧
    ((kp) = (kp)) ∧ (True ∧ True ∧ True ∧ ((Value.int IntKind.u64 (S'.reads)) = (Value.int IntKind.u64 (x2.S.reads))) ∧ True) ∧ (True ∧ True ∧ True ∧ ((Value.int IntKind.u32 (S'.fresh)) = (Value.int IntKind.u32 (x2.S.fresh))) ∧ True) ∧ ((S'.nodes) = (x2.S.nodes)) ∧ ((S'.counts) = (x2.S.counts)) ∧ ((S'.used) = (x2.S.used)) ∧ ((S'.gen) = (x2.S.gen)) ∧ ((S'.rel) = (x2.S.rel)) ∧ ((x.L) = (x2.L)) ∧ ((x.ks) = (x2.ks)) ∧ ((x.ll) = (x2.ll)) ∧ ((outE x.L (eV l (↑x.k : Int).toNat).ent.fst (eV l (↑x.k : Int).toNat).ent.fst) = (x2.N)) ∧ True)))) ∧ (∀ x2 : XNl P2, ((((↑x.k : Int)) = ((↑x2.k : Int))) → (brS (decide ((↑x2.k : Int) < (↑kp.length : Int))) (((0 ≤ (↑x2.k : Int)) ∧ ((↑x2.k : Int) < (↑kp.length : Int)) ∧ (brS (kp.getD (↑x2.k : Int).toNat false) ((((x2.ks.length + [x2.r].length) * bytesOf C0 EC.u32 ≤ 140737488355328) ∧ ((x2.ll.length + [x2.L].length) * bytesOf C0 EC.hent ≤ 140737488355328) ∧ (∃ x' : XNk P1, (True ∧ ((True ∧ True ∧ True ∧ ((Value.int IntKind.u32 (x2.i)) = (Value.int IntKind.u32 (x'.r))) ∧ True ∧ True ∧ True ∧ ((Value.int IntKind.i64 (IntKind.i64.wrap ((↑x2.k : Int) + 1))) = (Value.int IntKind.i64 ((↑x'.k : Int)))) ∧ True) ∧ ((l) = (l)) ∧ ((kp) = (kp)) ∧ (True ∧ True ∧ True ∧ ((Value.int IntKind.u64 (x2.S.reads)) = (Value.int IntKind.u64 (x'.S.reads))) ∧ True) ∧ (True ∧ True ∧ True ∧ ((Value.int IntKind.u32 (x2.S.fresh)) = (Value.int IntKind.u32 (x'.S.fresh))) ∧ True) ∧ ((x2.S.nodes) = (x'.S.nodes)) ∧ ((x2.S.counts) = (x'.S.counts)) ∧ ((x2.S.used) = (x'.S.used)) ∧
    ((x2.S.gen) = (x'.S.gen)) ∧ ((x2.S.rel) = (x'.S.rel)) ∧ ((x2.N) = (x'.L)) ∧ ((x2.ks ++ [x2.r]) = (x'.ks)) ∧ ((x2.ll ++ [x2.L]) = (x'.ll)) ∧ True) ∧ (l.length - x'.k < l.length - x.k))))) ((∃ hs1 : List Int, ((Wf x2.S (x2.r :: hs1)) ∧ (∀ S'1 : Arn, (∀ fr : Int, ((Wf S'1 hs1) → ((Kept x2.S S'1) → (((fr + (↑S'1.nu : Int)) = ((↑x2.S.nu : Int))) → (((1 < x2.S.ct x2.r) → (((x2.S.us x2.r) = true) → ((S'1) = (decS x2.S x2.r)))) → ((((x2.S.us x2.r) = false) → ((S'1) = (x2.S))) → (∃ x' : XNk P1, (True ∧ ((True ∧ True ∧ True ∧ ((Value.int IntKind.u32 (x2.i)) = (Value.int IntKind.u32 (x'.r))) ∧ True ∧ True ∧ True ∧ ((Value.int IntKind.i64 (IntKind.i64.wrap ((↑x2.k : Int) + 1))) = (Value.int IntKind.i64 ((↑x'.k : Int)))) ∧ True) ∧ ((l) = (l)) ∧ ((kp) = (kp)) ∧ (True ∧ True ∧ True ∧ ((Value.int IntKind.u64 (S'1.reads)) = (Value.int IntKind.u64 (x'.S.reads))) ∧ True) ∧ (True ∧ True ∧ True ∧ ((Value.int IntKind.u32 (S'1.fresh)) = (Value.int IntKind.u32 (x'.S.fresh))) ∧ True) ∧ ((S'1.nodes) = (x'.S.nodes)) ∧ ((S'1.counts) = (x'.S.counts)) ∧ ((S'1.used) = (x'.S.used)) ∧ ((S'1.gen) = (x'.S.gen)) ∧ ((S'1.rel) = (x'.S.rel)) ∧ ((x2.N) = (x'.L)) ∧ ((x2.ks) = (x'.ks)) ∧ ((x2.ll) = (x'.ll)) ∧ True) ∧ (l.length - x'.k < l.length - x.k)))))))))))))))) ((∃ hs1 : List Int, ((Wf x2.S (x2.r :: hs1)) ∧ (∀ S'1 : Arn, (∀ fr : Int, ((Wf S'1 hs1) → ((Kept x2.S S'1) → (((fr + (↑S'1.nu : Int)) = ((↑x2.S.nu : Int))) → (((1 < x2.S.ct x2.r) → (((x2.S.us x2.r) = true) → ((S'1) = (decS x2.S x2.r)))) →
    ((((x2.S.us x2.r) = false) → ((S'1) = (x2.S))) → (∃ x' : XNk P1, (True ∧ ((True ∧ True ∧ True ∧ ((Value.int IntKind.u32 (x2.i)) = (Value.int IntKind.u32 (x'.r))) ∧ True ∧ True ∧ True ∧ ((Value.int IntKind.i64 (IntKind.i64.wrap ((↑x2.k : Int) + 1))) = (Value.int IntKind.i64 ((↑x'.k : Int)))) ∧ True) ∧ ((l) = (l)) ∧ ((kp) = (kp)) ∧ (True ∧ True ∧ True ∧ ((Value.int IntKind.u64 (S'1.reads)) = (Value.int IntKind.u64 (x'.S.reads))) ∧ True) ∧ (True ∧ True ∧ True ∧ ((Value.int IntKind.u32 (S'1.fresh)) = (Value.int IntKind.u32 (x'.S.fresh))) ∧ True) ∧ ((S'1.nodes) = (x'.S.nodes)) ∧ ((S'1.counts) = (x'.S.counts)) ∧ ((S'1.used) = (x'.S.used)) ∧ ((S'1.gen) = (x'.S.gen)) ∧ ((S'1.rel) = (x'.S.rel)) ∧ ((x2.N) = (x'.L)) ∧ ((x2.ks) = (x'.ks)) ∧ ((x2.ll) = (x'.ll)) ∧ True) ∧ (l.length - x'.k < l.length - x.k))))))))))))))))))))))))))))))) ((∃ hs : List Int, (∃ t : Tr, ((upM x.S hs t x.r) ∧ (4 * (Hn ((↑t.size : Int) + 1) + 2) ≤ x.S.free) ∧ (∀ S' : Arn, (∀ j : Int, (∀ o : Option Int, (((o) = (getE t.list (eV l (↑x.k : Int).toNat).ent.fst)) → ((TrR x.S hs (insE t.list (eV l (↑x.k : Int).toNat).ent) (iB t.size) (5 * iB t.size + ht t + 1) S' j) → ((x.L.length ≤ 1000000) ∧ (∃ x1 : XNl P2, ((((↑x.k : Int)) = ((↑x1.k : Int))) ∧ (True ∧ True ∧ True ∧ ((Value.int IntKind.u32 (x.r)) = (Value.int IntKind.u32 (x1.r))) ∧ True ∧ True ∧ True ∧ ((Value.int IntKind.i64 ((↑x.k : Int))) = (Value.int IntKind.i64 ((↑x1.k : Int)))) ∧ ((Value.int IntKind.u32 (j)) = (Value.int IntKind.u32 (x1.i))) ∧ True ∧ True) ∧
    ((l) = (l)) ∧ ((kp) = (kp)) ∧ (True ∧ True ∧ True ∧ ((Value.int IntKind.u64 (S'.reads)) = (Value.int IntKind.u64 (x1.S.reads))) ∧ True) ∧ (True ∧ True ∧ True ∧ ((Value.int IntKind.u32 (S'.fresh)) = (Value.int IntKind.u32 (x1.S.fresh))) ∧ True) ∧ ((S'.nodes) = (x1.S.nodes)) ∧ ((S'.counts) = (x1.S.counts)) ∧ ((S'.used) = (x1.S.used)) ∧ ((S'.gen) = (x1.S.gen)) ∧ ((S'.rel) = (x1.S.rel)) ∧ ((x.L) = (x1.L)) ∧ ((x.ks) = (x1.ks)) ∧ ((x.ll) = (x1.ll)) ∧ ((insE x.L (eV l (↑x.k : Int).toNat).ent) = (x1.N)) ∧ True)) ∧ (∀ x1 : XNl P2, ((((↑x.k : Int)) = ((↑x1.k : Int))) → (brS (decide ((↑x1.k : Int) < (↑kp.length : Int))) (((0 ≤ (↑x1.k : Int)) ∧ ((↑x1.k : Int) < (↑kp.length : Int)) ∧ (brS (kp.getD (↑x1.k : Int).toNat false) ((((x1.ks.length + [x1.r].length) * bytesOf C0 EC.u32 ≤ 140737488355328) ∧ ((x1.ll.length + [x1.L].length) * bytesOf C0 EC.hent ≤ 140737488355328) ∧ (∃ x' : XNk P1, (True ∧ ((True ∧ True ∧ True ∧ ((Value.int IntKind.u32 (x1.i)) = (Value.int IntKind.u32 (x'.r))) ∧ True ∧ True ∧ True ∧ ((Value.int IntKind.i64 (IntKind.i64.wrap ((↑x1.k : Int) + 1))) = (Value.int IntKind.i64 ((↑x'.k : Int)))) ∧ True) ∧ ((l) = (l)) ∧ ((kp) = (kp)) ∧ (True ∧ True ∧ True ∧ ((Value.int IntKind.u64 (x1.S.reads)) = (Value.int IntKind.u64 (x'.S.reads))) ∧ True) ∧ (True ∧ True ∧ True ∧ ((Value.int IntKind.u32 (x1.S.fresh)) = (Value.int IntKind.u32 (x'.S.fresh))) ∧ True) ∧ ((x1.S.nodes) = (x'.S.nodes)) ∧ ((x1.S.counts) = (x'.S.counts)) ∧ ((x1.S.used) = (x'.S.used)) ∧ ((x1.S.gen) = (x'.S.gen)) ∧
    ((x1.S.rel) = (x'.S.rel)) ∧ ((x1.N) = (x'.L)) ∧ ((x1.ks ++ [x1.r]) = (x'.ks)) ∧ ((x1.ll ++ [x1.L]) = (x'.ll)) ∧ True) ∧ (l.length - x'.k < l.length - x.k))))) ((∃ hs1 : List Int, ((Wf x1.S (x1.r :: hs1)) ∧ (∀ S'1 : Arn, (∀ fr : Int, ((Wf S'1 hs1) → ((Kept x1.S S'1) → (((fr + (↑S'1.nu : Int)) = ((↑x1.S.nu : Int))) → (((1 < x1.S.ct x1.r) → (((x1.S.us x1.r) = true) → ((S'1) = (decS x1.S x1.r)))) → ((((x1.S.us x1.r) = false) → ((S'1) = (x1.S))) → (∃ x' : XNk P1, (True ∧ ((True ∧ True ∧ True ∧ ((Value.int IntKind.u32 (x1.i)) = (Value.int IntKind.u32 (x'.r))) ∧ True ∧ True ∧ True ∧ ((Value.int IntKind.i64 (IntKind.i64.wrap ((↑x1.k : Int) + 1))) = (Value.int IntKind.i64 ((↑x'.k : Int)))) ∧ True) ∧ ((l) = (l)) ∧ ((kp) = (kp)) ∧ (True ∧ True ∧ True ∧ ((Value.int IntKind.u64 (S'1.reads)) = (Value.int IntKind.u64 (x'.S.reads))) ∧ True) ∧ (True ∧ True ∧ True ∧ ((Value.int IntKind.u32 (S'1.fresh)) = (Value.int IntKind.u32 (x'.S.fresh))) ∧ True) ∧ ((S'1.nodes) = (x'.S.nodes)) ∧ ((S'1.counts) = (x'.S.counts)) ∧ ((S'1.used) = (x'.S.used)) ∧ ((S'1.gen) = (x'.S.gen)) ∧ ((S'1.rel) = (x'.S.rel)) ∧ ((x1.N) = (x'.L)) ∧ ((x1.ks) = (x'.ks)) ∧ ((x1.ll) = (x'.ll)) ∧ True) ∧ (l.length - x'.k < l.length - x.k)))))))))))))))) ((∃ hs1 : List Int, ((Wf x1.S (x1.r :: hs1)) ∧ (∀ S'1 : Arn, (∀ fr : Int, ((Wf S'1 hs1) → ((Kept x1.S S'1) → (((fr + (↑S'1.nu : Int)) = ((↑x1.S.nu : Int))) → (((1 < x1.S.ct x1.r) → (((x1.S.us x1.r) = true) → ((S'1) = (decS x1.S x1.r)))) → ((((x1.S.us x1.r) = false) →
    ((S'1) = (x1.S))) → (∃ x' : XNk P1, (True ∧ ((True ∧ True ∧ True ∧ ((Value.int IntKind.u32 (x1.i)) = (Value.int IntKind.u32 (x'.r))) ∧ True ∧ True ∧ True ∧ ((Value.int IntKind.i64 (IntKind.i64.wrap ((↑x1.k : Int) + 1))) = (Value.int IntKind.i64 ((↑x'.k : Int)))) ∧ True) ∧ ((l) = (l)) ∧ ((kp) = (kp)) ∧ (True ∧ True ∧ True ∧ ((Value.int IntKind.u64 (S'1.reads)) = (Value.int IntKind.u64 (x'.S.reads))) ∧ True) ∧ (True ∧ True ∧ True ∧ ((Value.int IntKind.u32 (S'1.fresh)) = (Value.int IntKind.u32 (x'.S.fresh))) ∧ True) ∧ ((S'1.nodes) = (x'.S.nodes)) ∧ ((S'1.counts) = (x'.S.counts)) ∧ ((S'1.used) = (x'.S.used)) ∧ ((S'1.gen) = (x'.S.gen)) ∧ ((S'1.rel) = (x'.S.rel)) ∧ ((x1.N) = (x'.L)) ∧ ((x1.ks) = (x'.ks)) ∧ ((x1.ll) = (x'.ll)) ∧ True) ∧ (l.length - x'.k < l.length - x.k))))))))))))))))))))))))))))) ((((x.ks.length + [x.r].length) * bytesOf C0 EC.u32 ≤ 140737488355328) ∧ ((x.ll.length + [x.L].length) * bytesOf C0 EC.hent ≤ 140737488355328) ∧ (exW x.S) ∧ (∀ d : List SlotT, (∀ o : List Int, (((d) = (slotsOf x.S)) → (((o) = (orderOf x.S)) → (∃ hs : List Int, ((Wf x.S hs) ∧ ((x.ks ++ [x.r]).Perm hs) ∧ ((x.ks ++ [x.r]).length ≤ 1000000) ∧ (∃ x1 : XNm P3, (True ∧ (True ∧ True ∧ True ∧ True ∧ ((Value.int IntKind.i64 0) = (Value.int IntKind.i64 ((↑x1.k : Int)))) ∧ True) ∧ ((l) = (l)) ∧ ((kp) = (kp)) ∧ (True ∧ True ∧ True ∧ ((Value.int IntKind.u64 (x.S.reads)) = (Value.int IntKind.u64 (x1.S.reads))) ∧ True) ∧ (True ∧ True ∧ True ∧
    ((Value.int IntKind.u32 (x.S.fresh)) = (Value.int IntKind.u32 (x1.S.fresh))) ∧ True) ∧ ((x.S.nodes) = (x1.S.nodes)) ∧ ((x.S.counts) = (x1.S.counts)) ∧ ((x.S.used) = (x1.S.used)) ∧ ((x.S.gen) = (x1.S.gen)) ∧ ((x.S.rel) = (x1.S.rel)) ∧ ((x.ks ++ [x.r]) = (x1.ks)) ∧ ((x.ll ++ [x.L]) = (x1.ll)) ∧ (True ∧ True ∧ True) ∧ ((d) = (x1.d)) ∧ ((o) = (x1.f)) ∧ True)) ∧ (∀ x1 : XNm P3, (True → (brS (decide ((↑x1.k : Int) < (↑x1.ks.length : Int))) (((0 ≤ (↑x1.k : Int)) ∧ ((↑x1.k : Int) < (↑x1.ks.length : Int)) ∧ (0 ≤ (↑x1.k : Int)) ∧ ((↑x1.k : Int) < (↑x1.ll.length : Int)) ∧ (x1.d.length ≤ 1000000) ∧ (∃ t : Tr, ((RepD x1.d t (x1.ks.getD (↑x1.k : Int).toNat 0)) ∧ (Asc t.list) ∧ (t.Bal) ∧ (t.size ≤ 2 * x1.d.length + 2) ∧ (t.size ≤ 1000000) ∧ ((t.list) = (x1.ll.getD (↑x1.k : Int).toNat [])))) ∧ (∃ x' : XNm P3, (True ∧ ((True ∧ True ∧ True ∧ True ∧ ((Value.int IntKind.i64 (IntKind.i64.wrap ((↑x1.k : Int) + 1))) = (Value.int IntKind.i64 ((↑x'.k : Int)))) ∧ True) ∧ ((l) = (l)) ∧ ((kp) = (kp)) ∧ (True ∧ True ∧ True ∧ ((Value.int IntKind.u64 (x1.S.reads)) = (Value.int IntKind.u64 (x'.S.reads))) ∧ True) ∧ (True ∧ True ∧ True ∧ ((Value.int IntKind.u32 (x1.S.fresh)) = (Value.int IntKind.u32 (x'.S.fresh))) ∧ True) ∧ ((x1.S.nodes) = (x'.S.nodes)) ∧ ((x1.S.counts) = (x'.S.counts)) ∧ ((x1.S.used) = (x'.S.used)) ∧ ((x1.S.gen) = (x'.S.gen)) ∧ ((x1.S.rel) = (x'.S.rel)) ∧ ((x1.ks) = (x'.ks)) ∧ ((x1.ll) = (x'.ll)) ∧ (True ∧ True ∧ True) ∧ ((x1.d) = (x'.d)) ∧ ((x1.f) = (x'.f)) ∧ True) ∧
    (x'.ks.length - x'.k < x1.ks.length - x1.k))))) (((∃ x2 : XNn P4, (True ∧ (True ∧ True ∧ ((Value.int IntKind.i64 0) = (Value.int IntKind.i64 ((↑x2.k : Int)))) ∧ True) ∧ ((l) = (l)) ∧ ((kp) = (kp)) ∧ (True ∧ True ∧ True ∧ ((Value.int IntKind.u64 (x1.S.reads)) = (Value.int IntKind.u64 (x2.S.reads))) ∧ True) ∧ (True ∧ True ∧ True ∧ ((Value.int IntKind.u32 (x1.S.fresh)) = (Value.int IntKind.u32 (x2.S.fresh))) ∧ True) ∧ ((x1.S.nodes) = (x2.S.nodes)) ∧ ((x1.S.counts) = (x2.S.counts)) ∧ ((x1.S.used) = (x2.S.used)) ∧ ((x1.S.gen) = (x2.S.gen)) ∧ ((x1.S.rel) = (x2.S.rel)) ∧ ((x1.ks) = (x2.ks)) ∧ True)) ∧ (∀ x2 : XNn P4, (True → (brS (decide ((↑x2.k : Int) < (↑x2.ks.length : Int))) (((0 ≤ (↑x2.k : Int)) ∧ ((↑x2.k : Int) < (↑x2.ks.length : Int)) ∧ (∃ hs1 : List Int, ((Wf x2.S (x2.ks.getD (↑x2.k : Int).toNat 0 :: hs1)) ∧ (∀ S' : Arn, (∀ fr : Int, ((Wf S' hs1) → ((Kept x2.S S') → (((fr + (↑S'.nu : Int)) = ((↑x2.S.nu : Int))) → (((1 < x2.S.ct (x2.ks.getD (↑x2.k : Int).toNat 0)) → (((x2.S.us (x2.ks.getD (↑x2.k : Int).toNat 0)) = true) → ((S') = (decS x2.S (x2.ks.getD (↑x2.k : Int).toNat 0))))) → ((((x2.S.us (x2.ks.getD (↑x2.k : Int).toNat 0)) = false) → ((S') = (x2.S))) → (∃ x' : XNn P4, (True ∧ ((True ∧ True ∧ ((Value.int IntKind.i64 (IntKind.i64.wrap ((↑x2.k : Int) + 1))) = (Value.int IntKind.i64 ((↑x'.k : Int)))) ∧ True) ∧ ((l) = (l)) ∧ ((kp) = (kp)) ∧ (True ∧ True ∧ True ∧ ((Value.int IntKind.u64 (S'.reads)) = (Value.int IntKind.u64 (x'.S.reads))) ∧ True) ∧ (True ∧ True ∧ True ∧
    ((Value.int IntKind.u32 (S'.fresh)) = (Value.int IntKind.u32 (x'.S.fresh))) ∧ True) ∧ ((S'.nodes) = (x'.S.nodes)) ∧ ((S'.counts) = (x'.S.counts)) ∧ ((S'.used) = (x'.S.used)) ∧ ((S'.gen) = (x'.S.gen)) ∧ ((S'.rel) = (x'.S.rel)) ∧ ((x2.ks) = (x'.ks)) ∧ True) ∧ (x'.ks.length - x'.k < x2.ks.length - x2.k)))))))))))))) (((exW x2.S) ∧ (exW x2.S) ∧ (K (SV.one (TV.at (At.val (Value.bool (x2.S.free == x2.S.cap))))) [(Chunk.row false (EC.edu) (l)), (Chunk.row false (EC.bool) (kp))] [])))))))))))))))))))))))))))))) = _ by kernel_rfl) ?_
  subst hP1 hP2 hP3 hP4
  refine brS_of (fun _ => h) fun c => ?_
  have l60 : l.length ≤ 60 := by have := of_decide_eq_false c; omega
  refine ⟨fun q => by omega, fun _ _ S eS => ⟨⟨⟨S, 0, [], [], [], 0, Nat.zero_le _, by rw [eS]; exact KsR.new⟩, ?_⟩, fun x _ => brS_of (fun z => ?_) fun z => ?_⟩⟩
  · (repeat' first | exact trivial | exact rfl | refine And.intro ?_ ?_)
  · obtain ⟨S, r, L, ks, ll, k, hkl, ka⟩ := x
    dsimp only at z ⊢
    have z : k < l.length := by have := of_decide_eq_true z; omega
    have k6 : k < 60 := by omega
    have fr := ka.free k6
    have ln := ka.ln
    have rd := ka.rd
    have le := ka.le
    have el := ka.el
    rw [show ((k : Int)).toNat = k from rfl]
    have hm : eV l k ∈ l := by
      show l.getD k _ ∈ l
      rw [List.getD_eq_getElem?_getD, List.getElem?_eq_getElem z]; exact List.getElem_mem z
    have hke := hk _ hm
    generalize eV l k = ev at hke ⊢
    have zl : ((r, L) :: ks.zip ll).length ≤ 1000 := by rw [List.length_cons, List.length_zip]; omega
    obtain ⟨t, u, lt, zt, bt⟩ := hld_up ka.hh (x := r) (l := L) (by simp) (by omega) zl (by omega)
    have hht := Bal.height bt (by omega)
    have hH := Hn_rng t.size
    have hH1 := Hn_rng ((t.size : Int) + 1)
    have i1 := iB_Hn t.size
    have d1 := dB_Hn t.size
    have aL : Asc L := ka.hh.asc (r, L) (by simp)
    have kL : Kin L := ka.hh.kin (r, L) (by simp)
    refine ⟨by omega, by omega, by omega, by omega, brS_of (fun dl => ⟨_, t, u, by omega, fun S1 j v f up => ⟨by omega, fun x1 e1 => brS_of (fun c => ?_) fun c => ⟨?_, fun x2 ex => ?_⟩⟩⟩) fun dl => ⟨_, t, u, by omega, fun S1 j o eo tr => ⟨by omega, ⟨⟨S1, r, L, ks, ll, k, j, insE L ev.ent, z, ?_⟩, ?_⟩, fun x2 ex => ?_⟩⟩⟩
    · have nn : getE L ev.ent.1 = none := by
        rw [← e1]
        cases x1 with
        | none => rfl
        | some _ => simp at c
      rcases up with ⟨_, g2, g3, m, hm2, es⟩ | ⟨g1, _⟩
      · rw [wrap_id (x := (k : Int) + 1) (by omega) (by omega)]
        refine bf7 (by rw [g2]; rfl) ⟨⟨S1, r, L, ks, ll, k + 1, z, ka.el, by omega, ?_, by omega, by omega, by have := ka.sm; omega, ?_, ?_⟩, trivial, ?_, Nat.sub_lt_sub_left z (Nat.lt_succ_self k)⟩
        · rw [es]; exact ka.hh.rd (by omega)
        · rw [es]; exact ka.cap
        · rw [es]; show S.reads + (m : Int) ≤ _; omega
        · (repeat' first | exact trivial | exact rfl | refine And.intro ?_ ?_)
      · rw [lt] at g1; exact absurd nn g1
    · have nn : getE L ev.ent.1 ≠ none := fun q => by
        rw [q] at e1
        rw [e1] at c; simp at c
      rcases up with ⟨g1, _⟩ | ⟨_, g2, tr⟩
      · rw [lt] at g1; exact absurd g1 nn
      · have tr : TrR S (((r, L) :: ks.zip ll).map Prod.fst) (outE L ev.ent.1 ev.ent.1) (dB t.size) (5 * dB t.size + ht t + 1) S1 j := by rw [outE_flt]; rw [lt] at tr; exact tr
        refine bf7 (by rw [g2]; rfl) ⟨⟨S1, r, L, ks, ll, k, j, outE L ev.ent.1 ev.ent.1, z, ka.next k6 tr (by omega) (by rw [outE_flt]; exact flt_asc aL) (by rw [outE_flt]; exact kin_flt kL) (by rw [outE_flt]; exact Nat.le_trans flt_len (by omega))⟩, ?_⟩
        (repeat' first | exact trivial | exact rfl | refine And.intro ?_ ?_)
    · obtain ⟨S2, r2, L2, ks2, ll2, k', i2, N2, hk2, kn⟩ := x2
      dsimp only at ex ⊢
      obtain rfl : k = k' := by omega
      have e1 := kn.el
      have e2 := kn.le
      have me : l.length - (k + 1) < l.length - k := Nat.sub_lt_sub_left z (Nat.lt_succ_self k)
      rw [wrap_id (x := (k : Int) + 1) (by omega) (by omega), show ((k : Int)).toNat = k from rfl]
      refine brS_of (fun c => ⟨by omega, of_decide_eq_true c, brS_of (fun _ => ⟨by rw [bytes_u32, List.length_singleton]; omega, by rw [bytes_hent, List.length_singleton]; omega, ⟨S2, i2, N2, _, _, k + 1, hk2, kn.keep⟩, trivial, ?_, me⟩) fun _ => ⟨_, kn.wf, fun S3 fr w3 kp3 _ _ _ => ⟨⟨S3, i2, N2, ks2, ll2, k + 1, hk2, kn.drop w3 kp3⟩, trivial, ?_, me⟩⟩⟩) fun c => ⟨_, kn.wf, fun S3 fr w3 kp3 _ _ _ => ⟨⟨S3, i2, N2, ks2, ll2, k + 1, hk2, kn.drop w3 kp3⟩, trivial, ?_, me⟩⟩
      iterate 3 (· (repeat' first | exact trivial | exact rfl | refine And.intro ?_ ?_))
    · have tr : TrR S (((r, L) :: ks.zip ll).map Prod.fst) (insE L ev.ent) (iB t.size) (5 * iB t.size + ht t + 1) S1 j := by rw [lt] at tr; exact tr
      exact ka.next k6 tr (by omega) (insE_asc _ aL) (kin_ins aL kL hke) (by have := insE_len L ev.ent; omega)
    · (repeat' first | exact trivial | exact rfl | refine And.intro ?_ ?_)
    · obtain ⟨S2, r2, L2, ks2, ll2, k', i2, N2, hk2, kn⟩ := x2
      dsimp only at ex ⊢
      obtain rfl : k = k' := by omega
      have e1 := kn.el
      have e2 := kn.le
      have me : l.length - (k + 1) < l.length - k := Nat.sub_lt_sub_left z (Nat.lt_succ_self k)
      rw [wrap_id (x := (k : Int) + 1) (by omega) (by omega), show ((k : Int)).toNat = k from rfl]
      refine brS_of (fun c => ⟨by omega, of_decide_eq_true c, brS_of (fun _ => ⟨by rw [bytes_u32, List.length_singleton]; omega, by rw [bytes_hent, List.length_singleton]; omega, ⟨S2, i2, N2, _, _, k + 1, hk2, kn.keep⟩, trivial, ?_, me⟩) fun _ => ⟨_, kn.wf, fun S3 fr w3 kp3 _ _ _ => ⟨⟨S3, i2, N2, ks2, ll2, k + 1, hk2, kn.drop w3 kp3⟩, trivial, ?_, me⟩⟩⟩) fun c => ⟨_, kn.wf, fun S3 fr w3 kp3 _ _ _ => ⟨⟨S3, i2, N2, ks2, ll2, k + 1, hk2, kn.drop w3 kp3⟩, trivial, ?_, me⟩⟩
      iterate 3 (· (repeat' first | exact trivial | exact rfl | refine And.intro ?_ ?_))
  · obtain ⟨S, r, L, ks, ll, k, hkl, ka⟩ := x
    dsimp only at z ⊢
    have le := ka.le
    have el := ka.el
    have ez : (ks ++ [r]).length = (ll ++ [L]).length := by simp [el]
    have kz : (ks ++ [r]).length = ks.length + 1 := by simp
    have hZ : Hld S ((ks ++ [r]).zip (ll ++ [L])) := by
      rw [List.zip_append el]
      exact hld_perm ka.hh (List.perm_append_singleton _ _).symm
    have hw : Wf S (ks ++ [r]) := by have := hZ.wf; rw [fst_zip ez] at this; exact this
    have sl := slots_le hw
    refine ⟨by rw [bytes_u32, List.length_singleton]; omega, by rw [bytes_hent, List.length_singleton]; omega, ⟨_, hw⟩, fun d f ed ef => ⟨_, hw, List.Perm.refl _, by omega, ⟨⟨S, ks ++ [r], ll ++ [L], d, f, 0, ez, by omega, Nat.zero_le _, hw, by rw [ed]; omega, fun i hi => by rw [ed]; exact (hld_tree hZ (zip_mem hi ez)).2⟩, ?_⟩, fun x _ => brS_of (fun z => ?_) fun z => ⟨⟨⟨x.S, x.ks, 0, x.h.2.1, Nat.zero_le _, x.h.2.2.2.1⟩, ?_⟩, fun x _ => brS_of (fun z => ?_) fun z => ?_⟩⟩⟩
    · (repeat' first | exact trivial | exact rfl | refine And.intro ?_ ?_)
    · obtain ⟨S, ks, ll, d, f, k, e1, e2, e3, e4, e5, e6⟩ := x
      dsimp only at z ⊢
      have z : k < ks.length := by have := of_decide_eq_true z; omega
      rw [show ((k : Int)).toNat = k from rfl, wrap_id (x := (k : Int) + 1) (by omega) (by omega)]
      refine ⟨by omega, by omega, by omega, by omega, e5, e6 k z, ⟨S, ks, ll, d, f, k + 1, e1, e2, z, e4, e5, e6⟩, trivial, ?_, Nat.sub_lt_sub_left z (Nat.lt_succ_self k)⟩
      (repeat' first | exact trivial | exact rfl | refine And.intro ?_ ?_)
    · (repeat' first | exact trivial | exact rfl | refine And.intro ?_ ?_)
    · obtain ⟨S, ks, k, e2, e3, e4⟩ := x
      dsimp only at z ⊢
      have z : k < ks.length := by have := of_decide_eq_true z; omega
      have ed : ks.drop k = ks.getD k 0 :: ks.drop (k + 1) := by
        rw [List.drop_eq_getElem_cons z, List.getD_eq_getElem?_getD, List.getElem?_eq_getElem z]; rfl
      rw [ed] at e4
      rw [show ((k : Int)).toNat = k from rfl, wrap_id (x := (k : Int) + 1) (by omega) (by omega)]
      refine ⟨by omega, by omega, _, e4, fun S4 fr w4 _ _ _ _ => ⟨⟨S4, ks, k + 1, e2, z, w4⟩, trivial, ?_, Nat.sub_lt_sub_left z (Nat.lt_succ_self k)⟩⟩
      (repeat' first | exact trivial | exact rfl | refine And.intro ?_ ?_)
    · obtain ⟨S, ks, k, e2, e3, e4⟩ := x
      dsimp only at z ⊢
      have z : k = ks.length := by have := of_decide_eq_false z; omega
      rw [z, List.drop_length] at e4
      refine ⟨⟨_, e4⟩, ⟨_, e4⟩, ?_⟩
      rw [e4.empty.2, show (S.cap == S.cap) = true by simp]
      exact h
theorem s_nk : SoundT C0 5 tNk := by
  refine .of Try.func5 (by decide) rfl fun args H K h hB => ?_
  unfold tNk at h
  split at h <;> try exact h.elim
  rename_i l kp
  refine ⟨_, ?_, vc_nk l kp K h.1 h.2⟩
  exact ⟨frame C0.ok s_aw14 _, frame C0.ok s_new _, frame C0.ok s_upDx _, frame C0.ok s_upIn _, frame C0.ok s_del _, frame C0.ok s_ins _, frame C0.ok s_get _, frame C0.ok s_release _, frame C0.ok s_dump _, frame C0.ok s_sound _, frame C0.ok s_tr7 _, frame C0.ok s_free _, frame C0.ok s_cap _, trivial⟩
end Go.Proofs.Ytmjnoiajenoinaa.Sx
end
section
/- What every law's last step leans on. -/
namespace Go.Proofs.Ytmjnoiajenoinaa
open Go.ChangeShapes Go.WideShapes Go.ChangeAt Go.RowKit

theorem ownK : ownKnob Try.prog.godebug = none := by kernel_rfl
theorem laidO : laidOutB Try.prog = true := by kernel_rfl

theorem lit_i64 {a : Int} (h : (Lit.int .i64 a).wf = true) : -9223372036854775808 ≤ a ∧ a ≤ 9223372036854775807 := by
  have h1 : IntKind.i64.min = -9223372036854775808 := rfl
  have h2 : IntKind.i64.max = 9223372036854775807 := rfl
  simp only [Lit.wf, Bool.and_eq_true, decide_eq_true_eq] at h
  omega
end Go.Proofs.Ytmjnoiajenoinaa
end
section
/- From contracts to laws: the arguments as they come, what a law's call leaves. -/
namespace Go.Proofs.Ytmjnoiajenoinaa.Sx
open Go Go.Joins Go.ChangeShapes Go.WideShapes Go.ChangeAt Go.RowKit

theorem Sat.imms {C : Ctx} {w : World} (vs : List Value) (H : List (Chunk C)) (h : ∀ (n : Nat) (c : Chunk C), H[n]? = some c → ∃ e l, c = .row false e l ∧ Imm C w (vs.getD n undef) e l) : Sat C (fun n => vs.getD n undef) (fun _ _ => False) w H where
  holds n c hc := by
    obtain ⟨e, l, rfl, hi⟩ := h n c hc
    exact ⟨hi, fun _ hh => hh⟩
  dis _ _ _ hh := hh.elim
  bd _ _ hh := hh.elim
  imm _ _ _ _ _ _ hh := hh
  out _ _ _ hh := hh
  cl n c hc m hm := by
    obtain ⟨e, l, rfl, _⟩ := h n c hc
    simp [Chunk.names] at hm

theorem lawOf {f : FuncId} {t : Tfm C0} (hs : SoundT C0 f t) {args : List TV} {H : List (Chunk C0)} {vs : List Value} {σ : Nat → Value} {w : World} (ht : ∀ K : KT, K (.one (.at (vB true))) H [] → t args H K)
    (hsat : Sat C0 σ (fun _ _ => False) w H) (hr : Rels (TV.rel σ) args vs) (hn : ∀ x ∈ args, ∀ m ∈ x.names, m < H.length) : Calls Try.prog f vs.toArray w (fun e w' => e = .returned (.bool true) ∧ Below w.heap.size w w') := by
  have hc := hs.call args H (fun r _ _ => r = .one (.at (vB true))) (ht _ rfl) σ _ w vs hsat hr hn
  refine Calls.mono hc fun e w' hh => ?_
  cases e with
  | panicked ch => exact hh.elim
  | outgrown => exact hh.elim
  | returned v =>
    obtain ⟨r, H', ts, σ', φ', hout, rfl⟩ := hh
    have hv : v = .bool true := hout.rel
    exact ⟨by rw [hv], hout.adv.os, hout.adv.tape, hout.adv.output, hout.adv.size, fun k hk => hout.adv.fr k hk fun n hh => hh⟩

section
variable {HH : Type} {enc : TypeId × Value → HH} {P : Program} {w : World} {base b0 : Nat} {spare : Nat → Bool} {held : Bool} {r : Reach}
theorem openRowQ {α : Type} [Inhabited α] {t e : TypeId} {f : α → List Value} {Q : α → Prop} {sz : Nat} {v : Value} {d : DataW HH} {p : List MemPlace} (ht : P.underlying t = some (.slice e)) (hC : P.cellsOf e = sz) (hpos : 0 < sz) (hf : ∀ x, (f x).length = sz)
    (hel : ∀ {n : Nat} {cs : List Value} {x : DataW HH × List MemPlace}, DataW.trod enc P w base spare held n e cs = some x → ∃ a, cs = f a ∧ Q a) (hv : Value.okWide P w r b0 t v) (h : DataW.Trod enc P w base spare held t v d p) :
    ∃ A n c l, v = .slice A n c ∧ Rd f sz w A n c l ∧ ∀ x ∈ l, Q x := by
  obtain ⟨A, n, c, rfl⟩ := okWide_slice ht hv
  obtain ⟨fuel, hh⟩ := h
  have hh : DataW.trod enc P w base spare held fuel t [.slice A n c] = some (d, p) := by simpa [Value.cells] using hh
  rcases Go.Deep.open_slice ht hh with ⟨h1, _⟩ | ⟨a, len, cap, m, k, D, Pl, h1, hb, hle, hm, hmm, hx, hall⟩
  · simp only [List.cons.injEq, Value.slice.injEq, and_true] at h1
    obtain ⟨rfl, rfl, rfl⟩ := h1
    exact ⟨none, 0, 0, [], rfl, Rd.nil hf, fun x hx => by simp at hx⟩
  · simp only [List.cons.injEq, Value.slice.injEq, and_true] at h1
    obtain ⟨rfl, rfl, rfl⟩ := h1
    have hlm : n ≤ m := by rw [hmm]; split <;> omega
    have hel' : ∀ i, i < n → ∃ x : α, w.cells? base (a.add (i * P.cellsOf e)) (P.cellsOf e) = some (f x) ∧ Q x := fun i hi => by
      obtain ⟨cs', hc1, hc2⟩ := hall i (by omega)
      obtain ⟨x, rfl, hq⟩ := hel hc2
      exact ⟨x, hc1, hq⟩
    obtain ⟨F, hF⟩ := Go.Deep.choose_lt hel'
    have cell : ∀ i, i < n → ∀ j, j < sz → w.cell? ((a.add (i * sz)).add j) = (f (F i))[j]? := fun i hi j hj => by
      have h2 := (hF i hi).1
      rw [hC] at h2
      unfold World.cells? at h2
      split at h2
      · exact mapM_some_get h2 j j (by simp [hj])
      · cases h2
    refine ⟨some a, n, c, (List.range n).map F, rfl, ⟨by simp, hle, hm, hf, fun h => (by cases h), fun hn => ?_⟩, fun x hx => by obtain ⟨i, hi, rfl⟩ := List.mem_map.1 hx; exact (hF i (List.mem_range.1 hi)).2⟩
    obtain ⟨b, o, sp⟩ := a
    have hsome : ∀ i, i < n → ∀ j, j < sz → ∃ u, w.cell? (((⟨b, o, sp⟩ : Addr).add (i * sz)).add j) = some u := fun i hi j hj => by
      rw [cell i hi j hj]
      exact ⟨_, List.getElem?_eq_getElem (by rw [hf]; exact hj)⟩
    obtain ⟨u0, hu0⟩ := hsome 0 hn 0 hpos
    have hspot : sp = none := by simpa [Addr.add] using World.cell?_spot hu0
    subst hspot
    refine ⟨b, o, rfl, ?_, fun k x hx j u hu => ?_⟩
    · have hu1 : w.cell? ⟨b, o, none⟩ = some u0 := by simpa [Addr.add] using hu0
      unfold World.cell? at hu1
      split at hu1
      · rename_i hb2
        exact (Array.getElem?_eq_some_iff.1 hb2).1
      · cases hu1
    · rw [List.getElem?_map] at hx
      have hk : k < n := by
        rcases Nat.lt_or_ge k n with h2 | h2
        · exact h2
        · rw [List.getElem?_eq_none (by simpa using h2)] at hx; cases hx
      rw [List.getElem?_range hk] at hx
      simp only [Option.map_some, Option.some.injEq] at hx
      subst hx
      have hj : j < sz := by
        have := (List.getElem?_eq_some_iff.1 hu).1
        rwa [hf] at this
      have h3 := cell k hk j hj
      rw [hu] at h3
      rw [← h3]
      congr 1
      rw [Go.WideShapes.add_plain, Go.WideShapes.add_plain]
theorem openRow {α : Type} [Inhabited α] {t e : TypeId} {f : α → List Value} {sz : Nat} {v : Value} {d : DataW HH} {p : List MemPlace} (ht : P.underlying t = some (.slice e)) (hC : P.cellsOf e = sz) (hpos : 0 < sz) (hf : ∀ x, (f x).length = sz)
    (hel : ∀ {n : Nat} {cs : List Value} {x : DataW HH × List MemPlace}, DataW.trod enc P w base spare held n e cs = some x → ∃ a, cs = f a) (hv : Value.okWide P w r b0 t v) (h : DataW.Trod enc P w base spare held t v d p) :
    ∃ A n c l, v = .slice A n c ∧ Rd f sz w A n c l := by
  obtain ⟨A, n, c, l, h1, h2, _⟩ := openRowQ (Q := fun _ => True) ht hC hpos hf (fun h => by obtain ⟨a, e⟩ := hel h; exact ⟨a, e, trivial⟩) hv h
  exact ⟨A, n, c, l, h1, h2⟩
end

section
variable {HH : Type} {enc : TypeId × Value → HH} {w : World} {base b0 : Nat} {spare : Nat → Bool} {held : Bool} {r : Reach}
set_option maxRecDepth 100000 in
theorem elEw {n : Nat} {cs : List Value} {x : DataW HH × List MemPlace} (h : DataW.trod enc Try.prog w base spare held n 61 cs = some x) :
    ∃ a : Ent, cs = EC.enc .ent a ∧ ((-9223372036854775808 ≤ a.1 ∧ a.1 ≤ 9223372036854775807) ∧ (-9223372036854775808 ≤ a.2 ∧ a.2 ≤ 9223372036854775807)) := by
  obtain ⟨y0, y1, m, _, hl, h0, h1⟩ := trod_struct2 Try.underlying61 h
  obtain ⟨k, e0, _, w0⟩ := DataW.trod_int Try.underlying2 h0
  obtain ⟨v, e1, _, w1⟩ := DataW.trod_int Try.underlying2 h1
  have hl : cs.length = 2 := hl.trans (by kernel_rfl)
  have c1 : Try.prog.cellsOf 2 = 1 := by kernel_rfl
  match cs, hl with
  | [a, b], _ =>
    simp [c1] at e0 e1
    exact ⟨(k, v), by rw [e0, e1]; rfl, lit_i64 w0, lit_i64 w1⟩
instance : Inhabited Chg := ⟨⟨0, 0, 0, 0⟩⟩
end
end Go.Proofs.Ytmjnoiajenoinaa.Sx
end
section
/- Opening arguments that are slices of edits (cursor, update), of steps (compact), of numbers, of truth values. -/
namespace Go.Proofs.Ytmjnoiajenoinaa.Sx
open Go Go.Joins Go.ChangeShapes Go.WideShapes Go.ChangeAt Go.RowKit

section
variable {HH : Type} {enc : TypeId × Value → HH} {w : World} {base b0 : Nat} {spare : Nat → Bool} {held : Bool} {r : Reach}
instance : Inhabited EduT := ⟨⟨false, (0, 0)⟩⟩
instance : Inhabited LStepT := ⟨⟨false, 0, 0, 0, 0⟩⟩
set_option maxRecDepth 100000 in
theorem elU {n : Nat} {cs : List Value} {x : DataW HH × List MemPlace} (h : DataW.trod enc Try.prog w base spare held n 63 cs = some x) : ∃ a : EduT, cs = EC.enc .edu a ∧ ((-9223372036854775808 ≤ a.ent.1 ∧ a.ent.1 ≤ 9223372036854775807) ∧ (-9223372036854775808 ≤ a.ent.2 ∧ a.ent.2 ≤ 9223372036854775807)) := by
  obtain ⟨y0, y1, m, _, hl, h0, h1⟩ := trod_struct2 Try.underlying63 h
  obtain ⟨k, e0, _⟩ := DataW.trod_bool Try.underlying4 h0
  obtain ⟨s, e2, q2⟩ := elEw h1
  have hl : cs.length = 3 := hl.trans (by kernel_rfl)
  have c1 : Try.prog.cellsOf 4 = 1 := by kernel_rfl
  have c3 : Try.prog.cellsOf 61 = 2 := by kernel_rfl
  match cs, hl with
  | [a, c, d], _ =>
    simp [c1, c3] at e0 e2
    have e2 : [c, d] = [Value.int .i64 s.1, Value.int .i64 s.2] := e2
    simp only [List.cons.injEq, and_true] at e2
    exact ⟨⟨k, s⟩, by rw [e0, e2.1, e2.2]; rfl, q2⟩
set_option maxRecDepth 100000 in
theorem openU {v : Value} {d : DataW HH} {p : List MemPlace} (hv : Value.okWide Try.prog w r b0 56 v) (h : DataW.Trod enc Try.prog w base spare held 56 v d p) :
    ∃ (l : List EduT), Imm C0 w v EC.edu l ∧ ∀ x ∈ l, (-9223372036854775808 ≤ x.ent.1 ∧ x.ent.1 ≤ 9223372036854775807) ∧ (-9223372036854775808 ≤ x.ent.2 ∧ x.ent.2 ≤ 9223372036854775807) := by
  obtain ⟨A, n, c, l, rfl, hr, hq⟩ := openRowQ (α := EduT) (f := fun x => EC.enc .edu x) (sz := 3) Try.underlying56 (by kernel_rfl) (by decide) (fun _ => rfl) (fun h => elU h) hv h
  obtain rfl := hr.len
  exact ⟨l, ⟨A, c, rfl, hr⟩, hq⟩
set_option maxRecDepth 100000 in
theorem openB {v : Value} {d : DataW HH} {p : List MemPlace} (hv : Value.okWide Try.prog w r b0 57 v) (h : DataW.Trod enc Try.prog w base spare held 57 v d p) :
    ∃ (l : List Bool), Imm C0 w v EC.bool l := by
  obtain ⟨A, n, c, l, rfl, hr⟩ := openRow (α := Bool) (f := fun x => EC.enc .bool x) (sz := 1) Try.underlying57 (by kernel_rfl) (by decide) (fun _ => rfl) (fun h => by obtain ⟨k, e0, _⟩ := DataW.trod_bool Try.underlying4 h; exact ⟨k, e0⟩) hv h
  obtain rfl := hr.len
  exact ⟨l, ⟨A, c, rfl, hr⟩⟩
end
end Go.Proofs.Ytmjnoiajenoinaa.Sx
end
section
/- 'UpdateSequence': the law returns true for every input, and its arguments read afterwards as they read before. -/
namespace Go.Proofs.Ytmjnoiajenoinaa.updateSequence
open Go.ChangeShapes Go.WideShapes Go.ChangeAt Go.RowKit Sx

set_option maxRecDepth 100000 in
theorem lifted (os : Os) (started : os.Started) (H : Type) (enc : TypeId × Value → H) :
    ReturnsInHanded {} Try.checked os 5 .any (Rows.updateSequenceSpec.pre6 enc Try.prog Try.f5 Rows.updateSequenceRow.domain false) (Rows.updateSequenceSpec.post enc Try.prog Try.f5 false true false false) := by
  refine returnsInHanded_of_change (C := Try.checked) ownK started (by kernel_rfl) Try.func5
    (ChangeSpec.witness6 (enc := enc) (C := Try.checked) false ⟨#[], #[.slice none 0 0, .slice none 0 0], []⟩ 8 (by kernel_rfl) (by kernel_rfl) (by kernel_rfl) (by kernel_rfl)) ?_
  intro W base args ds gs before hval0 hW hcnd _
  have hval : ∀ (j : Nat) t v, Try.f5.params[j]? = some t → args[j]? = some v → Value.okWide Try.prog W .any base t v := hval0
  have hW' := hW
  obtain ⟨p, q, hA0, hV, rfl, hfz, hnd⟩ := hW
  have hA : DataW.TrodAll enc Try.prog W 0 (fun _ => true) true Try.f5.params.toList args.toList ds p := hA0
  rw [Try.params5] at hA hval
  obtain ⟨v0, vs0, d0, ds0, p0, q0, hargs, rfl, rfl, h0, r0⟩ := trodAll_cons hA
  obtain ⟨v1, vs1, d1, ds1, p1, q1, rfl, rfl, rfl, h1, r1⟩ := trodAll_cons r0
  obtain ⟨rfl, rfl, rfl⟩ := trodAll_nil r1
  obtain rfl : args = #[v0, v1] := by cases args; simp_all
  obtain ⟨rfl, rfl⟩ := trodVars_none hV
  have k0 := h0
  have k1 := h1
  clear hA0 hval0
  simp only [List.append_nil] at hW'
  have hlt : ∀ x ∈ p0 ++ (p1), x.block < W.heap.size := fun x hx => by simpa using hW'.lt x (by simpa using hx)
  have l0 : ∀ x ∈ p0, x.block < W.heap.size := fun x hx => hlt x (by simp [hx])
  have l1 : ∀ x ∈ p1, x.block < W.heap.size := fun x hx => hlt x (by simp [hx])
  obtain ⟨L0, R0, Q0⟩ := openU (hval 0 56 v0 rfl rfl) h0
  obtain ⟨L1, R1⟩ := openB (hval 1 57 v1 rfl rfl) h1
  refine (lawOf s_nk (args := [.at (.slc 0), .at (.slc 1)]) (H := [Chunk.row false EC.edu L0, Chunk.row false EC.bool L1]) (vs := [v0, v1]) (σ := fun n => [v0, v1].getD n undef) (w := W) (fun K h => ⟨fun x hx => (Q0 x hx).1, h⟩)
    (Sat.imms [v0, v1] _ fun n c hc => by match n, hc with | 0, hc => exact ⟨_, _, (Option.some.inj hc).symm, R0⟩ | 1, hc => exact ⟨_, _, (Option.some.inj hc).symm, R1⟩ | n + 2, hc => simp at hc) (Rels.cons rfl (Rels.cons rfl Rels.nil)) (by simp [TV.names, At.names])).mono fun e W' ⟨he, hg⟩ => ?_
  subst he
  exact ⟨_, rfl, _, _, _, [] ++ [], _, [], hW', (trodAll_cons_mk (shut_bool Try.underlying4 true) trodAll_mk0), (trodAll_cons_mk (Below.trod laidO (by kernel_rfl) (of_decide_eq_true (by kernel_rfl)) k0 hg l0) (trodAll_cons_mk (Below.trod laidO (by kernel_rfl) (of_decide_eq_true (by kernel_rfl)) k1 hg l1) trodAll_mk0)), rfl, hg.frame _, fun h => by cases h⟩

theorem over : Rows.updateSequenceRow.holds Try.pinned (OpenSpec.ofChange Rows.updateSequenceSpec) :=
  OpenClaim.holds_of_wide 5 Try.f5 rfl rfl rfl rfl rfl rfl rfl ⟨rfl, rfl, rfl, rfl, rfl⟩ rfl rfl rfl rfl rfl (by kernel_rfl) Try.func5 (by kernel_rfl)
    (of_decide_eq_true (by kernel_rfl)) (by unfold Func.isWrapper; first | (rw [if_pos (by decide +kernel)]; kernel_rfl) | (rw [if_neg (by decide +kernel)]; exact ⟨rfl, rfl⟩))
    (fun os started H enc _ => lifted os started H enc)

theorem proved : Rows.UpdateSequenceSaid := over
#print axioms proved
end Go.Proofs.Ytmjnoiajenoinaa.updateSequence
end
