/- A part of the proof. -/
import Derived.Test.YtmjnoiajenoinaaG11
import Derived.Test.YtmjnoiajenoinaaG8
import Derived.Test.YtmjnoiajenoinaaG5
import Derived.Test.YtmjnoiajenoinaaG10
import Derived.Test.YtmjnoiajenoinaaG6
import Derived.Test.YtmjnoiajenoinaaG9
import Derived.Test.YtmjnoiajenoinaaProg
import Derived.Test.YtmjnoiajenoinaaChecked
import Derived.WalkKit
import Derived.ProofKit
import Derived.OpenShut
import Derived.SizedLaws
import Derived.Carry
import Derived.Test.YtmjnoiajenoinaaG4
import Derived.Deep.Slices
import Derived.Lib.SmallJoins
import Derived.Test.YtmjnoiajenoinaaRows
section
/- The law that Delete deletes. -/
namespace Go.Proofs.Ytmjnoiajenoinaa.Sx
open Go

/-KEEP Wf exW inU live Arn.cap Arn.free Rep rdS retL Tr.size Tr.list slotsOf orderOf PlantR newS insE outE listE getE TrR upM Hn keptD Asc Tr.Bal ht dB RepD List.Perm-/
structure XUe (P : Arn → Int → List Ent → Int → Prop) where
  S : Arn
  i : Int
  l : List Ent
  need : Int
  k : Int
  h : P S i l need
structure UdS where
  S0 : Arn
  S : Arn
  root : Int
  l : List Ent
  need : Int
  k : Int
  v : Int
  is : Bool
  d : List SlotT
  o : List Int
  r : Int
  i : Int
  w : Int
  f : Int
structure XUd (P : UdS → Prop) where
  z : UdS
  h : P z
structure XUw (P : UdS → Int → Prop) where
  z : UdS
  want : Int
  h : P z want
end Go.Proofs.Ytmjnoiajenoinaa.Sx
end
section
/- update.Increase, and the laws that updates increase, commute and share. -/
namespace Go.Proofs.Ytmjnoiajenoinaa.Sx
open Go

/-KEEP Wf exW inU live Arn.cap Arn.free Rep rdS retL Tr.size Tr.list slotsOf orderOf PlantR newS insE outE listE getE TrR upM Hn keptD Asc Tr.Bal ht dB iB RepD List.Perm flt neK-/
structure XUc (P : Arn → Int → List Ent → Prop) where
  S : Arn
  i : Int
  l : List Ent
  k : Int
  h : P S i l
/-! ### The law that Increase increases -/
theorem Hn_le {n m : Nat} (h : n ≤ m) : Hn n ≤ Hn m := by
  have a := gN_size n
  have b := gN_size m
  have c := gN_mono (v := n + 1) (w := m + 1) (by omega) (by omega)
  omega
end Go.Proofs.Ytmjnoiajenoinaa.Sx
end
section
/- Building and listing trees where there is room. -/
namespace Go.Proofs.Ytmjnoiajenoinaa.Sx
open Go

theorem Hld.new {c : Nat} (h1 : 1 ≤ c) (h2 : c ≤ 65536) : Hld (newS c) [] := ⟨Wf.new h1 h2, fun _ h => (by cases h), fun _ h => (by cases h), fun _ h => (by cases h)⟩
end Go.Proofs.Ytmjnoiajenoinaa.Sx
end
section
/- Edits: what stays in range. No program in sight. -/
namespace Go.Proofs.Ytmjnoiajenoinaa.Sx
open Go

theorem kin_ins {l : List Ent} {e : Ent} (ha : Asc l) (h : Kin l) (he : -9223372036854775808 ≤ e.1 ∧ e.1 ≤ 9223372036854775807) : Kin (insE l e) := fun x hx => by
  rcases insE_mem ha hx with rfl | c
  · exact he
  · exact h x c
def KinD (l : List EdtT) : Prop := ∀ e ∈ l, -9223372036854775808 ≤ e.ent.1 ∧ e.ent.1 ≤ 9223372036854775807
end Go.Proofs.Ytmjnoiajenoinaa.Sx
end
section
/- law20: edit, fork, awake; merges where there is room. -/
namespace Go.Proofs.Ytmjnoiajenoinaa.Sx
open Go

/-KEEP EdM Wf Kept exW inU live Arn.cap Arn.free Rep rdS retL Tr.size Tr.list Tr.Bal Asc Kin KinD PlantR listE newS insE outE flt neK getE TrR Got upM Hn iB dB ht min MgM needM confE mergeE BuildR-/
structure EdM (S : Arn) (hs : List Int) (x : Int) (l : List Ent) (ed : List EdtT) (I : Nat) : Prop where
  wf : Wf S hs
  tree : ∃ t, Rep S t x ∧ t.list = l ∧ t.Bal
  asc : Asc l
  kin : Kin l
  kd : KinD ed
  len : l.length ≤ 60
  hl : hs.length ≤ 1000
  rd : S.reads ≤ 1000000
  i4 : 4 * (Hn ((l.length + 9 : Nat) : Int) + 2) ≤ (I : Int)
  i60 : I ≤ 100
  free : ((8 * I : Nat) : Int) ≤ S.free
structure XE1 (P : Nat → Arn → Int → List Ent → Prop) where
  i : Nat
  S : Arn
  y : Int
  m : List Ent
  h : P i S y m
structure XE2 (P : Nat → Arn → Int → Int → List Ent → Prop) where
  i : Nat
  S : Arn
  y : Int
  z : Int
  m : List Ent
  h : P i S y z m
/-- Three trees of one arena, with their entries. -/
structure FkR (S : Arn) (b o t : Int) (lb lo lt : List Ent) (sp : Int) : Prop where
  h : Hld S [(t, lt), (o, lo), (b, lb)]
  sb : lb.length ≤ 60
  so : lo.length ≤ 68
  st : lt.length ≤ 68
  rd : S.reads ≤ 20000
  free : sp ≤ S.free
  cap : lb.length + sp + 144 ≤ S.cap
  top : S.cap ≤ lb.length + sp + 1100
structure XF0 (P : Arn → Int → Prop) where
  S : Arn
  b : Int
  h : P S b
structure XF1 (P : Arn → Int → Int → List Ent → Prop) where
  S : Arn
  b : Int
  o : Int
  lo : List Ent
  h : P S b o lo
structure XF2 (P : Arn → Int → Int → Int → List Ent → List Ent → Prop) where
  S : Arn
  b : Int
  o : Int
  t : Int
  lo : List Ent
  lt : List Ent
  h : P S b o t lo lt
end Go.Proofs.Ytmjnoiajenoinaa.Sx
end
section
/- What compacting keeps: trees, and all that is held. -/
namespace Go.Proofs.Ytmjnoiajenoinaa
open Go
variable {S B : Arn} {hs hb l : List Int} {c : Int}
theorem cp_rep (cp : CpB S l c l.length hb B) (ls : LsN S l) (hw : Wf S hs) : ∀ {t : Tr} {j : Int}, Rep S t j → (j = 0 ∨ j ∈ l) → Rep B t (plcN l j)
  | .nil, j, h, _ => by
    have h : j = 0 := h
    subst h
    exact ls.plc0 hw
  | .node a k v b, j, h, hj => by
    obtain ⟨u, h1, h2, h3, h4⟩ := h
    have jm : j ∈ l := hj.resolve_left fun e => by
      rw [e, hw.us0 (Int.le_refl 0)] at u; cases u
    obtain ⟨g1, g2⟩ := plcN_get jm
    obtain ⟨_, o1, o2⟩ := ls.ord _ j g1
    have r := plcN_rng l j
    have en := cp.nd _ j (by omega) g1
    rw [show (((plcN l j - 1).toNat : Nat) : Int) + 1 = plcN l j by omega] at en
    refine ⟨(cp.us _).2 ⟨g2, r.2⟩, by rw [en]; exact h1, by rw [en]; exact h2, ?_, ?_⟩
    · rw [en]
      exact cp_rep cp ls hw h3 ((Rep.us h3).imp id fun u => List.mem_of_mem_take (o1 u))
    · rw [en]
      exact cp_rep cp ls hw h4 ((Rep.us h4).imp id fun u => List.mem_of_mem_take (o2 u))
end Go.Proofs.Ytmjnoiajenoinaa
end
section
/- Law CompactContinues. -/
namespace Go.Proofs.Ytmjnoiajenoinaa.Sx
open Go

/-KEEP Wf Kept exW inU allV live rdS retL Arn.cap Arn.free Rep Tr.size Tr.list Tr.Bal Asc Kin listE insE getE TrR Got Hn ht upM MgM needM confE mergeE sameB NumsA NmB NmR CpO PlantR newS okRt slotsOf orderOf RepD MgF Hld iB-/
def MgF (S : Arn) (hs : List Int) (lb lo lt : List Ent) (pol : Int) (S' : Arn) (i : Int) (c : List Int) (e : Int) : Prop :=
  c = confE lb lo lt ∧ ((pol = 3 ∧ confE lb lo lt ≠ [] ∧ e = 10 ∧ i = 0 ∧ ∃ m, m ≤ 2000000 ∧ S' = rdS S m) ∨ (¬ (pol = 3 ∧ confE lb lo lt ≠ []) ∧ e = 0 ∧ TrR S hs (mergeE lb lo lt pol) 65537 2000000000 S' i))
structure XNe (P : Arn → Int → Int → Int → Prop) where
  S : Arn
  r : Int
  x : Int
  y : Int
  h : P S r x y
structure XNf (P : Arn → Int → Int → Int → Arn → List Int → Int → Prop) where
  S : Arn
  r : Int
  x : Int
  y : Int
  B : Arn
  o : List Int
  p : Int
  h : P S r x y B o p
structure XNg (P : Arn → Arn → Int → Int → List Int → List Int → Int → Int → Prop) where
  S : Arn
  B : Arn
  m : Int
  n : Int
  c : List Int
  d : List Int
  j : Int
  k : Int
  h : P S B m n c d j k
theorem hld_up {S : Arn} {E : List (Int × List Ent)} {x : Int} {l : List Ent} (h : Hld S E) (hx : (x, l) ∈ E) (hl : l.length ≤ 60000) (hE : E.length ≤ 1000) (hr : S.reads ≤ 1000000000000000000) : ∃ t, upM S (E.map Prod.fst) t x ∧ t.list = l ∧ t.size = l.length ∧ t.Bal := by
  obtain ⟨t, rp, lt, bt⟩ := h.rep _ hx
  have lt : t.list = l := lt
  have sz : t.size = l.length := by rw [← t.list_len, lt]
  exact ⟨t, ⟨h.wf, rp, bt, by rw [lt]; exact h.asc _ hx, by omega, by simp; omega, hr⟩, lt, sz, bt⟩
theorem hld_plant {c : Nat} {S : Arn} {l : List Ent} {i : Int} (h : PlantR (newS c) [] l S i) (la : Asc l) (lk : Kin l) : Hld S [(i, l)] where
  wf := h.wf
  rep p hp := by rw [List.mem_singleton.1 hp]; exact h.rep
  asc p hp := by rw [List.mem_singleton.1 hp]; exact la
  kin p hp := by rw [List.mem_singleton.1 hp]; exact lk
/-- What is held in the old arena is held in the new one. -/
theorem Hld.cpt {S S' B : Arn} {E F : List (Int × List Ent)} {c : Int} {l o : List Int} (h : Hld S E) (hF : ∀ p ∈ F, p ∈ E) (cp : CpO S (F.map Prod.fst) c S' B l o) : Hld B (F.map fun p => (plcN l p.1, p.2)) where
  wf := by
    have w := cp.cp.wf
    rw [cp.eo, List.map_map] at w
    rw [List.map_map]; exact w
  rep q hq := by
    obtain ⟨p, hp, rfl⟩ := List.mem_map.1 hq
    obtain ⟨t, rp, lt, bt⟩ := h.rep p (hF p hp)
    refine ⟨t, cp_rep cp.cp (LsN.of h.wf cp.num) h.wf rp (rp.us.imp id fun u => cp.num.roots _ (List.mem_map.2 ⟨p, hp, rfl⟩) u), lt, bt⟩
  asc q hq := by
    obtain ⟨p, hp, rfl⟩ := List.mem_map.1 hq
    exact h.asc p (hF p hp)
  kin q hq := by
    obtain ⟨p, hp, rfl⟩ := List.mem_map.1 hq
    exact h.kin p (hF p hp)
def LsT (S : Arn) (m : Int) (M : List Ent) : Prop := exW S ∧ (slotsOf S).length ≤ 1000000 ∧ ∃ t, RepD (slotsOf S) t m ∧ t.size ≤ 1000000 ∧ t.list = M
theorem MgF.ls {S S' : Arn} {hs c : List Int} {lb lo lt : List Ent} {pol i e : Int} (w : Wf S hs) (hr : S.reads ≤ 2000000) (h : MgF S hs lb lo lt pol S' i c e) :
    c = confE lb lo lt ∧ (e = if pol = 3 ∧ confE lb lo lt ≠ [] then 10 else 0) ∧ LsT S' i (if pol = 3 ∧ confE lb lo lt ≠ [] then [] else mergeE lb lo lt pol) := by
  obtain ⟨h1, h2⟩ := h
  refine ⟨h1, ?_⟩
  rcases h2 with ⟨a, b, c, d, m, hm, es⟩ | ⟨a, b, tr⟩
  · rw [if_pos ⟨a, b⟩, if_pos ⟨a, b⟩]
    have w' : Wf S' hs := by rw [es]; exact w.rd (by omega)
    have sl := slots_le w'
    exact ⟨c, ⟨_, w'⟩, by omega, .nil, d, by simp [Tr.size], rfl⟩
  · rw [if_neg a, if_neg a]
    have w' := tr.got.wf
    have sl := slots_le w'
    obtain ⟨t, rp, lt, bt⟩ := tr.tree
    obtain ⟨u, u1, _, _, _, u2, u3⟩ := tr_tree w' rp lt bt (mergeE_asc ..)
    exact ⟨b, ⟨_, w'⟩, by omega, u, u1, u2, u3⟩
end Go.Proofs.Ytmjnoiajenoinaa.Sx
end
section
/- Compacting what was compacted: the same arena. -/
namespace Go.Proofs.Ytmjnoiajenoinaa
open Go
section
variable {us us' : Int → Bool} {lf rg lf' rg' f : Int → Int} {P : Int → Prop}
theorem NumG.map (h1 : ∀ i, P i → us' (f i) = us i) (h2 : ∀ i, P i → us i = true → P (lf i) ∧ P (rg i) ∧ lf' (f i) = f (lf i) ∧ rg' (f i) = f (rg i)) (h3 : ∀ i j, P i → P j → us i = true → f i = f j → i = j)
    {i : Int} {acc a : List Int} (h : NumG us lf rg i acc a) (hi : P i) (ha : ∀ j ∈ acc, P j) : NumG us' lf' rg' (f i) (acc.map f) (a.map f) ∧ ∀ j ∈ a, P j := by
  induction h with
  | skip q => exact ⟨.skip (q.imp (fun e => (h1 _ hi).trans e) fun m => List.mem_map.2 ⟨_, m, rfl⟩), ha⟩
  | @go i acc a1 a2 u n k1 k2 ih1 ih2 =>
    obtain ⟨p1, p2, e1, e2⟩ := h2 i hi u
    obtain ⟨g1, q1⟩ := ih1 p1 ha
    obtain ⟨g2, q2⟩ := ih2 p2 q1
    refine ⟨?_, fun j hj => ?_⟩
    · rw [List.map_append]
      refine .go ((h1 i hi).trans u) (fun m => ?_) (by rw [e1]; exact g1) (by rw [e2]; exact g2)
      obtain ⟨j, hj, e⟩ := List.mem_map.1 m
      exact n (h3 i j hi (ha j hj) u e.symm ▸ hj)
    · rcases List.mem_append.1 hj with hj | hj
      · exact q2 j hj
      · rw [List.mem_singleton.1 hj]; exact hi
theorem NumsG.map (h1 : ∀ i, P i → us' (f i) = us i) (h2 : ∀ i, P i → us i = true → P (lf i) ∧ P (rg i) ∧ lf' (f i) = f (lf i) ∧ rg' (f i) = f (rg i)) (h3 : ∀ i j, P i → P j → us i = true → f i = f j → i = j)
    {r acc a : List Int} (h : NumsG us lf rg r acc a) (hr : ∀ i ∈ r, P i) (ha : ∀ j ∈ acc, P j) : NumsG us' lf' rg' (r.map f) (acc.map f) (a.map f) := by
  induction h with
  | nil => exact .nil
  | cons k1 _ ih =>
    obtain ⟨g1, q1⟩ := k1.map h1 h2 h3 (hr _ (List.mem_cons_self ..)) ha
    exact .cons g1 (ih (fun i hi => hr i (List.mem_cons_of_mem _ hi)) q1)
end
theorem hsI_get {n k : Nat} (h : k < n) : (hsI 0 n)[k]? = some ((k : Int) + 1) := by
  unfold hsI
  rw [List.drop_zero, List.getElem?_map, List.getElem?_range h]; rfl
theorem hsI_nd (n : Nat) : (hsI 0 n).Nodup := by
  unfold hsI
  rw [List.drop_zero]
  exact List.pairwise_map.2 (List.nodup_range.imp fun {a b} h e => h (by omega))
theorem hsI_plc {n : Nat} {p : Int} (h0 : 0 ≤ p) (h1 : p ≤ n) : plcN (hsI 0 n) p = p := by
  rcases Int.lt_or_eq_of_le h0 with z | z
  · have e := hsI_get (n := n) (k := (p - 1).toNat) (by omega)
    rw [show (((p - 1).toNat : Nat) : Int) + 1 = p by omega] at e
    rw [plcN_at (hsI_nd n) e]; omega
  · rw [← z]
    refine plcN_none fun m => ?_
    unfold hsI at m
    obtain ⟨q, _, e⟩ := List.mem_map.1 m
    have e : (q : Int) + 1 = 0 := e
    omega
theorem map_plc {l : List Int} (h : l.Nodup) : l.map (plcN l) = hsI 0 l.length := by
  refine List.ext_getElem? fun k => ?_
  rw [List.getElem?_map]
  rcases Nat.lt_or_ge k l.length with z | z
  · rw [hsI_get z, List.getElem?_eq_getElem z]
    show some (plcN l l[k]) = _
    rw [plcN_at h (List.getElem?_eq_getElem z)]
  · rw [List.getElem?_eq_none z, List.getElem?_eq_none (by rw [hsI_len]; omega)]; rfl
variable {S B C : Arn} {hs l o o2 rs : List Int} {c : Int} {n : Nat}
theorem cp_num (hw : Wf S hs) (hn : NumsA S rs [] l) (ok : ∀ r ∈ rs, r = 0 ∨ S.us r = true) (cp : CpB S l c l.length o B) : NumsA B (rs.map (plcN l)) [] (hsI 0 l.length) := by
  have ls := LsN.of hw hn
  rw [← map_plc ls.nd]
  have z : S.us 0 = false := hw.us0 (Int.le_refl 0)
  have z0 := ls.plc0 hw
  refine NumsG.map (P := fun i => i = 0 ∨ i ∈ l) (fun i hi => ?_) (fun i hi u => ?_) (fun i j hi hj u e => ?_) hn (fun i hi => (ok i hi).imp id fun u => hn.roots i hi u) (by simp)
  · rcases hi with e | m
    · rw [e, z0, z]; exact cp.wf.us0 (Int.le_refl 0)
    · rw [ls.used i m]
      exact (cp.us _).2 ⟨(plcN_get m).2, (plcN_rng l i).2⟩
  · have m : i ∈ l := hi.resolve_left fun e => by rw [e, z] at u; cases u
    obtain ⟨g1, g2⟩ := plcN_get m
    have r := plcN_rng l i
    obtain ⟨_, o1, o2⟩ := ls.ord _ i g1
    have kd := hw.kid i u
    have en := cp.nd _ i (by omega) g1
    rw [show (((plcN l i - 1).toNat : Nat) : Int) + 1 = plcN l i by omega] at en
    refine ⟨kd.1.imp id fun u => List.mem_of_mem_take (o1 u), kd.2.imp id fun u => List.mem_of_mem_take (o2 u), ?_, ?_⟩
    · show (B.nd (plcN l i)).left = _; rw [en]; rfl
    · show (B.nd (plcN l i)).right = _; rw [en]; rfl
  · have m : i ∈ l := hi.resolve_left fun e => by rw [e, z] at u; cases u
    exact plcN_inj m e
theorem cp_kid (cp : CpB S l c l.length o B) {p : Nat} (hp : p < l.length) : (0 ≤ (B.nd ((p : Int) + 1)).left ∧ (B.nd ((p : Int) + 1)).left ≤ l.length) ∧ 0 ≤ (B.nd ((p : Int) + 1)).right ∧ (B.nd ((p : Int) + 1)).right ≤ l.length := by
  rw [cp.nd p _ hp (List.getElem?_eq_getElem hp)]
  exact ⟨plcN_rng _ _, plcN_rng _ _⟩
/-- The second arena's nodes are the first one's. -/
theorem cp_nodes (cp : CpB S l c l.length o B) (cq : CpB B (hsI 0 l.length) c l.length o2 C) : B.nodes = C.nodes := by
  have e1 := cp.wf.nnod
  have e2 := cq.wf.nnod
  have e3 := cp.len
  have e4 := cq.len
  have key : ∀ i : Int, B.nd i = C.nd i := fun i => by
    cases u : B.us i with
    | false =>
      have v : C.us i = false := by
        cases v : C.us i with
        | false => rfl
        | true => rw [(cp.us i).2 ((cq.us i).1 v)] at u; cases u
      rw [cp.wf.zero i u, cq.wf.zero i v]
    | true =>
      have r := (cp.us i).1 u
      obtain ⟨p, rfl⟩ : ∃ p : Nat, i = (p : Int) + 1 := ⟨(i - 1).toNat, by omega⟩
      have k := cp_kid cp (p := p) (by omega)
      rw [cq.nd p _ (by omega) (hsI_get (by omega))]
      unfold cpN lfA rgA
      rw [hsI_plc k.1.1 k.1.2, hsI_plc k.2.1 k.2.2]
  refine List.ext_getElem (by omega) fun i h1 h2 => ?_
  have := key (i : Int)
  unfold Arn.nd at this
  rw [show ((i : Int)).toNat = i from rfl, List.getD_eq_getElem?_getD, List.getD_eq_getElem?_getD, List.getElem?_eq_getElem h1, List.getElem?_eq_getElem h2] at this
  exact this
theorem cp_dump (cp : CpB S l c l.length o B) (cq : CpB B (hsI 0 l.length) c l.length o C) : Sx.slotsOf B = Sx.slotsOf C ∧ Sx.orderOf B = Sx.orderOf C := by
  have en := cp_nodes cp cq
  have e3 := cp.len
  have e4 := cq.len
  have us : ∀ i, B.us i = C.us i := fun i => by
    cases u : C.us i with
    | true => exact (cp.us i).2 ((cq.us i).1 u)
    | false =>
      cases v : B.us i with
      | false => rfl
      | true => rw [(cq.us i).2 ((cp.us i).1 v)] at u; cases u
  constructor
  · unfold Sx.slotsOf Sx.ncap
    rw [show B.used.length = C.used.length by omega]
    refine List.map_congr_left fun k _ => ?_
    unfold Sx.slotAt
    have g : B.gn ((k : Int) + 1) = C.gn ((k : Int) + 1) := by rw [cp.gn _ (by omega), cq.gn _ (by omega)]
    have nd : B.nd ((k : Int) + 1) = C.nd ((k : Int) + 1) := by unfold Arn.nd; rw [en]
    rw [us, g, nd]
    cases u : C.us ((k : Int) + 1) with
    | false => rfl
    | true =>
      have a := (cp.wf.cnt _ ((us _).trans u)).1
      have b := (cq.wf.cnt _ u).1
      have i : B.indeg ((k : Int) + 1) = C.indeg ((k : Int) + 1) := by unfold Arn.indeg; rw [en]
      rw [a, b, i]
  · unfold Sx.orderOf Sx.orderL
    rw [cp.rel, cq.rel, cp.fresh, cq.fresh, show B.used.length = C.used.length by omega]
end Go.Proofs.Ytmjnoiajenoinaa
end
section
/- Law CompactKeepsTrees. -/
namespace Go.Proofs.Ytmjnoiajenoinaa.Sx
open Go

/-KEEP Wf Kept exW inU allV live rdS retL decS Arn.cap Arn.free Rep Tr.size Tr.list Tr.Bal Asc Kin listE insE getE TrR Got Hn ht upM sameB NumsA NmB NmR CpO PlantR newS okRt slotsOf orderOf RepD Hld iB minO eN List.Perm-/
abbrev eN (l : List Ent) (n : Nat) : Ent := l.getD n (0, 0)
structure XNh (P : Arn → Int → List Int → List (List Ent) → Nat → Prop) where
  S : Arn
  r : Int
  rs : List Int
  ll : List (List Ent)
  k : Nat
  h : P S r rs ll k
structure XNi (P : Arn → Int → List Int → List (List Ent) → Arn → List Int → Int → Prop) where
  S : Arn
  r : Int
  rs : List Int
  ll : List (List Ent)
  B : Arn
  o : List Int
  m : Int
  h : P S r rs ll B o m
structure XNj (P : Arn → Int → List Int → List (List Ent) → Arn → List Int → List SlotT → List Int → Nat → Prop) where
  S : Arn
  r : Int
  rs : List Int
  ll : List (List Ent)
  B : Arn
  o : List Int
  d : List SlotT
  f : List Int
  k : Nat
  h : P S r rs ll B o d f k
abbrev hfN (raw oth L0 : List Ent) (S : Arn) (rs : List Int) (ll : List (List Ent)) : List (Chunk C0) := [.row false EC.ent raw, .row false EC.ent oth] ++ chSk 2 S ++ [.row false EC.ent L0, .row true EC.u32 rs, .rows EC.hent EC.ent ll]
noncomputable def aNf (P1 P0 : Arn → Int → List Int → List (List Ent) → Nat → Prop) (P2 P3 : Arn → Int → List Int → List (List Ent) → Arn → List Int → Int → Prop) (P4 : Arn → Int → List Int → List (List Ent) → Arn → List Int → List SlotT → List Int → Nat → Prop) (raw oth L0 : List Ent) : Ann C0 := { quiet := [9999999, 21, 24, 26, 34, 27, 18, 35, 33], Γ := [(36, frameT [] tLst), (38, frameT [] (tRes1 4 1)), (37, frameT [] tGrow), (12, frameT [] tAw29), (32, frameT [] tUpIn), (33, frameT [] tIns), (16, frameT [] tNdd), (15, frameT [] tCpOk), (26, frameT [] tSameU), (21, frameT [] tDump), (24, frameT [] tSameD), (34, frameT [] tTr7), (14, frameT [] tRelease), (18, frameT [] tFree), (35, frameT [] tCap), (27, frameT [] tSound)], inv := fun n => match n with
  | 8 => some { X := XNh P1, sl := [7, 9, 10, 12, 13, 14], tf := fun x => [.one (.at (.slc 9)), .one (.at (.ptr 2 0)), vi .u32 x.r, .one (.at (.slc 10)), .one (.at (.slc 11)), vi .i64 x.k], hf := fun x => hfN raw oth L0 x.S x.rs x.ll, μ := fun x => 8 - x.k }
  | 1013 => some { X := XNh P0, sl := [7, 9, 10, 12, 13, 14, 15], tf := fun x => [.one (.at (.slc 9)), .one (.at (.ptr 2 0)), vi .u32 (x.rs.getD 0 0), .one (.at (.slc 10)), .one (.at (.slc 11)), vi .i64 x.k, vi .u32 x.r], hf := fun x => hfN raw oth L0 x.S x.rs x.ll, rel := fun T _ x => slotI T 14 x.k }
  | 1018 => some { X := XNi P2, sl := [7, 9, 10, 12, 13, 19, 20, 21], tf := fun x => [.one (.at (.slc 9)), .one (.at (.ptr 2 0)), vi .u32 x.r, .one (.at (.slc 10)), .one (.at (.slc 11)), vi .i64 x.m, .one (.at (.ptr 12 0)), .one (.at (.slc 19))], hf := fun x => hfN raw oth L0 x.S x.rs x.ll ++ chSk 12 x.B ++ [.row true EC.u32 x.o] }
  | 1021 => some { X := XNi P3, sl := [7, 9, 10, 12, 13, 20, 21], tf := fun x => [.one (.at (.slc 9)), .one (.at (.ptr 2 0)), vi .u32 x.r, .one (.at (.slc 10)), .one (.at (.slc 11)), .one (.at (.ptr 12 0)), .one (.at (.slc 19))], hf := fun x => hfN raw oth L0 x.S x.rs x.ll ++ chSk 12 x.B ++ [.row false EC.u32 x.o] }
  | 23 => some { X := XNj P4, sl := [7, 9, 10, 12, 13, 20, 21, 26, 27], tf := fun x => [.one (.at (.slc 9)), .one (.at (.ptr 2 0)), vi .u32 x.r, .one (.at (.slc 10)), .one (.at (.slc 11)), .one (.at (.ptr 12 0)), .one (.at (.slc 19)), .one (.at (.ptr 20 0)), vi .i64 x.k], hf := fun x => hfN raw oth L0 x.S x.rs x.ll ++ chSk 12 x.B ++ [.row false EC.u32 x.o, .box [.slc 21, .slc 22], .row false EC.slot x.d, .row false EC.u32 x.f], μ := fun x => x.o.length - x.k }
  | _ => none }
def tNf : Tfm C0 := fun args H K => match args, H with
  | [.at (.slc 0), .at (.slc 1), .at (.val (.int .u64 t))], [.row false .ent raw, .row false .ent oth] => 0 ≤ t ∧ Kin raw ∧ Kin oth ∧ K (.one (.at (vB true))) [.row false EC.ent raw, .row false EC.ent oth] []
  | _, _ => False
def lkN (L0 oth : List Ent) : Nat → List Ent
  | 0 => L0
  | k + 1 => insE (lkN L0 oth k) (eN oth k)
def lsK (L0 oth : List Ent) (k : Nat) : List (List Ent) := (List.range (k + 1)).map (lkN L0 oth)
section
variable {L0 oth : List Ent} {rs : List Int} {ll : List (List Ent)} {S S' : Arn} {E F : List (Int × List Ent)}
theorem lsK_len (k : Nat) : (lsK L0 oth k).length = k + 1 := by simp [lsK]
theorem lsK_snoc (k : Nat) : lsK L0 oth (k + 1) = lsK L0 oth k ++ [lkN L0 oth (k + 1)] := by simp [lsK, List.range_succ]
theorem lsK_at {i k : Nat} (h : i ≤ k) : (lsK L0 oth k).getD i [] = lkN L0 oth i := by
  unfold lsK
  rw [List.getD_eq_getElem?_getD, List.getElem?_map, List.getElem?_range (by omega)]; rfl
theorem lkN_len (k : Nat) : (lkN L0 oth k).length ≤ L0.length + k := by
  induction k with
  | zero => exact Nat.le_refl _
  | succ k ih => have := insE_len (lkN L0 oth k) (eN oth k); show (insE _ _).length ≤ _; omega
theorem lkN_asc (h : Asc L0) (k : Nat) : Asc (lkN L0 oth k) := by
  induction k with
  | zero => exact h
  | succ k ih => exact insE_asc _ ih
theorem lkN_kin (h : Asc L0) (hk : Kin L0) (ho : Kin oth) : ∀ k : Nat, k ≤ oth.length → Kin (lkN L0 oth k)
  | 0, _ => hk
  | k + 1, h1 => by
    refine kin_ins (lkN_asc h k) (lkN_kin h hk ho k (by omega)) (ho _ ?_)
    show oth.getD k (0, 0) ∈ oth
    rw [List.getD_eq_getElem?_getD, List.getElem?_eq_getElem (by omega)]
    exact List.getElem_mem _
theorem zip_mem {i : Nat} (h : i < rs.length) (e : rs.length = ll.length) : (rs.getD i 0, ll.getD i []) ∈ rs.zip ll := by
  refine List.mem_of_getElem? (i := i) ?_
  rw [List.getElem?_zip_eq_some]
  exact ⟨getD_sm h, getD_sm (by omega)⟩
theorem fst_zip (e : rs.length = ll.length) : (rs.zip ll).map Prod.fst = rs := List.map_fst_zip (by omega)
theorem hld_perm (h : Hld S E) (p : E.Perm F) : Hld S F where
  wf := h.wf.perm (p.map _)
  rep q hq := h.rep q (p.mem_iff.2 hq)
  asc q hq := h.asc q (p.mem_iff.2 hq)
  kin q hq := h.kin q (p.mem_iff.2 hq)
theorem hld_tree (h : Hld S E) {x : Int} {l : List Ent} (hx : (x, l) ∈ E) : (slotsOf S).length ≤ 1000000 ∧ ∃ t, RepD (slotsOf S) t x ∧ Asc t.list ∧ t.Bal ∧ t.size ≤ 2 * (slotsOf S).length + 2 ∧ t.size ≤ 1000000 ∧ t.list = l := by
  obtain ⟨t, rp, lt, bt⟩ := h.rep _ hx
  have sl := slots_le h.wf
  exact ⟨by omega, tr_tree h.wf rp lt bt (h.asc _ hx)⟩
end
def nO (oth : List Ent) : Nat := min oth.length 8
theorem nO_eq (oth : List Ent) : (if 8 < (oth.length : Int) then 8 else (oth.length : Int)) = ((nO oth : Nat) : Int) := by unfold nO; split <;> omega
structure PNa (L0 oth : List Ent) (p : Int) (S : Arn) (rs : List Int) (ll : List (List Ent)) (k : Nat) : Prop where
  len : rs.length = k + 1
  el : ll = lsK L0 oth k
  hh : Hld S (rs.zip ll)
  rd : S.reads ≤ 3000 * (k : Int)
  cap : S.cap ≤ 20000
  fr : ((nO oth : Int) + 1 - k) * p ≤ S.free
def PNh1 (L0 oth : List Ent) (p : Int) : Arn → Int → List Int → List (List Ent) → Nat → Prop := fun S r rs ll k => k ≤ nO oth ∧ r = rs.getD 0 0 ∧ PNa L0 oth p S rs ll k
def PNh0 (L0 oth : List Ent) (p : Int) : Arn → Int → List Int → List (List Ent) → Nat → Prop := fun S j rs ll k => k < nO oth ∧ rs.length = k + 1 ∧ ll = lsK L0 oth k ∧ PNa L0 oth p S (rs ++ [j]) (lsK L0 oth (k + 1)) (k + 1)
structure PNb (L0 : List Ent) (S : Arn) (r : Int) (rs : List Int) (ll : List (List Ent)) (o : List Int) : Prop where
  el : rs.length = ll.length
  pos : 0 < rs.length
  le : rs.length ≤ 9
  er : r = rs.getD 0 0
  e0 : ll.getD 0 [] = L0
  hh : Hld S (rs.zip ll)
  eo : o.length = rs.length
def PNi2 (L0 : List Ent) : Arn → Int → List Int → List (List Ent) → Arn → List Int → Int → Prop := fun S r rs ll B o m => PNb L0 S r rs ll o ∧ Hld B (o.zip ll) ∧ m ≤ 65000 ∧ B.reads = 0 ∧ ∃ S0 hs l, Wf S0 hs ∧ LsN S0 l ∧ NumsA B o [] (hsI 0 l.length) ∧ m = l.length ∧ CpB S0 l (m + 1) l.length o B
def PNi3 (L0 : List Ent) : Arn → Int → List Int → List (List Ent) → Arn → List Int → Int → Prop := fun S r rs ll B o _ => PNb L0 S r rs ll o ∧ Hld B (o.zip ll)
def PNj (L0 : List Ent) : Arn → Int → List Int → List (List Ent) → Arn → List Int → List SlotT → List Int → Nat → Prop := fun S r rs ll B o d _ k => PNb L0 S r rs ll o ∧ k ≤ o.length ∧ Wf B (o.drop k) ∧ d.length ≤ 1000000 ∧ ∀ i < o.length, ∃ t, RepD d t (o.getD i 0) ∧ Asc t.list ∧ t.Bal ∧ t.size ≤ 2 * d.length + 2 ∧ t.size ≤ 1000000 ∧ t.list = ll.getD i []
theorem vc_nf (raw oth : List Ent) (t : Int) (K : KT) (h0 : 0 ≤ t) (hk : Kin raw) (ho : Kin oth) (h : K (.one (.at (vB true))) [.row false EC.ent raw, .row false EC.ent oth] []) :
    vc C0 (aNf (PNh1 (listE raw 80) oth (4 * (Hn (((listE raw 80).length : Int) + nO oth + 1) + 2))) (PNh0 (listE raw 80) oth (4 * (Hn (((listE raw 80).length : Int) + nO oth + 1) + 2))) (PNi2 (listE raw 80)) (PNi3 (listE raw 80)) (PNj (listE raw 80)) raw oth (listE raw 80)) Try.f6 [.at (.slc 0), .at (.slc 1), .at (vU64 t)] [.row false EC.ent raw, .row false EC.ent oth] (normK 2 K) := by
  generalize hP1 : PNh1 (listE raw 80) oth (4 * (Hn (((listE raw 80).length : Int) + nO oth + 1) + 2)) = P1
  generalize hP0 : PNh0 (listE raw 80) oth (4 * (Hn (((listE raw 80).length : Int) + nO oth + 1) + 2)) = P0
  generalize hP2 : PNi2 (listE raw 80) = P2
  generalize hP3 : PNi3 (listE raw 80) = P3
  generalize hP4 : PNj (listE raw 80) = P4
  refine Eq.mp (show (((0 : Int) ≤ 80) ∧
((80 : Int) ≤ 1000000) ∧
(0 ≤ IntKind.i64.wrap ((↑(listE raw (Int.toNat 80)).length : Int) + if 8 < (↑oth.length : Int) then 8 else (↑oth.length : Int))) ∧
(IntKind.i64.wrap ((↑(listE raw (Int.toNat 80)).length : Int) + if 8 < (↑oth.length : Int) then 8 else (↑oth.length : Int)) ≤ 65536) ∧
(∀ p : Int, (((p) = (4 * (Hn (IntKind.i64.wrap ((↑(listE raw (Int.toNat 80)).length : Int) + if 8 < (↑oth.length : Int) then 8 else (↑oth.length : Int)) + 1) + 2))) → ((0 ≤ t) ∧ (1 ≤ IntKind.i64.wrap (1 + IntKind.i64.wrap (IntKind.i64.wrap ((if 8 < (↑oth.length : Int) then 8 else (↑oth.length : Int)) + 1) * p))) ∧ (IntKind.i64.wrap (1 + IntKind.i64.wrap (IntKind.i64.wrap ((if 8 < (↑oth.length : Int) then 8 else (↑oth.length : Int)) + 1) * p)) ≤ 30000) ∧ ((listE raw (Int.toNat 80)).length ≤ 30000) ∧ (∀ S' : Arn, (∀ i : Int, ((PlantR (newS ((↑(listE raw (Int.toNat 80)).length : Int) + IntKind.i64.wrap (1 + IntKind.i64.wrap (IntKind.i64.wrap ((if 8 < (↑oth.length : Int) then 8 else (↑oth.length : Int)) + 1) * p))).toNat) [] (listE raw (Int.toNat 80)) S' i) → ((∃ x : XNh P1, (True ∧ (True ∧ True ∧ ((Value.int IntKind.i64 (if 8 < (↑oth.length : Int) then 8 else (↑oth.length : Int))) = (Value.int IntKind.i64 (if 8 < (↑oth.length : Int) then 8 else (↑oth.length : Int)))) ∧ True ∧ ((Value.int IntKind.u32 (i)) = (Value.int IntKind.u32 (x.r))) ∧ True ∧ True ∧ ((Value.int IntKind.i64 0) = (Value.int IntKind.i64 ((↑x.k : Int)))) ∧ True) ∧ ((raw) = (raw)) ∧ ((oth) = (oth)) ∧ (True ∧
    True ∧ True ∧ ((Value.int IntKind.u64 (S'.reads)) = (Value.int IntKind.u64 (x.S.reads))) ∧ True) ∧ (True ∧ True ∧ True ∧ ((Value.int IntKind.u32 (S'.fresh)) = (Value.int IntKind.u32 (x.S.fresh))) ∧ True) ∧ ((S'.nodes) = (x.S.nodes)) ∧ ((S'.counts) = (x.S.counts)) ∧ ((S'.used) = (x.S.used)) ∧ ((S'.gen) = (x.S.gen)) ∧ ((S'.rel) = (x.S.rel)) ∧ ((listE raw (Int.toNat 80)) = (listE raw 80)) ∧ ([(i)] = (x.rs)) ∧ ([(listE raw (Int.toNat 80))] = (x.ll)) ∧ True)) ∧ (∀ x : XNh P1, (True → (brS (decide ((↑x.k : Int) < if 8 < (↑oth.length : Int) then 8 else (↑oth.length : Int))) (((0 ≤ (↑x.k : Int)) ∧ ((↑x.k : Int) < (↑x.rs.length : Int)) ∧ (0 ≤ (↑x.k : Int)) ∧ ((↑x.k : Int) < (↑oth.length : Int)) ∧ (∃ hs : List Int, (∃ t1 : Tr, ((upM x.S hs t1 (x.rs.getD (↑x.k : Int).toNat 0)) ∧ (4 * (Hn ((↑t1.size : Int) + 1) + 2) ≤ x.S.free) ∧ (∀ S'1 : Arn, (∀ j : Int, (∀ o : Option Int, (((o) = (getE t1.list (eN oth (↑x.k : Int).toNat).fst)) → ((TrR x.S hs (insE t1.list (eN oth (↑x.k : Int).toNat)) (iB t1.size) (5 * iB t1.size + ht t1 + 1) S'1 j) → ((∃ x1 : XNh P0, ((((↑x.k : Int)) = ((↑x1.k : Int))) ∧ (True ∧ True ∧ ((Value.int IntKind.i64 (if 8 < (↑oth.length : Int) then 8 else (↑oth.length : Int))) = (Value.int IntKind.i64 (if 8 < (↑oth.length : Int) then 8 else (↑oth.length : Int)))) ∧ True ∧ ((Value.int IntKind.u32 (x.r)) = (Value.int IntKind.u32 (x1.rs.getD 0 0))) ∧ True ∧ True ∧ ((Value.int IntKind.i64 ((↑x.k : Int))) = (Value.int IntKind.i64 ((↑x1.k : Int)))) ∧
    ((Value.int IntKind.u32 (j)) = (Value.int IntKind.u32 (x1.r))) ∧ True) ∧ ((raw) = (raw)) ∧ ((oth) = (oth)) ∧ (True ∧ True ∧ True ∧ ((Value.int IntKind.u64 (S'1.reads)) = (Value.int IntKind.u64 (x1.S.reads))) ∧ True) ∧ (True ∧ True ∧ True ∧ ((Value.int IntKind.u32 (S'1.fresh)) = (Value.int IntKind.u32 (x1.S.fresh))) ∧ True) ∧ ((S'1.nodes) = (x1.S.nodes)) ∧ ((S'1.counts) = (x1.S.counts)) ∧ ((S'1.used) = (x1.S.used)) ∧ ((S'1.gen) = (x1.S.gen)) ∧ ((S'1.rel) = (x1.S.rel)) ∧ ((listE raw 80) = (listE raw 80)) ∧ ((x.rs) = (x1.rs)) ∧ ((x.ll) = (x1.ll)) ∧ True)) ∧ (∀ x1 : XNh P0, ((((↑x.k : Int)) = ((↑x1.k : Int))) → ((0 ≤ (↑x1.k : Int)) ∧ ((↑x1.k : Int) < (↑x1.ll.length : Int)) ∧ (0 ≤ (↑x1.k : Int)) ∧ ((↑x1.k : Int) < (↑oth.length : Int)) ∧ ((((x1.rs.length + [x1.r].length) * bytesOf C0 EC.u32 ≤ 140737488355328) ∧ ((x1.ll.getD (↑x1.k : Int).toNat []).length ≤ 1000000) ∧ ((x1.ll.length + [insE (x1.ll.getD (↑x1.k : Int).toNat []) (eN oth (↑x1.k : Int).toNat)].length) * bytesOf C0 EC.hent ≤ 140737488355328) ∧ (∃ x' : XNh P1, (True ∧ ((True ∧ True ∧ ((Value.int IntKind.i64 (if 8 < (↑oth.length : Int) then 8 else (↑oth.length : Int))) = (Value.int IntKind.i64 (if 8 < (↑oth.length : Int) then 8 else (↑oth.length : Int)))) ∧ True ∧ ((Value.int IntKind.u32 (x1.rs.getD 0 0)) = (Value.int IntKind.u32 (x'.r))) ∧ True ∧ True ∧ ((Value.int IntKind.i64 (IntKind.i64.wrap ((↑x1.k : Int) + 1))) = (Value.int IntKind.i64 ((↑x'.k : Int)))) ∧ True) ∧ ((raw) = (raw)) ∧ ((oth) = (oth)) ∧ (True ∧ True ∧
    True ∧ ((Value.int IntKind.u64 (x1.S.reads)) = (Value.int IntKind.u64 (x'.S.reads))) ∧ True) ∧ (True ∧ True ∧ True ∧ ((Value.int IntKind.u32 (x1.S.fresh)) = (Value.int IntKind.u32 (x'.S.fresh))) ∧ True) ∧ ((x1.S.nodes) = (x'.S.nodes)) ∧ ((x1.S.counts) = (x'.S.counts)) ∧ ((x1.S.used) = (x'.S.used)) ∧ ((x1.S.gen) = (x'.S.gen)) ∧ ((x1.S.rel) = (x'.S.rel)) ∧ ((listE raw 80) = (listE raw 80)) ∧ ((x1.rs ++ [x1.r]) = (x'.rs)) ∧ ((x1.ll ++ [insE (x1.ll.getD (↑x1.k : Int).toNat []) (eN oth (↑x1.k : Int).toNat)]) = (x'.ll)) ∧ True) ∧ (8 - x'.k < 8 - x.k)))) ∧ ((x1.rs.length + [x1.r].length) * bytesOf C0 EC.u32 ≤ 140737488355328) ∧ ((x1.ll.getD (↑x1.k : Int).toNat []).length ≤ 1000000) ∧ ((x1.ll.length + [insE (x1.ll.getD (↑x1.k : Int).toNat []) (eN oth (↑x1.k : Int).toNat)].length) * bytesOf C0 EC.hent ≤ 140737488355328) ∧ (∃ x' : XNh P1, (True ∧ ((True ∧ True ∧ ((Value.int IntKind.i64 (if 8 < (↑oth.length : Int) then 8 else (↑oth.length : Int))) = (Value.int IntKind.i64 (if 8 < (↑oth.length : Int) then 8 else (↑oth.length : Int)))) ∧ True ∧ ((Value.int IntKind.u32 (x1.rs.getD 0 0)) = (Value.int IntKind.u32 (x'.r))) ∧ True ∧ True ∧ ((Value.int IntKind.i64 (IntKind.i64.wrap ((↑x1.k : Int) + 1))) = (Value.int IntKind.i64 ((↑x'.k : Int)))) ∧ True) ∧ ((raw) = (raw)) ∧ ((oth) = (oth)) ∧ (True ∧ True ∧ True ∧ ((Value.int IntKind.u64 (x1.S.reads)) = (Value.int IntKind.u64 (x'.S.reads))) ∧ True) ∧ (True ∧ True ∧ True ∧
    ((Value.int IntKind.u32 (x1.S.fresh)) = (Value.int IntKind.u32 (x'.S.fresh))) ∧ True) ∧ ((x1.S.nodes) = (x'.S.nodes)) ∧ ((x1.S.counts) = (x'.S.counts)) ∧ ((x1.S.used) = (x'.S.used)) ∧ ((x1.S.gen) = (x'.S.gen)) ∧ ((x1.S.rel) = (x'.S.rel)) ∧ ((listE raw 80) = (listE raw 80)) ∧ ((x1.rs ++ [x1.r]) = (x'.rs)) ∧ ((x1.ll ++ [insE (x1.ll.getD (↑x1.k : Int).toNat []) (eN oth (↑x1.k : Int).toNat)]) = (x'.ll)) ∧ True) ∧ (8 - x'.k < 8 - x.k)))) ∧ ((x1.rs.length + [x1.r].length) * bytesOf C0 EC.u32 ≤ 140737488355328) ∧ ((x1.ll.getD (↑x1.k : Int).toNat []).length ≤ 1000000) ∧ ((x1.ll.length + [insE (x1.ll.getD (↑x1.k : Int).toNat []) (eN oth (↑x1.k : Int).toNat)].length) * bytesOf C0 EC.hent ≤ 140737488355328) ∧ (∃ x' : XNh P1, (True ∧ ((True ∧ True ∧ ((Value.int IntKind.i64 (if 8 < (↑oth.length : Int) then 8 else (↑oth.length : Int))) = (Value.int IntKind.i64 (if 8 < (↑oth.length : Int) then 8 else (↑oth.length : Int)))) ∧ True ∧ ((Value.int IntKind.u32 (x1.rs.getD 0 0)) = (Value.int IntKind.u32 (x'.r))) ∧ True ∧ True ∧ ((Value.int IntKind.i64 (IntKind.i64.wrap ((↑x1.k : Int) + 1))) = (Value.int IntKind.i64 ((↑x'.k : Int)))) ∧ True) ∧ ((raw) = (raw)) ∧ ((oth) = (oth)) ∧ (True ∧ True ∧ True ∧ ((Value.int IntKind.u64 (x1.S.reads)) = (Value.int IntKind.u64 (x'.S.reads))) ∧ True) ∧ (True ∧ True ∧ True ∧ ((Value.int IntKind.u32 (x1.S.fresh)) = (Value.int IntKind.u32 (x'.S.fresh))) ∧ True) ∧ ((x1.S.nodes) = (x'.S.nodes)) ∧ ((x1.S.counts) = (x'.S.counts)) ∧ ((x1.S.used) = (x'.S.used)) ∧
    ((x1.S.gen) = (x'.S.gen)) ∧ ((x1.S.rel) = (x'.S.rel)) ∧ ((listE raw 80) = (listE raw 80)) ∧ ((x1.rs ++ [x1.r]) = (x'.rs)) ∧ ((x1.ll ++ [insE (x1.ll.getD (↑x1.k : Int).toNat []) (eN oth (↑x1.k : Int).toNat)]) = (x'.ll)) ∧ True) ∧ (8 - x'.k < 8 - x.k))))))))))))))))) (((NmB x.S x.rs) ∧ (∀ S'1 : Arn, (∀ l : List Int, (∀ n : Int, ((NmR x.S x.rs S'1 l) → (((n) = ((↑l.length : Int))) → ((NmB S'1 x.rs) ∧ (okRt S'1 x.rs) ∧ (1 ≤ IntKind.i64.wrap (n + 1)) ∧ (IntKind.i64.wrap (n + 1) ≤ 65536) ∧ (∃ l1 : List Int, ((NumsA S'1 x.rs [] l1) ∧ ((↑l1.length : Int) ≤ IntKind.i64.wrap (n + 1)))) ∧ (∀ S'2 : Arn, (∀ B : Arn, (∀ l1 : List Int, (∀ o : List Int, ((CpO S'1 x.rs (IntKind.i64.wrap (n + 1)) S'2 B l1 o) → ((brS ((↑o.length : Int) != (↑x.rs.length : Int)) ((K (SV.one (TV.at (At.val (Value.bool false)))) [(Chunk.row false (EC.ent) (raw)), (Chunk.row false (EC.ent) (oth))] [])) ((∃ x1 : XNi P2, (True ∧ (True ∧ True ∧ ((Value.int IntKind.u32 (x.r)) = (Value.int IntKind.u32 (x1.r))) ∧ True ∧ True ∧ ((Value.int IntKind.i64 (n)) = (Value.int IntKind.i64 (x1.m))) ∧ True ∧ True ∧ True) ∧ ((raw) = (raw)) ∧ ((oth) = (oth)) ∧ (True ∧ True ∧ True ∧ ((Value.int IntKind.u64 (S'2.reads)) = (Value.int IntKind.u64 (x1.S.reads))) ∧ True) ∧ (True ∧ True ∧ True ∧ ((Value.int IntKind.u32 (S'2.fresh)) = (Value.int IntKind.u32 (x1.S.fresh))) ∧ True) ∧ ((S'2.nodes) = (x1.S.nodes)) ∧ ((S'2.counts) = (x1.S.counts)) ∧ ((S'2.used) = (x1.S.used)) ∧ ((S'2.gen) = (x1.S.gen)) ∧ ((S'2.rel) = (x1.S.rel)) ∧
    ((listE raw 80) = (listE raw 80)) ∧ ((x.rs) = (x1.rs)) ∧ ((x.ll) = (x1.ll)) ∧ (True ∧ True ∧ True ∧ ((Value.int IntKind.u64 (B.reads)) = (Value.int IntKind.u64 (x1.B.reads))) ∧ True) ∧ (True ∧ True ∧ True ∧ ((Value.int IntKind.u32 (B.fresh)) = (Value.int IntKind.u32 (x1.B.fresh))) ∧ True) ∧ ((B.nodes) = (x1.B.nodes)) ∧ ((B.counts) = (x1.B.counts)) ∧ ((B.used) = (x1.B.used)) ∧ ((B.gen) = (x1.B.gen)) ∧ ((B.rel) = (x1.B.rel)) ∧ ((o) = (x1.o)) ∧ True)))) ∧ (∀ x1 : XNi P2, (True → ((NmB x1.B x1.o) ∧ (okRt x1.B x1.o) ∧ (1 ≤ IntKind.i64.wrap (x1.m + 1)) ∧ (IntKind.i64.wrap (x1.m + 1) ≤ 65536) ∧ (∃ l2 : List Int, ((NumsA x1.B x1.o [] l2) ∧ ((↑l2.length : Int) ≤ IntKind.i64.wrap (x1.m + 1)))) ∧ (∀ S'3 : Arn, (∀ B1 : Arn, (∀ l2 : List Int, (∀ o1 : List Int, ((CpO x1.B x1.o (IntKind.i64.wrap (x1.m + 1)) S'3 B1 l2 o1) → ((((x1.o) = (o1)) ∧ (x1.o.length ≤ 1000000) ∧ (exW S'3) ∧ (∀ d : List SlotT, (∀ o2 : List Int, (((d) = (slotsOf S'3)) → (((o2) = (orderOf S'3)) → ((exW B1) ∧ (∀ d1 : List SlotT, (∀ o3 : List Int, (((d1) = (slotsOf B1)) → (((o3) = (orderOf B1)) → (((d) = (d1)) ∧ ((o2) = (o3)) ∧ (d.length ≤ 1000000) ∧ (o2.length ≤ 1000000) ∧ (∃ x2 : XNi P3, (True ∧ (True ∧ True ∧ ((Value.int IntKind.u32 (x1.r)) = (Value.int IntKind.u32 (x2.r))) ∧ True ∧ True ∧ True ∧ True ∧ True) ∧ ((raw) = (raw)) ∧ ((oth) = (oth)) ∧ (True ∧ True ∧ True ∧ ((Value.int IntKind.u64 (x1.S.reads)) = (Value.int IntKind.u64 (x2.S.reads))) ∧ True) ∧ (True ∧ True ∧ True ∧
    ((Value.int IntKind.u32 (x1.S.fresh)) = (Value.int IntKind.u32 (x2.S.fresh))) ∧ True) ∧ ((x1.S.nodes) = (x2.S.nodes)) ∧ ((x1.S.counts) = (x2.S.counts)) ∧ ((x1.S.used) = (x2.S.used)) ∧ ((x1.S.gen) = (x2.S.gen)) ∧ ((x1.S.rel) = (x2.S.rel)) ∧ ((listE raw 80) = (listE raw 80)) ∧ ((x1.rs) = (x2.rs)) ∧ ((x1.ll) = (x2.ll)) ∧ (True ∧ True ∧ True ∧ ((Value.int IntKind.u64 (S'3.reads)) = (Value.int IntKind.u64 (x2.B.reads))) ∧ True) ∧ (True ∧ True ∧ True ∧ ((Value.int IntKind.u32 (S'3.fresh)) = (Value.int IntKind.u32 (x2.B.fresh))) ∧ True) ∧ ((S'3.nodes) = (x2.B.nodes)) ∧ ((S'3.counts) = (x2.B.counts)) ∧ ((S'3.used) = (x2.B.used)) ∧ ((S'3.gen) = (x2.B.gen)) ∧ ((S'3.rel) = (x2.B.rel)) ∧ ((x1.o) = (x2.o)) ∧ True))))))))))))) ∧ (∀ x2 : XNi P3, (True → ((exW x2.B) ∧ (∀ d : List SlotT, (∀ o2 : List Int, (((d) = (slotsOf x2.B)) → (((o2) = (orderOf x2.B)) → ((∃ x3 : XNj P4, (True ∧ (True ∧ True ∧ ((Value.int IntKind.u32 (x2.r)) = (Value.int IntKind.u32 (x3.r))) ∧ True ∧ True ∧ True ∧ True ∧ True ∧ ((Value.int IntKind.i64 0) = (Value.int IntKind.i64 ((↑x3.k : Int)))) ∧ True) ∧ ((raw) = (raw)) ∧ ((oth) = (oth)) ∧ (True ∧ True ∧ True ∧ ((Value.int IntKind.u64 (x2.S.reads)) = (Value.int IntKind.u64 (x3.S.reads))) ∧ True) ∧ (True ∧ True ∧ True ∧ ((Value.int IntKind.u32 (x2.S.fresh)) = (Value.int IntKind.u32 (x3.S.fresh))) ∧ True) ∧ ((x2.S.nodes) = (x3.S.nodes)) ∧ ((x2.S.counts) = (x3.S.counts)) ∧ ((x2.S.used) = (x3.S.used)) ∧ ((x2.S.gen) = (x3.S.gen)) ∧ ((x2.S.rel) = (x3.S.rel)) ∧
    ((listE raw 80) = (listE raw 80)) ∧ ((x2.rs) = (x3.rs)) ∧ ((x2.ll) = (x3.ll)) ∧ (True ∧ True ∧ True ∧ ((Value.int IntKind.u64 (x2.B.reads)) = (Value.int IntKind.u64 (x3.B.reads))) ∧ True) ∧ (True ∧ True ∧ True ∧ ((Value.int IntKind.u32 (x2.B.fresh)) = (Value.int IntKind.u32 (x3.B.fresh))) ∧ True) ∧ ((x2.B.nodes) = (x3.B.nodes)) ∧ ((x2.B.counts) = (x3.B.counts)) ∧ ((x2.B.used) = (x3.B.used)) ∧ ((x2.B.gen) = (x3.B.gen)) ∧ ((x2.B.rel) = (x3.B.rel)) ∧ ((x2.o) = (x3.o)) ∧ (True ∧ True ∧ True) ∧ ((d) = (x3.d)) ∧ ((o2) = (x3.f)) ∧ True)) ∧ (∀ x3 : XNj P4, (True → (brS (decide ((↑x3.k : Int) < (↑x3.o.length : Int))) (((0 ≤ (↑x3.k : Int)) ∧ ((↑x3.k : Int) < (↑x3.o.length : Int)) ∧ (0 ≤ (↑x3.k : Int)) ∧ ((↑x3.k : Int) < (↑x3.ll.length : Int)) ∧ (x3.d.length ≤ 1000000) ∧ (∃ t1 : Tr, ((RepD x3.d t1 (x3.o.getD (↑x3.k : Int).toNat 0)) ∧ (Asc t1.list) ∧ (t1.Bal) ∧ (t1.size ≤ 2 * x3.d.length + 2) ∧ (t1.size ≤ 1000000) ∧ ((t1.list) = (x3.ll.getD (↑x3.k : Int).toNat [])))) ∧ (0 ≤ (↑x3.k : Int)) ∧ ((↑x3.k : Int) < (↑x3.o.length : Int)) ∧ (∃ hs : List Int, ((Wf x3.B (x3.o.getD (↑x3.k : Int).toNat 0 :: hs)) ∧ (∀ S'4 : Arn, (∀ fr : Int, ((Wf S'4 hs) → ((Kept x3.B S'4) → (((fr + (↑S'4.nu : Int)) = ((↑x3.B.nu : Int))) → (((1 < x3.B.ct (x3.o.getD (↑x3.k : Int).toNat 0)) → (((x3.B.us (x3.o.getD (↑x3.k : Int).toNat 0)) = true) → ((S'4) = (decS x3.B (x3.o.getD (↑x3.k : Int).toNat 0))))) → ((((x3.B.us (x3.o.getD (↑x3.k : Int).toNat 0)) = false) → ((S'4) = (x3.B))) → (∃ x' : XNj P4, (True ∧ ((True ∧ True ∧
    ((Value.int IntKind.u32 (x3.r)) = (Value.int IntKind.u32 (x'.r))) ∧ True ∧ True ∧ True ∧ True ∧ True ∧ ((Value.int IntKind.i64 (IntKind.i64.wrap ((↑x3.k : Int) + 1))) = (Value.int IntKind.i64 ((↑x'.k : Int)))) ∧ True) ∧ ((raw) = (raw)) ∧ ((oth) = (oth)) ∧ (True ∧ True ∧ True ∧ ((Value.int IntKind.u64 (x3.S.reads)) = (Value.int IntKind.u64 (x'.S.reads))) ∧ True) ∧ (True ∧ True ∧ True ∧ ((Value.int IntKind.u32 (x3.S.fresh)) = (Value.int IntKind.u32 (x'.S.fresh))) ∧ True) ∧ ((x3.S.nodes) = (x'.S.nodes)) ∧ ((x3.S.counts) = (x'.S.counts)) ∧ ((x3.S.used) = (x'.S.used)) ∧ ((x3.S.gen) = (x'.S.gen)) ∧ ((x3.S.rel) = (x'.S.rel)) ∧ ((listE raw 80) = (listE raw 80)) ∧ ((x3.rs) = (x'.rs)) ∧ ((x3.ll) = (x'.ll)) ∧ (True ∧ True ∧ True ∧ ((Value.int IntKind.u64 (S'4.reads)) = (Value.int IntKind.u64 (x'.B.reads))) ∧ True) ∧ (True ∧ True ∧ True ∧ ((Value.int IntKind.u32 (S'4.fresh)) = (Value.int IntKind.u32 (x'.B.fresh))) ∧ True) ∧ ((S'4.nodes) = (x'.B.nodes)) ∧ ((S'4.counts) = (x'.B.counts)) ∧ ((S'4.used) = (x'.B.used)) ∧ ((S'4.gen) = (x'.B.gen)) ∧ ((S'4.rel) = (x'.B.rel)) ∧ ((x3.o) = (x'.o)) ∧ (True ∧ True ∧ True) ∧ ((x3.d) = (x'.d)) ∧ ((x3.f) = (x'.f)) ∧ True) ∧ (x'.o.length - x'.k < x3.o.length - x3.k)))))))))))))) (((exW x3.B) ∧ (exW x3.B) ∧ (brS (x3.B.free == x3.B.cap) ((∃ hs : List Int, ((Wf x3.S hs) ∧ (x3.rs.Perm hs) ∧ (x3.rs.length ≤ 1000000) ∧ (exW x3.S) ∧ (∀ d1 : List SlotT, (∀ o3 : List Int, (((d1) = (slotsOf x3.S)) → (((o3) = (orderOf x3.S)) → ((d1.length ≤ 1000000) ∧ (∃ t1 : Tr,
    ((RepD d1 t1 x3.r) ∧ (Asc t1.list) ∧ (t1.Bal) ∧ (t1.size ≤ 2 * d1.length + 2) ∧ (t1.size ≤ 1000000) ∧ ((t1.list) = (listE raw 80)))) ∧ (K (SV.one (TV.at (At.val (Value.bool true)))) [(Chunk.row false (EC.ent) (raw)), (Chunk.row false (EC.ent) (oth))] []))))))))) ((K (SV.one (TV.at (At.val (Value.bool false)))) [(Chunk.row false (EC.ent) (raw)), (Chunk.row false (EC.ent) (oth))] [])))))))))))))))))))))))))))))))))))))))))))))))))) = _ by kernel_rfl) ?_
  subst hP1 hP0 hP2 hP3 hP4
  have kB : Kin (listE raw 80) := fun x hx => hk x (listE_sub raw 80 x hx)
  obtain ⟨la, ll⟩ := listE_spec raw 80
  rw [show Int.toNat 80 = 80 from rfl]
  generalize listE raw 80 = L0 at *
  rw [nO_eq]
  have n8 : nO oth ≤ 8 := by unfold nO; omega
  have no : nO oth ≤ oth.length := by unfold nO; omega
  have hH := Hn_rng ((L0.length : Int) + nO oth + 1)
  rw [wrap_id (x := (L0.length : Int) + (nO oth : Int)) (by omega) (by omega)]
  generalize ep : 4 * (Hn ((L0.length : Int) + nO oth + 1) + 2) = p at *
  have p1 : 8 ≤ p := by omega
  have p2 : p ≤ 328 := by omega
  refine ⟨by decide, by decide, by omega, by omega, fun p' ep' => ?_⟩
  rw [ep']
  have m0 : 0 ≤ ((nO oth : Int) + 1) * p := Int.mul_nonneg (by omega) (by omega)
  have m1 : ((nO oth : Int) + 1) * p ≤ 9 * 328 := Int.mul_le_mul (by omega) p2 (by omega) (by omega)
  rw [wrap_id (x := (nO oth : Int) + 1) (by omega) (by omega), wrap_id (x := ((nO oth : Int) + 1) * p) (by omega) (by omega), wrap_id (x := 1 + ((nO oth : Int) + 1) * p) (by omega) (by omega)]
  refine ⟨h0, by omega, by omega, by omega, fun S i pl => ⟨⟨⟨S, i, [i], [L0], 0, Nat.zero_le _, rfl, ?_⟩, ?_⟩, fun x _ => brS_of (fun z => ?_) fun z => ?_⟩⟩
  · have g0 := hld_plant pl la kB
    have c0 : S.cap = (L0.length : Int) + (1 + ((nO oth : Int) + 1) * p) := by
      unfold Arn.cap
      rw [pl.len]
      show ((List.replicate _ false).length : Int) - 1 = _
      rw [List.length_replicate]; omega
    have f0 := g0.room
    rw [show sumL [(i, L0)] = L0.length by rw [sumL_cons, sumL_nil]; rfl] at f0
    exact ⟨rfl, rfl, g0, by rw [pl.rds]; show (0 : Int) ≤ _; omega, by omega, by show ((nO oth : Int) + 1 - (0 : Nat)) * p ≤ _; rw [show ((nO oth : Int) + 1 - ((0 : Nat) : Int)) = (nO oth : Int) + 1 by omega]; omega⟩
  · (repeat' first | exact trivial | exact rfl | refine And.intro ?_ ?_)
  · obtain ⟨S, r, rs, lz, k, hkn, er, pa⟩ := x
    dsimp only at z ⊢
    have zk : k < nO oth := by have := of_decide_eq_true z; omega
    obtain ⟨len, el, hh, rd, cap, fr⟩ := pa
    have ez : rs.length = lz.length := by rw [len, el, lsK_len]
    rw [show ((k : Int)).toNat = k from rfl]
    have hm := zip_mem (rs := rs) (ll := lz) (i := k) (by omega) ez
    have lk : lz.getD k [] = lkN L0 oth k := by rw [el]; exact lsK_at (Nat.le_refl _)
    rw [lk] at hm
    have lkl := lkN_len (L0 := L0) (oth := oth) k
    have zl : (rs.zip lz).length ≤ 9 := by rw [List.length_zip]; omega
    obtain ⟨t1, u1, l1, z1, b1⟩ := hld_up hh hm (by omega) (by omega) (by omega)
    have ht1 := Bal.height b1 (by omega)
    have i1 := iB_Hn t1.size
    have mo := Hn_le (n := t1.size + 1) (m := L0.length + nO oth + 1) (by omega)
    have mo1 := Hn_mono1 t1.size
    rw [show (((t1.size + 1 : Nat)) : Int) = (t1.size : Int) + 1 by omega, show (((L0.length + nO oth + 1 : Nat)) : Int) = (L0.length : Int) + nO oth + 1 by omega] at mo
    have hr1 := Hn_rng t1.size
    have fk : ((nO oth : Int) + 1 - k) * p = ((nO oth : Int) + 1 - (k + 1 : Nat)) * p + p := by
      rw [show ((nO oth : Int) + 1 - (k : Int)) = ((nO oth : Int) + 1 - ((k + 1 : Nat) : Int)) + 1 by omega, Int.add_mul, Int.one_mul]
    have fp : 0 ≤ ((nO oth : Int) + 1 - (k + 1 : Nat)) * p := Int.mul_nonneg (by omega) (by omega)
    refine ⟨by omega, by omega, by omega, by omega, _, t1, u1, by omega, fun S1 j o eo tr => ⟨⟨⟨S1, j, rs, lz, k, zk, len, el, ?_⟩, ?_⟩, fun x ex => ?_⟩⟩
    · have tr : TrR S ((rs.zip lz).map Prod.fst) (lkN L0 oth (k + 1)) (iB t1.size) (5 * iB t1.size + ht t1 + 1) S1 j := by rw [l1] at tr; exact tr
      have q := tr.got.rd
      have f := tr.got.free hh.wf
      have g1 := hh.step tr (lkN_asc la _) (lkN_kin la kB ho _ (by omega))
      have ezp : (rs ++ [j]).zip (lsK L0 oth (k + 1)) = rs.zip lz ++ [(j, lkN L0 oth (k + 1))] := by
        rw [lsK_snoc, ← el, List.zip_append ez]; rfl
      refine ⟨by simp [len], rfl, ?_, by omega, ?_, by omega⟩
      · rw [ezp]
        exact hld_perm g1 (List.perm_append_singleton _ _).symm
      · have : S1.cap = S.cap := by unfold Arn.cap; rw [tr.got.len]
        omega
    · rw [← er]
      (repeat' first | exact trivial | exact rfl | refine And.intro ?_ ?_)
    · obtain ⟨S1, j, rs, lz, k', hkn, len, el, pa⟩ := x
      dsimp only at ex ⊢
      obtain rfl : k = k' := by omega
      have ez : rs.length = lz.length := by rw [len, el, lsK_len]
      rw [show ((k : Int)).toNat = k from rfl]
      have lk : lz.getD k [] = lkN L0 oth k := by rw [el]; exact lsK_at (Nat.le_refl _)
      rw [lk]
      have e1 : lz ++ [insE (lkN L0 oth k) (eN oth k)] = lsK L0 oth (k + 1) := by rw [lsK_snoc, ← el]; rfl
      rw [e1, wrap_id (x := (k : Int) + 1) (by omega) (by omega)]
      have b1 : (rs.length + [j].length) * bytesOf C0 EC.u32 ≤ 140737488355328 := by rw [bytes_u32, List.length_singleton]; omega
      have b2 : (lkN L0 oth k).length ≤ 1000000 := by have := lkN_len (L0 := L0) (oth := oth) k; omega
      have b3 : (lz.length + [insE (lkN L0 oth k) (eN oth k)].length) * bytesOf C0 EC.hent ≤ 140737488355328 := by rw [bytes_hent, List.length_singleton]; omega
      have r0 : rs.getD 0 0 = (rs ++ [j]).getD 0 0 := by
        rw [List.getD_eq_getElem?_getD, List.getD_eq_getElem?_getD, List.getElem?_append_left (by omega)]
      refine ⟨by omega, by omega, by omega, by omega, ?_⟩
      (repeat' refine And.intro ?_ ?_)
      all_goals first | with_reducible exact b1 | with_reducible exact b2 | with_reducible exact b3 | skip
      all_goals
        refine ⟨⟨S1, _, _, _, k + 1, hkn, r0, pa⟩, trivial, ?_, by show 8 - (k + 1) < 8 - k; omega⟩
        (repeat' first | exact trivial | exact rfl | refine And.intro ?_ ?_)
  · obtain ⟨S, r, rs, lz, k, hkn, er, pa⟩ := x
    dsimp only at z ⊢
    obtain ⟨len, el, hh, rd, cap, fr⟩ := pa
    have ez : rs.length = lz.length := by rw [len, el, lsK_len]
    have hw : Wf S rs := by have := hh.wf; rw [fst_zip ez] at this; exact this
    have lv : okRt S rs := fun z hz => hw.held z hz
    have av : allV rs := fun z hz => inU_of hw (lv z hz)
    refine ⟨⟨⟨_, hw⟩, by omega, by omega, av⟩, fun S1 l n nr en => ?_⟩
    have ls := LsN.of hw nr.num
    have nf := used_few hw ls.nd ls.used
    have nc : (S.used.length : Int) = S.cap + 1 := by unfold Arn.cap; omega
    have e1 := nr.st
    subst e1
    have hw1 : Wf (rdS S l.length) rs := hw.rd (by omega)
    rw [en, wrap_id (x := (l.length : Int) + 1) (by omega) (by omega)]
    refine ⟨⟨⟨_, hw1⟩, by show S.reads + (l.length : Int) ≤ _; omega, by omega, av⟩, lv, by omega, by omega, ⟨l, nr.num, by omega⟩, fun S2 B l2 o cp => ⟨?_, fun x _ => ?_⟩⟩
    · have el2 : l2 = l := cp.num.det (show NumsA (rdS S l.length) rs [] l from nr.num)
      subst el2
      have eo := cp.eo
      have ol : o.length = rs.length := by rw [eo, List.length_map]
      refine bf7 (by rw [ol]; simp) ⟨⟨S2, r, rs, lz, B, o, l2.length, ⟨ez, by omega, by omega, er, ?_, ?_, ol⟩, ?_, by omega, cp.cp.rd, rdS S l2.length, rs, l2, hw1, LsN.of hw1 cp.num, ?_, rfl, cp.cp⟩, ?_⟩
      · rw [el]; exact lsK_at (Nat.zero_le _)
      · rw [cp.st]
        have := (hh.rd (n := l2.length) (by omega)).rd (n := 2 * l2.length) (by show S.reads + (l2.length : Int) + _ ≤ _; omega)
        exact this
      · have g := (hh.rd (n := l2.length) (by omega)).cpt (F := rs.zip lz) (fun _ q => q) (by rw [fst_zip ez]; exact cp)
        rw [eo, List.zip_map_left]
        exact g
      · have := cp_num hw1 cp.num lv cp.cp
        rw [← eo] at this; exact this
      · (repeat' first | exact trivial | exact rfl | refine And.intro ?_ ?_)
    obtain ⟨S, r, rs, lz, B, o, m, pb, hB, mb, rB, S0, hs0, l, hw0, ls0, nm, em, cb⟩ := x
    dsimp only
    have hwB := cb.wf
    have lvB : okRt B o := fun z hz => hwB.held z hz
    rw [em, wrap_id (x := (l.length : Int) + 1) (by omega) (by omega)]
    have ol := pb.eo
    have r9 := pb.le
    refine ⟨⟨⟨_, hwB⟩, by rw [rB]; decide, by omega, fun z hz => inU_of hwB (lvB z hz)⟩, lvB, by omega, by omega, ⟨_, nm, by rw [hsI_len]; omega⟩, fun S3 C l2 o2 cq => ?_⟩
    have el2 := cq.num.det nm
    subst el2
    have eo2 : o2 = o := by
      rw [cq.eo]
      refine (List.map_congr_left (g := id) fun z hz => ?_).trans (List.map_id o)
      rcases lvB z hz with e | u
      · rw [e]; exact hsI_plc (Int.le_refl 0) (by omega)
      · have := (cb.us z).1 u
        exact hsI_plc (by omega) (by omega)
    have cq2 := cq.cp
    rw [hsI_len, Nat.sub_zero, eo2] at cq2
    rw [em] at cb
    obtain ⟨d1, d2⟩ := cp_dump cb cq2
    have sl := slots_le hwB
    have ole := order_len hwB
    have es := cq.st
    subst es
    have wB2 : Wf (rdS B (2 * (hsI 0 l.length).length)) o := hwB.rd (by rw [rB, hsI_len]; omega)
    refine ⟨⟨eo2.symm, by omega, ⟨_, wB2⟩, fun d f ed ef => ⟨⟨_, cq2.wf⟩, fun d' f' ed' ef' => ⟨by rw [ed, ed']; exact d1, by rw [ef, ef']; exact d2, by rw [ed]; show (slotsOf B).length ≤ _; omega, by rw [ef]; show (orderOf B).length ≤ _; omega, ⟨_, r, rs, lz, _, o, 0, pb, hB.rd (n := 2 * (hsI 0 l.length).length) (by rw [rB, hsI_len]; omega)⟩, ?_⟩⟩⟩, fun x _ => ?_⟩
    · (repeat' first | exact trivial | exact rfl | refine And.intro ?_ ?_)
    obtain ⟨S, r, rs, lz, B, o, m, pb, hB⟩ := x
    dsimp only
    have ez : o.length = lz.length := by have := pb.eo; have := pb.el; omega
    have hwB : Wf B o := by have := hB.wf; rw [fst_zip ez] at this; exact this
    refine ⟨⟨_, hwB⟩, fun d f ed ef => ⟨⟨⟨S, r, rs, lz, B, o, d, f, 0, pb, Nat.zero_le _, hwB, ?_, fun i hi => ?_⟩, ?_⟩, fun x _ => brS_of (fun z => ?_) fun z => ?_⟩⟩
    · have sl := slots_le hwB
      rw [ed]; omega
    · rw [ed]
      exact (hld_tree hB (zip_mem hi ez)).2
    · (repeat' first | exact trivial | exact rfl | refine And.intro ?_ ?_)
    · obtain ⟨S, r, rs, lz, B, o, d, f, k, pb, hk, wk, dl, tr⟩ := x
      dsimp only at z ⊢
      have z : k < o.length := by have := of_decide_eq_true z; omega
      have q1 := pb.eo
      have q2 := pb.el
      have q3 := pb.le
      rw [show ((k : Int)).toNat = k from rfl, wrap_id (x := (k : Int) + 1) (by omega) (by omega)]
      have ed : o.drop k = o.getD k 0 :: o.drop (k + 1) := by
        rw [List.drop_eq_getElem_cons z, List.getD_eq_getElem?_getD, List.getElem?_eq_getElem z]; rfl
      rw [ed] at wk
      refine ⟨by omega, by omega, by omega, by omega, dl, tr k z, by omega, by omega, _, wk, fun S4 fr w4 _ _ _ _ => ?_⟩
      refine ⟨⟨S, r, rs, lz, S4, o, d, f, k + 1, pb, z, w4, dl, tr⟩, trivial, ?_, Nat.sub_lt_sub_left z (Nat.lt_succ_self k)⟩
      (repeat' first | exact trivial | exact rfl | refine And.intro ?_ ?_)
    · obtain ⟨S, r, rs, lz, B, o, d, f, k, pb, hk, wk, dl, tr⟩ := x
      dsimp only at z ⊢
      have z : k = o.length := by have := of_decide_eq_false z; omega
      rw [z, List.drop_length] at wk
      have hwS : Wf S rs := by have := pb.hh.wf; rw [fst_zip pb.el] at this; exact this
      have q3 := pb.le
      have t0 := hld_tree pb.hh (zip_mem pb.pos pb.el)
      rw [pb.e0, ← pb.er] at t0
      exact ⟨⟨_, wk⟩, ⟨_, wk⟩, bt7 (by rw [wk.empty.2]; simp) ⟨_, hwS, List.Perm.refl _, by omega, ⟨_, hwS⟩, fun d1 f1 e1 _ => ⟨by rw [e1]; exact t0.1, by rw [e1]; exact t0.2, h⟩⟩⟩
theorem s_nf : SoundT C0 6 tNf := by
  refine .of Try.func6 (by decide) rfl fun args H K h hB => ?_
  unfold tNf at h
  split at h <;> try exact h.elim
  rename_i t raw oth
  refine ⟨_, ?_, vc_nf raw oth t K h.1 h.2.1 h.2.2.1 h.2.2.2⟩
  exact ⟨frame C0.ok s_lst _, frame C0.ok s_nIns _, frame C0.ok s_grow _, frame C0.ok s_aw29 _, frame C0.ok s_upIn _, frame C0.ok s_ins _, frame C0.ok s_ndd _, frame C0.ok s_cpOk _, frame C0.ok s_sameU _, frame C0.ok s_dump _, frame C0.ok s_sameD _, frame C0.ok s_tr7 _, frame C0.ok s_release _, frame C0.ok s_free _, frame C0.ok s_cap _, frame C0.ok s_sound _, trivial⟩
end Go.Proofs.Ytmjnoiajenoinaa.Sx
end
section
/- What every law's last step leans on. -/
namespace Go.Proofs.Ytmjnoiajenoinaa
open Go.ChangeShapes Go.WideShapes Go.ChangeAt Go.RowKit

theorem ownK : ownKnob Try.prog.godebug = none := by kernel_rfl
theorem laidO : laidOutB Try.prog = true := by kernel_rfl

theorem lit_i64 {a : Int} (h : (Lit.int .i64 a).wf = true) : -9223372036854775808 ≤ a ∧ a ≤ 9223372036854775807 := by
  have h1 : IntKind.i64.min = -9223372036854775808 := rfl
  have h2 : IntKind.i64.max = 9223372036854775807 := rfl
  simp only [Lit.wf, Bool.and_eq_true, decide_eq_true_eq] at h
  omega
theorem lit_u64 {a : Int} (h : (Lit.int .u64 a).wf = true) : 0 ≤ a ∧ a ≤ 18446744073709551615 := by
  have h1 : IntKind.u64.min = 0 := rfl
  have h2 : IntKind.u64.max = 18446744073709551615 := rfl
  simp only [Lit.wf, Bool.and_eq_true, decide_eq_true_eq] at h
  omega
end Go.Proofs.Ytmjnoiajenoinaa
end
section
/- From contracts to laws: the arguments as they come, what a law's call leaves. -/
namespace Go.Proofs.Ytmjnoiajenoinaa.Sx
open Go Go.Joins Go.ChangeShapes Go.WideShapes Go.ChangeAt Go.RowKit

theorem Sat.imms {C : Ctx} {w : World} (vs : List Value) (H : List (Chunk C)) (h : ∀ (n : Nat) (c : Chunk C), H[n]? = some c → ∃ e l, c = .row false e l ∧ Imm C w (vs.getD n undef) e l) : Sat C (fun n => vs.getD n undef) (fun _ _ => False) w H where
  holds n c hc := by
    obtain ⟨e, l, rfl, hi⟩ := h n c hc
    exact ⟨hi, fun _ hh => hh⟩
  dis _ _ _ hh := hh.elim
  bd _ _ hh := hh.elim
  imm _ _ _ _ _ _ hh := hh
  out _ _ _ hh := hh
  cl n c hc m hm := by
    obtain ⟨e, l, rfl, _⟩ := h n c hc
    simp [Chunk.names] at hm

theorem lawOf {f : FuncId} {t : Tfm C0} (hs : SoundT C0 f t) {args : List TV} {H : List (Chunk C0)} {vs : List Value} {σ : Nat → Value} {w : World} (ht : ∀ K : KT, K (.one (.at (vB true))) H [] → t args H K)
    (hsat : Sat C0 σ (fun _ _ => False) w H) (hr : Rels (TV.rel σ) args vs) (hn : ∀ x ∈ args, ∀ m ∈ x.names, m < H.length) : Calls Try.prog f vs.toArray w (fun e w' => e = .returned (.bool true) ∧ Below w.heap.size w w') := by
  have hc := hs.call args H (fun r _ _ => r = .one (.at (vB true))) (ht _ rfl) σ _ w vs hsat hr hn
  refine Calls.mono hc fun e w' hh => ?_
  cases e with
  | panicked ch => exact hh.elim
  | outgrown => exact hh.elim
  | returned v =>
    obtain ⟨r, H', ts, σ', φ', hout, rfl⟩ := hh
    have hv : v = .bool true := hout.rel
    exact ⟨by rw [hv], hout.adv.os, hout.adv.tape, hout.adv.output, hout.adv.size, fun k hk => hout.adv.fr k hk fun n hh => hh⟩

section
variable {HH : Type} {enc : TypeId × Value → HH} {P : Program} {w : World} {base b0 : Nat} {spare : Nat → Bool} {held : Bool} {r : Reach}
theorem openRowQ {α : Type} [Inhabited α] {t e : TypeId} {f : α → List Value} {Q : α → Prop} {sz : Nat} {v : Value} {d : DataW HH} {p : List MemPlace} (ht : P.underlying t = some (.slice e)) (hC : P.cellsOf e = sz) (hpos : 0 < sz) (hf : ∀ x, (f x).length = sz)
    (hel : ∀ {n : Nat} {cs : List Value} {x : DataW HH × List MemPlace}, DataW.trod enc P w base spare held n e cs = some x → ∃ a, cs = f a ∧ Q a) (hv : Value.okWide P w r b0 t v) (h : DataW.Trod enc P w base spare held t v d p) :
    ∃ A n c l, v = .slice A n c ∧ Rd f sz w A n c l ∧ ∀ x ∈ l, Q x := by
  obtain ⟨A, n, c, rfl⟩ := okWide_slice ht hv
  obtain ⟨fuel, hh⟩ := h
  have hh : DataW.trod enc P w base spare held fuel t [.slice A n c] = some (d, p) := by simpa [Value.cells] using hh
  rcases Go.Deep.open_slice ht hh with ⟨h1, _⟩ | ⟨a, len, cap, m, k, D, Pl, h1, hb, hle, hm, hmm, hx, hall⟩
  · simp only [List.cons.injEq, Value.slice.injEq, and_true] at h1
    obtain ⟨rfl, rfl, rfl⟩ := h1
    exact ⟨none, 0, 0, [], rfl, Rd.nil hf, fun x hx => by simp at hx⟩
  · simp only [List.cons.injEq, Value.slice.injEq, and_true] at h1
    obtain ⟨rfl, rfl, rfl⟩ := h1
    have hlm : n ≤ m := by rw [hmm]; split <;> omega
    have hel' : ∀ i, i < n → ∃ x : α, w.cells? base (a.add (i * P.cellsOf e)) (P.cellsOf e) = some (f x) ∧ Q x := fun i hi => by
      obtain ⟨cs', hc1, hc2⟩ := hall i (by omega)
      obtain ⟨x, rfl, hq⟩ := hel hc2
      exact ⟨x, hc1, hq⟩
    obtain ⟨F, hF⟩ := Go.Deep.choose_lt hel'
    have cell : ∀ i, i < n → ∀ j, j < sz → w.cell? ((a.add (i * sz)).add j) = (f (F i))[j]? := fun i hi j hj => by
      have h2 := (hF i hi).1
      rw [hC] at h2
      unfold World.cells? at h2
      split at h2
      · exact mapM_some_get h2 j j (by simp [hj])
      · cases h2
    refine ⟨some a, n, c, (List.range n).map F, rfl, ⟨by simp, hle, hm, hf, fun h => (by cases h), fun hn => ?_⟩, fun x hx => by obtain ⟨i, hi, rfl⟩ := List.mem_map.1 hx; exact (hF i (List.mem_range.1 hi)).2⟩
    obtain ⟨b, o, sp⟩ := a
    have hsome : ∀ i, i < n → ∀ j, j < sz → ∃ u, w.cell? (((⟨b, o, sp⟩ : Addr).add (i * sz)).add j) = some u := fun i hi j hj => by
      rw [cell i hi j hj]
      exact ⟨_, List.getElem?_eq_getElem (by rw [hf]; exact hj)⟩
    obtain ⟨u0, hu0⟩ := hsome 0 hn 0 hpos
    have hspot : sp = none := by simpa [Addr.add] using World.cell?_spot hu0
    subst hspot
    refine ⟨b, o, rfl, ?_, fun k x hx j u hu => ?_⟩
    · have hu1 : w.cell? ⟨b, o, none⟩ = some u0 := by simpa [Addr.add] using hu0
      unfold World.cell? at hu1
      split at hu1
      · rename_i hb2
        exact (Array.getElem?_eq_some_iff.1 hb2).1
      · cases hu1
    · rw [List.getElem?_map] at hx
      have hk : k < n := by
        rcases Nat.lt_or_ge k n with h2 | h2
        · exact h2
        · rw [List.getElem?_eq_none (by simpa using h2)] at hx; cases hx
      rw [List.getElem?_range hk] at hx
      simp only [Option.map_some, Option.some.injEq] at hx
      subst hx
      have hj : j < sz := by
        have := (List.getElem?_eq_some_iff.1 hu).1
        rwa [hf] at this
      have h3 := cell k hk j hj
      rw [hu] at h3
      rw [← h3]
      congr 1
      rw [Go.WideShapes.add_plain, Go.WideShapes.add_plain]
end

section
variable {HH : Type} {enc : TypeId × Value → HH} {w : World} {base b0 : Nat} {spare : Nat → Bool} {held : Bool} {r : Reach}
set_option maxRecDepth 100000 in
theorem elEw {n : Nat} {cs : List Value} {x : DataW HH × List MemPlace} (h : DataW.trod enc Try.prog w base spare held n 61 cs = some x) :
    ∃ a : Ent, cs = EC.enc .ent a ∧ ((-9223372036854775808 ≤ a.1 ∧ a.1 ≤ 9223372036854775807) ∧ (-9223372036854775808 ≤ a.2 ∧ a.2 ≤ 9223372036854775807)) := by
  obtain ⟨y0, y1, m, _, hl, h0, h1⟩ := trod_struct2 Try.underlying61 h
  obtain ⟨k, e0, _, w0⟩ := DataW.trod_int Try.underlying2 h0
  obtain ⟨v, e1, _, w1⟩ := DataW.trod_int Try.underlying2 h1
  have hl : cs.length = 2 := hl.trans (by kernel_rfl)
  have c1 : Try.prog.cellsOf 2 = 1 := by kernel_rfl
  match cs, hl with
  | [a, b], _ =>
    simp [c1] at e0 e1
    exact ⟨(k, v), by rw [e0, e1]; rfl, lit_i64 w0, lit_i64 w1⟩
set_option maxRecDepth 100000 in
/-- The same with what the entries' numbers are. -/
theorem openEw {v : Value} {d : DataW HH} {p : List MemPlace} (hv : Value.okWide Try.prog w r b0 58 v) (h : DataW.Trod enc Try.prog w base spare held 58 v d p) :
    ∃ (l : List Ent), Imm C0 w v EC.ent l ∧ ∀ x ∈ l, (-9223372036854775808 ≤ x.1 ∧ x.1 ≤ 9223372036854775807) ∧ (-9223372036854775808 ≤ x.2 ∧ x.2 ≤ 9223372036854775807) := by
  obtain ⟨A, n, c, l, rfl, hr, hq⟩ := openRowQ (α := Ent) (f := fun x => EC.enc .ent x) (sz := 2) Try.underlying58 (by kernel_rfl) (by decide) (fun _ => rfl) (fun h => elEw h) hv h
  obtain rfl := hr.len
  exact ⟨l, ⟨A, c, rfl, hr⟩, hq⟩
instance : Inhabited Chg := ⟨⟨0, 0, 0, 0⟩⟩
end
end Go.Proofs.Ytmjnoiajenoinaa.Sx
end
section
/- 'CompactKeepsTrees': the law returns true for every input, and its arguments read afterwards as they read before. -/
namespace Go.Proofs.Ytmjnoiajenoinaa.compactKeepsTrees
open Go.ChangeShapes Go.WideShapes Go.ChangeAt Go.RowKit Sx

set_option maxRecDepth 100000 in
theorem lifted (os : Os) (started : os.Started) (H : Type) (enc : TypeId × Value → H) :
    ReturnsInHanded {} Try.checked os 6 .any (Rows.compactKeepsTreesSpec.pre6 enc Try.prog Try.f6 Rows.compactKeepsTreesRow.domain false) (Rows.compactKeepsTreesSpec.post enc Try.prog Try.f6 false true false false) := by
  refine returnsInHanded_of_change (C := Try.checked) ownK started (by kernel_rfl) Try.func6
    (ChangeSpec.witness6 (enc := enc) (C := Try.checked) false ⟨#[], #[.slice none 0 0, .slice none 0 0, .int .u64 0], []⟩ 8 (by kernel_rfl) (by kernel_rfl) (by kernel_rfl) (by kernel_rfl)) ?_
  intro W base args ds gs before hval0 hW hcnd _
  have hval : ∀ (j : Nat) t v, Try.f6.params[j]? = some t → args[j]? = some v → Value.okWide Try.prog W .any base t v := hval0
  have hW' := hW
  obtain ⟨p, q, hA0, hV, rfl, hfz, hnd⟩ := hW
  have hA : DataW.TrodAll enc Try.prog W 0 (fun _ => true) true Try.f6.params.toList args.toList ds p := hA0
  rw [Try.params6] at hA hval
  obtain ⟨v0, vs0, d0, ds0, p0, q0, hargs, rfl, rfl, h0, r0⟩ := trodAll_cons hA
  obtain ⟨v1, vs1, d1, ds1, p1, q1, rfl, rfl, rfl, h1, r1⟩ := trodAll_cons r0
  obtain ⟨v2, vs2, d2, ds2, p2, q2, rfl, rfl, rfl, h2, r2⟩ := trodAll_cons r1
  obtain ⟨rfl, rfl, rfl⟩ := trodAll_nil r2
  obtain rfl : args = #[v0, v1, v2] := by cases args; simp_all
  obtain ⟨rfl, rfl⟩ := trodVars_none hV
  have k0 := h0
  have k1 := h1
  have k2 := h2
  clear hA0 hval0
  simp only [List.append_nil] at hW'
  have hlt : ∀ x ∈ p0 ++ (p1 ++ (p2)), x.block < W.heap.size := fun x hx => by simpa using hW'.lt x (by simpa using hx)
  have l0 : ∀ x ∈ p0, x.block < W.heap.size := fun x hx => hlt x (by simp [hx])
  have l1 : ∀ x ∈ p1, x.block < W.heap.size := fun x hx => hlt x (by simp [hx])
  have l2 : ∀ x ∈ p2, x.block < W.heap.size := fun x hx => hlt x (by simp [hx])
  obtain ⟨L0, R0, Q0⟩ := openEw (hval 0 58 v0 rfl rfl) h0
  obtain ⟨L1, R1, Q1⟩ := openEw (hval 1 58 v1 rfl rfl) h1
  obtain ⟨a2, rfl, rfl, rfl, w2⟩ := open_int Try.underlying74 (hval 2 74 v2 rfl rfl) h2
  have b2 := lit_u64 w2
  refine (lawOf s_nf (args := [.at (.slc 0), .at (.slc 1), .at (.val (.int .u64 a2))]) (H := [Chunk.row false EC.ent L0, Chunk.row false EC.ent L1]) (vs := [v0, v1, .int .u64 a2]) (σ := fun n => [v0, v1].getD n undef) (w := W) (fun K h => ⟨b2.1, fun x hx => (Q0 x hx).1, fun x hx => (Q1 x hx).1, h⟩)
    (Sat.imms [v0, v1] _ fun n c hc => by match n, hc with | 0, hc => exact ⟨_, _, (Option.some.inj hc).symm, R0⟩ | 1, hc => exact ⟨_, _, (Option.some.inj hc).symm, R1⟩ | n + 2, hc => simp at hc) (Rels.cons rfl (Rels.cons rfl (Rels.cons rfl Rels.nil))) (by simp [TV.names, At.names])).mono fun e W' ⟨he, hg⟩ => ?_
  subst he
  exact ⟨_, rfl, _, _, _, [] ++ [], _, [], hW', (trodAll_cons_mk (shut_bool Try.underlying4 true) trodAll_mk0), (trodAll_cons_mk (Below.trod laidO (by kernel_rfl) (of_decide_eq_true (by kernel_rfl)) k0 hg l0) (trodAll_cons_mk (Below.trod laidO (by kernel_rfl) (of_decide_eq_true (by kernel_rfl)) k1 hg l1) (trodAll_cons_mk (Below.trod laidO (by kernel_rfl) (of_decide_eq_true (by kernel_rfl)) k2 hg l2) trodAll_mk0))), rfl, hg.frame _, fun h => by cases h⟩

theorem over : Rows.compactKeepsTreesRow.holds Try.pinned (OpenSpec.ofChange Rows.compactKeepsTreesSpec) :=
  OpenClaim.holds_of_wide 6 Try.f6 rfl rfl rfl rfl rfl rfl rfl ⟨rfl, rfl, rfl, rfl, rfl⟩ rfl rfl rfl rfl rfl (by kernel_rfl) Try.func6 (by kernel_rfl)
    (of_decide_eq_true (by kernel_rfl)) (by unfold Func.isWrapper; first | (rw [if_pos (by decide +kernel)]; kernel_rfl) | (rw [if_neg (by decide +kernel)]; exact ⟨rfl, rfl⟩))
    (fun os started H enc _ => lifted os started H enc)

theorem proved : Rows.CompactKeepsTreesSaid := over
#print axioms proved
end Go.Proofs.Ytmjnoiajenoinaa.compactKeepsTrees
end
