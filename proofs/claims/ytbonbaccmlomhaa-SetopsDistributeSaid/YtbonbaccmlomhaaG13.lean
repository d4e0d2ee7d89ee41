/- A part of the proof. -/
import Derived.Test.YtbonbaccmlomhaaG12
import Derived.Test.YtbonbaccmlomhaaG9
import Derived.Test.YtbonbaccmlomhaaG11
import Derived.Test.YtbonbaccmlomhaaProg
import Derived.Test.YtbonbaccmlomhaaChecked
import Derived.WalkKit
import Derived.ProofKit
import Derived.OpenShut
import Derived.SizedLaws
import Derived.Carry
import Derived.Test.YtbonbaccmlomhaaG4
import Derived.Deep.Slices
import Derived.Lib.SmallJoins
import Derived.Test.YtbonbaccmlomhaaRows
section
/- The law that Delete deletes. -/
namespace Go.Proofs.Ytbonbaccmlomhaa.Sx
open Go

/-KEEP Wf exW inU live Arn.cap Arn.free Rep rdS retL Tr.size Tr.list slotsOf orderOf PlantR newS insE outE listE getE TrR upM Hn keptD Asc Tr.Bal ht dB RepD List.Perm-/
structure XUe (P : Arn → Int → List Ent → Int → Prop) where
  S : Arn
  i : Int
  l : List Ent
  need : Int
  k : Int
  h : P S i l need
structure UdS where
  S0 : Arn
  S : Arn
  root : Int
  l : List Ent
  need : Int
  k : Int
  v : Int
  is : Bool
  d : List SlotT
  o : List Int
  r : Int
  i : Int
  w : Int
  f : Int
structure XUd (P : UdS → Prop) where
  z : UdS
  h : P z
structure XUw (P : UdS → Int → Prop) where
  z : UdS
  want : Int
  h : P z want
abbrev chUd (raw : List Ent) (z : UdS) : List (Chunk C0) := [.row false EC.ent raw] ++ chSk 1 z.S ++ [.row true EC.ent z.l, .box [.slc 10, .slc 11], .row true EC.slot z.d, .row true EC.u32 z.o]
def tUd : Tfm C0 := fun args H K => match args, H with
  | [.at (.slc 0), .at (.val (.int .u64 t)), .at (.val (.int .i64 _)), .at (.val (.int .i64 at')), .at (.val (.int .u16 f))], [.row false .ent raw] => 0 ≤ t ∧ -9223372036854775808 ≤ at' ∧ at' ≤ 9223372036854775807 ∧ 0 ≤ f ∧ f ≤ 65535 ∧ K (.one (.at (vB true))) [.row false EC.ent raw] []
  | _, _ => False
def PUe (S : Arn) (i : Int) (l : List Ent) (need : Int) : Prop := ∃ t, upM S [i] t i ∧ t.list = l ∧ t.size = l.length ∧ l.length ≤ 150 ∧ need = 4 * (Hn (l.length : Int) + 2) ∧ S.reads = 0
/-- What Delete comes to. -/
def PUd (z : UdS) : Prop := ∃ t, upM z.S0 [z.root] t z.root ∧ t.list = z.l ∧ t.size = z.l.length ∧ z.l.length ≤ 150 ∧ z.need = 4 * (Hn (z.l.length : Int) + 2) ∧ z.r = 0 ∧ z.d = slotsOf z.S0 ∧ z.o = orderOf z.S0 ∧ 0 ≤ z.S.reads ∧ z.S.reads ≤ 60 * (Hn ((z.l.length : Int) + 1) + 2) ∧ z.v = (getE z.l z.k).getD 0 ∧ z.is = (getE z.l z.k).isSome ∧
  ((getE z.l z.k = none ∧ z.f = 4 ∧ z.i = 0 ∧ z.w = 0 ∧ ∃ m, z.S = rdS z.S0 m) ∨
   ((getE z.l z.k).isSome = true ∧ z.S0.free < z.need ∧ z.f = 2 ∧ z.i = 0 ∧ z.w = 0 ∧ ∃ m, z.S = rdS z.S0 m) ∨
   ((getE z.l z.k).isSome = true ∧ z.need ≤ z.S0.free ∧ z.f = 0 ∧ z.w = z.v ∧ ∃ (m r : Nat), (m : Int) ≤ z.need ∧ TrR z.S0 [z.root] (flt (neK z.k) z.l) m r z.S z.i))
def PUw (z : UdS) (want : Int) : Prop := PUd z ∧ want = z.f
end Go.Proofs.Ytbonbaccmlomhaa.Sx
end
section
/- update.Increase, and the laws that updates increase, commute and share. -/
namespace Go.Proofs.Ytbonbaccmlomhaa.Sx
open Go

/-KEEP Wf exW inU live Arn.cap Arn.free Rep rdS retL Tr.size Tr.list slotsOf orderOf PlantR newS insE outE listE getE TrR upM Hn keptD Asc Tr.Bal ht dB iB RepD List.Perm flt neK-/
noncomputable def aInc : Ann C0 := { Γ := [(18, frameT [] tGetT), (59, frameT [] tUpIn)] }
def tInc : Tfm C0 := fun args H K => match args with
  | [.at (.ptr 0 0), .at (.val (.int .u32 r)), .at (.val (.int .i64 k)), .at (.val (.int .i64 n))] => arM H fun S => ∃ hs t, upM S hs t r ∧ S.reads ≤ 900000000000000000 ∧ 4 * (Hn (t.size + 1) + 2) ≤ S.free ∧
    ∀ S' j w, w = IntKind.i64.wrap ((getE t.list k).getD 0 + n) → TrR S hs (insE t.list (k, w)) (iB t.size) (5 * iB t.size + 2 * ht t + 1) S' j → K (.tup [.at (vU j), .at (vI w), .at (vI 0)]) (chS S') W7
  | _ => False
structure XUc (P : Arn → Int → List Ent → Prop) where
  S : Arn
  i : Int
  l : List Ent
  k : Int
  h : P S i l
def tUc : Tfm C0 := fun args H K => match args, H with
  | [.at (.slc 0), .at (.val (.int .u64 t)), .at (.val (.int .i64 _)), .at (.val (.int .i64 n)), .at (.val (.int .i64 at'))], [.row false .ent raw] => 0 ≤ t ∧ (-9223372036854775808 ≤ n ∧ n ≤ 9223372036854775807) ∧ (-9223372036854775808 ≤ at' ∧ at' ≤ 9223372036854775807) ∧ (∀ x ∈ raw, -9223372036854775808 ≤ x.2 ∧ x.2 ≤ 9223372036854775807) ∧ K (.one (.at (vB true))) [.row false EC.ent raw] []
  | _, _ => False
/-! ### The law that Increase increases -/
def PUc (S : Arn) (i : Int) (l : List Ent) : Prop := ∃ t, upM S [i] t i ∧ t.list = l ∧ t.size = l.length ∧ l.length ≤ 100 ∧ S.free = 200 ∧ S.reads = 0 ∧ ∀ x ∈ l, -9223372036854775808 ≤ x.2 ∧ x.2 ≤ 9223372036854775807
end Go.Proofs.Ytbonbaccmlomhaa.Sx
end
section
/- The law SetopsDistribute, and law16.awake. -/
namespace Go.Proofs.Ytbonbaccmlomhaa.Sx
open Go

/-KEEP Wf exW inU live Arn.cap Arn.free Rep rdS retL Tr.size Tr.list Tr.Bal gN TrR Got flt Asc Hn ht PlantR BuildR newS listE List.Perm sameB Kin OpM needS SetR fUni fInt gSub gExc ascB-/
/-- Where there is room, an ascending list becomes a tree. -/
def tBuildOk : Tfm C0 := fun args H K => match args with
  | [.at (.ptr 0 0), .at (.slc 7)] => arMr H fun S rest => match rest with
    | [.row false .ent l] => ∃ hs, Wf S hs ∧ Asc l ∧ l.length ≤ 60000 ∧ hs.length ≤ 900000 ∧ (l.length : Int) ≤ S.free ∧ S.reads ≤ 900000000000000000 ∧ ∀ S' i, TrR S hs l 65537 0 S' i → K (.tup [.at (vU i), .at (vI 0)]) (chS S' ++ [.row false EC.ent l]) W7
    | _ => False
  | _ => False
theorem shp_sizeV {t : Tr} {l : List Ent} (h : ShpT t l) : t.size = l.length := by rw [← t.list_len, h.list]
theorem shp_balV : ∀ {t : Tr} {l : List Ent}, ShpT t l → t.Bal
  | .nil, _, _ => trivial
  | .node a k v b, l, h => by
    obtain ⟨h1, h2, h3, h4⟩ := h
    have s3 := shp_sizeV h3
    have s4 := shp_sizeV h4
    simp only [List.length_take, List.length_drop] at s3 s4
    refine ⟨?_, shp_balV h3, shp_balV h4⟩
    unfold balN
    omega
theorem ascB_of {l : List Ent} (h : Asc l) : ascB l = true := decide_eq_true h
theorem build_tr {S S' : Arn} {hs : List Int} {l : List Ent} {i : Int} (w : Wf S hs) (b : BuildR S hs l S' i) (hl : l.length ≤ 60000) : TrR S hs l 65537 0 S' i := by
  obtain ⟨t, rp, sp⟩ := b.rep
  exact ⟨⟨b.wf, b.stay, b.len, by rw [b.nu]; omega, by rw [b.rds]; exact Int.le_refl _, by rw [b.rds]; omega⟩, t, rp, sp.list, shp_balV sp⟩
theorem s_buildOk : SoundT C0 35 tBuildOk := s_build.weak fun args H K h => by
  unfold tBuildOk at h
  unfold tBuild
  split at h <;> try exact h.elim
  unfold arMr at h ⊢
  split at h <;> try exact h.elim
  dsimp only at h ⊢
  split at h <;> try exact h.elim
  obtain ⟨hs, w, asc, hl, hh, hf, hr, h⟩ := h
  exact ⟨hs, w, by omega, by omega, fun e => absurd (ascB_of asc) (by rw [e]; decide), fun _ c => absurd hf (by omega), fun _ _ S' i b => h S' i (build_tr w b hl)⟩
def tLsOk : Tfm C0 := fun args H K => match args with
  | [.at (.ptr 0 0), .at (.val (.int .u32 i))] => arM H fun S => ∃ hs t, Wf S hs ∧ Rep S t i ∧ Asc t.list ∧ Kin t.list ∧ t.size ≤ 60000 ∧ S.reads ≤ 1000000000000000000 ∧
    ∀ S' m (out : List Ent), S' = rdS S m → m ≤ t.size → out = t.list → K (.one (.at (.slc 7))) (chS S' ++ [.row true EC.ent out]) [0]
  | _ => False
theorem rangeR_few2 (t : Tr) (lo hi lim : Int) : (rangeR t lo hi lim).2 ≤ t.size := by
  unfold rangeR
  split
  · simp
  · exact (lk_len t lo hi _).2.2
theorem s_lsOk : SoundT C0 39 tLsOk := s_list.weak fun args H K h => by
  unfold tLsOk at h
  unfold tList
  split at h <;> try exact h.elim
  unfold arM at h ⊢
  split at h <;> try exact h.elim
  obtain ⟨hs, t, w, rp, asc, kw, sz, rd, h⟩ := h
  exact ⟨hs, t, w, rp, by omega, by omega, fun S' out e eo => h S' _ out e (rangeR_few2 t _ _ _) (by rw [eo]; exact range_all asc kw (by omega))⟩
noncomputable def aAw16 : Ann C0 := { Γ := [(34, frameT [] tNew), (51, frameT [] tPlantA), (22, frameT [] (tSoPk fUni)), (49, frameT [] tSize)] }
def tAw16 : Tfm C0 := fun args H K => match args, H with
  | [], [] => K (.one (.at (vB true))) [] []
  | _, _ => False
noncomputable def aVd (raw oth thi : List Ent) : Ann C0 := { quiet := [40, 38], Γ := [(34, frameT [] tNew), (20, frameT [] tAw16), (36, frameT [] tLst), (35, frameT [] tBuildOk), (22, frameT [] (tSoPk fUni)), (32, frameT [] (tSoPk fInt)), (37, frameT [] (tSoNk gSub)), (39, frameT [] tLsOk), (38, frameT [] tSame_ent), (40, frameT [] tSound)] }
def tVd : Tfm C0 := fun args H K => match args, H with
  | [.at (.slc 0), .at (.slc 1), .at (.slc 2)], [.row false .ent raw, .row false .ent oth, .row false .ent thi] => Kin raw ∧ Kin oth ∧ Kin thi ∧ K (.one (.at (vB true))) [.row false EC.ent raw, .row false EC.ent oth, .row false EC.ent thi] []
  | _, _ => False
theorem cap_new (c : Nat) : (newS c).cap = c := by unfold Arn.cap newS; simp
theorem Hld.new {c : Nat} (h1 : 1 ≤ c) (h2 : c ≤ 65536) : Hld (newS c) [] := ⟨Wf.new h1 h2, fun _ h => (by cases h), fun _ h => (by cases h), fun _ h => (by cases h)⟩
theorem plant_tr {S S' : Arn} {hs : List Int} {l : List Ent} {i : Int} (w : Wf S hs) (b : PlantR S hs l S' i) (hl : l.length ≤ 60000) : TrR S hs l 65537 0 S' i :=
  ⟨⟨b.wf, b.stay, b.len, by rw [b.nu]; omega, by rw [b.rds]; exact Int.le_refl _, by rw [b.rds]; omega⟩, b.rep⟩
theorem vc_aw16 (K : KT) (h : K (.one (.at (vB true))) [] []) : vc C0 aAw16 Try.f20 [] [] (normK 0 K) := by
  refine Eq.mp (show ((((200 : Int) < 1 ∨ (65536 : Int) < 200) →
(K (SV.one (TV.at (At.val (Value.bool false)))) [] [])) ∧
(((1 : Int) ≤ 200) →
(((200 : Int) ≤ 65536) →
(∀ S : Arn, (((S) = (newS (Int.toNat 200))) → (∃ hs : List Int, ((Wf S hs) ∧ (([(1, 10)] : List Ent).length ≤ 100000) ∧ ((↑([(1, 10)] : List Ent).length : Int) ≤ S.free) ∧ (hs.length + ([(1, 10)] : List Ent).length ≤ 900000000) ∧ ((0 : Int) ≤ 0) ∧ (∀ S' : Arn, (∀ i : Int, ((PlantR S hs ([(1, 10)] : List Ent) S' i) → (∃ hs1 : List Int, ((Wf S' hs1) ∧ (([(2, 20)] : List Ent).length ≤ 100000) ∧ ((↑([(2, 20)] : List Ent).length : Int) ≤ S'.free) ∧ (hs1.length + ([(2, 20)] : List Ent).length ≤ 900000000) ∧ ((0 : Int) ≤ 0) ∧ (∀ S'1 : Arn, (∀ i1 : Int, ((PlantR S' hs1 ([(2, 20)] : List Ent) S'1 i1) → (∃ hs2 : List Int, (∃ tx : Tr, (∃ ty : Tr, ((OpM S'1 hs2 tx ty i i1) ∧ ((1 : Int) ≤ 1) ∧ ((1 : Int) ≤ 5) ∧ (needS tx ty ≤ S'1.free) ∧ (∀ S'2 : Arn, (∀ i2 : Int, (∀ L : List Ent, ((SetR (fUni 1) tx.list ty.list L) → ((TrR S'1 hs2 L 65537 2000000000 S'2 i2) → ((inU i2) ∧ (exW S'2) ∧ (S'2.reads < 4000000000000000000) ∧ (∀ S'3 : Arn, (((S'3) = (rdS S'2 (S'2.us i2).toNat)) → (K (SV.one (TV.at (At.val (Value.bool ((S'2.nd i2).size == 2))))) [] [])))))))))))))))))))))))))))) = _ by kernel_rfl) ?_
  refine ⟨fun c => by omega, fun _ _ S0 e => ?_⟩
  have e5 : Int.toNat 200 = 200 := rfl
  rw [e5] at e
  have h0 : Hld S0 [] := by rw [e]; exact Hld.new (by omega) (by omega)
  have c0 : S0.cap = 200 := by rw [e]; exact cap_new 200
  have r0 : S0.reads = 0 := by rw [e]; rfl
  clear e
  have f0 := h0.room
  simp only [sumL_nil] at f0
  refine ⟨_, h0.wf, by decide, by simp; omega, by simp, by decide, fun S1 x p1 => ?_⟩
  have t1 := plant_tr h0.wf p1 (by decide)
  have h1 := h0.step t1 (by decide) (by intro x hx; simp at hx; subst hx; decide)
  have c1 := tr_cap t1
  have r1 := t1.got.rd
  have f1 := h1.room
  simp only [sumL_nil, sumL_cons] at f1
  refine ⟨_, h1.wf, by decide, by simp at f1 ⊢; omega, by simp, by decide, fun S2 y p2 => ?_⟩
  have t2 := plant_tr h1.wf p2 (by decide)
  have h2 := h1.step t2 (by decide) (by intro x hx; simp at hx; subst hx; decide)
  have c2 := tr_cap t2
  have r2 := t2.got.rd
  have f2 := h2.room
  simp only [sumL_nil, sumL_cons] at f2
  obtain ⟨tx, ty, o, lx, ly, sx, sy⟩ := h2.op (x := x) (y := y) (l := [(1, 10)]) (m := [(2, 20)]) (by simp) (by simp) (by decide) (by decide) (by simp) (by omega)
  have n2 : needS tx ty ≤ S2.free := by
    have e : needS tx ty = 2 + 12 * (Hn 2 + 2) := by unfold needS; rw [sx, sy]; rfl
    have e2 : Hn 2 ≤ 2 := by decide
    simp at f2
    omega
  refine ⟨_, tx, ty, o, by decide, by decide, n2, fun S3 u U q3 t3 => ?_⟩
  rw [lx, ly] at q3
  have eU : U = [(1, 10), (2, 20)] := q3.ext (uni_set (by decide) (by decide) 1)
  obtain ⟨t, rp, lt, _⟩ := t3.tree
  have w3 := t3.got.wf
  have r3 := t3.got.rd
  refine ⟨inU_of w3 rp.us, ⟨_, w3⟩, by omega, fun S4 _ => ?_⟩
  rw [rp.size w3, ← t.list_len, lt, eU]
  exact h
theorem s_aw16 : SoundT C0 20 tAw16 := by
  refine .of Try.func20 (by decide) rfl fun args H K h hB => ?_
  unfold tAw16 at h
  split at h <;> try exact h.elim
  exact ⟨aAw16, ⟨frame C0.ok s_new _, frame C0.ok s_plantA _, frame C0.ok s_soUk _, frame C0.ok s_size _, trivial⟩, vc_aw16 K h⟩
set_option maxRecDepth 100000 in
set_option maxHeartbeats 1000000 in
theorem vc_vd (raw oth thi : List Ent) (K : KT) (k1 : Kin raw) (k2 : Kin oth) (k3 : Kin thi) (h : K (.one (.at (vB true))) [.row false EC.ent raw, .row false EC.ent oth, .row false EC.ent thi] []) :
    vc C0 (aVd raw oth thi) Try.f8 [.at (.slc 0), .at (.slc 1), .at (.slc 2)] [.row false EC.ent raw, .row false EC.ent oth, .row false EC.ent thi] (normK 3 K) := by
  refine Eq.mp (show ((((5000 : Int) < 1 ∨ (65536 : Int) < 5000) →
(K (SV.one (TV.at (At.val (Value.bool false)))) [(Chunk.row false (EC.ent) (raw)), (Chunk.row false (EC.ent) (oth)), (Chunk.row false (EC.ent) (thi))] [])) ∧
(((1 : Int) ≤ 5000) →
(((5000 : Int) ≤ 65536) →
(∀ S : Arn, (((S) = (newS (Int.toNat 5000))) → (((0 : Int) ≤ 40) ∧ ((40 : Int) ≤ 1000000) ∧ (∃ hs : List Int, ((Wf S hs) ∧ (Asc (listE raw (Int.toNat 40))) ∧ ((listE raw (Int.toNat 40)).length ≤ 60000) ∧ (hs.length ≤ 900000) ∧ ((↑(listE raw (Int.toNat 40)).length : Int) ≤ S.free) ∧ (S.reads ≤ 900000000000000000) ∧ (∀ S' : Arn, (∀ i : Int, ((TrR S hs (listE raw (Int.toNat 40)) 65537 0 S' i) → (((0 : Int) ≤ 40) ∧ ((40 : Int) ≤ 1000000) ∧ (∃ hs1 : List Int, ((Wf S' hs1) ∧ (Asc (listE oth (Int.toNat 40))) ∧ ((listE oth (Int.toNat 40)).length ≤ 60000) ∧ (hs1.length ≤ 900000) ∧ ((↑(listE oth (Int.toNat 40)).length : Int) ≤ S'.free) ∧ (S'.reads ≤ 900000000000000000) ∧ (∀ S'1 : Arn, (∀ i1 : Int, ((TrR S' hs1 (listE oth (Int.toNat 40)) 65537 0 S'1 i1) → (((0 : Int) ≤ 40) ∧ ((40 : Int) ≤ 1000000) ∧ (∃ hs2 : List Int, ((Wf S'1 hs2) ∧ (Asc (listE thi (Int.toNat 40))) ∧ ((listE thi (Int.toNat 40)).length ≤ 60000) ∧ (hs2.length ≤ 900000) ∧ ((↑(listE thi (Int.toNat 40)).length : Int) ≤ S'1.free) ∧ (S'1.reads ≤ 900000000000000000) ∧ (∀ S'2 : Arn, (∀ i2 : Int, ((TrR S'1 hs2 (listE thi (Int.toNat 40)) 65537 0 S'2 i2) → (∃ hs3 : List Int, (∃ tx : Tr, (∃ ty : Tr, ((OpM S'2 hs3 tx ty i1 i2) ∧ ((1 : Int) ≤ 1) ∧ ((1 : Int) ≤ 5) ∧
    (needS tx ty ≤ S'2.free) ∧ (∀ S'3 : Arn, (∀ i3 : Int, (∀ L : List Ent, ((SetR (fUni 1) tx.list ty.list L) → ((TrR S'2 hs3 L 65537 2000000000 S'3 i3) → (∃ hs4 : List Int, (∃ tx1 : Tr, (∃ ty1 : Tr, ((OpM S'3 hs4 tx1 ty1 i i3) ∧ (needS tx1 ty1 ≤ S'3.free) ∧ (∀ S'4 : Arn, (∀ i4 : Int, (∀ L1 : List Ent, ((SetR (gSub 1) tx1.list ty1.list L1) → ((TrR S'3 hs4 L1 65537 2000000000 S'4 i4) → (∃ hs5 : List Int, (∃ tx2 : Tr, (∃ ty2 : Tr, ((OpM S'4 hs5 tx2 ty2 i i1) ∧ (needS tx2 ty2 ≤ S'4.free) ∧ (∀ S'5 : Arn, (∀ i5 : Int, (∀ L2 : List Ent, ((SetR (gSub 1) tx2.list ty2.list L2) → ((TrR S'4 hs5 L2 65537 2000000000 S'5 i5) → (∃ hs6 : List Int, (∃ tx3 : Tr, (∃ ty3 : Tr, ((OpM S'5 hs6 tx3 ty3 i5 i2) ∧ (needS tx3 ty3 ≤ S'5.free) ∧ (∀ S'6 : Arn, (∀ i6 : Int, (∀ L3 : List Ent, ((SetR (gSub 1) tx3.list ty3.list L3) → ((TrR S'5 hs6 L3 65537 2000000000 S'6 i6) → (∃ hs7 : List Int, (∃ t : Tr, ((Wf S'6 hs7) ∧ (Rep S'6 t i4) ∧ (Asc t.list) ∧ (Kin t.list) ∧ (t.size ≤ 60000) ∧ (S'6.reads ≤ 1000000000000000000) ∧ (∀ S'7 : Arn, (∀ m : Nat, (∀ out : List Ent, (((S'7) = (rdS S'6 m)) → ((m ≤ t.size) → (((out) = (t.list)) → (∃ hs8 : List Int, (∃ t1 : Tr, ((Wf S'7 hs8) ∧ (Rep S'7 t1 i6) ∧ (Asc t1.list) ∧ (Kin t1.list) ∧ (t1.size ≤ 60000) ∧ (S'7.reads ≤ 1000000000000000000) ∧ (∀ S'8 : Arn, (∀ m1 : Nat, (∀ out1 : List Ent, (((S'8) = (rdS S'7 m1)) → ((m1 ≤ t1.size) → (((out1) = (t1.list)) → (brS (!sameB out out1)
    ((K (SV.one (TV.at (At.val (Value.bool false)))) [(Chunk.row false (EC.ent) (raw)), (Chunk.row false (EC.ent) (oth)), (Chunk.row false (EC.ent) (thi))] [])) ((∃ hs9 : List Int, (∃ tx4 : Tr, (∃ ty4 : Tr, ((OpM S'8 hs9 tx4 ty4 i i3) ∧ ((1 : Int) ≤ 1) ∧ ((1 : Int) ≤ 5) ∧ (needS tx4 ty4 ≤ S'8.free) ∧ (∀ S'9 : Arn, (∀ i7 : Int, (∀ L4 : List Ent, ((SetR (fInt 1) tx4.list ty4.list L4) → ((TrR S'8 hs9 L4 65537 2000000000 S'9 i7) → (∃ hs10 : List Int, (∃ tx5 : Tr, (∃ ty5 : Tr, ((OpM S'9 hs10 tx5 ty5 i i1) ∧ ((1 : Int) ≤ 1) ∧ ((1 : Int) ≤ 5) ∧ (needS tx5 ty5 ≤ S'9.free) ∧ (∀ S'10 : Arn, (∀ i8 : Int, (∀ L5 : List Ent, ((SetR (fInt 1) tx5.list ty5.list L5) → ((TrR S'9 hs10 L5 65537 2000000000 S'10 i8) → (∃ hs11 : List Int, (∃ tx6 : Tr, (∃ ty6 : Tr, ((OpM S'10 hs11 tx6 ty6 i i2) ∧ ((1 : Int) ≤ 1) ∧ ((1 : Int) ≤ 5) ∧ (needS tx6 ty6 ≤ S'10.free) ∧ (∀ S'11 : Arn, (∀ i9 : Int, (∀ L6 : List Ent, ((SetR (fInt 1) tx6.list ty6.list L6) → ((TrR S'10 hs11 L6 65537 2000000000 S'11 i9) → (∃ hs12 : List Int, (∃ tx7 : Tr, (∃ ty7 : Tr, ((OpM S'11 hs12 tx7 ty7 i8 i9) ∧ ((1 : Int) ≤ 1) ∧ ((1 : Int) ≤ 5) ∧ (needS tx7 ty7 ≤ S'11.free) ∧ (∀ S'12 : Arn, (∀ i10 : Int, (∀ L7 : List Ent, ((SetR (fUni 1) tx7.list ty7.list L7) → ((TrR S'11 hs12 L7 65537 2000000000 S'12 i10) → (∃ hs13 : List Int, (∃ t2 : Tr, ((Wf S'12 hs13) ∧ (Rep S'12 t2 i7) ∧ (Asc t2.list) ∧ (Kin t2.list) ∧ (t2.size ≤ 60000) ∧ (S'12.reads ≤ 1000000000000000000) ∧ (∀ S'13 : Arn, (∀ m2 : Nat, (∀ out2 : List Ent, (((S'13) = (rdS S'12 m2)) →
    ((m2 ≤ t2.size) → (((out2) = (t2.list)) → (∃ hs14 : List Int, (∃ t3 : Tr, ((Wf S'13 hs14) ∧ (Rep S'13 t3 i10) ∧ (Asc t3.list) ∧ (Kin t3.list) ∧ (t3.size ≤ 60000) ∧ (S'13.reads ≤ 1000000000000000000) ∧ (∀ S'14 : Arn, (∀ m3 : Nat, (∀ out3 : List Ent, (((S'14) = (rdS S'13 m3)) → ((m3 ≤ t3.size) → (((out3) = (t3.list)) → (brS (sameB out2 out3) ((∃ hs15 : List Int, ((Wf S'14 hs15) ∧ ([i, i1, i2, i3, i4, i5, i6, i7, i8, i9, i10].Perm hs15) ∧ ([i, i1, i2, i3, i4, i5, i6, i7, i8, i9, i10].length ≤ 1000000) ∧ (K (SV.one (TV.at (At.val (Value.bool true)))) [(Chunk.row false (EC.ent) (raw)), (Chunk.row false (EC.ent) (oth)), (Chunk.row false (EC.ent) (thi))] [])))) ((K (SV.one (TV.at (At.val (Value.bool false)))) [(Chunk.row false (EC.ent) (raw)), (Chunk.row false (EC.ent) (oth)), (Chunk.row false (EC.ent) (thi))] [])))))))))))))))))))))))))))))))))))))))))))))))))))))))))))))))))))))))))))))))))))))))))))))))))))))))))))))))))))))))))))))))))))))))) = _ by kernel_rfl) ?_
  have e40 : Int.toNat 40 = 40 := rfl
  rw [e40]
  obtain ⟨a1, l1⟩ := listE_spec raw 40
  have q1 : Kin (listE raw 40) := fun x hx => k1 x (listE_sub raw 40 x hx)
  generalize listE raw 40 = A at *
  obtain ⟨a2, l2⟩ := listE_spec oth 40
  have q2 : Kin (listE oth 40) := fun x hx => k2 x (listE_sub oth 40 x hx)
  generalize listE oth 40 = B at *
  obtain ⟨a3, l3⟩ := listE_spec thi 40
  have q3 : Kin (listE thi 40) := fun x hx => k3 x (listE_sub thi 40 x hx)
  generalize listE thi 40 = C at *
  refine ⟨fun c => by omega, fun _ _ S0 e => ?_⟩
  have e5 : Int.toNat 5000 = 5000 := rfl
  rw [e5] at e
  have h0 : Hld S0 [] := by rw [e]; exact Hld.new (by omega) (by omega)
  have c0 : S0.cap = 5000 := by rw [e]; exact cap_new 5000
  have r0 : S0.reads = 0 := by rw [e]; rfl
  clear e
  have f0 := h0.room
  simp only [sumL_cons, sumL_nil] at f0
  refine ⟨by decide, by decide, _, h0.wf, a1, by omega, by simp, by omega, by omega, fun S1 x t1 => ?_⟩
  have h1 := h0.step t1 a1 q1
  have c1 := tr_cap t1
  have r1 := t1.got.rd
  clear t1 f0
  have f1 := h1.room
  simp only [sumL_cons, sumL_nil] at f1
  refine ⟨by decide, by decide, _, h1.wf, a2, by omega, by simp, by omega, by omega, fun S2 y t2 => ?_⟩
  have h2 := h1.step t2 a2 q2
  have c2 := tr_cap t2
  have r2 := t2.got.rd
  clear t2 f1
  have f2 := h2.room
  simp only [sumL_cons, sumL_nil] at f2
  refine ⟨by decide, by decide, _, h2.wf, a3, by omega, by simp, by omega, by omega, fun S3 z t3 => ?_⟩
  have h3 := h2.step t3 a3 q3
  have c3 := tr_cap t3
  have r3 := t3.got.rd
  clear t3 f2
  obtain ⟨tx4, ty4, o4, lx4, ly4, n4⟩ := h3.go (x := y) (y := z) (l := B) (m := C) (by simp) (by simp) (by simp only [sumL_cons, sumL_nil]; omega) (by simp) (by omega) (by omega)
  refine ⟨_, tx4, ty4, o4, by decide, by decide, n4, fun S4 u U q4 t4 => ?_⟩
  rw [lx4, ly4] at q4
  have h4 := h3.set (x := y) (y := z) (f := fUni) (p := 1) (by simp) (by simp) rfl q4 t4
  have c4 := tr_cap t4
  have r4 := t4.got.rd
  have g4 := q4.len
  clear o4 n4 lx4 ly4 tx4 ty4 t4
  obtain ⟨tx5, ty5, o5, lx5, ly5, n5⟩ := h4.go (x := x) (y := u) (l := A) (m := U) (by simp) (by simp) (by simp only [sumL_cons, sumL_nil]; omega) (by simp) (by omega) (by omega)
  refine ⟨_, tx5, ty5, o5, n5, fun S5 s S q5 t5 => ?_⟩
  rw [lx5, ly5] at q5
  have h5 := h4.set (x := x) (y := u) (f := gSub) (p := 1) (by simp) (by simp) rfl q5 t5
  have c5 := tr_cap t5
  have r5 := t5.got.rd
  have g5 := q5.len
  clear o5 n5 lx5 ly5 tx5 ty5 t5
  obtain ⟨tx6, ty6, o6, lx6, ly6, n6⟩ := h5.go (x := x) (y := y) (l := A) (m := B) (by simp) (by simp) (by simp only [sumL_cons, sumL_nil]; omega) (by simp) (by omega) (by omega)
  refine ⟨_, tx6, ty6, o6, n6, fun S6 t T q6 t6 => ?_⟩
  rw [lx6, ly6] at q6
  have h6 := h5.set (x := x) (y := y) (f := gSub) (p := 1) (by simp) (by simp) rfl q6 t6
  have c6 := tr_cap t6
  have r6 := t6.got.rd
  have g6 := q6.len
  clear o6 n6 lx6 ly6 tx6 ty6 t6
  obtain ⟨tx7, ty7, o7, lx7, ly7, n7⟩ := h6.go (x := t) (y := z) (l := T) (m := C) (by simp) (by simp) (by simp only [sumL_cons, sumL_nil]; omega) (by simp) (by omega) (by omega)
  refine ⟨_, tx7, ty7, o7, n7, fun S7 v V q7 t7 => ?_⟩
  rw [lx7, ly7] at q7
  have h7 := h6.set (x := t) (y := z) (f := gSub) (p := 1) (by simp) (by simp) rfl q7 t7
  have c7 := tr_cap t7
  have r7 := t7.got.rd
  have g7 := q7.len
  clear o7 n7 lx7 ly7 tx7 ty7 t7
  obtain ⟨t8, rp8, as8, kn8, sz8, lt8⟩ := h7.ls (x := s) (l := S) (by simp) (by omega)
  refine ⟨_, t8, h7.wf, rp8, as8, kn8, sz8, by omega, fun S8 m8 o8 e8 b8 eo8 => ?_⟩
  have h8 := h7.rd (n := m8) (by omega)
  rw [← e8] at h8
  have c8 : S8.cap = S7.cap := by rw [e8]; rfl
  have r8 : S8.reads = S7.reads + m8 := by rw [e8]; rfl
  rw [lt8] at eo8
  clear rp8 as8 kn8 lt8
  obtain ⟨t9, rp9, as9, kn9, sz9, lt9⟩ := h8.ls (x := v) (l := V) (by simp) (by omega)
  refine ⟨_, t9, h8.wf, rp9, as9, kn9, sz9, by omega, fun S9 m9 o9 e9 b9 eo9 => ?_⟩
  have h9 := h8.rd (n := m9) (by omega)
  rw [← e9] at h9
  have c9 : S9.cap = S8.cap := by rw [e9]; rfl
  have r9 : S9.reads = S8.reads + m9 := by rw [e9]; rfl
  rw [lt9] at eo9
  clear rp9 as9 kn9 lt9
  have same1 : sameB o8 o9 = true := by rw [eo8, eo9]; exact decide_eq_true (sub_uni q4 q5 q6 q7)
  refine bf7 (by rw [same1]; rfl) ?_
  obtain ⟨tx10, ty10, o10, lx10, ly10, n10⟩ := h9.go (x := x) (y := u) (l := A) (m := U) (by simp) (by simp) (by simp only [sumL_cons, sumL_nil]; omega) (by simp) (by omega) (by omega)
  refine ⟨_, tx10, ty10, o10, by decide, by decide, n10, fun S10 m M q10 t10 => ?_⟩
  rw [lx10, ly10] at q10
  have h10 := h9.set (x := x) (y := u) (f := fInt) (p := 1) (by simp) (by simp) rfl q10 t10
  have c10 := tr_cap t10
  have r10 := t10.got.rd
  have g10 := q10.len
  clear o10 n10 lx10 ly10 tx10 ty10 t10
  obtain ⟨tx11, ty11, o11, lx11, ly11, n11⟩ := h10.go (x := x) (y := y) (l := A) (m := B) (by simp) (by simp) (by simp only [sumL_cons, sumL_nil]; omega) (by simp) (by omega) (by omega)
  refine ⟨_, tx11, ty11, o11, by decide, by decide, n11, fun S11 n N q11 t11 => ?_⟩
  rw [lx11, ly11] at q11
  have h11 := h10.set (x := x) (y := y) (f := fInt) (p := 1) (by simp) (by simp) rfl q11 t11
  have c11 := tr_cap t11
  have r11 := t11.got.rd
  have g11 := q11.len
  clear o11 n11 lx11 ly11 tx11 ty11 t11
  obtain ⟨tx12, ty12, o12, lx12, ly12, n12⟩ := h11.go (x := x) (y := z) (l := A) (m := C) (by simp) (by simp) (by simp only [sumL_cons, sumL_nil]; omega) (by simp) (by omega) (by omega)
  refine ⟨_, tx12, ty12, o12, by decide, by decide, n12, fun S12 o O q12 t12 => ?_⟩
  rw [lx12, ly12] at q12
  have h12 := h11.set (x := x) (y := z) (f := fInt) (p := 1) (by simp) (by simp) rfl q12 t12
  have c12 := tr_cap t12
  have r12 := t12.got.rd
  have g12 := q12.len
  clear o12 n12 lx12 ly12 tx12 ty12 t12
  obtain ⟨tx13, ty13, o13, lx13, ly13, n13⟩ := h12.go (x := n) (y := o) (l := N) (m := O) (by simp) (by simp) (by simp only [sumL_cons, sumL_nil]; omega) (by simp) (by omega) (by omega)
  refine ⟨_, tx13, ty13, o13, by decide, by decide, n13, fun S13 p P q13 t13 => ?_⟩
  rw [lx13, ly13] at q13
  have h13 := h12.set (x := n) (y := o) (f := fUni) (p := 1) (by simp) (by simp) rfl q13 t13
  have c13 := tr_cap t13
  have r13 := t13.got.rd
  have g13 := q13.len
  clear o13 n13 lx13 ly13 tx13 ty13 t13
  obtain ⟨t14, rp14, as14, kn14, sz14, lt14⟩ := h13.ls (x := m) (l := M) (by simp) (by omega)
  refine ⟨_, t14, h13.wf, rp14, as14, kn14, sz14, by omega, fun S14 m14 o14 e14 b14 eo14 => ?_⟩
  have h14 := h13.rd (n := m14) (by omega)
  rw [← e14] at h14
  have c14 : S14.cap = S13.cap := by rw [e14]; rfl
  have r14 : S14.reads = S13.reads + m14 := by rw [e14]; rfl
  rw [lt14] at eo14
  clear rp14 as14 kn14 lt14
  obtain ⟨t15, rp15, as15, kn15, sz15, lt15⟩ := h14.ls (x := p) (l := P) (by simp) (by omega)
  refine ⟨_, t15, h14.wf, rp15, as15, kn15, sz15, by omega, fun S15 m15 o15 e15 b15 eo15 => ?_⟩
  have h15 := h14.rd (n := m15) (by omega)
  rw [← e15] at h15
  have c15 : S15.cap = S14.cap := by rw [e15]; rfl
  have r15 : S15.reads = S14.reads + m15 := by rw [e15]; rfl
  rw [lt15] at eo15
  clear rp15 as15 kn15 lt15
  have same2 : sameB o14 o15 = true := by rw [eo14, eo15]; exact decide_eq_true (int_uni q4 q10 q11 q12 q13)
  refine bt7 same2 ⟨_, h15.wf, ?_, by simp, h⟩
  exact (List.reverse_perm [p, o, n, m, v, t, s, u, z, y, x])
theorem s_vd : SoundT C0 8 tVd := by
  refine .of Try.func8 (by decide) rfl fun args H K h hB => ?_
  unfold tVd at h
  split at h <;> try exact h.elim
  rename_i raw oth thi
  exact ⟨aVd raw oth thi, ⟨frame C0.ok s_new _, frame C0.ok s_aw16 _, frame C0.ok s_lst _, frame C0.ok s_buildOk _, frame C0.ok s_soUk _, frame C0.ok s_soIk _, frame C0.ok s_soSk _, frame C0.ok s_lsOk _, frame C0.ok s_same9 _, frame C0.ok s_sound _, trivial⟩, vc_vd raw oth thi K h.1 h.2.1 h.2.2.1 h.2.2.2⟩
end Go.Proofs.Ytbonbaccmlomhaa.Sx
end
section
/- What every law's last step leans on. -/
namespace Go.Proofs.Ytbonbaccmlomhaa
open Go.ChangeShapes Go.WideShapes Go.ChangeAt Go.RowKit

theorem ownK : ownKnob Try.prog.godebug = none := by kernel_rfl
theorem laidO : laidOutB Try.prog = true := by kernel_rfl

theorem lit_i64 {a : Int} (h : (Lit.int .i64 a).wf = true) : -9223372036854775808 ≤ a ∧ a ≤ 9223372036854775807 := by
  have h1 : IntKind.i64.min = -9223372036854775808 := rfl
  have h2 : IntKind.i64.max = 9223372036854775807 := rfl
  simp only [Lit.wf, Bool.and_eq_true, decide_eq_true_eq] at h
  omega
end Go.Proofs.Ytbonbaccmlomhaa
end
section
/- From contracts to laws: the arguments as they come, what a law's call leaves. -/
namespace Go.Proofs.Ytbonbaccmlomhaa.Sx
open Go Go.Joins Go.ChangeShapes Go.WideShapes Go.ChangeAt Go.RowKit

theorem Sat.imms {C : Ctx} {w : World} (vs : List Value) (H : List (Chunk C)) (h : ∀ (n : Nat) (c : Chunk C), H[n]? = some c → ∃ e l, c = .row false e l ∧ Imm C w (vs.getD n undef) e l) : Sat C (fun n => vs.getD n undef) (fun _ _ => False) w H where
  holds n c hc := by
    obtain ⟨e, l, rfl, hi⟩ := h n c hc
    exact ⟨hi, fun _ hh => hh⟩
  dis _ _ _ hh := hh.elim
  bd _ _ hh := hh.elim
  imm _ _ _ _ _ _ _ _ hh := hh
  out _ _ _ hh := hh
  cl n c hc m hm := by
    obtain ⟨e, l, rfl, _⟩ := h n c hc
    simp [Chunk.names] at hm

theorem lawOf {f : FuncId} {t : Tfm C0} (hs : SoundT C0 f t) {args : List TV} {H : List (Chunk C0)} {vs : List Value} {σ : Nat → Value} {w : World} (ht : ∀ K : KT, K (.one (.at (vB true))) H [] → t args H K)
    (hsat : Sat C0 σ (fun _ _ => False) w H) (hr : Rels (TV.rel σ) args vs) (hn : ∀ x ∈ args, ∀ m ∈ x.names, m < H.length) : Calls Try.prog f vs.toArray w (fun e w' => e = .returned (.bool true) ∧ Below w.heap.size w w') := by
  have hc := hs.call args H (fun r _ _ => r = .one (.at (vB true))) (ht _ rfl) σ _ w vs hsat hr hn
  refine Calls.mono hc fun e w' hh => ?_
  cases e with
  | panicked ch => exact hh.elim
  | outgrown => exact hh.elim
  | returned v =>
    obtain ⟨r, H', ts, σ', φ', hout, rfl⟩ := hh
    have hv : v = .bool true := hout.rel
    exact ⟨by rw [hv], hout.adv.os, hout.adv.tape, hout.adv.output, hout.adv.size, fun k hk => hout.adv.fr k hk fun n hh => hh⟩

section
variable {HH : Type} {enc : TypeId × Value → HH} {P : Program} {w : World} {base b0 : Nat} {spare : Nat → Bool} {held : Bool} {r : Reach}
theorem openRowQ {α : Type} [Inhabited α] {t e : TypeId} {f : α → List Value} {Q : α → Prop} {sz : Nat} {v : Value} {d : DataW HH} {p : List MemPlace} (ht : P.underlying t = some (.slice e)) (hC : P.cellsOf e = sz) (hpos : 0 < sz) (hf : ∀ x, (f x).length = sz)
    (hel : ∀ {n : Nat} {cs : List Value} {x : DataW HH × List MemPlace}, DataW.trod enc P w base spare held n e cs = some x → ∃ a, cs = f a ∧ Q a) (hv : Value.okWide P w r b0 t v) (h : DataW.Trod enc P w base spare held t v d p) :
    ∃ A n c l, v = .slice A n c ∧ Rd f sz w A n c l ∧ ∀ x ∈ l, Q x := by
  obtain ⟨A, n, c, rfl⟩ := okWide_slice ht hv
  obtain ⟨fuel, hh⟩ := h
  have hh : DataW.trod enc P w base spare held fuel t [.slice A n c] = some (d, p) := by simpa [Value.cells] using hh
  rcases Go.Deep.open_slice ht hh with ⟨h1, _⟩ | ⟨a, len, cap, m, k, D, Pl, h1, hb, hle, hm, hmm, hx, hall⟩
  · simp only [List.cons.injEq, Value.slice.injEq, and_true] at h1
    obtain ⟨rfl, rfl, rfl⟩ := h1
    exact ⟨none, 0, 0, [], rfl, Rd.nil hf, fun x hx => by simp at hx⟩
  · simp only [List.cons.injEq, Value.slice.injEq, and_true] at h1
    obtain ⟨rfl, rfl, rfl⟩ := h1
    have hlm : n ≤ m := by rw [hmm]; split <;> omega
    have hel' : ∀ i, i < n → ∃ x : α, w.cells? base (a.add (i * P.cellsOf e)) (P.cellsOf e) = some (f x) ∧ Q x := fun i hi => by
      obtain ⟨cs', hc1, hc2⟩ := hall i (by omega)
      obtain ⟨x, rfl, hq⟩ := hel hc2
      exact ⟨x, hc1, hq⟩
    obtain ⟨F, hF⟩ := Go.Deep.choose_lt hel'
    have cell : ∀ i, i < n → ∀ j, j < sz → w.cell? ((a.add (i * sz)).add j) = (f (F i))[j]? := fun i hi j hj => by
      have h2 := (hF i hi).1
      rw [hC] at h2
      unfold World.cells? at h2
      split at h2
      · exact mapM_some_get h2 j j (by simp [hj])
      · cases h2
    refine ⟨some a, n, c, (List.range n).map F, rfl, ⟨by simp, hle, hm, hf, fun h => (by cases h), fun hn => ?_⟩, fun x hx => by obtain ⟨i, hi, rfl⟩ := List.mem_map.1 hx; exact (hF i (List.mem_range.1 hi)).2⟩
    obtain ⟨b, o, sp⟩ := a
    have hsome : ∀ i, i < n → ∀ j, j < sz → ∃ u, w.cell? (((⟨b, o, sp⟩ : Addr).add (i * sz)).add j) = some u := fun i hi j hj => by
      rw [cell i hi j hj]
      exact ⟨_, List.getElem?_eq_getElem (by rw [hf]; exact hj)⟩
    obtain ⟨u0, hu0⟩ := hsome 0 hn 0 hpos
    have hspot : sp = none := by simpa [Addr.add] using World.cell?_spot hu0
    subst hspot
    refine ⟨b, o, rfl, ?_, fun k x hx j u hu => ?_⟩
    · have hu1 : w.cell? ⟨b, o, none⟩ = some u0 := by simpa [Addr.add] using hu0
      unfold World.cell? at hu1
      split at hu1
      · rename_i hb2
        exact (Array.getElem?_eq_some_iff.1 hb2).1
      · cases hu1
    · rw [List.getElem?_map] at hx
      have hk : k < n := by
        rcases Nat.lt_or_ge k n with h2 | h2
        · exact h2
        · rw [List.getElem?_eq_none (by simpa using h2)] at hx; cases hx
      rw [List.getElem?_range hk] at hx
      simp only [Option.map_some, Option.some.injEq] at hx
      subst hx
      have hj : j < sz := by
        have := (List.getElem?_eq_some_iff.1 hu).1
        rwa [hf] at this
      have h3 := cell k hk j hj
      rw [hu] at h3
      rw [← h3]
      congr 1
      rw [Go.WideShapes.add_plain, Go.WideShapes.add_plain]
end

section
variable {HH : Type} {enc : TypeId × Value → HH} {w : World} {base b0 : Nat} {spare : Nat → Bool} {held : Bool} {r : Reach}
set_option maxRecDepth 100000 in
theorem elEw {n : Nat} {cs : List Value} {x : DataW HH × List MemPlace} (h : DataW.trod enc Try.prog w base spare held n 98 cs = some x) :
    ∃ a : Ent, cs = EC.enc .ent a ∧ ((-9223372036854775808 ≤ a.1 ∧ a.1 ≤ 9223372036854775807) ∧ (-9223372036854775808 ≤ a.2 ∧ a.2 ≤ 9223372036854775807)) := by
  obtain ⟨y0, y1, m, _, hl, h0, h1⟩ := trod_struct2 Try.underlying98 h
  obtain ⟨k, e0, _, w0⟩ := DataW.trod_int Try.underlying2 h0
  obtain ⟨v, e1, _, w1⟩ := DataW.trod_int Try.underlying2 h1
  have hl : cs.length = 2 := hl.trans (by kernel_rfl)
  have c1 : Try.prog.cellsOf 2 = 1 := by kernel_rfl
  match cs, hl with
  | [a, b], _ =>
    simp [c1] at e0 e1
    exact ⟨(k, v), by rw [e0, e1]; rfl, lit_i64 w0, lit_i64 w1⟩
set_option maxRecDepth 100000 in
/-- The same with what the entries' numbers are. -/
theorem openEw {v : Value} {d : DataW HH} {p : List MemPlace} (hv : Value.okWide Try.prog w r b0 22 v) (h : DataW.Trod enc Try.prog w base spare held 22 v d p) :
    ∃ (l : List Ent), Imm C0 w v EC.ent l ∧ ∀ x ∈ l, (-9223372036854775808 ≤ x.1 ∧ x.1 ≤ 9223372036854775807) ∧ (-9223372036854775808 ≤ x.2 ∧ x.2 ≤ 9223372036854775807) := by
  obtain ⟨A, n, c, l, rfl, hr, hq⟩ := openRowQ (α := Ent) (f := fun x => EC.enc .ent x) (sz := 2) Try.underlying22 (by kernel_rfl) (by decide) (fun _ => rfl) (fun h => elEw h) hv h
  obtain rfl := hr.len
  exact ⟨l, ⟨A, c, rfl, hr⟩, hq⟩
instance : Inhabited Chg := ⟨⟨0, 0, 0, 0⟩⟩
end
end Go.Proofs.Ytbonbaccmlomhaa.Sx
end
section
/- 'SetopsDistribute': the law returns true for every input, and its arguments read afterwards as they read before. -/
namespace Go.Proofs.Ytbonbaccmlomhaa.setopsDistribute
open Go.ChangeShapes Go.WideShapes Go.ChangeAt Go.RowKit Sx

set_option maxRecDepth 100000 in
theorem lifted (os : Os) (started : os.Started) (H : Type) (enc : TypeId × Value → H) :
    ReturnsInHanded {} Try.checked os 8 .any (Rows.setopsDistributeSpec.pre6 enc Try.prog Try.f8 Rows.setopsDistributeRow.domain false) (Rows.setopsDistributeSpec.post enc Try.prog Try.f8 false true false false) := by
  refine returnsInHanded_of_change (C := Try.checked) ownK started (by kernel_rfl) Try.func8
    (ChangeSpec.witness6 (enc := enc) (C := Try.checked) false ⟨#[], #[.slice none 0 0, .slice none 0 0, .slice none 0 0], []⟩ 8 (by kernel_rfl) (by kernel_rfl) (by kernel_rfl) (by kernel_rfl)) ?_
  intro W base args ds gs before hval0 hW hcnd _
  have hval : ∀ (j : Nat) t v, Try.f8.params[j]? = some t → args[j]? = some v → Value.okWide Try.prog W .any base t v := hval0
  have hW' := hW
  obtain ⟨p, q, hA0, hV, rfl, hfz, hnd⟩ := hW
  have hA : DataW.TrodAll enc Try.prog W 0 (fun _ => true) true Try.f8.params.toList args.toList ds p := hA0
  rw [Try.params8] at hA hval
  obtain ⟨v0, vs0, d0, ds0, p0, q0, hargs, rfl, rfl, h0, r0⟩ := trodAll_cons hA
  obtain ⟨v1, vs1, d1, ds1, p1, q1, rfl, rfl, rfl, h1, r1⟩ := trodAll_cons r0
  obtain ⟨v2, vs2, d2, ds2, p2, q2, rfl, rfl, rfl, h2, r2⟩ := trodAll_cons r1
  obtain ⟨rfl, rfl, rfl⟩ := trodAll_nil r2
  obtain rfl : args = #[v0, v1, v2] := by cases args; simp_all
  obtain ⟨rfl, rfl⟩ := trodVars_none hV
  have k0 := h0
  have k1 := h1
  have k2 := h2
  clear hA0 hval0
  simp only [List.append_nil] at hW'
  have hlt : ∀ x ∈ p0 ++ (p1 ++ (p2)), x.block < W.heap.size := fun x hx => by simpa using hW'.lt x (by simpa using hx)
  have l0 : ∀ x ∈ p0, x.block < W.heap.size := fun x hx => hlt x (by simp [hx])
  have l1 : ∀ x ∈ p1, x.block < W.heap.size := fun x hx => hlt x (by simp [hx])
  have l2 : ∀ x ∈ p2, x.block < W.heap.size := fun x hx => hlt x (by simp [hx])
  obtain ⟨L0, R0, Q0⟩ := openEw (hval 0 22 v0 rfl rfl) h0
  obtain ⟨L1, R1, Q1⟩ := openEw (hval 1 22 v1 rfl rfl) h1
  obtain ⟨L2, R2, Q2⟩ := openEw (hval 2 22 v2 rfl rfl) h2
  refine (lawOf s_vd (args := [.at (.slc 0), .at (.slc 1), .at (.slc 2)]) (H := [Chunk.row false EC.ent L0, Chunk.row false EC.ent L1, Chunk.row false EC.ent L2]) (vs := [v0, v1, v2]) (σ := fun n => [v0, v1, v2].getD n undef) (w := W) (fun K h => ⟨fun x hx => (Q0 x hx).1, fun x hx => (Q1 x hx).1, fun x hx => (Q2 x hx).1, h⟩)
    (Sat.imms [v0, v1, v2] _ fun n c hc => by match n, hc with | 0, hc => exact ⟨_, _, (Option.some.inj hc).symm, R0⟩ | 1, hc => exact ⟨_, _, (Option.some.inj hc).symm, R1⟩ | 2, hc => exact ⟨_, _, (Option.some.inj hc).symm, R2⟩ | n + 3, hc => simp at hc) (Rels.cons rfl (Rels.cons rfl (Rels.cons rfl Rels.nil))) (by simp [TV.names, At.names])).mono fun e W' ⟨he, hg⟩ => ?_
  subst he
  exact ⟨_, rfl, _, _, _, [] ++ [], _, [], hW', (trodAll_cons_mk (shut_bool Try.underlying4 true) trodAll_mk0), (trodAll_cons_mk (Below.trod laidO (by kernel_rfl) (of_decide_eq_true (by kernel_rfl)) k0 hg l0) (trodAll_cons_mk (Below.trod laidO (by kernel_rfl) (of_decide_eq_true (by kernel_rfl)) k1 hg l1) (trodAll_cons_mk (Below.trod laidO (by kernel_rfl) (of_decide_eq_true (by kernel_rfl)) k2 hg l2) trodAll_mk0))), rfl, hg.frame _, fun h => by cases h⟩

theorem over : Rows.setopsDistributeRow.holds Try.pinned (OpenSpec.ofChange Rows.setopsDistributeSpec) :=
  OpenClaim.holds_of_wide 8 Try.f8 rfl rfl rfl rfl rfl rfl rfl ⟨rfl, rfl, rfl, rfl, rfl⟩ rfl rfl rfl rfl rfl (by kernel_rfl) Try.func8 (by kernel_rfl)
    (of_decide_eq_true (by kernel_rfl)) (by unfold Func.isWrapper; first | (rw [if_pos (by decide +kernel)]; kernel_rfl) | (rw [if_neg (by decide +kernel)]; exact ⟨rfl, rfl⟩))
    (fun os started H enc _ => lifted os started H enc)

theorem proved : Rows.SetopsDistributeSaid := over
#print axioms proved
end Go.Proofs.Ytbonbaccmlomhaa.setopsDistribute
end
