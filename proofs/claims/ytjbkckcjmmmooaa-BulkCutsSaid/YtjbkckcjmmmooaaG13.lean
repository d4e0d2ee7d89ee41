/- A part of the proof. -/
import Derived.Test.YtjbkckcjmmmooaaG9
import Derived.Test.YtjbkckcjmmmooaaG10
import Derived.Test.YtjbkckcjmmmooaaG12
import Derived.Test.YtjbkckcjmmmooaaG7
section
/- The law that Keep and Drop cut. -/
namespace Go.Proofs.Ytjbkckcjmmmooaa.Sx
open Go

/-KEEP Wf exW inU live Arn.cap Arn.free Rep rdS retL Tr.size Tr.list Tr.Bal gN TrR Got flt Asc Hn ht PlantR newS slotsOf orderOf RepD upM listE List.Perm keptD outE betE cutR-/
structure XBca (P : Arn → Int → List Ent → Int → Prop) where
  S : Arn
  i : Int
  l : List Ent
  need : Int
  lo : Int
  hi : Int
  h : P S i l need
structure XBcb (P : Arn → Int → List Ent → Int → Int → Int → List Ent → Prop) where
  S : Arn
  i : Int
  l : List Ent
  need : Int
  lo : Int
  hi : Int
  w : List Ent
  h : P S i l need lo hi w
structure BcS where
  S0 : Arn
  S : Arn
  root : Int
  l : List Ent
  w : List Ent
  need : Int
  d : List SlotT
  o : List Int
  r : Int
  x : Int
  e : Int
structure XBcc (P : BcS → Prop) where
  z : BcS
  h : P z
noncomputable def aBc (raw : List Ent) (P : Arn → Int → List Ent → Int → Prop) (P2 : Arn → Int → List Ent → Int → Int → Int → List Ent → Prop) (P3 : BcS → Prop) : Ann C0 := { quiet := [15, 30, 38, 22, 31, 39, 32], Γ := [(34, frameT [] tLst), (50, frameT [] (tRes1 12 0)), (56, frameT [] tSpare), (17, frameT [] tGrow), (57, frameT [] tAwake15), (15, frameT [] tMod), (58, frameT [] tBet), (53, frameT [] tOut), (30, frameT [] tDump), (19, frameT [] tReads), (60, frameT [] (tKeep betE)), (59, frameT [] (tKeep outE)), (24, frameT [] tMh), (23, frameT [] tWi), (38, frameT [] tSameD), (32, frameT [] tTr7), (22, frameT [] tFree), (39, frameT [] tKept), (31, frameT [] tSound)], inv := fun n => match n with
  | 1008 => some { X := XBca P, sl := [19, 20, 17, 18, 2, 3], tf := fun x => [.one (.at (.ptr 1 0)), vi .u32 x.i, .one (.at (.slc 8)), vi .i64 x.need, vi .i64 x.lo, vi .i64 x.hi], hf := fun x => [.row false EC.ent raw] ++ chSk 1 x.S ++ [.row true EC.ent x.l] }
  | 1011 => some { X := XBcb P2, sl := [19, 20, 17, 18, 2, 3, 22], tf := fun x => [.one (.at (.ptr 1 0)), vi .u32 x.i, .one (.at (.slc 8)), vi .i64 x.need, vi .i64 x.lo, vi .i64 x.hi, .one (.at (.slc 9))], hf := fun x => [.row false EC.ent raw] ++ chSk 1 x.S ++ [.row true EC.ent x.l, .row true EC.ent x.w] }
  | 1016 => some { X := XBcc P3, sl := [19, 20, 17, 18, 22, 23, 24, 25, 26], tf := fun x => [.one (.at (.ptr 1 0)), vi .u32 x.z.root, .one (.at (.slc 8)), vi .i64 x.z.need, .one (.at (.slc 9)), .one (.at (.ptr 10 0)), vi .u64 x.z.r, vi .u32 x.z.x, vi .i64 x.z.e], hf := fun x => [.row false EC.ent raw] ++ chSk 1 x.z.S ++ [.row true EC.ent x.z.l, .row true EC.ent x.z.w, .box [.slc 11, .slc 12], .row true EC.slot x.z.d, .row true EC.u32 x.z.o] }
  | _ => none }
def tBc : Tfm C0 := fun args H K => match args, H with
  | [.at (.slc 0), .at (.val (.int .u64 t)), .at (.val (.int .i64 _)), .at (.val (.int .i64 _)), .at (.val (.int .i64 _)), .at (.val (.int .i64 _)), .at (.val (.bool _)), .at (.val (.int .u16 f))], [.row false .ent raw] => 0 ≤ t ∧ 0 ≤ f ∧ f ≤ 65535 ∧ K (.one (.at (vB true))) [.row false EC.ent raw] []
  | _, _ => False
theorem out_allB {l : List Ent} {lo hi : Int} (h : lo > hi) : outE l lo hi = l := by
  unfold outE
  rw [List.filter_eq_self]
  intro x _
  simp
  omega
theorem s_dropB : SoundT C0 59 (tKeep outE) := s_drop.weak fun args H K h => by
  unfold tKeep at h
  unfold tDrop
  split at h <;> try exact h.elim
  unfold arM at h ⊢
  split at h <;> try exact h.elim
  obtain ⟨hs, t, hm, hr, h⟩ := h
  refine ⟨hs, t, hm, hr, fun S' j e hc => h S' j e ?_⟩
  rcases hc with hc | ⟨hl, hc⟩
  · exact hc
  · rw [out_allB hl]; exact hc
theorem s_spare15 : SoundT C0 56 tSpare := by
  refine .of Try.func56 (by decide) rfl fun args H K h hB => ?_
  unfold tSpare at h
  split at h <;> try exact h.elim
  rename_i n need
  obtain ⟨h1, h2, h3, h4, h⟩ := h
  refine ⟨A0, trivial, Eq.mp (show (brS (n.tmod 4 == 0) (((IntKind.i64.wrap (need + 2) ≠ 0) ∧ (K (SV.one (TV.at (At.val (Value.int IntKind.i64 ((IntKind.i64.wrap n).tmod (IntKind.i64.wrap (need + 2))))))) [] []))) ((K (SV.one (TV.at (At.val (Value.int IntKind.i64 (IntKind.i64.wrap (need + IntKind.i64.wrap (n.tmod 9))))))) [] []))) = _ by kernel_rfl) ?_⟩
  rw [wrap_id (x := need + 2) (by omega) (by omega), wrap_id (x := n) (by omega) (by omega), Int.tmod_eq_emod_of_nonneg (a := n) (b := need + 2) h1, Int.tmod_eq_emod_of_nonneg (a := n) (b := 9) h1]
  refine brS_of (fun _ => ⟨by omega, h _ (Int.emod_nonneg _ (by omega)) ?_⟩) fun _ => ?_
  · have := Int.emod_lt_of_pos n (show 0 < need + 2 by omega); omega
  · rw [wrap_id (x := n % 9) (by omega) (by omega), wrap_id (by omega) (by omega)]
    exact h _ (by omega) (by omega)
def PBca (S : Arn) (i : Int) (l : List Ent) (need : Int) : Prop := ∃ t, upM S [i] t i ∧ t.list = l ∧ t.size = l.length ∧ l.length ≤ 150 ∧ need = 12 * (Hn (l.length : Int) + 2) ∧ S.reads = 0
def wantE (b : Bool) (l : List Ent) (lo hi : Int) : List Ent := if b then outE l lo hi else betE l lo hi
def PBcb (b : Bool) (S : Arn) (i : Int) (l : List Ent) (need lo hi : Int) (w : List Ent) : Prop := PBca S i l need ∧ w = wantE b l lo hi
def PBcc (z : BcS) : Prop := ∃ t, upM z.S0 [z.root] t z.root ∧ t.list = z.l ∧ t.size = z.l.length ∧ z.l.length ≤ 150 ∧ z.need = 12 * (Hn (z.l.length : Int) + 2) ∧ z.S0.reads = 0 ∧ z.r = 0 ∧ z.d = slotsOf z.S0 ∧ z.o = orderOf z.S0 ∧ 0 ≤ z.S.reads ∧ z.S.reads ≤ 240 * (Hn (z.l.length : Int) + 2) ∧ Asc z.w ∧ cutR z.S0 [z.root] t z.root z.w z.S z.x z.e
theorem want_asc {b : Bool} {l : List Ent} {lo hi : Int} (h : Asc l) : Asc (wantE b l lo hi) := by
  unfold wantE
  split
  · exact List.Pairwise.filter _ h
  · exact List.Pairwise.filter _ h
theorem cut_reads {S S' : Arn} {hs : List Int} {t : Tr} {i j e : Int} {W : List Ent} (hm : upM S hs t i) (h0 : S.reads = 0) (hc : cutR S hs t i W S' j e) : 0 ≤ S'.reads ∧ S'.reads ≤ 240 * (Hn (t.size : Int) + 2) := by
  obtain ⟨w, rp, bal, asc, sz, hl, rd⟩ := hm
  have hb := Bal.height bal (by omega)
  have hH := Hn_rng t.size
  have hg := gN_size t.size
  rcases hc with ⟨_, _, _, _, m, d, hm⟩ | ⟨_, _, _, m, d, hm⟩ | ⟨_, _, _, _, _, m, d, hm⟩ | ⟨_, _, _, _, d⟩
  · have q : S'.reads = S.reads + m := by rw [d]; rfl
    omega
  · have q : S'.reads = S.reads + m := by rw [d, (retL_flds _ _).1]; rfl
    omega
  · have q : S'.reads = S.reads + m := by rw [d]; rfl
    omega
  · have a := d.got.rd0
    have b := d.got.rd
    omega
theorem vc_bc (raw : List Ent) (t lo hi i j f : Int) (b : Bool) (K : KT) (h0 : 0 ≤ t) (f1 : 0 ≤ f) (f2 : f ≤ 65535) (h : K (.one (.at (vB true))) [.row false EC.ent raw] []) :
    vc C0 (aBc raw PBca (PBcb b) PBcc) Try.f13 [.at (.slc 0), .at (vU64 t), .at (vI lo), .at (vI hi), .at (vI i), .at (vI j), .at (vB b), .at (.val (.int .u16 f))] [.row false EC.ent raw] (normK 1 K) := by
  generalize hP : PBca = P
  generalize hP2 : PBcb b = P2
  generalize hP3 : PBcc = P3
  refine Eq.mp (show (((0 : Int) ≤ 150) ∧
((150 : Int) ≤ 1000000) ∧
(0 ≤ (↑(listE raw (Int.toNat 150)).length : Int)) ∧
((↑(listE raw (Int.toNat 150)).length : Int) ≤ 65536) ∧
(∀ p : Int, (((p) = (12 * (Hn ((↑(listE raw (Int.toNat 150)).length : Int) + 0) + 2))) → ((0 ≤ f) ∧ (f ≤ 65535) ∧ (0 ≤ p) ∧ (p ≤ 60000) ∧ (∀ s : Int, ((0 ≤ s) → ((s ≤ p + 8) → ((0 ≤ t) ∧ (1 ≤ IntKind.i64.wrap (1 + s)) ∧ (IntKind.i64.wrap (1 + s) ≤ 30000) ∧ ((listE raw (Int.toNat 150)).length ≤ 30000) ∧ (∀ S' : Arn, (∀ i1 : Int, ((PlantR (newS ((↑(listE raw (Int.toNat 150)).length : Int) + IntKind.i64.wrap (1 + s)).toNat) [] (listE raw (Int.toNat 150)) S' i1) → ((brS (decide ((↑(listE raw (Int.toNat 150)).length : Int) > 0)) ((brS (i.tmod 4 != 0) (((0 < (↑(listE raw (Int.toNat 150)).length : Int)) ∧ ((↑(listE raw (Int.toNat 150)).length : Int) ≤ 9223372036854775807) ∧ (∀ x : Int, (((x) = (i % (↑(listE raw (Int.toNat 150)).length : Int))) → ((0 ≤ x) ∧ (x < (↑(listE raw (Int.toNat 150)).length : Int)) ∧ (0 < (↑(listE raw (Int.toNat 150)).length : Int)) ∧ ((↑(listE raw (Int.toNat 150)).length : Int) ≤ 9223372036854775807) ∧ (∀ x1 : Int, (((x1) = (j % (↑(listE raw (Int.toNat 150)).length : Int))) → ((0 ≤ x1) ∧ (x1 < (↑(listE raw (Int.toNat 150)).length : Int)) ∧ (∃ x2 : XBca P, (True ∧ (((Value.int IntKind.i64 (((listE raw (Int.toNat 150)).getD x.toNat (0, 0)).fst)) = (Value.int IntKind.i64 (x2.lo))) ∧ ((Value.int IntKind.i64 (((listE raw (Int.toNat 150)).getD x1.toNat (0, 0)).fst)) = (Value.int IntKind.i64 (x2.hi))) ∧
    ((Value.bool (b)) = (Value.bool (b))) ∧ True ∧ ((Value.int IntKind.i64 (p)) = (Value.int IntKind.i64 (x2.need))) ∧ True ∧ ((Value.int IntKind.u32 (i1)) = (Value.int IntKind.u32 (x2.i))) ∧ True) ∧ ((raw) = (raw)) ∧ (True ∧ True ∧ True ∧ ((Value.int IntKind.u64 (S'.reads)) = (Value.int IntKind.u64 (x2.S.reads))) ∧ True) ∧ (True ∧ True ∧ True ∧ ((Value.int IntKind.u32 (S'.fresh)) = (Value.int IntKind.u32 (x2.S.fresh))) ∧ True) ∧ ((S'.nodes) = (x2.S.nodes)) ∧ ((S'.counts) = (x2.S.counts)) ∧ ((S'.used) = (x2.S.used)) ∧ ((S'.gen) = (x2.S.gen)) ∧ ((S'.rel) = (x2.S.rel)) ∧ ((listE raw (Int.toNat 150)) = (x2.l)) ∧ True)))))))))) ((∃ x : XBca P, (True ∧ (((Value.int IntKind.i64 (lo)) = (Value.int IntKind.i64 (x.lo))) ∧ ((Value.int IntKind.i64 (hi)) = (Value.int IntKind.i64 (x.hi))) ∧ ((Value.bool (b)) = (Value.bool (b))) ∧ True ∧ ((Value.int IntKind.i64 (p)) = (Value.int IntKind.i64 (x.need))) ∧ True ∧ ((Value.int IntKind.u32 (i1)) = (Value.int IntKind.u32 (x.i))) ∧ True) ∧ ((raw) = (raw)) ∧ (True ∧ True ∧ True ∧ ((Value.int IntKind.u64 (S'.reads)) = (Value.int IntKind.u64 (x.S.reads))) ∧ True) ∧ (True ∧ True ∧ True ∧ ((Value.int IntKind.u32 (S'.fresh)) = (Value.int IntKind.u32 (x.S.fresh))) ∧ True) ∧ ((S'.nodes) = (x.S.nodes)) ∧ ((S'.counts) = (x.S.counts)) ∧ ((S'.used) = (x.S.used)) ∧ ((S'.gen) = (x.S.gen)) ∧ ((S'.rel) = (x.S.rel)) ∧ ((listE raw (Int.toNat 150)) = (x.l)) ∧ True))))) ((∃ x : XBca P, (True ∧ (((Value.int IntKind.i64 (lo)) = (Value.int IntKind.i64 (x.lo))) ∧
    ((Value.int IntKind.i64 (hi)) = (Value.int IntKind.i64 (x.hi))) ∧ ((Value.bool (b)) = (Value.bool (b))) ∧ True ∧ ((Value.int IntKind.i64 (p)) = (Value.int IntKind.i64 (x.need))) ∧ True ∧ ((Value.int IntKind.u32 (i1)) = (Value.int IntKind.u32 (x.i))) ∧ True) ∧ ((raw) = (raw)) ∧ (True ∧ True ∧ True ∧ ((Value.int IntKind.u64 (S'.reads)) = (Value.int IntKind.u64 (x.S.reads))) ∧ True) ∧ (True ∧ True ∧ True ∧ ((Value.int IntKind.u32 (S'.fresh)) = (Value.int IntKind.u32 (x.S.fresh))) ∧ True) ∧ ((S'.nodes) = (x.S.nodes)) ∧ ((S'.counts) = (x.S.counts)) ∧ ((S'.used) = (x.S.used)) ∧ ((S'.gen) = (x.S.gen)) ∧ ((S'.rel) = (x.S.rel)) ∧ ((listE raw (Int.toNat 150)) = (x.l)) ∧ True)))) ∧ (∀ x : XBca P, (True → ((x.l.length ≤ 1000000) ∧ (∀ r : List Ent, (((r) = (betE x.l x.lo x.hi)) → ((brS (b) (((x.l.length ≤ 1000000) ∧ (∃ x1 : XBcb P2, (True ∧ (((Value.int IntKind.i64 (x.lo)) = (Value.int IntKind.i64 (x1.lo))) ∧ ((Value.int IntKind.i64 (x.hi)) = (Value.int IntKind.i64 (x1.hi))) ∧ ((Value.bool (b)) = (Value.bool (b))) ∧ True ∧ ((Value.int IntKind.i64 (x.need)) = (Value.int IntKind.i64 (x1.need))) ∧ True ∧ ((Value.int IntKind.u32 (x.i)) = (Value.int IntKind.u32 (x1.i))) ∧ True ∧ True) ∧ ((raw) = (raw)) ∧ (True ∧ True ∧ True ∧ ((Value.int IntKind.u64 (x.S.reads)) = (Value.int IntKind.u64 (x1.S.reads))) ∧ True) ∧ (True ∧ True ∧ True ∧ ((Value.int IntKind.u32 (x.S.fresh)) = (Value.int IntKind.u32 (x1.S.fresh))) ∧ True) ∧ ((x.S.nodes) = (x1.S.nodes)) ∧ ((x.S.counts) = (x1.S.counts)) ∧
    ((x.S.used) = (x1.S.used)) ∧ ((x.S.gen) = (x1.S.gen)) ∧ ((x.S.rel) = (x1.S.rel)) ∧ ((x.l) = (x1.l)) ∧ ((outE x.l x.lo x.hi) = (x1.w)) ∧ True)))) ((∃ x1 : XBcb P2, (True ∧ (((Value.int IntKind.i64 (x.lo)) = (Value.int IntKind.i64 (x1.lo))) ∧ ((Value.int IntKind.i64 (x.hi)) = (Value.int IntKind.i64 (x1.hi))) ∧ ((Value.bool (b)) = (Value.bool (b))) ∧ True ∧ ((Value.int IntKind.i64 (x.need)) = (Value.int IntKind.i64 (x1.need))) ∧ True ∧ ((Value.int IntKind.u32 (x.i)) = (Value.int IntKind.u32 (x1.i))) ∧ True ∧ True) ∧ ((raw) = (raw)) ∧ (True ∧ True ∧ True ∧ ((Value.int IntKind.u64 (x.S.reads)) = (Value.int IntKind.u64 (x1.S.reads))) ∧ True) ∧ (True ∧ True ∧ True ∧ ((Value.int IntKind.u32 (x.S.fresh)) = (Value.int IntKind.u32 (x1.S.fresh))) ∧ True) ∧ ((x.S.nodes) = (x1.S.nodes)) ∧ ((x.S.counts) = (x1.S.counts)) ∧ ((x.S.used) = (x1.S.used)) ∧ ((x.S.gen) = (x1.S.gen)) ∧ ((x.S.rel) = (x1.S.rel)) ∧ ((x.l) = (x1.l)) ∧ ((r) = (x1.w)) ∧ True)))) ∧ (∀ x1 : XBcb P2, (True → ((exW x1.S) ∧ (∀ d : List SlotT, (∀ o : List Int, (((d) = (slotsOf x1.S)) → (((o) = (orderOf x1.S)) → ((brS (b) ((∃ hs : List Int, (∃ t1 : Tr, ((upM x1.S hs t1 x1.i) ∧ (x1.S.reads ≤ 900000000000000000) ∧ (∀ S'1 : Arn, (∀ j1 : Int, (∀ e : Int, ((cutR x1.S hs t1 x1.i (outE t1.list x1.lo x1.hi) S'1 j1 e) → (∃ x2 : XBcc P3, (True ∧ (True ∧ ((Value.int IntKind.i64 (x1.need)) = (Value.int IntKind.i64 (x2.z.need))) ∧ True ∧ ((Value.int IntKind.u32 (x1.i)) = (Value.int IntKind.u32 (x2.z.root))) ∧ True ∧ True ∧
    ((Value.int IntKind.u64 (x1.S.reads)) = (Value.int IntKind.u64 (x2.z.r))) ∧ ((Value.int IntKind.u32 (j1)) = (Value.int IntKind.u32 (x2.z.x))) ∧ ((Value.int IntKind.i64 (e)) = (Value.int IntKind.i64 (x2.z.e))) ∧ True) ∧ ((raw) = (raw)) ∧ (True ∧ True ∧ True ∧ ((Value.int IntKind.u64 (S'1.reads)) = (Value.int IntKind.u64 (x2.z.S.reads))) ∧ True) ∧ (True ∧ True ∧ True ∧ ((Value.int IntKind.u32 (S'1.fresh)) = (Value.int IntKind.u32 (x2.z.S.fresh))) ∧ True) ∧ ((S'1.nodes) = (x2.z.S.nodes)) ∧ ((S'1.counts) = (x2.z.S.counts)) ∧ ((S'1.used) = (x2.z.S.used)) ∧ ((S'1.gen) = (x2.z.S.gen)) ∧ ((S'1.rel) = (x2.z.S.rel)) ∧ ((x1.l) = (x2.z.l)) ∧ ((x1.w) = (x2.z.w)) ∧ (True ∧ True ∧ True) ∧ ((d) = (x2.z.d)) ∧ ((o) = (x2.z.o)) ∧ True)))))))))) ((∃ hs : List Int, (∃ t1 : Tr, ((upM x1.S hs t1 x1.i) ∧ (x1.S.reads ≤ 900000000000000000) ∧ (∀ S'1 : Arn, (∀ j1 : Int, (∀ e : Int, ((cutR x1.S hs t1 x1.i (betE t1.list x1.lo x1.hi) S'1 j1 e) → (∃ x2 : XBcc P3, (True ∧ (True ∧ ((Value.int IntKind.i64 (x1.need)) = (Value.int IntKind.i64 (x2.z.need))) ∧ True ∧ ((Value.int IntKind.u32 (x1.i)) = (Value.int IntKind.u32 (x2.z.root))) ∧ True ∧ True ∧ ((Value.int IntKind.u64 (x1.S.reads)) = (Value.int IntKind.u64 (x2.z.r))) ∧ ((Value.int IntKind.u32 (j1)) = (Value.int IntKind.u32 (x2.z.x))) ∧ ((Value.int IntKind.i64 (e)) = (Value.int IntKind.i64 (x2.z.e))) ∧ True) ∧ ((raw) = (raw)) ∧ (True ∧ True ∧ True ∧ ((Value.int IntKind.u64 (S'1.reads)) = (Value.int IntKind.u64 (x2.z.S.reads))) ∧ True) ∧ (True ∧ True ∧ True ∧
    ((Value.int IntKind.u32 (S'1.fresh)) = (Value.int IntKind.u32 (x2.z.S.fresh))) ∧ True) ∧ ((S'1.nodes) = (x2.z.S.nodes)) ∧ ((S'1.counts) = (x2.z.S.counts)) ∧ ((S'1.used) = (x2.z.S.used)) ∧ ((S'1.gen) = (x2.z.S.gen)) ∧ ((S'1.rel) = (x2.z.S.rel)) ∧ ((x1.l) = (x2.z.l)) ∧ ((x1.w) = (x2.z.w)) ∧ (True ∧ True ∧ True) ∧ ((d) = (x2.z.d)) ∧ ((o) = (x2.z.o)) ∧ True))))))))))) ∧ (∀ x2 : XBcc P3, (True → ((0 ≤ (↑x2.z.l.length : Int)) ∧ ((↑x2.z.l.length : Int) ≤ 2147483647) ∧ (∀ h : Int, (((h) = (Hn (↑x2.z.l.length : Int))) → ((0 ≤ x2.z.r) ∧ (x2.z.r ≤ x2.z.S.reads) ∧ (x2.z.S.reads ≤ 4000000000000000000) ∧ (x2.z.S.reads - x2.z.r ≤ IntKind.i64.wrap (240 * IntKind.i64.wrap (h + 2))) ∧ (IntKind.i64.wrap (240 * IntKind.i64.wrap (h + 2)) ≤ 4000000000000000000) ∧ (brS ((↑x2.z.w.length : Int) == (↑x2.z.l.length : Int)) ((brS (x2.z.e == 0) ((brS (x2.z.x == x2.z.root) (((exW x2.z.S) ∧ (brS (x2.z.S.free == (↑x2.z.o.length : Int)) ((∃ hs : List Int, ((Wf x2.z.S hs) ∧ ([x2.z.root, x2.z.x].Perm hs) ∧ ([x2.z.root, x2.z.x].length ≤ 1000000) ∧ (K (SV.one (TV.at (At.val (Value.bool true)))) [(Chunk.row false (EC.ent) (raw))] [])))) ((K (SV.one (TV.at (At.val (Value.bool false)))) [(Chunk.row false (EC.ent) (raw))] []))))) ((K (SV.one (TV.at (At.val (Value.bool false)))) [(Chunk.row false (EC.ent) (raw))] [])))) ((K (SV.one (TV.at (At.val (Value.bool false)))) [(Chunk.row false (EC.ent) (raw))] [])))) ((brS ((↑x2.z.w.length : Int) == 0) ((brS (x2.z.e == 0) ((brS (x2.z.x == 0) (((exW x2.z.S) ∧
    (brS (x2.z.S.free == (↑x2.z.o.length : Int)) ((∃ hs : List Int, ((Wf x2.z.S hs) ∧ ([x2.z.root].Perm hs) ∧ ([x2.z.root].length ≤ 1000000) ∧ (K (SV.one (TV.at (At.val (Value.bool true)))) [(Chunk.row false (EC.ent) (raw))] [])))) ((K (SV.one (TV.at (At.val (Value.bool false)))) [(Chunk.row false (EC.ent) (raw))] []))))) ((K (SV.one (TV.at (At.val (Value.bool false)))) [(Chunk.row false (EC.ent) (raw))] [])))) ((K (SV.one (TV.at (At.val (Value.bool false)))) [(Chunk.row false (EC.ent) (raw))] [])))) ((brS (decide ((↑x2.z.o.length : Int) < x2.z.need)) ((brS (x2.z.e == 2) ((brS (x2.z.x == 0) (((exW x2.z.S) ∧ (∀ d1 : List SlotT, (∀ o1 : List Int, (((d1) = (slotsOf x2.z.S)) → (((o1) = (orderOf x2.z.S)) → (((d1) = (x2.z.d)) ∧ ((o1) = (x2.z.o)) ∧ (d1.length ≤ 1000000) ∧ (o1.length ≤ 1000000) ∧ (K (SV.one (TV.at (At.val (Value.bool true)))) [(Chunk.row false (EC.ent) (raw))] [])))))))) ((K (SV.one (TV.at (At.val (Value.bool false)))) [(Chunk.row false (EC.ent) (raw))] [])))) ((K (SV.one (TV.at (At.val (Value.bool false)))) [(Chunk.row false (EC.ent) (raw))] [])))) ((brS (x2.z.e == 0) (((exW x2.z.S) ∧ (∀ d1 : List SlotT, (∀ o1 : List Int, (((d1) = (slotsOf x2.z.S)) → (((o1) = (orderOf x2.z.S)) → ((d1.length ≤ 1000000) ∧ (∃ t1 : Tr, ((RepD d1 t1 x2.z.x) ∧ (Asc t1.list) ∧ (t1.Bal) ∧ (t1.size ≤ 2 * d1.length + 2) ∧ (t1.size ≤ 1000000) ∧ ((t1.list) = (x2.z.w)))) ∧ (exW x2.z.S) ∧ (∀ d2 : List SlotT, (∀ o2 : List Int, (((d2) = (slotsOf x2.z.S)) → (((o2) = (orderOf x2.z.S)) →
    ((keptD x2.z.d d2) ∧ (x2.z.d.length ≤ 1000000) ∧ (∃ hs : List Int, ((Wf x2.z.S hs) ∧ ([x2.z.root, x2.z.x].Perm hs) ∧ ([x2.z.root, x2.z.x].length ≤ 1000000) ∧ (K (SV.one (TV.at (At.val (Value.bool true)))) [(Chunk.row false (EC.ent) (raw))] []))))))))))))))) ((K (SV.one (TV.at (At.val (Value.bool false)))) [(Chunk.row false (EC.ent) (raw))] []))))))))))))))))))))))))))))))))))))))))) = _ by kernel_rfl) ?_
  subst hP hP2 hP3
  obtain ⟨la, ll⟩ := listE_spec raw 150
  have e150 : Int.toNat 150 = 150 := rfl
  rw [e150]
  generalize listE raw 150 = l at *
  have hH := Hn_rng (l.length : Int)
  rw [Int.add_zero]
  refine ⟨by decide, by decide, by omega, by omega, fun p ep => ⟨f1, f2, by omega, by omega, fun s s1 s2 => ?_⟩⟩
  rw [wrap_id (x := 1 + s) (by omega) (by omega)]
  refine ⟨h0, by omega, by omega, by omega, fun S1 i1 hp => ?_⟩
  obtain ⟨t1, up, lt, zt⟩ := plant_up hp la (by omega)
  have rd0 : S1.reads = 0 := by rw [hp.rds]; rfl
  have hP : PBca S1 i1 l p := ⟨t1, up, lt, zt, ll, ep, rd0⟩
  refine ⟨brS_of (fun c => brS_of (fun _ => ?_) fun _ => ⟨⟨S1, i1, l, p, lo, hi, hP⟩, ?_⟩) fun _ => ⟨⟨S1, i1, l, p, lo, hi, hP⟩, ?_⟩, fun x _ => ?_⟩
  · have c : (l.length : Int) > 0 := of_decide_eq_true c
    refine ⟨by omega, by omega, fun x ex => ⟨(mod_rng2 c ex).1, (mod_rng2 c ex).2, by omega, by omega, fun x2 ex2 => ⟨(mod_rng2 c ex2).1, (mod_rng2 c ex2).2, ⟨S1, i1, l, p, (l.getD x.toNat (0, 0)).1, (l.getD x2.toNat (0, 0)).1, hP⟩, ?_⟩⟩⟩
    (repeat' first | exact trivial | exact rfl | refine And.intro ?_ ?_)
  iterate 2 (· (repeat' first | exact trivial | exact rfl | refine And.intro ?_ ?_))
  clear hP hp up lt zt rd0 hH ep s1 s2 la ll t1 S1 i1 lo hi
  obtain ⟨S, i1, m, need, lo, hi, hP⟩ := x
  dsimp only
  have ml : m.length ≤ 150 := by obtain ⟨_, _, _, _, h, _⟩ := hP; exact h
  refine ⟨by omega, fun r er => ⟨brS_of (fun c => ⟨by omega, ⟨S, i1, m, need, lo, hi, outE m lo hi, hP, ?_⟩, ?_⟩) fun c => ⟨⟨S, i1, m, need, lo, hi, r, hP, ?_⟩, ?_⟩, fun x1 _ => ?_⟩⟩
  · unfold wantE; rw [if_pos c]
  · (repeat' first | exact trivial | exact rfl | refine And.intro ?_ ?_)
  · unfold wantE; rw [if_neg (by rw [c]; decide), er]
  · (repeat' first | exact trivial | exact rfl | refine And.intro ?_ ?_)
  clear er r hP ml need i1 S hi lo m
  obtain ⟨S, i1, m, need, lo, hi, w, ⟨t, up, lt, zt, ml, en, rd0⟩, ew⟩ := x1
  dsimp only
  have am : Asc m := by rw [← lt]; exact up.2.2.2.1
  refine ⟨⟨_, up.1⟩, fun d o ed eo => ⟨brS_of (fun c => ⟨[i1], t, up, by omega, fun S1 j1 e hc => ?_⟩) fun c => ⟨[i1], t, up, by omega, fun S1 j1 e hc => ?_⟩, fun x2 _ => ?_⟩⟩
  · have e1 : outE t.list lo hi = w := by rw [lt, ew]; unfold wantE; rw [if_pos c]
    rw [e1] at hc
    have cr := cut_reads up rd0 hc
    rw [zt] at cr
    refine ⟨⟨⟨S, S1, i1, m, w, need, d, o, S.reads, j1, e⟩, t, up, lt, zt, ml, en, rd0, rd0, ed, eo, cr.1, cr.2, by dsimp only; rw [ew]; exact want_asc am, hc⟩, ?_⟩
    (repeat' first | exact trivial | exact rfl | refine And.intro ?_ ?_)
  · have e1 : betE t.list lo hi = w := by rw [lt, ew]; unfold wantE; rw [if_neg (by rw [c]; decide)]
    rw [e1] at hc
    have cr := cut_reads up rd0 hc
    rw [zt] at cr
    refine ⟨⟨⟨S, S1, i1, m, w, need, d, o, S.reads, j1, e⟩, t, up, lt, zt, ml, en, rd0, rd0, ed, eo, cr.1, cr.2, by dsimp only; rw [ew]; exact want_asc am, hc⟩, ?_⟩
    (repeat' first | exact trivial | exact rfl | refine And.intro ?_ ?_)
  clear eo ed o d ew w am rd0 en ml zt lt up t need i1 S hi lo m
  obtain ⟨z, t, up, lt, zt, ml, en, rd0, er, ed, eo, r0, r1, aw, hc⟩ := x2
  dsimp only
  obtain ⟨w, rp, bal, asc, sz, hl, rd⟩ := id up
  have hb := Bal.height bal (by omega)
  have hH := Hn_rng (z.l.length : Int)
  rw [zt] at hb
  have ol : (z.o.length : Int) = z.S0.free := by rw [eo]; exact order_free w
  have sl := slots_le w
  refine ⟨by omega, by omega, fun hh eh => ?_⟩
  rw [wrap_id (x := hh + 2) (by omega) (by omega), wrap_id (x := 240 * (hh + 2)) (by omega) (by omega)]
  have wrd : ∀ m : Nat, m ≤ 1000 → Wf (rdS z.S0 m) [z.root] := fun m hm => w.rd (by omega)
  refine ⟨by omega, by omega, by omega, by omega, by omega, ?_⟩
  rcases hc with ⟨c1, c2, c3, c4, m, c5, c6⟩ | ⟨c1, c3, c4, m, c5, c6⟩ | ⟨c1, c2, cf, c3, c4, m, c5, c6⟩ | ⟨c1, c2, cf, c3, tr⟩
  · have w1 : Wf z.S [z.root] := by rw [c5]; exact wrd m (by omega)
    exact bf7 (by rw [c1]; exact beq_false_of_ne (by omega)) (bt7 (by rw [c1]; rfl) (bt7 (by rw [c4]; rfl) (bt7 (by rw [c3]; rfl) ⟨⟨_, w1⟩, bt7 (by rw [ol, c5]; simp [rdS, Arn.free, Arn.cap]) ⟨_, w1, List.Perm.refl _, by simp, h⟩⟩)))
  · have g := retL_got (hs := [z.root]) (wrd m (by omega)) (Rep.us (rep_rd rp m)) (by simp)
    rw [← c5] at g
    have fr : z.S.free = z.S0.free := by rw [c5, retL_free]; rfl
    exact bt7 (by rw [c1, zt]; simp) (bt7 (by rw [c4]; rfl) (bt7 (by rw [c3]; simp) ⟨⟨_, g.wf⟩, bt7 (by rw [fr, ol]; simp) ⟨_, g.wf, by rw [c3], by simp, h⟩⟩))
  · have w1 : Wf z.S [z.root] := by rw [c5]; exact wrd m (by omega)
    exact bf7 (beq_false_of_ne (by omega)) (bf7 (beq_false_of_ne (by omega)) (bt7 (decide_eq_true (by rw [zt] at cf; omega)) (bt7 (by rw [c4]; rfl) (bt7 (by rw [c3]; rfl) ⟨⟨_, w1⟩, fun d1 o1 g2 g3 => ⟨by rw [g2, ed, c5]; rfl, by rw [g3, eo, c5]; rfl, by rw [g2]; have := slots_le w1; omega, by rw [g3]; have := order_len w1; omega, h⟩⟩))))
  · have w1 := tr.got.wf
    obtain ⟨u, ru, lu, bu⟩ := tr.tree
    have ut := tr_tree w1 ru lu bu aw
    have sl1 := slots_le w1
    exact bf7 (beq_false_of_ne (by omega)) (bf7 (beq_false_of_ne (by omega)) (bf7 (decide_eq_false (by rw [zt] at cf; omega)) (bt7 (by rw [c3]; rfl) ⟨⟨_, w1⟩, fun d1 o1 g2 _ => ⟨by rw [g2]; omega, by rw [g2]; exact ut, ⟨_, w1⟩, fun d2 o2 g3 _ => ⟨by rw [ed, g3]; exact kept_of w tr.got.stay tr.got.len, by rw [ed]; omega, _, w1, List.Perm.swap _ _ _, by simp, h⟩⟩⟩)))
theorem s_bc : SoundT C0 13 tBc := by
  refine .of Try.func13 (by decide) rfl fun args H K h hB => ?_
  unfold tBc at h
  split at h <;> try exact h.elim
  rename_i t lo hi i j b f raw
  exact ⟨aBc raw PBca (PBcb b) PBcc, ⟨frame C0.ok s_lst _, frame C0.ok s_nSpl _, frame C0.ok s_spare15 _, frame C0.ok s_grow _, frame C0.ok s_awake15 _, frame C0.ok s_mod _, frame C0.ok s_bet _, frame C0.ok s_out _, frame C0.ok s_dump _, frame C0.ok s_rds _, frame C0.ok s_keep _, frame C0.ok s_dropB _, frame C0.ok s_ht _, frame C0.ok s_wi _, frame C0.ok s_sameD _, frame C0.ok s_tr7 _, frame C0.ok s_free _, frame C0.ok s_kept _, frame C0.ok s_sound _, trivial⟩, vc_bc raw t lo hi i j f b K h.1 h.2.1 h.2.2.1 h.2.2.2⟩
end Go.Proofs.Ytjbkckcjmmmooaa.Sx
end
