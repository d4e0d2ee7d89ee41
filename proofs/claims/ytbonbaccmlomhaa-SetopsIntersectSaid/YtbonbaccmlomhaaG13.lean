/- A part of the proof. -/
import Derived.Test.YtbonbaccmlomhaaG12
import Derived.Test.YtbonbaccmlomhaaG9
import Derived.Test.YtbonbaccmlomhaaG11
import Derived.Test.YtbonbaccmlomhaaG2
import Derived.Test.YtbonbaccmlomhaaG5
import Derived.Test.YtbonbaccmlomhaaG1
import Derived.Test.YtbonbaccmlomhaaG8
import Derived.Test.YtbonbaccmlomhaaProg
import Derived.Test.YtbonbaccmlomhaaChecked
import Derived.WalkKit
import Derived.ProofKit
import Derived.OpenShut
import Derived.SizedLaws
import Derived.Carry
import Derived.Test.YtbonbaccmlomhaaG4
import Derived.Deep.Slices
import Derived.Lib.SmallJoins
import Derived.Test.YtbonbaccmlomhaaRows
section
/- The law that Delete deletes. -/
namespace Go.Proofs.Ytbonbaccmlomhaa.Sx
open Go

/-KEEP Wf exW inU live Arn.cap Arn.free Rep rdS retL Tr.size Tr.list slotsOf orderOf PlantR newS insE outE listE getE TrR upM Hn keptD Asc Tr.Bal ht dB RepD List.Perm-/
structure XUe (P : Arn → Int → List Ent → Int → Prop) where
  S : Arn
  i : Int
  l : List Ent
  need : Int
  k : Int
  h : P S i l need
structure UdS where
  S0 : Arn
  S : Arn
  root : Int
  l : List Ent
  need : Int
  k : Int
  v : Int
  is : Bool
  d : List SlotT
  o : List Int
  r : Int
  i : Int
  w : Int
  f : Int
structure XUd (P : UdS → Prop) where
  z : UdS
  h : P z
structure XUw (P : UdS → Int → Prop) where
  z : UdS
  want : Int
  h : P z want
abbrev chUd (raw : List Ent) (z : UdS) : List (Chunk C0) := [.row false EC.ent raw] ++ chSk 1 z.S ++ [.row true EC.ent z.l, .box [.slc 10, .slc 11], .row true EC.slot z.d, .row true EC.u32 z.o]
def tUd : Tfm C0 := fun args H K => match args, H with
  | [.at (.slc 0), .at (.val (.int .u64 t)), .at (.val (.int .i64 _)), .at (.val (.int .i64 at')), .at (.val (.int .u16 f))], [.row false .ent raw] => 0 ≤ t ∧ -9223372036854775808 ≤ at' ∧ at' ≤ 9223372036854775807 ∧ 0 ≤ f ∧ f ≤ 65535 ∧ K (.one (.at (vB true))) [.row false EC.ent raw] []
  | _, _ => False
theorem outE_flt (l : List Ent) (k : Int) : outE l k k = flt (neK k) l := by
  unfold outE flt neK
  congr 1
  funext x
  by_cases h : x.1 = k
  · simp [h]
  · rw [decide_eq_true (show x.1 ≠ k from h)]
    simp; omega
def PUe (S : Arn) (i : Int) (l : List Ent) (need : Int) : Prop := ∃ t, upM S [i] t i ∧ t.list = l ∧ t.size = l.length ∧ l.length ≤ 150 ∧ need = 4 * (Hn (l.length : Int) + 2) ∧ S.reads = 0
/-- What Delete comes to. -/
def PUd (z : UdS) : Prop := ∃ t, upM z.S0 [z.root] t z.root ∧ t.list = z.l ∧ t.size = z.l.length ∧ z.l.length ≤ 150 ∧ z.need = 4 * (Hn (z.l.length : Int) + 2) ∧ z.r = 0 ∧ z.d = slotsOf z.S0 ∧ z.o = orderOf z.S0 ∧ 0 ≤ z.S.reads ∧ z.S.reads ≤ 60 * (Hn ((z.l.length : Int) + 1) + 2) ∧ z.v = (getE z.l z.k).getD 0 ∧ z.is = (getE z.l z.k).isSome ∧
  ((getE z.l z.k = none ∧ z.f = 4 ∧ z.i = 0 ∧ z.w = 0 ∧ ∃ m, z.S = rdS z.S0 m) ∨
   ((getE z.l z.k).isSome = true ∧ z.S0.free < z.need ∧ z.f = 2 ∧ z.i = 0 ∧ z.w = 0 ∧ ∃ m, z.S = rdS z.S0 m) ∨
   ((getE z.l z.k).isSome = true ∧ z.need ≤ z.S0.free ∧ z.f = 0 ∧ z.w = z.v ∧ ∃ (m r : Nat), (m : Int) ≤ z.need ∧ TrR z.S0 [z.root] (flt (neK z.k) z.l) m r z.S z.i))
def PUw (z : UdS) (want : Int) : Prop := PUd z ∧ want = z.f
end Go.Proofs.Ytbonbaccmlomhaa.Sx
end
section
/- update.Increase, and the laws that updates increase, commute and share. -/
namespace Go.Proofs.Ytbonbaccmlomhaa.Sx
open Go

/-KEEP Wf exW inU live Arn.cap Arn.free Rep rdS retL Tr.size Tr.list slotsOf orderOf PlantR newS insE outE listE getE TrR upM Hn keptD Asc Tr.Bal ht dB iB RepD List.Perm flt neK-/
noncomputable def aInc : Ann C0 := { Γ := [(18, frameT [] tGetT), (59, frameT [] tUpIn)] }
def tInc : Tfm C0 := fun args H K => match args with
  | [.at (.ptr 0 0), .at (.val (.int .u32 r)), .at (.val (.int .i64 k)), .at (.val (.int .i64 n))] => arM H fun S => ∃ hs t, upM S hs t r ∧ S.reads ≤ 900000000000000000 ∧ 4 * (Hn (t.size + 1) + 2) ≤ S.free ∧
    ∀ S' j w, w = IntKind.i64.wrap ((getE t.list k).getD 0 + n) → TrR S hs (insE t.list (k, w)) (iB t.size) (5 * iB t.size + 2 * ht t + 1) S' j → K (.tup [.at (vU j), .at (vI w), .at (vI 0)]) (chS S') W7
  | _ => False
structure XUc (P : Arn → Int → List Ent → Prop) where
  S : Arn
  i : Int
  l : List Ent
  k : Int
  h : P S i l
def tUc : Tfm C0 := fun args H K => match args, H with
  | [.at (.slc 0), .at (.val (.int .u64 t)), .at (.val (.int .i64 _)), .at (.val (.int .i64 n)), .at (.val (.int .i64 at'))], [.row false .ent raw] => 0 ≤ t ∧ (-9223372036854775808 ≤ n ∧ n ≤ 9223372036854775807) ∧ (-9223372036854775808 ≤ at' ∧ at' ≤ 9223372036854775807) ∧ (∀ x ∈ raw, -9223372036854775808 ≤ x.2 ∧ x.2 ≤ 9223372036854775807) ∧ K (.one (.at (vB true))) [.row false EC.ent raw] []
  | _, _ => False
/-! ### The law that Increase increases -/
theorem Hn_le {n m : Nat} (h : n ≤ m) : Hn n ≤ Hn m := by
  have a := gN_size n
  have b := gN_size m
  have c := gN_mono (v := n + 1) (w := m + 1) (by omega) (by omega)
  omega
theorem gN_top {w v g : Nat} (h8 : v ≤ w) (hg : g < 80) (hw : (w : Int) < wt (g + 1)) : gN v ≤ g := by
  by_cases c : gN v ≤ g
  · exact c
  · by_cases z : 1 ≤ v
    · have h1 := gN_wt z
      have h2 := wt_mono (show g + 1 ≤ gN v by omega) (gN_rng v)
      omega
    · have : v = 0 := by omega
      subst this
      exact absurd (show gN 0 ≤ g by have : gN 0 = 0 := by decide
                                     omega) c
theorem Hn_104 {n : Nat} (h : n ≤ 112) : Hn n ≤ 13 := by
  have a := gN_size n
  have b := gN_top (w := 113) (v := n + 1) (g := 13) (by omega) (by omega) (by have : wt (13 + 1) = 115 := by decide
                                                                               omega)
  omega
def PUc (S : Arn) (i : Int) (l : List Ent) : Prop := ∃ t, upM S [i] t i ∧ t.list = l ∧ t.size = l.length ∧ l.length ≤ 100 ∧ S.free = 200 ∧ S.reads = 0 ∧ ∀ x ∈ l, -9223372036854775808 ≤ x.2 ∧ x.2 ≤ 9223372036854775807
end Go.Proofs.Ytbonbaccmlomhaa.Sx
end
section
/- The law SetopsDistribute, and law16.awake. -/
namespace Go.Proofs.Ytbonbaccmlomhaa.Sx
open Go

/-KEEP Wf exW inU live Arn.cap Arn.free Rep rdS retL Tr.size Tr.list Tr.Bal gN TrR Got flt Asc Hn ht PlantR BuildR newS listE List.Perm sameB Kin OpM needS SetR fUni fInt gSub gExc ascB-/
/-- Where there is room, an ascending list becomes a tree. -/
def tBuildOk : Tfm C0 := fun args H K => match args with
  | [.at (.ptr 0 0), .at (.slc 7)] => arMr H fun S rest => match rest with
    | [.row false .ent l] => ∃ hs, Wf S hs ∧ Asc l ∧ l.length ≤ 60000 ∧ hs.length ≤ 900000 ∧ (l.length : Int) ≤ S.free ∧ S.reads ≤ 900000000000000000 ∧ ∀ S' i, TrR S hs l 65537 0 S' i → K (.tup [.at (vU i), .at (vI 0)]) (chS S' ++ [.row false EC.ent l]) W7
    | _ => False
  | _ => False
def tLsOk : Tfm C0 := fun args H K => match args with
  | [.at (.ptr 0 0), .at (.val (.int .u32 i))] => arM H fun S => ∃ hs t, Wf S hs ∧ Rep S t i ∧ Asc t.list ∧ Kin t.list ∧ t.size ≤ 60000 ∧ S.reads ≤ 1000000000000000000 ∧
    ∀ S' m (out : List Ent), S' = rdS S m → m ≤ t.size → out = t.list → K (.one (.at (.slc 7))) (chS S' ++ [.row true EC.ent out]) [0]
  | _ => False
noncomputable def aAw16 : Ann C0 := { Γ := [(34, frameT [] tNew), (51, frameT [] tPlantA), (22, frameT [] (tSoPk fUni)), (49, frameT [] tSize)] }
def tAw16 : Tfm C0 := fun args H K => match args, H with
  | [], [] => K (.one (.at (vB true))) [] []
  | _, _ => False
noncomputable def aVd (raw oth thi : List Ent) : Ann C0 := { quiet := [40, 38], Γ := [(34, frameT [] tNew), (20, frameT [] tAw16), (36, frameT [] tLst), (35, frameT [] tBuildOk), (22, frameT [] (tSoPk fUni)), (32, frameT [] (tSoPk fInt)), (37, frameT [] (tSoNk gSub)), (39, frameT [] tLsOk), (38, frameT [] tSame_ent), (40, frameT [] tSound)] }
def tVd : Tfm C0 := fun args H K => match args, H with
  | [.at (.slc 0), .at (.slc 1), .at (.slc 2)], [.row false .ent raw, .row false .ent oth, .row false .ent thi] => Kin raw ∧ Kin oth ∧ Kin thi ∧ K (.one (.at (vB true))) [.row false EC.ent raw, .row false EC.ent oth, .row false EC.ent thi] []
  | _, _ => False
theorem cap_new (c : Nat) : (newS c).cap = c := by unfold Arn.cap newS; simp
theorem Hld.new {c : Nat} (h1 : 1 ≤ c) (h2 : c ≤ 65536) : Hld (newS c) [] := ⟨Wf.new h1 h2, fun _ h => (by cases h), fun _ h => (by cases h), fun _ h => (by cases h)⟩
theorem plant_tr {S S' : Arn} {hs : List Int} {l : List Ent} {i : Int} (w : Wf S hs) (b : PlantR S hs l S' i) (hl : l.length ≤ 60000) : TrR S hs l 65537 0 S' i :=
  ⟨⟨b.wf, b.stay, b.len, by rw [b.nu]; omega, by rw [b.rds]; exact Int.le_refl _, by rw [b.rds]; omega⟩, b.rep⟩
theorem vc_aw16 (K : KT) (h : K (.one (.at (vB true))) [] []) : vc C0 aAw16 Try.f20 [] [] (normK 0 K) := by
  refine Eq.mp (show ((((200 : Int) < 1 ∨ (65536 : Int) < 200) →
(K (SV.one (TV.at (At.val (Value.bool false)))) [] [])) ∧
(((1 : Int) ≤ 200) →
(((200 : Int) ≤ 65536) →
(∀ S : Arn, (((S) = (newS (Int.toNat 200))) → (∃ hs : List Int, ((Wf S hs) ∧ (([(1, 10)] : List Ent).length ≤ 100000) ∧ ((↑([(1, 10)] : List Ent).length : Int) ≤ S.free) ∧ (hs.length + ([(1, 10)] : List Ent).length ≤ 900000000) ∧ ((0 : Int) ≤ 0) ∧ (∀ S' : Arn, (∀ i : Int, ((PlantR S hs ([(1, 10)] : List Ent) S' i) → (∃ hs1 : List Int, ((Wf S' hs1) ∧ (([(2, 20)] : List Ent).length ≤ 100000) ∧ ((↑([(2, 20)] : List Ent).length : Int) ≤ S'.free) ∧ (hs1.length + ([(2, 20)] : List Ent).length ≤ 900000000) ∧ ((0 : Int) ≤ 0) ∧ (∀ S'1 : Arn, (∀ i1 : Int, ((PlantR S' hs1 ([(2, 20)] : List Ent) S'1 i1) → (∃ hs2 : List Int, (∃ tx : Tr, (∃ ty : Tr, ((OpM S'1 hs2 tx ty i i1) ∧ ((1 : Int) ≤ 1) ∧ ((1 : Int) ≤ 5) ∧ (needS tx ty ≤ S'1.free) ∧ (∀ S'2 : Arn, (∀ i2 : Int, (∀ L : List Ent, ((SetR (fUni 1) tx.list ty.list L) → ((TrR S'1 hs2 L 65537 2000000000 S'2 i2) → ((inU i2) ∧ (exW S'2) ∧ (S'2.reads < 4000000000000000000) ∧ (∀ S'3 : Arn, (((S'3) = (rdS S'2 (S'2.us i2).toNat)) → (K (SV.one (TV.at (At.val (Value.bool ((S'2.nd i2).size == 2))))) [] [])))))))))))))))))))))))))))) = _ by kernel_rfl) ?_
  refine ⟨fun c => by omega, fun _ _ S0 e => ?_⟩
  have e5 : Int.toNat 200 = 200 := rfl
  rw [e5] at e
  have h0 : Hld S0 [] := by rw [e]; exact Hld.new (by omega) (by omega)
  have c0 : S0.cap = 200 := by rw [e]; exact cap_new 200
  have r0 : S0.reads = 0 := by rw [e]; rfl
  clear e
  have f0 := h0.room
  simp only [sumL_nil] at f0
  refine ⟨_, h0.wf, by decide, by simp; omega, by simp, by decide, fun S1 x p1 => ?_⟩
  have t1 := plant_tr h0.wf p1 (by decide)
  have h1 := h0.step t1 (by decide) (by intro x hx; simp at hx; subst hx; decide)
  have c1 := tr_cap t1
  have r1 := t1.got.rd
  have f1 := h1.room
  simp only [sumL_nil, sumL_cons] at f1
  refine ⟨_, h1.wf, by decide, by simp at f1 ⊢; omega, by simp, by decide, fun S2 y p2 => ?_⟩
  have t2 := plant_tr h1.wf p2 (by decide)
  have h2 := h1.step t2 (by decide) (by intro x hx; simp at hx; subst hx; decide)
  have c2 := tr_cap t2
  have r2 := t2.got.rd
  have f2 := h2.room
  simp only [sumL_nil, sumL_cons] at f2
  obtain ⟨tx, ty, o, lx, ly, sx, sy⟩ := h2.op (x := x) (y := y) (l := [(1, 10)]) (m := [(2, 20)]) (by simp) (by simp) (by decide) (by decide) (by simp) (by omega)
  have n2 : needS tx ty ≤ S2.free := by
    have e : needS tx ty = 2 + 12 * (Hn 2 + 2) := by unfold needS; rw [sx, sy]; rfl
    have e2 : Hn 2 ≤ 2 := by decide
    simp at f2
    omega
  refine ⟨_, tx, ty, o, by decide, by decide, n2, fun S3 u U q3 t3 => ?_⟩
  rw [lx, ly] at q3
  have eU : U = [(1, 10), (2, 20)] := q3.ext (uni_set (by decide) (by decide) 1)
  obtain ⟨t, rp, lt, _⟩ := t3.tree
  have w3 := t3.got.wf
  have r3 := t3.got.rd
  refine ⟨inU_of w3 rp.us, ⟨_, w3⟩, by omega, fun S4 _ => ?_⟩
  rw [rp.size w3, ← t.list_len, lt, eU]
  exact h
theorem s_aw16 : SoundT C0 20 tAw16 := by
  refine .of Try.func20 (by decide) rfl fun args H K h hB => ?_
  unfold tAw16 at h
  split at h <;> try exact h.elim
  exact ⟨aAw16, ⟨frame C0.ok s_new _, frame C0.ok s_plantA _, frame C0.ok s_soUk _, frame C0.ok s_size _, trivial⟩, vc_aw16 K h⟩
end Go.Proofs.Ytbonbaccmlomhaa.Sx
end
section
/- The reference's lists for set operations: Policy, Intersect, Subtract, Exclusive. -/
namespace Go.Proofs.Ytbonbaccmlomhaa.Sx
open Go

/-KEEP intE subE excE uniE getE chooseP-/
def tPol9 : Tfm C0 := fun args H K => match args, H with
  | [.at (.val (.int .i64 p))], [] => ∀ b, b = decide (1 ≤ p ∧ p ≤ 5) → K (.one (.at (vB b))) [] []
  | _, _ => False
structure XI9 (l : List Ent) where
  i : Nat
  h : i ≤ l.length
noncomputable def aInt9 (l m : List Ent) (p : Int) : Ann C0 := { quiet := [81], Γ := [(47, frameT [] tGet), (81, frameT [] tChoose)], inv := fun k => match k with
  | 3 => some { X := XI9 l, sl := [8, 7], tf := fun x => [vi .i64 x.i, .one (.at (.slc 2))], hf := fun x => [.row false EC.ent l, .row false EC.ent m, .row true EC.ent (intE (l.take x.i) m p)], μ := fun x => l.length - x.i }
  | _ => none }
def tInt9 : Tfm C0 := fun args H K => match args, H with
  | [.at (.slc 0), .at (.slc 1), .at (.val (.int .i64 p))], [.row false .ent l, .row false .ent m] => l.length + m.length ≤ 1000000 ∧ K (.one (.at (.slc 2))) [.row false EC.ent l, .row false EC.ent m, .row true EC.ent (intE l m p)] []
  | _, _ => False
noncomputable def aSub9 (l m : List Ent) : Ann C0 := { Γ := [(47, frameT [] tGet)], inv := fun k => match k with
  | 3 => some { X := XI9 l, sl := [6, 5], tf := fun x => [vi .i64 x.i, .one (.at (.slc 2))], hf := fun x => [.row false EC.ent l, .row false EC.ent m, .row true EC.ent (subE (l.take x.i) m)], μ := fun x => l.length - x.i }
  | _ => none }
def tSub9 : Tfm C0 := fun args H K => match args, H with
  | [.at (.slc 0), .at (.slc 1)], [.row false .ent l, .row false .ent m] => l.length + m.length ≤ 1000000 ∧ K (.one (.at (.slc 2))) [.row false EC.ent l, .row false EC.ent m, .row true EC.ent (subE l m)] []
  | _, _ => False
noncomputable def aExc9 : Ann C0 := { Γ := [(43, frameT [] tSub9), (29, frameT [] tUni)] }
def tExc9 : Tfm C0 := fun args H K => match args, H with
  | [.at (.slc 0), .at (.slc 1)], [.row false .ent l, .row false .ent m] => l.length + m.length ≤ 500000 ∧ K (.one (.at (.slc 2))) [.row false EC.ent l, .row false EC.ent m, .row true EC.ent (excE l m)] []
  | _, _ => False
theorem s_pol9 : SoundT C0 23 tPol9 := by
  refine .of Try.func23 (by decide) rfl fun args H K h hB => ⟨A0, trivial, ?_⟩
  unfold tPol9 at h
  split at h <;> try exact h.elim
  rename_i p
  refine Eq.mp (show (brS (decide (p ≥ 1)) ((K (SV.one (TV.at (At.val (Value.bool (decide (p ≤ 5)))))) [] [])) ((K (SV.one (TV.at (At.val (Value.bool false)))) [] []))) = _ by kernel_rfl) ?_
  refine brS_of (fun c => h _ ?_) fun c => h _ ?_
  · have c : p ≥ 1 := of_decide_eq_true c
    have c : 1 ≤ p := c
    simp [c]
  · have c : ¬ p ≥ 1 := of_decide_eq_false c
    have c : ¬ 1 ≤ p := c
    simp [c]
theorem vc_int9 (l m : List Ent) (p : Int) (K : KT) (hsm : l.length + m.length ≤ 1000000) (h : K (.one (.at (.slc 2))) [.row false EC.ent l, .row false EC.ent m, .row true EC.ent (intE l m p)] []) :
    vc C0 (aInt9 l m p) Try.f33 [.at (.slc 0), .at (.slc 1), .at (vI p)] [.row false EC.ent l, .row false EC.ent m] (normK 2 K) := by
  refine Eq.mp (show ((∃ x : XI9 l, (True ∧ (True ∧ True ∧ ((Value.int IntKind.i64 (p)) = (Value.int IntKind.i64 (p))) ∧ True ∧ ((Value.int IntKind.i64 0) = (Value.int IntKind.i64 ((↑x.i : Int)))) ∧ True) ∧ ((l) = (l)) ∧ ((m) = (m)) ∧ ([] = (intE (List.take x.i l) m p)) ∧ True)) ∧
(∀ x : XI9 l, (True → (brS (decide ((↑x.i : Int) < (↑l.length : Int))) (((0 ≤ (↑x.i : Int)) ∧ ((↑x.i : Int) < (↑l.length : Int)) ∧ (∀ x1 : Option Int, (((x1) = (getE m (eA l x.i).fst)) → (brS (x1.isSome) (((0 ≤ (↑x.i : Int)) ∧ ((↑x.i : Int) < (↑l.length : Int)) ∧ (0 ≤ (↑x.i : Int)) ∧ ((↑x.i : Int) < (↑l.length : Int)) ∧ (∀ x2 : Int, (((x2) = (chooseP p (eA l x.i).snd (x1.getD 0))) → ((((intE (List.take x.i l) m p).length + [((eA l x.i).fst, x2)].length) * bytesOf C0 EC.ent ≤ 140737488355328) ∧ (∃ x' : XI9 l, (True ∧ ((True ∧ True ∧ ((Value.int IntKind.i64 (p)) = (Value.int IntKind.i64 (p))) ∧ True ∧ ((Value.int IntKind.i64 (IntKind.i64.wrap ((↑x.i : Int) + 1))) = (Value.int IntKind.i64 ((↑x'.i : Int)))) ∧ True) ∧ ((l) = (l)) ∧ ((m) = (m)) ∧ ((intE (List.take x.i l) m p ++ [((eA l x.i).fst, x2)]) = (intE (List.take x'.i l) m p)) ∧ True) ∧ (l.length - x'.i < l.length - x.i)))))))) ((∃ x' : XI9 l, (True ∧ ((True ∧ True ∧ ((Value.int IntKind.i64 (p)) = (Value.int IntKind.i64 (p))) ∧ True ∧ ((Value.int IntKind.i64 (IntKind.i64.wrap ((↑x.i : Int) + 1))) = (Value.int IntKind.i64 ((↑x'.i : Int)))) ∧ True) ∧ ((l) = (l)) ∧ ((m) = (m)) ∧ ((intE (List.take x.i l) m p) = (intE (List.take x'.i l) m p)) ∧ True) ∧
    (l.length - x'.i < l.length - x.i))))))))) ((K (SV.one (TV.at (At.slc 2))) [(Chunk.row false (EC.ent) (l)), (Chunk.row false (EC.ent) (m)), (Chunk.row true (EC.ent) (intE (List.take x.i l) m p))] [])))))) = _ by kernel_rfl) ?_
  refine ⟨⟨⟨0, Nat.zero_le _⟩, by simp [intE]⟩, fun x _ => brS_of (fun hi => ?_) fun hi => ?_⟩
  · have hi : x.i < l.length := by simpa using hi
    have hs := intE_step l m p (eA_get hi)
    have hlen := intE_len (l.take x.i) m p
    rw [List.length_take] at hlen
    simp only [wrap_next hi (by omega), bytes_ent]
    refine ⟨by omega, by omega, fun y hy => brS_of (fun c => ?_) fun c => ?_⟩
    · rw [← hy] at hs
      obtain ⟨w, rfl⟩ : ∃ w, y = some w := by cases y with | none => cases c | some w => exact ⟨w, rfl⟩
      refine ⟨by omega, by omega, by omega, by omega, fun v hv => ⟨by simp; omega, ⟨x.i + 1, by omega⟩, ?_⟩⟩
      subst hv
      simp [hs]; omega
    · rw [← hy] at hs
      obtain rfl : y = none := by cases y with | none => rfl | some w => cases c
      refine ⟨⟨x.i + 1, by omega⟩, ?_⟩
      simp [hs]; omega
  · have hi : x.i = l.length := by have := x.h; simp at hi; omega
    rw [hi, List.take_length]
    exact h
theorem s_int9 : SoundT C0 33 tInt9 := by
  refine .of Try.func33 (by decide) rfl fun args H K h hB => ?_
  unfold tInt9 at h
  split at h <;> try exact h.elim
  rename_i p l m
  exact ⟨aInt9 l m p, ⟨frame C0.ok s_get _, frame C0.ok s_choose _, trivial⟩, vc_int9 l m p K h.1 h.2⟩
end Go.Proofs.Ytbonbaccmlomhaa.Sx
end
section
/- The law DiffOfSeparateTrees. -/
namespace Go.Proofs.Ytbonbaccmlomhaa.Sx
open Go

/-KEEP Wf exW inU live Arn.cap Arn.free Rep rdS Tr.size Tr.list btw rngC goV fR Asc Kin PlantR listE newS sameB difE-/
def tCountB : Tfm C0 := fun args H K => match args with
  | [.at (.ptr 0 0), .at (.val (.int .u32 x)), .at (.val (.int .u32 y))] => arM H fun S => ∃ hs t1 t2, Wf S hs ∧ Rep S t1 x ∧ Rep S t2 y ∧ t1.size + t2.size ≤ 300000 ∧ S.reads + (2 + 6 * (t1.size + t2.size)) ≤ 3000000000000000000 ∧ (btw t1.list t2.list).length ≤ 1000000 ∧
    ∀ (s' : Int) S' m, s' = (btw t1.list t2.list).length → S' = rdS S m → m ≤ 2 + 6 * (t1.size + t2.size) → K (.one (.at (vI s'))) (chS S') [0]
  | _ => False
def tFirstB : Tfm C0 := fun args H K => match args with
  | [.at (.ptr 0 0), .at (.val (.int .u32 x)), .at (.val (.int .u32 y))] => arM H fun S => ∃ hs t1 t2, Wf S hs ∧ Rep S t1 x ∧ Rep S t2 y ∧ t1.size + t2.size ≤ 300000 ∧ S.reads + (2 + 6 * (t1.size + t2.size)) ≤ 3000000000000000000 ∧
    ∀ S' m, S' = rdS S m → m ≤ 2 + 6 * (t1.size + t2.size) → (btw t1.list t2.list = [] → K (.tup [.agg [vI 0, vI 0, vI 0, vI 0], .at (vB false)]) (chS S') [0]) ∧ (∀ c cs, btw t1.list t2.list = c :: cs → K (.tup [.agg [vI c.kind, vI c.key, vI c.old, vI c.new], .at (vB true)]) (chS S') [0])
  | _ => False
structure XAg (P : Nat → Bool → Prop) where
  i : Nat
  c : Bool
  h : P i c
abbrev chg0 : Chg := ⟨0, 0, 0, 0⟩
noncomputable def aAgr (P1 P2 : Nat → Bool → Prop) (lo hi : Int) (l m : List Ent) (S : Arn) : Ann C0 := { Γ := [(83, frameT [] tDif), (27, frameT [] tReads), (16, frameT [] tDiff), (62, frameT [] tRangeB), (84, frameT [] tCountB), (85, frameT [] tFirstB), (61, frameT [] tSameT), (78, frameT [] tWi)], inv := fun n => match n with
  | 4 => some { X := XAg P1, sl := [15, 16, 17], tf := fun x => [.one (.at (.slc 9)), .one (.at (.slc 10)), vi .i64 x.i], hf := fun x => chS S ++ [.row false EC.ent l, .row false EC.ent m, .row true EC.chg (difE l m), .row true EC.chg (rngC lo hi ((difE l m).take x.i))], μ := fun x => (difE l m).length - x.i }
  | 1007 => some { X := XAg P2, sl := [15, 16, 17, 46], tf := fun x => [.one (.at (.slc 9)), .one (.at (.slc 10)), vi .i64 x.i, vb x.c], hf := fun x => chS S ++ [.row false EC.ent l, .row false EC.ent m, .row true EC.chg (difE l m), .row true EC.chg (rngC lo hi ((difE l m).take x.i))], rel := fun T _ x => slotI T 17 x.i }
  | _ => none }
def tAgr : Tfm C0 := fun args H K => match args with
  | [.at (.ptr 0 0), .at (.val (.int .u32 x)), .at (.val (.int .u32 y)), .at (.slc 7), .at (.slc 8), .at (.val (.int .i64 lo)), .at (.val (.int .i64 hi))] => arMr H fun S rest => match rest with
    | [.row false .ent l, .row false .ent m] => ∃ hs t1 t2, Wf S hs ∧ Rep S t1 x ∧ Rep S t2 y ∧ t1.list = l ∧ t2.list = m ∧ Asc l ∧ Asc m ∧ Kin l ∧ Kin m ∧ l.length + m.length ≤ 1000 ∧ S.reads ≤ 1000000000000000000 ∧
      ∀ S' n, S' = rdS S n → n ≤ 100000 → K (.one (.at (vB true))) (chS S' ++ [.row false EC.ent l, .row false EC.ent m]) [0]
    | _ => False
  | _ => False
/-! ### The law -/
abbrev L80 (raw : List Ent) : List Ent := listE raw 80
structure XDs (P : List Ent → Prop) where
  m : List Ent
  h : P m
noncomputable def aDst (P1 : List Ent → Prop) (raw other : List Ent) (b : Bool) : Ann C0 := { trunc := fun n => n = 14, Γ := [(36, frameT [] tLst), (34, frameT [] tNew), (15, frameT [] tAwake18), (51, frameT [] tPlantA), (31, frameT [] tAgr)], inv := fun n => match n with
  | 1003 => some { X := XDs fun m => m = L80 other, sl := [13, 14, 25], tf := fun _ => [.one (.at (.slc 2)), .one (.at (.slc 3)), vb b], hf := fun x => [.row false EC.ent raw, .row false EC.ent other, .row false EC.ent (L80 raw), .row false EC.ent x.m] }
  | 1004 => some { X := XDs P1, sl := [13, 14], tf := fun _ => [.one (.at (.slc 2)), .one (.at (.slc 3))], hf := fun x => [.row false EC.ent raw, .row false EC.ent other, .row false EC.ent (L80 raw), .row false EC.ent x.m] }
  | _ => none }
def tDst : Tfm C0 := fun args H K => match args, H with
  | [.at (.slc 0), .at (.slc 1), .at (.val (.int .u64 t)), .at (.val (.int .i64 _)), .at (.val (.int .i64 _)), .at (.val (.bool _))], [.row false .ent raw, .row false .ent other] => 0 ≤ t ∧ Kin raw ∧ Kin other ∧ K (.one (.at (vB true))) [.row false EC.ent raw, .row false EC.ent other] []
  | _, _ => False
end Go.Proofs.Ytbonbaccmlomhaa.Sx
end
section
/- What the laws of the diffs say, on lists. No program in sight. -/
namespace Go.Proofs.Ytbonbaccmlomhaa
open Go Sx

/-- A change seen from the other side. -/
def swapC (c : Chg) : Chg := ⟨if c.kind = 1 ∨ c.kind = 2 then 3 - c.kind else c.kind, c.key, c.new, c.old⟩
/-- How many of the changes have a key. -/
def cntK (c : List Chg) (k : Int) : Nat := c.countP fun x => decide (x.key = k)
end Go.Proofs.Ytbonbaccmlomhaa
end
section
/- law18: branch: a tree and a second one made from it by edits. -/
namespace Go.Proofs.Ytbonbaccmlomhaa.Sx
open Go

/-KEEP Wf Kept exW inU live Arn.cap Arn.free Rep rdS retL Tr.size Tr.list Tr.Bal btw fR Asc Kin PlantR listE newS sameB difE insE outE flt neK getE TrR Got upM Hn iB dB ht min-/
structure XB0 (P : Arn → Int → Prop) where
  S : Arn
  x : Int
  h : P S x
structure XB1 (P : Nat → Arn → Int → Int → List Ent → Prop) where
  i : Nat
  S : Arn
  x : Int
  y : Int
  m : List Ent
  h : P i S x y m
structure XB2 (P : Nat → Arn → Int → Int → Int → List Ent → Prop) where
  i : Nat
  S : Arn
  x : Int
  y : Int
  z : Int
  m : List Ent
  h : P i S x y z m
noncomputable def aBr (P0 : Arn → Int → Prop) (P1 : Nat → Arn → Int → Int → List Ent → Prop) (P2 : Nat → Arn → Int → Int → Int → List Ent → Prop) (raw B : List Ent) (l : List EdtT) : Ann C0 := { trunc := fun n => n = 18, Γ := [(36, frameT [] tLst), (54, frameT [] tGrow), (55, frameT [] (tRes1 4 1)), (56, frameT [] tRetL), (26, frameT [] tMod), (57, frameT [] tUpDe), (58, frameT [] tDel), (59, frameT [] tUpIn), (60, frameT [] tIns), (25, frameT [] tRel)], inv := fun n => match n with
  | 1006 => some { X := XB0 P0, sl := [14, 12, 15], tf := fun x => [.one (.at (.ptr 2 0)), .one (.at (.slc 9)), vi .u32 x.x], hf := fun x => [.row false EC.ent raw, .row false EC.edt l] ++ chSk 2 x.S ++ [.row false EC.ent B] }
  | 9 => some { X := XB1 P1, sl := [14, 12, 15, 17, 18, 19], tf := fun x => [.one (.at (.ptr 2 0)), .one (.at (.slc 9)), vi .u32 x.x, vi .u32 x.y, .one (.at (.slc 10)), vi .i64 x.i], hf := fun x => [.row false EC.ent raw, .row false EC.edt l] ++ chSk 2 x.S ++ [.row false EC.ent B, .row false EC.ent x.m], μ := fun x => min l.length 12 - x.i }
  | 1019 => some { X := XB2 P2, sl := [14, 12, 15, 17, 19, 20, 21, 22], tf := fun x => [.one (.at (.ptr 2 0)), .one (.at (.slc 9)), vi .u32 x.x, vi .u32 x.y, vi .i64 x.i, vi .u32 x.z, vi .i64 0, .one (.at (.slc 10))], hf := fun x => [.row false EC.ent raw, .row false EC.edt l] ++ chSk 2 x.S ++ [.row false EC.ent B, .row true EC.ent x.m], rel := fun T _ x => slotI T 19 x.i }
  | _ => none }
def PB0 (B : List Ent) (n I : Nat) : Arn → Int → Prop := fun S x => Wf S [x] ∧ (∃ t, Rep S t x ∧ t.list = B ∧ t.Bal) ∧ S.reads = 0 ∧ ((1 + (n + 1) * I : Nat) : Int) ≤ S.free
def PB1 (B : List Ent) (n I : Nat) : Nat → Arn → Int → Int → List Ent → Prop := fun i S x y m => i ≤ n ∧ Asc m ∧ Kin m ∧ m.length ≤ B.length + i ∧ Wf S [y, x] ∧ (∃ t, Rep S t x ∧ t.list = B ∧ t.Bal) ∧ (∃ t, Rep S t y ∧ t.list = m ∧ t.Bal) ∧ S.reads ≤ 1000 * i ∧ ((1 + (n + 1 - i) * I : Nat) : Int) ≤ S.free
def PB2 (B : List Ent) (n I : Nat) : Nat → Arn → Int → Int → Int → List Ent → Prop := fun i S x y z m => i < n ∧ Asc m ∧ Kin m ∧ m.length ≤ B.length + i + 1 ∧ Wf S [z, y, x] ∧ (∃ t, Rep S t x ∧ t.list = B ∧ t.Bal) ∧ (∃ t, Rep S t z ∧ t.list = m ∧ t.Bal) ∧ S.reads ≤ 1000 * i + 1000 ∧ ((1 + (n - i) * I : Nat) : Int) ≤ S.free
theorem kin_ins {l : List Ent} {e : Ent} (ha : Asc l) (h : Kin l) (he : -9223372036854775808 ≤ e.1 ∧ e.1 ≤ 9223372036854775807) : Kin (insE l e) := fun x hx => by
  rcases insE_mem ha hx with rfl | c
  · exact he
  · exact h x c
theorem kin_flt {p : Int → Bool} {l : List Ent} (h : Kin l) : Kin (flt p l) := fun x hx => h x (flt_mem hx)
theorem numsB {t : Tr} (h : t.size ≤ 110) (bal : t.Bal) : 5 * iB t.size + ht t + 1 ≤ 300 ∧ 5 * dB t.size + ht t + 1 ≤ 300 ∧ (iB t.size : Int) = 4 * Hn t.size + 1 ∧ (dB t.size : Int) ≤ 4 * Hn t.size + 4 := by
  have a := iB_Hn t.size
  have b := dB_Hn t.size
  have c := Bal.height bal (by omega)
  have d := Hn_104 (n := t.size) (by omega)
  omega
/-- Two trees, the second one made from the first one by edits. -/
structure BrR (B m : List Ent) (S : Arn) (x y : Int) : Prop where
  wf : Wf S [y, x]
  rx : ∃ t, Rep S t x ∧ t.list = B ∧ t.Bal
  ry : ∃ t, Rep S t y ∧ t.list = m ∧ t.Bal
  ab : Asc B
  am : Asc m
  kb : Kin B
  km : Kin m
  lb : B.length ≤ 90
  lm : m.length ≤ 102
  rds : S.reads ≤ 12000
abbrev chBr (raw : List Ent) (l : List EdtT) (B m : List Ent) (S : Arn) : List (Chunk C0) := [.row false EC.ent raw, .row false EC.edt l, .box [.ptr 5 0, .slc 6, .slc 7, vU64 S.reads], .row false EC.ent B, .row false EC.ent m, .box [.slc 8, .slc 9, .slc 10, vU S.fresh], .row true EC.node S.nodes, .row true EC.int S.counts, .row true EC.bool S.used, .row true EC.u32 S.gen, .row true EC.u32 S.rel]
def KinD (l : List EdtT) : Prop := ∀ e ∈ l, -9223372036854775808 ≤ e.ent.1 ∧ e.ent.1 ≤ 9223372036854775807
def tBr : Tfm C0 := fun args H K => match args, H with
  | [.at (.slc 0), .at (.val (.int .u64 t)), .at (.slc 1)], [.row false .ent raw, .row false .edt l] => 0 ≤ t ∧ Kin raw ∧ KinD l ∧
    ∀ S x y m, BrR (listE raw 90) m S x y → K (.tup [.at (.ptr 2 0), .at (vU x), .at (vU y), .at (.slc 3), .at (.slc 4), .at (vB true)]) (chBr raw l (listE raw 90) m S) []
  | _, _ => False
end Go.Proofs.Ytbonbaccmlomhaa.Sx
end
section
/- law16: spare, checked, pair. -/
namespace Go.Proofs.Ytbonbaccmlomhaa.Sx
open Go

/-KEEP Wf Kept exW inU live Arn.cap Arn.free Rep rdS retL Tr.size Tr.list Tr.Bal Asc Kin PlantR listE newS insE outE flt neK getE TrR Got upM Hn iB dB ht min slotsOf orderOf ckR List.Perm keptD RepD uniE intE subE excE-/
/-- What checked looks at. -/
def ckR (S0 S : Arn) (x y i e : Int) (W : List Ent) (same : Bool) (res need : Int) : Prop :=
  (same = true ∧ e = 0 ∧ i = res ∧ S.free = S0.free ∧ S.reads = S0.reads ∧ Wf S [i, y, x]) ∨
  (same = false ∧ S0.free < need ∧ e = 2 ∧ i = 0 ∧ Wf S [y, x] ∧ slotsOf S = slotsOf S0 ∧ orderOf S = orderOf S0) ∨
  (same = false ∧ need ≤ S0.free ∧ e = 0 ∧ TrR S0 [y, x] W 65537 2000000000 S i ∧ Asc W)
noncomputable def aCk16 : Ann C0 := { quiet := [21, 24, 77, 40, 80, 79, 78], Γ := [(21, frameT [] tDump), (78, frameT [] tWi), (77, frameT [] tFree), (40, frameT [] tSound), (24, frameT [] tSameD), (79, frameT [] tTr7), (80, frameT [] tKept)] }
def tCk16 : Tfm C0 := fun args H K => match args with
  | [.at (.ptr 0 0), .agg [.slc 7, .slc 8], .at (.val (.int .u64 r)), .at (.val (.int .u32 x)), .at (.val (.int .u32 y)), .at (.val (.int .u32 i)), .at (.val (.int .i64 e)), .at (.slc 9), .at (.val (.bool same)), .at (.val (.int .u32 res)), .at (.val (.int .i64 need))] => arMr H fun S rest => match rest with
    | [.row false .slot d, .row false .u32 o, .row false .ent W] => ∃ S0, Wf S0 [y, x] ∧ S0.reads ≤ 900000000000000000 ∧ d = slotsOf S0 ∧ o = orderOf S0 ∧ r = S0.reads ∧ W.length ≤ 60000 ∧ ckR S0 S x y i e W same res need ∧ K (.one (.at (vB true))) (chS S ++ [.row false EC.slot d, .row false EC.u32 o, .row false EC.ent W]) []
    | _ => False
  | _ => False
structure XP0 (P : Int → Prop) where
  room : Int
  h : P room
structure XP1 (P : Nat → Arn → Int → Int → List Ent → Prop) where
  i : Nat
  S : Arn
  x : Int
  y : Int
  m : List Ent
  h : P i S x y m
structure XP2 (P : Nat → Arn → Int → Int → Int → List Ent → Prop) where
  i : Nat
  S : Arn
  x : Int
  y : Int
  z : Int
  m : List Ent
  h : P i S x y z m
noncomputable def aPr16 (P0 : Int → Prop) (P1 : Nat → Arn → Int → Int → List Ent → Prop) (P2 : Nat → Arn → Int → Int → Int → List Ent → Prop) (raw oth A B : List Ent) (n : Int) (N : Nat) : Ann C0 := { trunc := fun n => n = 17, Γ := [(36, frameT [] tLst), (30, frameT [] tResS), (64, frameT [] tSpare), (55, frameT [] (tRes1 4 1)), (34, frameT [] tNew), (51, frameT [] tPlantA), (56, frameT [] tRetL), (26, frameT [] tMod), (57, frameT [] tUpDe), (58, frameT [] tDel), (59, frameT [] tUpIn), (60, frameT [] tIns), (25, frameT [] tRel)], inv := fun k => match k with
  | 1006 => some { X := XP0 P0, sl := [16, 17, 18, 19], tf := fun x => [.one (.at (.slc 2)), .one (.at (.slc 3)), vi .i64 n, vi .i64 x.room], hf := fun _ => [.row false EC.ent raw, .row false EC.ent oth, .row false EC.ent A, .row false EC.ent B] }
  | 18 => some { X := XP1 P1, sl := [20, 16, 22, 26, 17, 27], tf := fun x => [.one (.at (.ptr 2 0)), .one (.at (.slc 9)), vi .u32 x.x, vi .u32 x.y, .one (.at (.slc 10)), vi .i64 x.i], hf := fun x => [.row false EC.ent raw, .row false EC.ent oth] ++ chSk 2 x.S ++ [.row false EC.ent A, .row false EC.ent x.m], μ := fun x => N - x.i }
  | 1028 => some { X := XP2 P2, sl := [20, 16, 22, 26, 27, 28, 29, 30], tf := fun x => [.one (.at (.ptr 2 0)), .one (.at (.slc 9)), vi .u32 x.x, vi .u32 x.y, vi .i64 x.i, vi .u32 x.z, vi .i64 0, .one (.at (.slc 10))], hf := fun x => [.row false EC.ent raw, .row false EC.ent oth] ++ chSk 2 x.S ++ [.row false EC.ent A, .row true EC.ent x.m], rel := fun T _ x => slotI T 27 x.i }
  | _ => none }
/-- Two trees of one arena. -/
structure PrR (B m : List Ent) (S : Arn) (x y : Int) : Prop where
  wf : Wf S [y, x]
  rx : ∃ t, Rep S t x ∧ t.list = B ∧ t.Bal
  ry : ∃ t, Rep S t y ∧ t.list = m ∧ t.Bal
  ab : Asc B
  am : Asc m
  kb : Kin B
  km : Kin m
  lb : B.length ≤ 70
  lm : m.length ≤ 76
  rds : S.reads ≤ 6000
abbrev chPr (raw oth B m : List Ent) (S : Arn) : List (Chunk C0) := [.row false EC.ent raw, .row false EC.ent oth, .box [.ptr 5 0, .slc 6, .slc 7, vU64 S.reads], .row false EC.ent B, .row false EC.ent m, .box [.slc 8, .slc 9, .slc 10, vU S.fresh], .row true EC.node S.nodes, .row true EC.int S.counts, .row true EC.bool S.used, .row true EC.u32 S.gen, .row true EC.u32 S.rel]
def tPr16 : Tfm C0 := fun args H K => match args, H with
  | [.at (.slc 0), .at (.slc 1), .at (.val (.int .u64 t)), .at (.val (.bool _)), .at (.val (.int .u16 f))], [.row false .ent raw, .row false .ent oth] => 0 ≤ t ∧ 0 ≤ f ∧ f ≤ 65535 ∧ Kin raw ∧ Kin oth ∧
    ∀ S x y m, PrR (listE raw 70) m S x y → K (.tup [.at (.ptr 2 0), .at (vU x), .at (vU y), .at (.slc 3), .at (.slc 4), .at (vB true)]) (chPr raw oth (listE raw 70) m S) []
  | _, _ => False
theorem s_spare16 : SoundT C0 64 tSpare := by
  refine .of Try.func64 (by decide) rfl fun args H K h hB => ?_
  unfold tSpare at h
  split at h <;> try exact h.elim
  rename_i n need
  obtain ⟨h1, h2, h3, h4, h⟩ := h
  refine ⟨A0, trivial, Eq.mp (show (brS (n.tmod 4 == 0) (((IntKind.i64.wrap (need + 2) ≠ 0) ∧ (K (SV.one (TV.at (At.val (Value.int IntKind.i64 ((IntKind.i64.wrap n).tmod (IntKind.i64.wrap (need + 2))))))) [] []))) ((K (SV.one (TV.at (At.val (Value.int IntKind.i64 (IntKind.i64.wrap (need + IntKind.i64.wrap (n.tmod 9))))))) [] []))) = _ by kernel_rfl) ?_⟩
  rw [wrap_id (x := need + 2) (by omega) (by omega), wrap_id (x := n) (by omega) (by omega), Int.tmod_eq_emod_of_nonneg (a := n) (b := need + 2) h1, Int.tmod_eq_emod_of_nonneg (a := n) (b := 9) h1]
  refine brS_of (fun _ => ⟨by omega, h _ (Int.emod_nonneg _ (by omega)) ?_⟩) fun _ => ?_
  · have := Int.emod_lt_of_pos n (show 0 < need + 2 by omega); omega
  · rw [wrap_id (x := n % 9) (by omega) (by omega), wrap_id (by omega) (by omega)]
    exact h _ (by omega) (by omega)
theorem perm3 {α : Type} (a b c : α) : [a, b, c].Perm [c, b, a] := (List.reverse_perm [c, b, a])
theorem vc_ck16 (S : Arn) (r x y i e : Int) (W : List Ent) (same : Bool) (res need : Int) (K : KT) (S0 : Arn) (w0 : Wf S0 [y, x]) (rd : S0.reads ≤ 900000000000000000) (er : r = S0.reads) (lw : W.length ≤ 60000) (c : ckR S0 S x y i e W same res need)
    (h : K (.one (.at (vB true))) (chS S ++ [.row false EC.slot (slotsOf S0), .row false EC.u32 (orderOf S0), .row false EC.ent W]) []) :
    vc C0 aCk16 Try.f28 [.at (.ptr 0 0), .agg [.slc 7, .slc 8], .at (vU64 r), .at (vU x), .at (vU y), .at (vU i), .at (vI e), .at (.slc 9), .at (vB same), .at (vU res), .at (vI need)] (chS S ++ [.row false EC.slot (slotsOf S0), .row false EC.u32 (orderOf S0), .row false EC.ent W]) (normK 10 K) := by
  generalize hd : slotsOf S0 = d at *
  generalize ho : orderOf S0 = o at *
  refine Eq.mp (show (brS (same) ((brS (e == 0) ((brS (i == res) (((exW S) ∧ (brS (S.free == (↑o.length : Int)) (((0 ≤ r) ∧ (r ≤ S.reads) ∧ (S.reads ≤ 4000000000000000000) ∧ (S.reads - r ≤ 4) ∧ ((4 : Int) ≤ 4000000000000000000) ∧ (∃ hs : List Int, ((Wf S hs) ∧ ([x, y, i].Perm hs) ∧ ([x, y, i].length ≤ 1000000) ∧ (K (SV.one (TV.at (At.val (Value.bool true)))) [(Chunk.box [(At.ptr 1 0), (At.slc 2), (At.slc 3), (At.val (Value.int IntKind.u64 (S.reads)))]), (Chunk.box [(At.slc 4), (At.slc 5), (At.slc 6), (At.val (Value.int IntKind.u32 (S.fresh)))]), (Chunk.row true (EC.node) (S.nodes)), (Chunk.row true (EC.int) (S.counts)), (Chunk.row true (EC.bool) (S.used)), (Chunk.row true (EC.u32) (S.gen)), (Chunk.row true (EC.u32) (S.rel)), (Chunk.row false (EC.slot) (d)), (Chunk.row false (EC.u32) (o)), (Chunk.row false (EC.ent) (W))] []))))) ((K (SV.one (TV.at (At.val (Value.bool false)))) [(Chunk.box [(At.ptr 1 0), (At.slc 2), (At.slc 3), (At.val (Value.int IntKind.u64 (S.reads)))]), (Chunk.box [(At.slc 4), (At.slc 5), (At.slc 6), (At.val (Value.int IntKind.u32 (S.fresh)))]), (Chunk.row true (EC.node) (S.nodes)), (Chunk.row true (EC.int) (S.counts)), (Chunk.row true (EC.bool) (S.used)), (Chunk.row true (EC.u32) (S.gen)), (Chunk.row true (EC.u32) (S.rel)), (Chunk.row false (EC.slot) (d)), (Chunk.row false (EC.u32) (o)), (Chunk.row false (EC.ent) (W))] [])))))
    ((K (SV.one (TV.at (At.val (Value.bool false)))) [(Chunk.box [(At.ptr 1 0), (At.slc 2), (At.slc 3), (At.val (Value.int IntKind.u64 (S.reads)))]), (Chunk.box [(At.slc 4), (At.slc 5), (At.slc 6), (At.val (Value.int IntKind.u32 (S.fresh)))]), (Chunk.row true (EC.node) (S.nodes)), (Chunk.row true (EC.int) (S.counts)), (Chunk.row true (EC.bool) (S.used)), (Chunk.row true (EC.u32) (S.gen)), (Chunk.row true (EC.u32) (S.rel)), (Chunk.row false (EC.slot) (d)), (Chunk.row false (EC.u32) (o)), (Chunk.row false (EC.ent) (W))] [])))) ((K (SV.one (TV.at (At.val (Value.bool false)))) [(Chunk.box [(At.ptr 1 0), (At.slc 2), (At.slc 3), (At.val (Value.int IntKind.u64 (S.reads)))]), (Chunk.box [(At.slc 4), (At.slc 5), (At.slc 6), (At.val (Value.int IntKind.u32 (S.fresh)))]), (Chunk.row true (EC.node) (S.nodes)), (Chunk.row true (EC.int) (S.counts)), (Chunk.row true (EC.bool) (S.used)), (Chunk.row true (EC.u32) (S.gen)), (Chunk.row true (EC.u32) (S.rel)), (Chunk.row false (EC.slot) (d)), (Chunk.row false (EC.u32) (o)), (Chunk.row false (EC.ent) (W))] [])))) (((exW S) ∧ (∀ d1 : List SlotT, (∀ o1 : List Int, (((d1) = (slotsOf S)) → (((o1) = (orderOf S)) → (brS (decide ((↑o.length : Int) < need)) ((brS (e == 2) ((brS (i == 0) ((((d1) = (d)) ∧ ((o1) = (o)) ∧ (d1.length ≤ 1000000) ∧ (o1.length ≤ 1000000) ∧
    (K (SV.one (TV.at (At.val (Value.bool true)))) [(Chunk.box [(At.ptr 1 0), (At.slc 2), (At.slc 3), (At.val (Value.int IntKind.u64 (S.reads)))]), (Chunk.box [(At.slc 4), (At.slc 5), (At.slc 6), (At.val (Value.int IntKind.u32 (S.fresh)))]), (Chunk.row true (EC.node) (S.nodes)), (Chunk.row true (EC.int) (S.counts)), (Chunk.row true (EC.bool) (S.used)), (Chunk.row true (EC.u32) (S.gen)), (Chunk.row true (EC.u32) (S.rel)), (Chunk.row false (EC.slot) (d)), (Chunk.row false (EC.u32) (o)), (Chunk.row false (EC.ent) (W))] []))) ((K (SV.one (TV.at (At.val (Value.bool false)))) [(Chunk.box [(At.ptr 1 0), (At.slc 2), (At.slc 3), (At.val (Value.int IntKind.u64 (S.reads)))]), (Chunk.box [(At.slc 4), (At.slc 5), (At.slc 6), (At.val (Value.int IntKind.u32 (S.fresh)))]), (Chunk.row true (EC.node) (S.nodes)), (Chunk.row true (EC.int) (S.counts)), (Chunk.row true (EC.bool) (S.used)), (Chunk.row true (EC.u32) (S.gen)), (Chunk.row true (EC.u32) (S.rel)), (Chunk.row false (EC.slot) (d)), (Chunk.row false (EC.u32) (o)), (Chunk.row false (EC.ent) (W))] []))))
    ((K (SV.one (TV.at (At.val (Value.bool false)))) [(Chunk.box [(At.ptr 1 0), (At.slc 2), (At.slc 3), (At.val (Value.int IntKind.u64 (S.reads)))]), (Chunk.box [(At.slc 4), (At.slc 5), (At.slc 6), (At.val (Value.int IntKind.u32 (S.fresh)))]), (Chunk.row true (EC.node) (S.nodes)), (Chunk.row true (EC.int) (S.counts)), (Chunk.row true (EC.bool) (S.used)), (Chunk.row true (EC.u32) (S.gen)), (Chunk.row true (EC.u32) (S.rel)), (Chunk.row false (EC.slot) (d)), (Chunk.row false (EC.u32) (o)), (Chunk.row false (EC.ent) (W))] [])))) ((brS (e == 0) (((d1.length ≤ 1000000) ∧ (∃ t : Tr, ((RepD d1 t i) ∧ (Asc t.list) ∧ (t.Bal) ∧ (t.size ≤ 2 * d1.length + 2) ∧ (t.size ≤ 1000000) ∧ ((t.list) = (W)))) ∧ (keptD d d1) ∧ (d.length ≤ 1000000) ∧ (∃ hs : List Int, ((Wf S hs) ∧ ([x, y, i].Perm hs) ∧ ([x, y, i].length ≤ 1000000) ∧ (K (SV.one (TV.at (At.val (Value.bool true)))) [(Chunk.box [(At.ptr 1 0), (At.slc 2), (At.slc 3), (At.val (Value.int IntKind.u64 (S.reads)))]), (Chunk.box [(At.slc 4), (At.slc 5), (At.slc 6), (At.val (Value.int IntKind.u32 (S.fresh)))]), (Chunk.row true (EC.node) (S.nodes)), (Chunk.row true (EC.int) (S.counts)), (Chunk.row true (EC.bool) (S.used)), (Chunk.row true (EC.u32) (S.gen)), (Chunk.row true (EC.u32) (S.rel)), (Chunk.row false (EC.slot) (d)), (Chunk.row false (EC.u32) (o)), (Chunk.row false (EC.ent) (W))] [])))))
    ((K (SV.one (TV.at (At.val (Value.bool false)))) [(Chunk.box [(At.ptr 1 0), (At.slc 2), (At.slc 3), (At.val (Value.int IntKind.u64 (S.reads)))]), (Chunk.box [(At.slc 4), (At.slc 5), (At.slc 6), (At.val (Value.int IntKind.u32 (S.fresh)))]), (Chunk.row true (EC.node) (S.nodes)), (Chunk.row true (EC.int) (S.counts)), (Chunk.row true (EC.bool) (S.used)), (Chunk.row true (EC.u32) (S.gen)), (Chunk.row true (EC.u32) (S.rel)), (Chunk.row false (EC.slot) (d)), (Chunk.row false (EC.u32) (o)), (Chunk.row false (EC.ent) (W))] [])))))))))))) = _ by kernel_rfl) ?_
  have ol : (o.length : Int) = S0.free := by rw [← ho]; exact order_free w0
  have r0 := w0.rds.1
  rcases c with ⟨c1, c2, c3, c4, c5, c6⟩ | ⟨c1, c2, c3, c4, c5, c6, c7⟩ | ⟨c1, c2, c3, c4, c5⟩
  · refine bt7 c1 (bt7 (by rw [c2]; rfl) (bt7 (by rw [c3]; simp) ⟨⟨_, c6⟩, bt7 (by rw [c4, ol]; simp) ⟨by omega, by omega, by omega, by omega, by decide, _, c6, perm3 _ _ _, by simp, h⟩⟩))
  · have sl := slots_le c5
    have ol5 := order_len c5
    refine bf7 c1 ⟨⟨_, c5⟩, fun d1 o1 e1 e2 => bt7 (decide_eq_true (by omega)) (bt7 (by rw [c3]; rfl) (bt7 (by rw [c4]; rfl) ⟨by rw [e1, c6, hd], by rw [e2, c7, ho], by rw [e1]; omega, by rw [e2]; omega, h⟩))⟩
  · have w := c4.got.wf
    obtain ⟨t, rp, lt, bt⟩ := c4.tree
    have ut := tr_tree w rp lt bt c5
    have sl := slots_le w
    have sl0 := slots_le w0
    refine bf7 c1 ⟨⟨_, w⟩, fun d1 o1 e1 e2 => bf7 (decide_eq_false (by omega)) (bt7 (by rw [c3]; rfl) ⟨by rw [e1]; omega, by rw [e1]; exact ut, by rw [e1, ← hd]; exact kept_of w0 c4.got.stay c4.got.len, by rw [← hd]; omega, _, w, perm3 _ _ _, by simp, h⟩)⟩
theorem s_ck16 : SoundT C0 28 tCk16 := by
  refine .of Try.func28 (by decide) rfl fun args H K h hB => ?_
  unfold tCk16 at h
  split at h <;> try exact h.elim
  unfold arMr at h
  split at h <;> try exact h.elim
  split at h <;> try exact h.elim
  rename_i r x y i e same res need _ rd fr nd ct us gn rl _ d o W
  obtain ⟨S0, h1, h2, rfl, rfl, h5, h6, h7, h8⟩ := h
  exact ⟨aCk16, ⟨frame C0.ok s_dump _, frame C0.ok s_wi _, frame C0.ok s_free _, frame C0.ok s_sound _, frame C0.ok s_sameD _, frame C0.ok s_tr7 _, frame C0.ok s_kept _, trivial⟩, vc_ck16 ⟨us, gn, rl, fr, nd, ct, rd⟩ r x y i e W same res need K S0 h1 h2 h5 h6 h7 h8⟩
def PP0 (n I : Nat) (der : Bool) : Int → Prop := fun room => 0 ≤ room ∧ room ≤ 3000 ∧ (der = true → ((n * I : Nat) : Int) ≤ room)
def PP1 (B : List Ent) (n I : Nat) : Nat → Arn → Int → Int → List Ent → Prop := fun i S x y m => i ≤ n ∧ Asc m ∧ Kin m ∧ m.length ≤ B.length + i ∧ Wf S [y, x] ∧ (∃ t, Rep S t x ∧ t.list = B ∧ t.Bal) ∧ (∃ t, Rep S t y ∧ t.list = m ∧ t.Bal) ∧ S.reads ≤ 1000 * i ∧ (((n - i) * I : Nat) : Int) ≤ S.free
def PP2 (B : List Ent) (n I : Nat) : Nat → Arn → Int → Int → Int → List Ent → Prop := fun i S x y z m => i < n ∧ Asc m ∧ Kin m ∧ m.length ≤ B.length + i + 1 ∧ Wf S [z, y, x] ∧ (∃ t, Rep S t x ∧ t.list = B ∧ t.Bal) ∧ (∃ t, Rep S t z ∧ t.list = m ∧ t.Bal) ∧ S.reads ≤ 1000 * i + 1000 ∧ (((n - i - 1) * I : Nat) : Int) ≤ S.free
theorem mulP {n i I : Nat} (h : i < n) : (n - i) * I = (n - i - 1) * I + I := by conv => lhs; rw [show n - i = (n - i - 1) + 1 by omega, Nat.succ_mul]
theorem pp_step {B : List Ent} {n I i : Nat} {S S' : Arn} {x y j : Int} {m L : List Ent} {a r : Nat} (h : PP1 B n I i S x y m) (hi : i < n) (tr : TrR S [y, x] L a r S' j) (ha : a ≤ I) (hr : r ≤ 1000) (asc : Asc L) (kin : Kin L) (hl : L.length ≤ B.length + i + 1) : PP2 B n I i S' x y j L := by
  obtain ⟨_, _, _, _, w, ⟨t, rt, lt, bt⟩, _, rd, fr⟩ := h
  have f := tr.got.free w
  have q := tr.got.rd
  rw [mulP hi] at fr
  exact ⟨hi, asc, kin, hl, tr.got.wf, ⟨t, rt.held w tr.got.stay (.inr (by simp)), lt, bt⟩, tr.tree, by omega, by omega⟩
theorem vc_pr16 (raw oth : List Ent) (t f : Int) (der : Bool) (K : KT) (h0 : 0 ≤ t) (f1 : 0 ≤ f) (f2 : f ≤ 65535) (hk : Kin raw) (hk2 : Kin oth)
    (h : ∀ S x y m, PrR (listE raw 70) m S x y → K (.tup [.at (.ptr 2 0), .at (vU x), .at (vU y), .at (.slc 3), .at (.slc 4), .at (vB true)]) (chPr raw oth (listE raw 70) m S) []) :
    vc C0 (aPr16 (PP0 (min oth.length 6) (4 * (Hn (((listE raw 70).length + min oth.length 6 + 1 : Nat) : Int) + 2)).toNat der) (PP1 (listE raw 70) (min oth.length 6) (4 * (Hn (((listE raw 70).length + min oth.length 6 + 1 : Nat) : Int) + 2)).toNat) (PP2 (listE raw 70) (min oth.length 6) (4 * (Hn (((listE raw 70).length + min oth.length 6 + 1 : Nat) : Int) + 2)).toNat) raw oth (listE raw 70) (listE oth 70) (if 6 < (oth.length : Int) then 6 else (oth.length : Int)) (min oth.length 6)) Try.f19 [.at (.slc 0), .at (.slc 1), .at (vU64 t), .at (vB der), .at (.val (.int .u16 f))] [.row false EC.ent raw, .row false EC.ent oth] (normK 2 K) := by
  obtain ⟨la, ll⟩ := listE_spec raw 70
  obtain ⟨lb, lc⟩ := listE_spec oth 70
  have kB : Kin (listE raw 70) := fun x hx => hk x (listE_sub raw 70 x hx)
  have kC : Kin (listE oth 70) := fun x hx => hk2 x (listE_sub oth 70 x hx)
  have h13 := Hn_104 (n := (listE raw 70).length + min oth.length 6 + 1) (by omega)
  have hr := Hn_rng (((listE raw 70).length + min oth.length 6 + 1 : Nat) : Int)
  generalize hI : (4 * (Hn (((listE raw 70).length + min oth.length 6 + 1 : Nat) : Int) + 2)).toNat = I
  have hII : (I : Int) = 4 * (Hn (((listE raw 70).length + min oth.length 6 + 1 : Nat) : Int) + 2) := by omega
  clear hI
  generalize hP0 : PP0 (min oth.length 6) I der = P0
  generalize hP1 : PP1 (listE raw 70) (min oth.length 6) I = P1
  generalize hP2 : PP2 (listE raw 70) (min oth.length 6) I = P2
  generalize hN : min oth.length 6 = N
  refine Eq.mp (show (((0 : Int) ≤ 70) ∧
((70 : Int) ≤ 1000000) ∧
((0 : Int) ≤ 70) ∧
((70 : Int) ≤ 1000000) ∧
(0 ≤ (↑(listE raw (Int.toNat 70)).length : Int)) ∧
((↑(listE raw (Int.toNat 70)).length : Int) ≤ 65536) ∧
(0 ≤ (↑(listE oth (Int.toNat 70)).length : Int)) ∧
((↑(listE oth (Int.toNat 70)).length : Int) ≤ 65536) ∧
(∀ p : Int, (((p) = ((↑(listE raw (Int.toNat 70)).length : Int) + (↑(listE oth (Int.toNat 70)).length : Int) + 12 * (Hn ((↑(listE raw (Int.toNat 70)).length : Int) + (↑(listE oth (Int.toNat 70)).length : Int)) + 2))) → ((0 ≤ f) ∧ (f ≤ 65535) ∧ (0 ≤ p) ∧ (p ≤ 60000) ∧ (∀ s : Int, ((0 ≤ s) → ((s ≤ p + 8) → ((brS (der) (((0 ≤ (↑(listE raw (Int.toNat 70)).length : Int)) ∧ ((↑(listE raw (Int.toNat 70)).length : Int) ≤ 65536) ∧ (0 ≤ IntKind.i64.wrap ((↑(listE raw (Int.toNat 70)).length : Int) + if 6 < (↑oth.length : Int) then 6 else (↑oth.length : Int))) ∧ (IntKind.i64.wrap ((↑(listE raw (Int.toNat 70)).length : Int) + if 6 < (↑oth.length : Int) then 6 else (↑oth.length : Int)) ≤ 65536) ∧ (∀ p1 : Int, (((p1) = ((↑(listE raw (Int.toNat 70)).length : Int) + IntKind.i64.wrap ((↑(listE raw (Int.toNat 70)).length : Int) + if 6 < (↑oth.length : Int) then 6 else (↑oth.length : Int)) + 12 * (Hn ((↑(listE raw (Int.toNat 70)).length : Int) + IntKind.i64.wrap ((↑(listE raw (Int.toNat 70)).length : Int) + if 6 < (↑oth.length : Int) then 6 else (↑oth.length : Int))) + 2))) → ((0 ≤ f) ∧ (f ≤ 65535) ∧ (0 ≤ p1) ∧ (p1 ≤ 60000) ∧ (∀ s1 : Int, ((0 ≤ s1) → ((s1 ≤ p1 + 8) →
    ((0 ≤ IntKind.i64.wrap ((↑(listE raw (Int.toNat 70)).length : Int) + if 6 < (↑oth.length : Int) then 6 else (↑oth.length : Int))) ∧ (IntKind.i64.wrap ((↑(listE raw (Int.toNat 70)).length : Int) + if 6 < (↑oth.length : Int) then 6 else (↑oth.length : Int)) ≤ 65536) ∧ (∀ p2 : Int, (((p2) = (4 * (Hn (IntKind.i64.wrap ((↑(listE raw (Int.toNat 70)).length : Int) + if 6 < (↑oth.length : Int) then 6 else (↑oth.length : Int)) + 1) + 2))) → (∃ x : XP0 P0, (True ∧ (True ∧ ((Value.int IntKind.u64 (t)) = (Value.int IntKind.u64 (t))) ∧ ((Value.bool (der)) = (Value.bool (der))) ∧ True ∧ True ∧ ((Value.int IntKind.i64 (if 6 < (↑oth.length : Int) then 6 else (↑oth.length : Int))) = (Value.int IntKind.i64 (if 6 < (↑oth.length : Int) then 6 else (↑oth.length : Int)))) ∧ ((Value.int IntKind.i64 (IntKind.i64.wrap (s1 + IntKind.i64.wrap ((if 6 < (↑oth.length : Int) then 6 else (↑oth.length : Int)) * p2)))) = (Value.int IntKind.i64 (x.room))) ∧ True) ∧ ((raw) = (raw)) ∧ ((oth) = (oth)) ∧ ((listE raw (Int.toNat 70)) = (listE raw 70)) ∧ ((listE oth (Int.toNat 70)) = (listE oth 70)) ∧ True))))))))))))) ((∃ x : XP0 P0, (True ∧ (True ∧ ((Value.int IntKind.u64 (t)) = (Value.int IntKind.u64 (t))) ∧ ((Value.bool (der)) = (Value.bool (der))) ∧ True ∧ True ∧ ((Value.int IntKind.i64 (if 6 < (↑oth.length : Int) then 6 else (↑oth.length : Int))) = (Value.int IntKind.i64 (if 6 < (↑oth.length : Int) then 6 else (↑oth.length : Int)))) ∧ ((Value.int IntKind.i64 (s)) = (Value.int IntKind.i64 (x.room))) ∧ True) ∧
    ((raw) = (raw)) ∧ ((oth) = (oth)) ∧ ((listE raw (Int.toNat 70)) = (listE raw 70)) ∧ ((listE oth (Int.toNat 70)) = (listE oth 70)) ∧ True)))) ∧ (∀ x : XP0 P0, (True → (((IntKind.i64.wrap (IntKind.i64.wrap (IntKind.i64.wrap ((↑(listE raw 70).length : Int) + (↑(listE oth 70).length : Int)) + 1) + x.room) < 1 ∨ 65536 < IntKind.i64.wrap (IntKind.i64.wrap (IntKind.i64.wrap ((↑(listE raw 70).length : Int) + (↑(listE oth 70).length : Int)) + 1) + x.room)) → (K (SV.tup [(TV.at (At.val (Value.pointer none))), (TV.at (At.val (Value.int IntKind.u32 0))), (TV.at (At.val (Value.int IntKind.u32 0))), (TV.at (At.slc 2)), (TV.at (At.slc 3)), (TV.at (At.val (Value.bool false)))]) [(Chunk.row false (EC.ent) (raw)), (Chunk.row false (EC.ent) (oth)), (Chunk.row true (EC.ent) []), (Chunk.row true (EC.ent) [])] [])) ∧ ((1 ≤ IntKind.i64.wrap (IntKind.i64.wrap (IntKind.i64.wrap ((↑(listE raw 70).length : Int) + (↑(listE oth 70).length : Int)) + 1) + x.room)) → ((IntKind.i64.wrap (IntKind.i64.wrap (IntKind.i64.wrap ((↑(listE raw 70).length : Int) + (↑(listE oth 70).length : Int)) + 1) + x.room) ≤ 65536) → (∀ S : Arn, (((S) = (newS (IntKind.i64.wrap (IntKind.i64.wrap (IntKind.i64.wrap ((↑(listE raw 70).length : Int) + (↑(listE oth 70).length : Int)) + 1) + x.room)).toNat)) → (∃ hs : List Int, ((Wf S hs) ∧ ((listE raw 70).length ≤ 100000) ∧ ((↑(listE raw 70).length : Int) ≤ S.free) ∧ (hs.length + (listE raw 70).length ≤ 900000000) ∧ (0 ≤ t) ∧ (∀ S' : Arn, (∀ i : Int, ((PlantR S hs (listE raw 70) S' i) →
    (brS (!der) ((∃ hs1 : List Int, ((Wf S' hs1) ∧ ((listE oth 70).length ≤ 100000) ∧ ((↑(listE oth 70).length : Int) ≤ S'.free) ∧ (hs1.length + (listE oth 70).length ≤ 900000000) ∧ (0 ≤ IntKind.u64.wrap (IntKind.u64.wrap (t * 3) + 1)) ∧ (∀ S'1 : Arn, (∀ i1 : Int, ((PlantR S' hs1 (listE oth 70) S'1 i1) → (K (SV.tup [(TV.at (At.ptr 2 0)), (TV.at (At.val (Value.int IntKind.u32 (i)))), (TV.at (At.val (Value.int IntKind.u32 (i1)))), (TV.at (At.slc 3)), (TV.at (At.slc 4)), (TV.at (At.val (Value.bool true)))]) [(Chunk.row false (EC.ent) (raw)), (Chunk.row false (EC.ent) (oth)), (Chunk.box [(At.ptr 5 0), (At.slc 6), (At.slc 7), (At.val (Value.int IntKind.u64 (S'1.reads)))]), (Chunk.row false (EC.ent) (listE raw 70)), (Chunk.row false (EC.ent) (listE oth 70)), (Chunk.box [(At.slc 8), (At.slc 9), (At.slc 10), (At.val (Value.int IntKind.u32 (S'1.fresh)))]), (Chunk.row true (EC.node) (S'1.nodes)), (Chunk.row true (EC.int) (S'1.counts)), (Chunk.row true (EC.bool) (S'1.used)), (Chunk.row true (EC.u32) (S'1.gen)), (Chunk.row true (EC.u32) (S'1.rel))] []))))))) (((live S' i) ∧ (exW S') ∧ (∀ S'1 : Arn, (((S'1) = (retL S' i)) → ((∃ x1 : XP1 P1, (True ∧ (True ∧ True ∧ True ∧ ((Value.int IntKind.i64 (if 6 < (↑oth.length : Int) then 6 else (↑oth.length : Int))) = (Value.int IntKind.i64 (if 6 < (↑oth.length : Int) then 6 else (↑oth.length : Int)))) ∧ True ∧ ((Value.int IntKind.u32 (i)) = (Value.int IntKind.u32 (x1.x))) ∧ ((Value.int IntKind.u32 (i)) = (Value.int IntKind.u32 (x1.y))) ∧
    ((Value.int IntKind.i64 0) = (Value.int IntKind.i64 ((↑x1.i : Int)))) ∧ True) ∧ ((raw) = (raw)) ∧ ((oth) = (oth)) ∧ (True ∧ True ∧ True ∧ ((Value.int IntKind.u64 (S'1.reads)) = (Value.int IntKind.u64 (x1.S.reads))) ∧ True) ∧ (True ∧ True ∧ True ∧ ((Value.int IntKind.u32 (S'1.fresh)) = (Value.int IntKind.u32 (x1.S.fresh))) ∧ True) ∧ ((S'1.nodes) = (x1.S.nodes)) ∧ ((S'1.counts) = (x1.S.counts)) ∧ ((S'1.used) = (x1.S.used)) ∧ ((S'1.gen) = (x1.S.gen)) ∧ ((S'1.rel) = (x1.S.rel)) ∧ ((listE raw 70) = (listE raw 70)) ∧ ((listE raw 70) = (x1.m)) ∧ True)) ∧ (∀ x1 : XP1 P1, (True → (brS (decide ((↑x1.i : Int) < if 6 < (↑oth.length : Int) then 6 else (↑oth.length : Int))) (((brS ((↑x1.i : Int).tmod 3 == 2) ((brS (decide ((↑x1.m.length : Int) > 0)) (((0 ≤ (↑x1.i : Int)) ∧ ((↑x1.i : Int) < (↑oth.length : Int)) ∧ (0 < (↑x1.m.length : Int)) ∧ ((↑x1.m.length : Int) ≤ 9223372036854775807) ∧ (∀ x2 : Int, (((x2) = ((eA oth x1.i).fst.tmod 1000 % (↑x1.m.length : Int))) → ((0 ≤ x2) ∧ (x2 < (↑x1.m.length : Int)) ∧ (∃ hs1 : List Int, (∃ t1 : Tr, (∃ v : Int, ((upM x1.S hs1 t1 x1.y) ∧ ((getE t1.list (x1.m.getD x2.toNat (0, 0)).fst) = (some (v))) ∧ (4 * (Hn (↑t1.size : Int) + 2) ≤ x1.S.free) ∧ (∀ S'2 : Arn, (∀ j : Int, ((TrR x1.S hs1 (flt (neK (x1.m.getD x2.toNat (0, 0)).fst) t1.list) (dB t1.size) (5 * dB t1.size + ht t1 + 1) S'2 j) → ((x1.m.length ≤ 1000000) ∧ (∃ x3 : XP2 P2, ((((↑x1.i : Int)) = ((↑x3.i : Int))) ∧ (True ∧ True ∧
    ((Value.int IntKind.i64 (if 6 < (↑oth.length : Int) then 6 else (↑oth.length : Int))) = (Value.int IntKind.i64 (if 6 < (↑oth.length : Int) then 6 else (↑oth.length : Int)))) ∧ True ∧ ((Value.int IntKind.u32 (x1.x)) = (Value.int IntKind.u32 (x3.x))) ∧ ((Value.int IntKind.u32 (x1.y)) = (Value.int IntKind.u32 (x3.y))) ∧ ((Value.int IntKind.i64 ((↑x1.i : Int))) = (Value.int IntKind.i64 ((↑x3.i : Int)))) ∧ ((Value.int IntKind.u32 (j)) = (Value.int IntKind.u32 (x3.z))) ∧ ((Value.int IntKind.i64 0) = (Value.int IntKind.i64 0)) ∧ True ∧ True) ∧ ((raw) = (raw)) ∧ ((oth) = (oth)) ∧ (True ∧ True ∧ True ∧ ((Value.int IntKind.u64 (S'2.reads)) = (Value.int IntKind.u64 (x3.S.reads))) ∧ True) ∧ (True ∧ True ∧ True ∧ ((Value.int IntKind.u32 (S'2.fresh)) = (Value.int IntKind.u32 (x3.S.fresh))) ∧ True) ∧ ((S'2.nodes) = (x3.S.nodes)) ∧ ((S'2.counts) = (x3.S.counts)) ∧ ((S'2.used) = (x3.S.used)) ∧ ((S'2.gen) = (x3.S.gen)) ∧ ((S'2.rel) = (x3.S.rel)) ∧ ((listE raw 70) = (listE raw 70)) ∧ ((outE x1.m (x1.m.getD x2.toNat (0, 0)).fst (x1.m.getD x2.toNat (0, 0)).fst) = (x3.m)) ∧ True))))))))))))))) (((0 ≤ (↑x1.i : Int)) ∧ ((↑x1.i : Int) < (↑oth.length : Int)) ∧ (∃ hs1 : List Int, (∃ t1 : Tr, ((upM x1.S hs1 t1 x1.y) ∧ (4 * (Hn ((↑t1.size : Int) + 1) + 2) ≤ x1.S.free) ∧ (∀ S'2 : Arn, (∀ j : Int, (∀ o : Option Int, (((o) = (getE t1.list (eA oth x1.i).fst)) → ((TrR x1.S hs1 (insE t1.list (eA oth x1.i)) (iB t1.size) (5 * iB t1.size + ht t1 + 1) S'2 j) → ((0 ≤ (↑x1.i : Int)) ∧
    ((↑x1.i : Int) < (↑oth.length : Int)) ∧ (x1.m.length ≤ 1000000) ∧ (∃ x2 : XP2 P2, ((((↑x1.i : Int)) = ((↑x2.i : Int))) ∧ (True ∧ True ∧ ((Value.int IntKind.i64 (if 6 < (↑oth.length : Int) then 6 else (↑oth.length : Int))) = (Value.int IntKind.i64 (if 6 < (↑oth.length : Int) then 6 else (↑oth.length : Int)))) ∧ True ∧ ((Value.int IntKind.u32 (x1.x)) = (Value.int IntKind.u32 (x2.x))) ∧ ((Value.int IntKind.u32 (x1.y)) = (Value.int IntKind.u32 (x2.y))) ∧ ((Value.int IntKind.i64 ((↑x1.i : Int))) = (Value.int IntKind.i64 ((↑x2.i : Int)))) ∧ ((Value.int IntKind.u32 (j)) = (Value.int IntKind.u32 (x2.z))) ∧ ((Value.int IntKind.i64 0) = (Value.int IntKind.i64 0)) ∧ True ∧ True) ∧ ((raw) = (raw)) ∧ ((oth) = (oth)) ∧ (True ∧ True ∧ True ∧ ((Value.int IntKind.u64 (S'2.reads)) = (Value.int IntKind.u64 (x2.S.reads))) ∧ True) ∧ (True ∧ True ∧ True ∧ ((Value.int IntKind.u32 (S'2.fresh)) = (Value.int IntKind.u32 (x2.S.fresh))) ∧ True) ∧ ((S'2.nodes) = (x2.S.nodes)) ∧ ((S'2.counts) = (x2.S.counts)) ∧ ((S'2.used) = (x2.S.used)) ∧ ((S'2.gen) = (x2.S.gen)) ∧ ((S'2.rel) = (x2.S.rel)) ∧ ((listE raw 70) = (listE raw 70)) ∧ ((insE x1.m (eA oth x1.i)) = (x2.m)) ∧ True))))))))))))))) (((0 ≤ (↑x1.i : Int)) ∧ ((↑x1.i : Int) < (↑oth.length : Int)) ∧ (∃ hs1 : List Int, (∃ t1 : Tr, ((upM x1.S hs1 t1 x1.y) ∧ (4 * (Hn ((↑t1.size : Int) + 1) + 2) ≤ x1.S.free) ∧ (∀ S'2 : Arn, (∀ j : Int, (∀ o : Option Int, (((o) = (getE t1.list (eA oth x1.i).fst)) →
    ((TrR x1.S hs1 (insE t1.list (eA oth x1.i)) (iB t1.size) (5 * iB t1.size + ht t1 + 1) S'2 j) → ((0 ≤ (↑x1.i : Int)) ∧ ((↑x1.i : Int) < (↑oth.length : Int)) ∧ (x1.m.length ≤ 1000000) ∧ (∃ x2 : XP2 P2, ((((↑x1.i : Int)) = ((↑x2.i : Int))) ∧ (True ∧ True ∧ ((Value.int IntKind.i64 (if 6 < (↑oth.length : Int) then 6 else (↑oth.length : Int))) = (Value.int IntKind.i64 (if 6 < (↑oth.length : Int) then 6 else (↑oth.length : Int)))) ∧ True ∧ ((Value.int IntKind.u32 (x1.x)) = (Value.int IntKind.u32 (x2.x))) ∧ ((Value.int IntKind.u32 (x1.y)) = (Value.int IntKind.u32 (x2.y))) ∧ ((Value.int IntKind.i64 ((↑x1.i : Int))) = (Value.int IntKind.i64 ((↑x2.i : Int)))) ∧ ((Value.int IntKind.u32 (j)) = (Value.int IntKind.u32 (x2.z))) ∧ ((Value.int IntKind.i64 0) = (Value.int IntKind.i64 0)) ∧ True ∧ True) ∧ ((raw) = (raw)) ∧ ((oth) = (oth)) ∧ (True ∧ True ∧ True ∧ ((Value.int IntKind.u64 (S'2.reads)) = (Value.int IntKind.u64 (x2.S.reads))) ∧ True) ∧ (True ∧ True ∧ True ∧ ((Value.int IntKind.u32 (S'2.fresh)) = (Value.int IntKind.u32 (x2.S.fresh))) ∧ True) ∧ ((S'2.nodes) = (x2.S.nodes)) ∧ ((S'2.counts) = (x2.S.counts)) ∧ ((S'2.used) = (x2.S.used)) ∧ ((S'2.gen) = (x2.S.gen)) ∧ ((S'2.rel) = (x2.S.rel)) ∧ ((listE raw 70) = (listE raw 70)) ∧ ((insE x1.m (eA oth x1.i)) = (x2.m)) ∧ True)))))))))))))) ∧ (∀ x2 : XP2 P2, ((((↑x1.i : Int)) = ((↑x2.i : Int))) → (∃ hs1 : List Int, ((Wf x2.S (x2.y :: hs1)) ∧ (∀ S'2 : Arn, (∀ fr : Int, ((Wf S'2 hs1) → ((Kept x2.S S'2) → (∃ x' : XP1 P1, (True ∧ ((True ∧ True ∧
    True ∧ ((Value.int IntKind.i64 (if 6 < (↑oth.length : Int) then 6 else (↑oth.length : Int))) = (Value.int IntKind.i64 (if 6 < (↑oth.length : Int) then 6 else (↑oth.length : Int)))) ∧ True ∧ ((Value.int IntKind.u32 (x2.x)) = (Value.int IntKind.u32 (x'.x))) ∧ ((Value.int IntKind.u32 (x2.z)) = (Value.int IntKind.u32 (x'.y))) ∧ ((Value.int IntKind.i64 (IntKind.i64.wrap ((↑x2.i : Int) + 1))) = (Value.int IntKind.i64 ((↑x'.i : Int)))) ∧ True) ∧ ((raw) = (raw)) ∧ ((oth) = (oth)) ∧ (True ∧ True ∧ True ∧ ((Value.int IntKind.u64 (S'2.reads)) = (Value.int IntKind.u64 (x'.S.reads))) ∧ True) ∧ (True ∧ True ∧ True ∧ ((Value.int IntKind.u32 (S'2.fresh)) = (Value.int IntKind.u32 (x'.S.fresh))) ∧ True) ∧ ((S'2.nodes) = (x'.S.nodes)) ∧ ((S'2.counts) = (x'.S.counts)) ∧ ((S'2.used) = (x'.S.used)) ∧ ((S'2.gen) = (x'.S.gen)) ∧ ((S'2.rel) = (x'.S.rel)) ∧ ((listE raw 70) = (listE raw 70)) ∧ ((x2.m) = (x'.m)) ∧ True) ∧ (N - x'.i < N - x1.i)))))))))))))
    ((K (SV.tup [(TV.at (At.ptr 2 0)), (TV.at (At.val (Value.int IntKind.u32 (x1.x)))), (TV.at (At.val (Value.int IntKind.u32 (x1.y)))), (TV.at (At.slc 3)), (TV.at (At.slc 4)), (TV.at (At.val (Value.bool true)))]) [(Chunk.row false (EC.ent) (raw)), (Chunk.row false (EC.ent) (oth)), (Chunk.box [(At.ptr 5 0), (At.slc 6), (At.slc 7), (At.val (Value.int IntKind.u64 (x1.S.reads)))]), (Chunk.row false (EC.ent) (listE raw 70)), (Chunk.row false (EC.ent) (x1.m)), (Chunk.box [(At.slc 8), (At.slc 9), (At.slc 10), (At.val (Value.int IntKind.u32 (x1.S.fresh)))]), (Chunk.row true (EC.node) (x1.S.nodes)), (Chunk.row true (EC.int) (x1.S.counts)), (Chunk.row true (EC.bool) (x1.S.used)), (Chunk.row true (EC.u32) (x1.S.gen)), (Chunk.row true (EC.u32) (x1.S.rel))] []))))))))))))))))))))))))))))))) = _ by kernel_rfl) ?_
  subst hP0 hP1 hP2 hN
  have e90 : Int.toNat 70 = 70 := rfl
  rw [e90]
  generalize listE raw 70 = B at *
  generalize listE oth 70 = C at *
  have hn : (if 6 < (oth.length : Int) then 6 else (oth.length : Int)) = ((min oth.length 6 : Nat) : Int) := by split <;> omega
  rw [hn]
  have hnl : min oth.length 6 ≤ oth.length := Nat.min_le_left _ _
  have hn6 : min oth.length 6 ≤ 6 := Nat.min_le_right _ _
  generalize min oth.length 6 = n at *
  rw [wrap_id (x := (B.length : Int) + (n : Int)) (by omega) (by omega), wrap_id (x := (B.length : Int) + (C.length : Int)) (by omega) (by omega), wrap_id (x := (B.length : Int) + (C.length : Int) + 1) (by omega) (by omega)]
  have hmul : (n : Int) * (I : Int) = ((n * I : Nat) : Int) := by simp
  have hm : n * I ≤ 6 * 60 := Nat.mul_le_mul (by omega) (by omega)
  have hr1 := Hn_rng ((B.length : Int) + (C.length : Int))
  have hr2 := Hn_rng ((B.length : Int) + ((B.length : Int) + (n : Int)))
  refine ⟨by decide, by decide, by decide, by decide, by omega, by omega, by omega, by omega, fun p ep => ⟨f1, f2, by omega, by omega, fun s s0 s1 => ⟨brS_of (fun hd => ⟨by omega, by omega, by omega, by omega, fun p1 ep1 => ⟨f1, f2, by omega, by omega, fun s2 s3 s4 => ⟨by omega, by omega, fun p2 ep2 => ⟨⟨s2 + (n : Int) * (I : Int), ?_⟩, ?_⟩⟩⟩⟩) fun hd => ⟨⟨s, by omega, by omega, fun e => by rw [e] at hd; cases hd⟩, ?_⟩, fun x0 _ => ?_⟩⟩⟩
  · exact ⟨by omega, by omega, fun _ => by omega⟩
  · have ep2 : p2 = (I : Int) := by rw [ep2, hII, show (((B.length + n + 1 : Nat)) : Int) = (B.length : Int) + n + 1 by omega]
    subst ep2
    have w2 : IntKind.i64.wrap (s2 + IntKind.i64.wrap ((n : Int) * (I : Int))) = s2 + (n : Int) * (I : Int) := by rw [wrap_id (x := (n : Int) * (I : Int)) (by omega) (by omega), wrap_id (by omega) (by omega)]
    (repeat' first | exact trivial | exact rfl | exact congrArg (Value.int .i64) w2 | refine And.intro ?_ ?_)
  · (repeat' first | exact trivial | exact rfl | refine And.intro ?_ ?_)
  obtain ⟨room, r0, r1, r2⟩ := x0
  dsimp only
  rw [wrap_id (x := (B.length : Int) + (C.length : Int) + 1 + room) (by omega) (by omega)]
  refine ⟨fun c => by omega, fun _ _ S0 eS => ?_⟩
  have w0 : Wf S0 [] := by rw [eS]; exact Wf.new (by omega) (by omega)
  have fr0 : S0.free = (B.length : Int) + C.length + 1 + room := by rw [eS, newS_free]; omega
  have rd0 : S0.reads = 0 := by rw [eS]; rfl
  clear eS
  refine ⟨_, w0, by omega, by omega, by simp; omega, h0, fun S1 x p1 => ?_⟩
  have t1 := (plant_tr w0 p1 (by omega)).tree
  have rd1 : S1.reads = 0 := by rw [p1.rds, rd0]
  have fr1 : S1.free = (C.length : Int) + 1 + room := by
    have a := w0.free_nonneg.2.2.2
    have b := p1.wf.free_nonneg.2.2.2
    have c := cap_len p1.len
    have d := p1.nu
    omega
  refine brS_of (fun hd => ?_) fun hd => ?_
  · refine ⟨_, p1.wf, by omega, by omega, by simp; omega, wrap_u64_nonneg _, fun S2 y p2 => ?_⟩
    obtain ⟨tx, rx, lx, bx⟩ := t1
    exact h S2 x y C ⟨p2.wf, ⟨tx, rx.held p1.wf p2.stay (.inr (by simp)), lx, bx⟩, (plant_tr p1.wf p2 (by omega)).tree, la, lb, kB, kC, by omega, by omega, by rw [p2.rds, rd1]; decide⟩
  have hd : der = true := by cases der <;> simp_all
  have r2 := r2 hd
  obtain ⟨tx, rx, lx, bx⟩ := t1
  have w1 := p1.wf
  refine ⟨rx.us, ⟨_, w1⟩, fun S2 e2 => ⟨⟨⟨0, S2, x, x, B, ?_⟩, ?_⟩, fun x1 _ => ?_⟩⟩
  · subst e2
    have g : Got S1 [x] 0 0 (retL S1 x) [x, x] := retL_got w1 rx.us (by simp)
    have f := g.free w1
    have q := g.rd
    exact ⟨Nat.zero_le _, la, kB, by omega, g.wf, ⟨tx, rx.retL, lx, bx⟩, ⟨tx, rx.retL, lx, bx⟩, by omega, by rw [Nat.sub_zero]; omega⟩
  · (repeat' first | exact trivial | exact rfl | refine And.intro ?_ ?_)
  clear e2 S2 w1 bx lx rx tx fr1 rd1 p1 S1 x fr0 rd0 w0 S0
  obtain ⟨i, S, x, y, m, hm1⟩ := x1
  dsimp only
  obtain ⟨hin, am, km, lm, w, ⟨tx, rx, lx, bx⟩, ⟨ty, ry, ly, bY⟩, rd, fr⟩ := id hm1
  have zy : ty.size = m.length := by rw [← ty.list_len, ly]
  refine brS_of (fun c => ⟨?_, fun x2 q => ?_⟩) fun c => ?_
  · have c : i < n := by have := of_decide_eq_true c; omega
    have hI1 : I ≤ (n - i) * I := by rw [mulP c]; omega
    have nb := numsB (t := ty) (by omega) bY
    have h1 := Hn_le (n := ty.size) (m := B.length + n + 1) (by omega)
    have h2 := Hn_le (n := ty.size + 1) (m := B.length + n + 1) (by omega)
    have up : upM S [y, x] ty y := ⟨w, ry, bY, by rw [ly]; exact am, by omega, by simp, by omega⟩
    have hen := hk2 _ (List.mem_of_getElem? (eA_get (p := oth) (n := i) (by omega)))
    generalize eA oth i = en at *
    have il := insE_len m en
    refine brS_of (fun d => brS_of (fun g => ?_) fun g => ?_) fun d => ?_
    · have g : 0 < m.length := by have := of_decide_eq_true g; omega
      refine ⟨by omega, by omega, by omega, by omega, fun z ez => ?_⟩
      obtain ⟨z0, z1⟩ := mod_rng (by omega) ez
      have hz : m.getD z.toNat (0, 0) ∈ m := by
        rw [List.getD_eq_getElem?_getD, List.getElem?_eq_getElem (by omega)]; exact List.getElem_mem _
      have fl := flt_len (p := neK (m.getD z.toNat (0, 0)).fst) (l := m)
      refine ⟨z0, z1, [y, x], ty, (m.getD z.toNat (0, 0)).snd, up, by rw [ly, getE_fnd, am.fnd_self hz]; rfl, by omega, fun S2 j tr => ⟨by omega, ⟨i, S2, x, y, j, outE m (m.getD z.toNat (0, 0)).fst (m.getD z.toNat (0, 0)).fst, ?_⟩, ?_⟩⟩
      · rw [ly] at tr
        rw [outE_flt]
        exact pp_step hm1 c tr (by omega) (by omega) (flt_asc am) (kin_flt km) (by omega)
      · (repeat' first | exact trivial | exact rfl | refine And.intro ?_ ?_)
    all_goals
      refine ⟨by omega, by omega, [y, x], ty, up, by rw [show ((ty.size : Int) + 1) = ((ty.size + 1 : Nat) : Int) by omega]; omega, fun S2 j o eo tr => ⟨by omega, by omega, by omega, ⟨i, S2, x, y, j, insE m en, ?_⟩, ?_⟩⟩
      · rw [ly] at tr
        exact pp_step hm1 c tr (by omega) (by omega) (insE_asc _ am) (kin_ins am km hen) (by omega)
      · (repeat' first | exact trivial | exact rfl | refine And.intro ?_ ?_)
  · have c : i < n := by have := of_decide_eq_true c; omega
    obtain ⟨i2, S, x2, y2, z, m2, hi2, am, km, lm, w, ⟨tx, rx, lx, bx⟩, ⟨tz, rz, lz, bz⟩, rd, fr⟩ := x2
    have q : (i : Int) = i2 := q
    obtain rfl : i = i2 := by omega
    dsimp only
    have w' : Wf S [y2, z, x2] := w.perm (List.Perm.swap _ _ _)
    refine ⟨[z, x2], w', fun S3 _ w3 kp => ⟨⟨i + 1, S3, x2, z, m2, ?_⟩, trivial, ?_, by show n - (i + 1) < n - i; omega⟩⟩
    · have g := rel_got w' w3 kp
      have f := g.free w'
      have q := g.rd
      exact ⟨c, am, km, by omega, w3, ⟨tx, rx.held w' g.stay (.inr (by simp)), lx, bx⟩, ⟨tz, rz.held w' g.stay (.inr (by simp)), lz, bz⟩, by omega, by rw [show n - (i + 1) = n - i - 1 by omega]; omega⟩
    · (repeat' first | exact trivial | exact rfl | refine And.intro ?_ ?_)
      exact congrArg (Value.int .i64) (show IntKind.i64.wrap ((i : Int) + 1) = ((i + 1 : Nat) : Int) by rw [wrap_id (by omega) (by omega)]; omega)
  · exact h S x y m ⟨w, ⟨tx, rx, lx, bx⟩, ⟨ty, ry, ly, bY⟩, la, am, kB, km, ll, by omega, by omega⟩
theorem s_pr16 : SoundT C0 19 tPr16 := by
  refine .of Try.func19 (by decide) rfl fun args H K h hB => ?_
  unfold tPr16 at h
  split at h <;> try exact h.elim
  rename_i t der f raw oth
  refine ⟨_, ?_, vc_pr16 raw oth t f der K h.1 h.2.1 h.2.2.1 h.2.2.2.1 h.2.2.2.2.1 h.2.2.2.2.2⟩
  exact ⟨frame C0.ok s_lst _, frame C0.ok s_nSet _, frame C0.ok s_spare16 _, frame C0.ok s_nIns _, frame C0.ok s_new _, frame C0.ok s_plantA _, frame C0.ok s_retL _, frame C0.ok s_mod _, frame C0.ok s_upDe _, frame C0.ok s_del _, frame C0.ok s_upIn _, frame C0.ok s_ins _, frame C0.ok s_rel _, trivial⟩
end Go.Proofs.Ytbonbaccmlomhaa.Sx
end
section
/- The laws SetopsUnion, SetopsIntersect, SetopsSubtract. -/
namespace Go.Proofs.Ytbonbaccmlomhaa.Sx
open Go

/-KEEP Wf Kept exW inU live Arn.cap Arn.free Rep rdS retL Tr.size Tr.list Tr.Bal Asc Kin PrR listE newS TrR Got Hn slotsOf orderOf ckR List.Perm uniE intE subE excE OpM SoR needS whU whS reU reI reS reE fUni fInt gSub gExc-/
structure XC1 (P : Arn → Int → Int → List Ent → Prop) where
  S : Arn
  x : Int
  y : Int
  m : List Ent
  d : List SlotT
  o : List Int
  h : P S x y m
structure XC2 (P : Arn → Int → Int → List Ent → List SlotT → List Int → Int → Int → Int → Int → Bool → Int → Prop) where
  S : Arn
  x : Int
  y : Int
  m : List Ent
  d : List SlotT
  o : List Int
  r : Int
  p : Int
  i : Int
  e : Int
  same : Bool
  res : Int
  h : P S x y m d o r p i e same res
noncomputable def aVu (P1 : Arn → Int → Int → List Ent → Prop) (Q1 Q2 P2 : Arn → Int → Int → List Ent → List SlotT → List Int → Int → Int → Int → Int → Bool → Int → Prop) (raw oth A : List Ent) : Ann C0 := { quiet := [21, 24], Γ := [(22, frameT [] (tSoP fUni whU reU)), (29, frameT [] tUni), (19, tPr16), (20, frameT [] tAw16), (21, frameT [] tDump), (27, frameT [] tReads), (23, frameT [] tPol9), (24, frameT [] tSameD), (25, frameT [] tRel), (26, frameT [] tMod), (30, frameT [] tResS), (28, frameT [] tCk16)], inv := fun k => match k with
  | 1010 => some { X := XC1 P1, sl := [13, 14, 15, 16, 17, 19], tf := fun x => [.one (.at (.ptr 2 0)), vi .u32 x.x, vi .u32 x.y, .one (.at (.slc 9)), .one (.at (.slc 10)), .one (.at (.ptr 11 0))], hf := fun x => [.row false EC.ent raw, .row false EC.ent oth] ++ chSk 2 x.S ++ [.row false EC.ent A, .row false EC.ent x.m, .box [.slc 12, .slc 13], .row true EC.slot x.d, .row true EC.u32 x.o] }
  | 1013 => some { X := XC2 Q1, sl := [13, 14, 15, 16, 17, 19, 22, 23, 24, 25], tf := fun x => [.one (.at (.ptr 2 0)), vi .u32 x.x, vi .u32 x.y, .one (.at (.slc 9)), .one (.at (.slc 10)), .one (.at (.ptr 11 0)), vi .i64 x.p, vi .u64 x.r, vi .u32 x.i, vi .i64 x.e], hf := fun x => [.row false EC.ent raw, .row false EC.ent oth] ++ chSk 2 x.S ++ [.row false EC.ent A, .row false EC.ent x.m, .box [.slc 12, .slc 13], .row true EC.slot x.d, .row true EC.u32 x.o] }
  | 1014 => some { X := XC2 Q2, sl := [13, 14, 15, 16, 17, 19, 22, 23, 24, 25, 26, 27], tf := fun x => [.one (.at (.ptr 2 0)), vi .u32 x.x, vi .u32 x.y, .one (.at (.slc 9)), .one (.at (.slc 10)), .one (.at (.ptr 11 0)), vi .i64 x.p, vi .u64 x.r, vi .u32 x.i, vi .i64 x.e, vb x.same, vi .u32 x.x], hf := fun x => [.row false EC.ent raw, .row false EC.ent oth] ++ chSk 2 x.S ++ [.row false EC.ent A, .row false EC.ent x.m, .box [.slc 12, .slc 13], .row true EC.slot x.d, .row true EC.u32 x.o] }
  | 1016 => some { X := XC2 P2, sl := [13, 14, 15, 16, 17, 19, 22, 23, 24, 25, 26, 27], tf := fun x => [.one (.at (.ptr 2 0)), vi .u32 x.x, vi .u32 x.y, .one (.at (.slc 9)), .one (.at (.slc 10)), .one (.at (.ptr 11 0)), vi .i64 x.p, vi .u64 x.r, vi .u32 x.i, vi .i64 x.e, vb x.same, vi .u32 x.res], hf := fun x => [.row false EC.ent raw, .row false EC.ent oth] ++ chSk 2 x.S ++ [.row false EC.ent A, .row false EC.ent x.m, .box [.slc 12, .slc 13], .row true EC.slot x.d, .row true EC.u32 x.o] }
  | _ => none }
def tVu : Tfm C0 := fun args H K => match args, H with
  | [.at (.slc 0), .at (.slc 1), .at (.val (.int .u64 t)), .at (.val (.bool _)), .at (.val (.int .i64 p)), .at (.val (.int .u16 f))], [.row false .ent raw, .row false .ent oth] => 0 ≤ t ∧ -9223372036854775808 ≤ p ∧ p ≤ 9223372036854775807 ∧ 0 ≤ f ∧ f ≤ 65535 ∧ Kin raw ∧ Kin oth ∧ K (.one (.at (vB true))) [.row false EC.ent raw, .row false EC.ent oth] []
  | _, _ => False
noncomputable def aVi (Q1 Q2 P2 : Arn → Int → Int → List Ent → List SlotT → List Int → Int → Int → Int → Int → Bool → Int → Prop) (raw oth A : List Ent) : Ann C0 := { quiet := [21, 24], Γ := [(32, frameT [] (tSoP fInt whU reI)), (33, frameT [] tInt9), (19, tPr16), (20, frameT [] tAw16), (21, frameT [] tDump), (27, frameT [] tReads), (23, frameT [] tPol9), (24, frameT [] tSameD), (26, frameT [] tMod), (30, frameT [] tResS), (28, frameT [] tCk16)], inv := fun k => match k with
  | 1009 => some { X := XC2 Q1, sl := [13, 14, 15, 16, 17, 20, 19, 21, 22, 23], tf := fun x => [.one (.at (.ptr 2 0)), vi .u32 x.x, vi .u32 x.y, .one (.at (.slc 9)), .one (.at (.slc 10)), .one (.at (.ptr 11 0)), vi .i64 x.p, vi .u64 x.r, vi .u32 x.i, vi .i64 x.e], hf := fun x => [.row false EC.ent raw, .row false EC.ent oth] ++ chSk 2 x.S ++ [.row false EC.ent A, .row false EC.ent x.m, .box [.slc 12, .slc 13], .row true EC.slot x.d, .row true EC.u32 x.o] }
  | 1010 => some { X := XC2 Q2, sl := [13, 14, 15, 16, 17, 20, 19, 21, 22, 23, 24, 25], tf := fun x => [.one (.at (.ptr 2 0)), vi .u32 x.x, vi .u32 x.y, .one (.at (.slc 9)), .one (.at (.slc 10)), .one (.at (.ptr 11 0)), vi .i64 x.p, vi .u64 x.r, vi .u32 x.i, vi .i64 x.e, vb x.same, vi .u32 x.x], hf := fun x => [.row false EC.ent raw, .row false EC.ent oth] ++ chSk 2 x.S ++ [.row false EC.ent A, .row false EC.ent x.m, .box [.slc 12, .slc 13], .row true EC.slot x.d, .row true EC.u32 x.o] }
  | 1012 => some { X := XC2 P2, sl := [13, 14, 15, 16, 17, 20, 19, 21, 22, 23, 24, 25], tf := fun x => [.one (.at (.ptr 2 0)), vi .u32 x.x, vi .u32 x.y, .one (.at (.slc 9)), .one (.at (.slc 10)), .one (.at (.ptr 11 0)), vi .i64 x.p, vi .u64 x.r, vi .u32 x.i, vi .i64 x.e, vb x.same, vi .u32 x.res], hf := fun x => [.row false EC.ent raw, .row false EC.ent oth] ++ chSk 2 x.S ++ [.row false EC.ent A, .row false EC.ent x.m, .box [.slc 12, .slc 13], .row true EC.slot x.d, .row true EC.u32 x.o] }
  | _ => none }
noncomputable def aVs (P1 P2 : Arn → Int → Int → List Ent → List SlotT → List Int → Int → Int → Int → Int → Bool → Int → Prop) (raw oth A : List Ent) : Ann C0 := { quiet := [21, 24], Γ := [(37, frameT [] (tSoN gSub whS reS)), (41, frameT [] (tSoN gExc whS reE)), (43, frameT [] tSub9), (42, frameT [] tExc9), (19, tPr16), (20, frameT [] tAw16), (21, frameT [] tDump), (27, frameT [] tReads), (30, frameT [] tResS), (28, frameT [] tCk16)], inv := fun k => match k with
  | 1011 => some { X := XC2 P1, sl := [13, 14, 15, 16, 17, 19, 21, 20, 22, 23, 24], tf := fun x => [.one (.at (.ptr 2 0)), vi .u32 x.x, vi .u32 x.y, .one (.at (.slc 9)), .one (.at (.slc 10)), .one (.at (.ptr 11 0)), vi .i64 x.p, vi .u64 x.r, vi .u32 x.i, vi .i64 x.e, vi .u32 x.res], hf := fun x => [.row false EC.ent raw, .row false EC.ent oth] ++ chSk 2 x.S ++ [.row false EC.ent A, .row false EC.ent x.m, .box [.slc 12, .slc 13], .row true EC.slot x.d, .row true EC.u32 x.o] }
  | 1016 => some { X := XC2 P2, sl := [13, 14, 15, 16, 17, 19, 21, 20, 25, 26, 27], tf := fun x => [.one (.at (.ptr 2 0)), vi .u32 x.x, vi .u32 x.y, .one (.at (.slc 9)), .one (.at (.slc 10)), .one (.at (.ptr 11 0)), vi .i64 x.p, vi .u64 x.r, vi .u32 x.i, vi .i64 x.e, vi .u32 x.res], hf := fun x => [.row false EC.ent raw, .row false EC.ent oth] ++ chSk 2 x.S ++ [.row false EC.ent A, .row false EC.ent x.m, .box [.slc 12, .slc 13], .row true EC.slot x.d, .row true EC.u32 x.o] }
  | _ => none }
def tVs : Tfm C0 := fun args H K => match args, H with
  | [.at (.slc 0), .at (.slc 1), .at (.val (.int .u64 t)), .at (.val (.bool _)), .at (.val (.bool _)), .at (.val (.int .u16 f))], [.row false .ent raw, .row false .ent oth] => 0 ≤ t ∧ 0 ≤ f ∧ f ≤ 65535 ∧ Kin raw ∧ Kin oth ∧ K (.one (.at (vB true))) [.row false EC.ent raw, .row false EC.ent oth] []
  | _, _ => False
structure PrQ (B m : List Ent) (S : Arn) (x y : Int) : Prop where
  wf : Wf S [y, x]
  rx : ∃ t, Rep S t x ∧ t.list = B ∧ t.Bal
  ry : ∃ t, Rep S t y ∧ t.list = m ∧ t.Bal
  ab : Asc B
  am : Asc m
  lb : B.length ≤ 70
  lm : m.length ≤ 76
  rds : S.reads ≤ 5000000000
theorem PrR.q {B m : List Ent} {S : Arn} {x y : Int} (h : PrR B m S x y) : PrQ B m S x y := ⟨h.wf, h.rx, h.ry, h.ab, h.am, h.lb, h.lm, by have := h.rds; omega⟩
theorem PrQ.got {B m : List Ent} {S S' : Arn} {x y : Int} {a r : Nat} (h : PrQ B m S x y) (g : Got S [y, x] a r S' [y, x]) (hr : S.reads ≤ 6000) (h2 : r ≤ 3000000000) : PrQ B m S' x y := by
  obtain ⟨tx, rx, lx, bx⟩ := h.rx
  obtain ⟨ty, ry, ly, bY⟩ := h.ry
  have q := g.rd
  exact ⟨g.wf, ⟨tx, rx.held h.wf g.stay (.inr (by simp)), lx, bx⟩, ⟨ty, ry.held h.wf g.stay (.inr (by simp)), ly, bY⟩, h.ab, h.am, h.lb, h.lm, by omega⟩
def nS (B m : List Ent) : Int := (B.length : Int) + m.length + 12 * (Hn ((B.length : Int) + m.length) + 2)
theorem PrQ.op {B m : List Ent} {S : Arn} {x y : Int} (h : PrQ B m S x y) : ∃ tx ty, OpM S [y, x] tx ty x y ∧ tx.list = B ∧ ty.list = m ∧ needS tx ty = nS B m := by
  obtain ⟨tx, rx, lx, bx⟩ := h.rx
  obtain ⟨ty, ry, ly, bY⟩ := h.ry
  have sx : tx.size = B.length := by rw [← tx.list_len, lx]
  have sy : ty.size = m.length := by rw [← ty.list_len, ly]
  have := h.lb
  have := h.lm
  have := h.rds
  exact ⟨tx, ty, ⟨h.wf, rx, ry, bx, bY, by rw [lx]; exact h.ab, by rw [ly]; exact h.am, by omega, by omega, by simp, by omega⟩, lx, ly, by unfold needS nS; rw [sx, sy]⟩
/-- An operation was called. -/
def SoP (f : Int → Option Int → Option Int → Option Int) (whole : Int → Int → Int → Prop) (res : Int → Int → Int) (B m : List Ent) (S : Arn) (x y : Int) (d : List SlotT) (o : List Int) (r p i e : Int) : Prop :=
  ∃ S0 tx ty, PrQ B m S0 x y ∧ d = slotsOf S0 ∧ o = orderOf S0 ∧ r = S0.reads ∧ OpM S0 [y, x] tx ty x y ∧ tx.list = B ∧ ty.list = m ∧ needS tx ty = nS B m ∧ SoR f whole res S0 [y, x] tx ty x y p S i e
/-- What is checked then. -/
def CkP (B m W : List Ent) (S : Arn) (x y : Int) (d : List SlotT) (o : List Int) (r i e : Int) (same : Bool) (rs : Int) : Prop :=
  ∃ S0, Wf S0 [y, x] ∧ S0.reads ≤ 900000000000000000 ∧ d = slotsOf S0 ∧ o = orderOf S0 ∧ r = S0.reads ∧ W.length ≤ 60000 ∧ ckR S0 S x y i e W same rs (nS B m)
theorem so_ck {f : Int → Option Int → Option Int → Option Int} {whole : Int → Int → Int → Prop} {res : Int → Int → Int} {B m W : List Ent} {S : Arn} {x y : Int} {d : List SlotT} {o : List Int} {r p i e rs : Int} {same : Bool}
    (h : SoP f whole res B m S x y d o r p i e) (hw : ∀ {S hs tx ty x y p}, OpM S hs tx ty x y → whole x y p → ∃ t, Rep S t (res x y) ∧ t.Bal ∧ SetR (f p) tx.list ty.list t.list)
    (hW : Asc B → Asc m → SetR (f p) B m W) (hs : same = true ↔ whole x y p) (hr : whole x y p → rs = res x y) : CkP B m W S x y d o r i e same rs := by
  obtain ⟨S0, tx, ty, pq, ed, eo, er, op, lx, ly, nd, so⟩ := h
  have hW := hW pq.ab pq.am
  have l1 := hW.len
  have l2 := pq.lb
  have l3 := pq.lm
  have rd := pq.rds
  refine ⟨S0, pq.wf, by omega, ed, eo, er, by omega, ?_⟩
  rcases so with ⟨a, b, c, g⟩ | ⟨a, b, c, c2, k, hk, g⟩ | ⟨a, b, c, L, hL, tr⟩
  · obtain ⟨t, rp, _⟩ := hw op a
    refine .inl ⟨hs.2 a, b, by rw [hr a]; exact c, by rw [g, retL_free], by rw [g, (retL_flds _ _).1], ?_⟩
    rw [g, c]
    exact retL_wf pq.wf rp.us (by simp)
  · have e0 : same = false := by cases same with | false => rfl | true => exact absurd (hs.1 rfl) a
    refine .inr (.inl ⟨e0, by rw [← nd]; exact b, c, c2, by rw [g]; exact pq.wf.rd (by omega), by rw [g]; rfl, by rw [g]; rfl⟩)
  · have e0 : same = false := by cases same with | false => rfl | true => exact absurd (hs.1 rfl) a
    rw [lx, ly] at hL
    rw [hL.ext hW] at tr
    exact .inr (.inr ⟨e0, by rw [← nd]; exact b, c, tr, hW.asc⟩)
def QI1 (B : List Ent) : Arn → Int → Int → List Ent → List SlotT → List Int → Int → Int → Int → Int → Bool → Int → Prop := fun S x y m d o r p i e _ _ => SoP fInt whU reI B m S x y d o r p i e
def QI2 (B : List Ent) : Arn → Int → Int → List Ent → List SlotT → List Int → Int → Int → Int → Int → Bool → Int → Prop := fun S x y m d o r p i e same _ => SoP fInt whU reI B m S x y d o r p i e ∧ (same = true ↔ whU x y p)
def PI2 (B : List Ent) : Arn → Int → Int → List Ent → List SlotT → List Int → Int → Int → Int → Int → Bool → Int → Prop := fun S x y m d o r p i e same res => m.length ≤ 76 ∧ CkP B m (intE B m p) S x y d o r i e same res
theorem len76 {f : Int → Option Int → Option Int → Option Int} {whole : Int → Int → Int → Prop} {res : Int → Int → Int} {B m : List Ent} {S : Arn} {x y : Int} {d : List SlotT} {o : List Int} {r p i e : Int} (h : SoP f whole res B m S x y d o r p i e) : m.length ≤ 76 := by
  obtain ⟨_, _, _, pq, _⟩ := h
  exact pq.lm
theorem vc_vi (raw oth : List Ent) (t p f : Int) (der : Bool) (K : KT) (h0 : 0 ≤ t) (f1 : 0 ≤ f) (f2 : f ≤ 65535) (k1 : Kin raw) (k2 : Kin oth) (h : K (.one (.at (vB true))) [.row false EC.ent raw, .row false EC.ent oth] []) :
    vc C0 (aVi (QI1 (listE raw 70)) (QI2 (listE raw 70)) (PI2 (listE raw 70)) raw oth (listE raw 70)) Try.f7 [.at (.slc 0), .at (.slc 1), .at (vU64 t), .at (vB der), .at (vI p), .at (.val (.int .u16 f))] [.row false EC.ent raw, .row false EC.ent oth] (normK 2 K) := by
  generalize hQ1 : QI1 (listE raw 70) = Q1
  generalize hQ2 : QI2 (listE raw 70) = Q2
  generalize hP2 : PI2 (listE raw 70) = P2
  refine Eq.mp (show ((0 ≤ t) ∧
(0 ≤ f) ∧
(f ≤ 65535) ∧
(Kin raw) ∧
(Kin oth) ∧
(∀ S : Arn, (∀ x : Int, (∀ y : Int, (∀ m : List Ent, ((PrR (listE raw 70) m S x y) → (((0 : Int) < 7) ∧ ((7 : Int) ≤ 9223372036854775807) ∧ (∀ x1 : Int, (((x1) = (p % 7)) → ((exW S) ∧ (∀ d : List SlotT, (∀ o : List Int, (((d) = (slotsOf S)) → (((o) = (orderOf S)) → (∃ hs : List Int, (∃ tx : Tr, (∃ ty : Tr, ((OpM S hs tx ty x y) ∧ ((¬(1 ≤ x1 ∧ x1 ≤ 5)) → ((∀ b : Bool, (((b) = (decide (1 ≤ x1 ∧ x1 ≤ 5))) → (brS (!b) (((exW S) ∧ (∀ d1 : List SlotT, (∀ o1 : List Int, (((d1) = (slotsOf S)) → (((o1) = (orderOf S)) → (((d1) = (d)) ∧ ((o1) = (o)) ∧ (d1.length ≤ 1000000) ∧ (o1.length ≤ 1000000) ∧ (K (SV.one (TV.at (At.val (Value.bool true)))) [(Chunk.row false (EC.ent) (raw)), (Chunk.row false (EC.ent) (oth))] [])))))))) ((∃ x2 : XC2 Q1, (True ∧ (True ∧ ((Value.int IntKind.u32 (x)) = (Value.int IntKind.u32 (x2.x))) ∧ ((Value.int IntKind.u32 (y)) = (Value.int IntKind.u32 (x2.y))) ∧ True ∧ True ∧ ((Value.int IntKind.i64 (x1)) = (Value.int IntKind.i64 (x2.p))) ∧ True ∧ ((Value.int IntKind.u64 (S.reads)) = (Value.int IntKind.u64 (x2.r))) ∧ ((Value.int IntKind.u32 0) = (Value.int IntKind.u32 (x2.i))) ∧ ((Value.int IntKind.i64 1) = (Value.int IntKind.i64 (x2.e))) ∧ True) ∧ ((raw) = (raw)) ∧ ((oth) = (oth)) ∧ (True ∧ True ∧ True ∧ ((Value.int IntKind.u64 (S.reads)) = (Value.int IntKind.u64 (x2.S.reads))) ∧ True) ∧ (True ∧ True ∧ True ∧ ((Value.int IntKind.u32 (S.fresh)) = (Value.int IntKind.u32 (x2.S.fresh))) ∧ True) ∧
    ((S.nodes) = (x2.S.nodes)) ∧ ((S.counts) = (x2.S.counts)) ∧ ((S.used) = (x2.S.used)) ∧ ((S.gen) = (x2.S.gen)) ∧ ((S.rel) = (x2.S.rel)) ∧ ((listE raw 70) = (listE raw 70)) ∧ ((m) = (x2.m)) ∧ (True ∧ True ∧ True) ∧ ((d) = (x2.d)) ∧ ((o) = (x2.o)) ∧ True)))))) ∧ (∀ x2 : XC2 Q1, (True → ((brS (x2.x == 0) ((∃ x3 : XC2 Q2, (True ∧ (True ∧ ((Value.int IntKind.u32 (x2.x)) = (Value.int IntKind.u32 (x3.x))) ∧ ((Value.int IntKind.u32 (x2.y)) = (Value.int IntKind.u32 (x3.y))) ∧ True ∧ True ∧ ((Value.int IntKind.i64 (x2.p)) = (Value.int IntKind.i64 (x3.p))) ∧ True ∧ ((Value.int IntKind.u64 (x2.r)) = (Value.int IntKind.u64 (x3.r))) ∧ ((Value.int IntKind.u32 (x2.i)) = (Value.int IntKind.u32 (x3.i))) ∧ ((Value.int IntKind.i64 (x2.e)) = (Value.int IntKind.i64 (x3.e))) ∧ ((Value.bool true) = (Value.bool (x3.same))) ∧ ((Value.int IntKind.u32 (x2.x)) = (Value.int IntKind.u32 (x3.x))) ∧ True) ∧ ((raw) = (raw)) ∧ ((oth) = (oth)) ∧ (True ∧ True ∧ True ∧ ((Value.int IntKind.u64 (x2.S.reads)) = (Value.int IntKind.u64 (x3.S.reads))) ∧ True) ∧ (True ∧ True ∧ True ∧ ((Value.int IntKind.u32 (x2.S.fresh)) = (Value.int IntKind.u32 (x3.S.fresh))) ∧ True) ∧ ((x2.S.nodes) = (x3.S.nodes)) ∧ ((x2.S.counts) = (x3.S.counts)) ∧ ((x2.S.used) = (x3.S.used)) ∧ ((x2.S.gen) = (x3.S.gen)) ∧ ((x2.S.rel) = (x3.S.rel)) ∧ ((listE raw 70) = (listE raw 70)) ∧ ((x2.m) = (x3.m)) ∧ (True ∧ True ∧ True) ∧ ((x2.d) = (x3.d)) ∧ ((x2.o) = (x3.o)) ∧ True))) ((brS (x2.y == 0) ((∃ x3 : XC2 Q2, (True ∧ (True ∧
    ((Value.int IntKind.u32 (x2.x)) = (Value.int IntKind.u32 (x3.x))) ∧ ((Value.int IntKind.u32 (x2.y)) = (Value.int IntKind.u32 (x3.y))) ∧ True ∧ True ∧ ((Value.int IntKind.i64 (x2.p)) = (Value.int IntKind.i64 (x3.p))) ∧ True ∧ ((Value.int IntKind.u64 (x2.r)) = (Value.int IntKind.u64 (x3.r))) ∧ ((Value.int IntKind.u32 (x2.i)) = (Value.int IntKind.u32 (x3.i))) ∧ ((Value.int IntKind.i64 (x2.e)) = (Value.int IntKind.i64 (x3.e))) ∧ ((Value.bool true) = (Value.bool (x3.same))) ∧ ((Value.int IntKind.u32 (x2.x)) = (Value.int IntKind.u32 (x3.x))) ∧ True) ∧ ((raw) = (raw)) ∧ ((oth) = (oth)) ∧ (True ∧ True ∧ True ∧ ((Value.int IntKind.u64 (x2.S.reads)) = (Value.int IntKind.u64 (x3.S.reads))) ∧ True) ∧ (True ∧ True ∧ True ∧ ((Value.int IntKind.u32 (x2.S.fresh)) = (Value.int IntKind.u32 (x3.S.fresh))) ∧ True) ∧ ((x2.S.nodes) = (x3.S.nodes)) ∧ ((x2.S.counts) = (x3.S.counts)) ∧ ((x2.S.used) = (x3.S.used)) ∧ ((x2.S.gen) = (x3.S.gen)) ∧ ((x2.S.rel) = (x3.S.rel)) ∧ ((listE raw 70) = (listE raw 70)) ∧ ((x2.m) = (x3.m)) ∧ (True ∧ True ∧ True) ∧ ((x2.d) = (x3.d)) ∧ ((x2.o) = (x3.o)) ∧ True))) ((brS (x2.x == x2.y) ((∃ x3 : XC2 Q2, (True ∧ (True ∧ ((Value.int IntKind.u32 (x2.x)) = (Value.int IntKind.u32 (x3.x))) ∧ ((Value.int IntKind.u32 (x2.y)) = (Value.int IntKind.u32 (x3.y))) ∧ True ∧ True ∧ ((Value.int IntKind.i64 (x2.p)) = (Value.int IntKind.i64 (x3.p))) ∧ True ∧ ((Value.int IntKind.u64 (x2.r)) = (Value.int IntKind.u64 (x3.r))) ∧ ((Value.int IntKind.u32 (x2.i)) = (Value.int IntKind.u32 (x3.i))) ∧
    ((Value.int IntKind.i64 (x2.e)) = (Value.int IntKind.i64 (x3.e))) ∧ ((Value.bool (x2.p != 3)) = (Value.bool (x3.same))) ∧ ((Value.int IntKind.u32 (x2.x)) = (Value.int IntKind.u32 (x3.x))) ∧ True) ∧ ((raw) = (raw)) ∧ ((oth) = (oth)) ∧ (True ∧ True ∧ True ∧ ((Value.int IntKind.u64 (x2.S.reads)) = (Value.int IntKind.u64 (x3.S.reads))) ∧ True) ∧ (True ∧ True ∧ True ∧ ((Value.int IntKind.u32 (x2.S.fresh)) = (Value.int IntKind.u32 (x3.S.fresh))) ∧ True) ∧ ((x2.S.nodes) = (x3.S.nodes)) ∧ ((x2.S.counts) = (x3.S.counts)) ∧ ((x2.S.used) = (x3.S.used)) ∧ ((x2.S.gen) = (x3.S.gen)) ∧ ((x2.S.rel) = (x3.S.rel)) ∧ ((listE raw 70) = (listE raw 70)) ∧ ((x2.m) = (x3.m)) ∧ (True ∧ True ∧ True) ∧ ((x2.d) = (x3.d)) ∧ ((x2.o) = (x3.o)) ∧ True))) ((∃ x3 : XC2 Q2, (True ∧ (True ∧ ((Value.int IntKind.u32 (x2.x)) = (Value.int IntKind.u32 (x3.x))) ∧ ((Value.int IntKind.u32 (x2.y)) = (Value.int IntKind.u32 (x3.y))) ∧ True ∧ True ∧ ((Value.int IntKind.i64 (x2.p)) = (Value.int IntKind.i64 (x3.p))) ∧ True ∧ ((Value.int IntKind.u64 (x2.r)) = (Value.int IntKind.u64 (x3.r))) ∧ ((Value.int IntKind.u32 (x2.i)) = (Value.int IntKind.u32 (x3.i))) ∧ ((Value.int IntKind.i64 (x2.e)) = (Value.int IntKind.i64 (x3.e))) ∧ ((Value.bool false) = (Value.bool (x3.same))) ∧ ((Value.int IntKind.u32 (x2.x)) = (Value.int IntKind.u32 (x3.x))) ∧ True) ∧ ((raw) = (raw)) ∧ ((oth) = (oth)) ∧ (True ∧ True ∧ True ∧ ((Value.int IntKind.u64 (x2.S.reads)) = (Value.int IntKind.u64 (x3.S.reads))) ∧ True) ∧ (True ∧ True ∧ True ∧
    ((Value.int IntKind.u32 (x2.S.fresh)) = (Value.int IntKind.u32 (x3.S.fresh))) ∧ True) ∧ ((x2.S.nodes) = (x3.S.nodes)) ∧ ((x2.S.counts) = (x3.S.counts)) ∧ ((x2.S.used) = (x3.S.used)) ∧ ((x2.S.gen) = (x3.S.gen)) ∧ ((x2.S.rel) = (x3.S.rel)) ∧ ((listE raw 70) = (listE raw 70)) ∧ ((x2.m) = (x3.m)) ∧ (True ∧ True ∧ True) ∧ ((x2.d) = (x3.d)) ∧ ((x2.o) = (x3.o)) ∧ True)))))))) ∧ (∀ x3 : XC2 Q2, (True → ((brS (x3.x == 0) ((∃ x4 : XC2 P2, (True ∧ (True ∧ ((Value.int IntKind.u32 (x3.x)) = (Value.int IntKind.u32 (x4.x))) ∧ ((Value.int IntKind.u32 (x3.y)) = (Value.int IntKind.u32 (x4.y))) ∧ True ∧ True ∧ ((Value.int IntKind.i64 (x3.p)) = (Value.int IntKind.i64 (x4.p))) ∧ True ∧ ((Value.int IntKind.u64 (x3.r)) = (Value.int IntKind.u64 (x4.r))) ∧ ((Value.int IntKind.u32 (x3.i)) = (Value.int IntKind.u32 (x4.i))) ∧ ((Value.int IntKind.i64 (x3.e)) = (Value.int IntKind.i64 (x4.e))) ∧ ((Value.bool (x3.same)) = (Value.bool (x4.same))) ∧ ((Value.int IntKind.u32 0) = (Value.int IntKind.u32 (x4.res))) ∧ True) ∧ ((raw) = (raw)) ∧ ((oth) = (oth)) ∧ (True ∧ True ∧ True ∧ ((Value.int IntKind.u64 (x3.S.reads)) = (Value.int IntKind.u64 (x4.S.reads))) ∧ True) ∧ (True ∧ True ∧ True ∧ ((Value.int IntKind.u32 (x3.S.fresh)) = (Value.int IntKind.u32 (x4.S.fresh))) ∧ True) ∧ ((x3.S.nodes) = (x4.S.nodes)) ∧ ((x3.S.counts) = (x4.S.counts)) ∧ ((x3.S.used) = (x4.S.used)) ∧ ((x3.S.gen) = (x4.S.gen)) ∧ ((x3.S.rel) = (x4.S.rel)) ∧ ((listE raw 70) = (listE raw 70)) ∧ ((x3.m) = (x4.m)) ∧ (True ∧ True ∧ True) ∧
    ((x3.d) = (x4.d)) ∧ ((x3.o) = (x4.o)) ∧ True))) ((brS (x3.y == 0) ((∃ x4 : XC2 P2, (True ∧ (True ∧ ((Value.int IntKind.u32 (x3.x)) = (Value.int IntKind.u32 (x4.x))) ∧ ((Value.int IntKind.u32 (x3.y)) = (Value.int IntKind.u32 (x4.y))) ∧ True ∧ True ∧ ((Value.int IntKind.i64 (x3.p)) = (Value.int IntKind.i64 (x4.p))) ∧ True ∧ ((Value.int IntKind.u64 (x3.r)) = (Value.int IntKind.u64 (x4.r))) ∧ ((Value.int IntKind.u32 (x3.i)) = (Value.int IntKind.u32 (x4.i))) ∧ ((Value.int IntKind.i64 (x3.e)) = (Value.int IntKind.i64 (x4.e))) ∧ ((Value.bool (x3.same)) = (Value.bool (x4.same))) ∧ ((Value.int IntKind.u32 0) = (Value.int IntKind.u32 (x4.res))) ∧ True) ∧ ((raw) = (raw)) ∧ ((oth) = (oth)) ∧ (True ∧ True ∧ True ∧ ((Value.int IntKind.u64 (x3.S.reads)) = (Value.int IntKind.u64 (x4.S.reads))) ∧ True) ∧ (True ∧ True ∧ True ∧ ((Value.int IntKind.u32 (x3.S.fresh)) = (Value.int IntKind.u32 (x4.S.fresh))) ∧ True) ∧ ((x3.S.nodes) = (x4.S.nodes)) ∧ ((x3.S.counts) = (x4.S.counts)) ∧ ((x3.S.used) = (x4.S.used)) ∧ ((x3.S.gen) = (x4.S.gen)) ∧ ((x3.S.rel) = (x4.S.rel)) ∧ ((listE raw 70) = (listE raw 70)) ∧ ((x3.m) = (x4.m)) ∧ (True ∧ True ∧ True) ∧ ((x3.d) = (x4.d)) ∧ ((x3.o) = (x4.o)) ∧ True))) ((∃ x4 : XC2 P2, (True ∧ (True ∧ ((Value.int IntKind.u32 (x3.x)) = (Value.int IntKind.u32 (x4.x))) ∧ ((Value.int IntKind.u32 (x3.y)) = (Value.int IntKind.u32 (x4.y))) ∧ True ∧ True ∧ ((Value.int IntKind.i64 (x3.p)) = (Value.int IntKind.i64 (x4.p))) ∧ True ∧
    ((Value.int IntKind.u64 (x3.r)) = (Value.int IntKind.u64 (x4.r))) ∧ ((Value.int IntKind.u32 (x3.i)) = (Value.int IntKind.u32 (x4.i))) ∧ ((Value.int IntKind.i64 (x3.e)) = (Value.int IntKind.i64 (x4.e))) ∧ ((Value.bool (x3.same)) = (Value.bool (x4.same))) ∧ ((Value.int IntKind.u32 (x3.x)) = (Value.int IntKind.u32 (x4.res))) ∧ True) ∧ ((raw) = (raw)) ∧ ((oth) = (oth)) ∧ (True ∧ True ∧ True ∧ ((Value.int IntKind.u64 (x3.S.reads)) = (Value.int IntKind.u64 (x4.S.reads))) ∧ True) ∧ (True ∧ True ∧ True ∧ ((Value.int IntKind.u32 (x3.S.fresh)) = (Value.int IntKind.u32 (x4.S.fresh))) ∧ True) ∧ ((x3.S.nodes) = (x4.S.nodes)) ∧ ((x3.S.counts) = (x4.S.counts)) ∧ ((x3.S.used) = (x4.S.used)) ∧ ((x3.S.gen) = (x4.S.gen)) ∧ ((x3.S.rel) = (x4.S.rel)) ∧ ((listE raw 70) = (listE raw 70)) ∧ ((x3.m) = (x4.m)) ∧ (True ∧ True ∧ True) ∧ ((x3.d) = (x4.d)) ∧ ((x3.o) = (x4.o)) ∧ True)))))) ∧ (∀ x4 : XC2 P2, (True → ((((listE raw 70).length + x4.m.length ≤ 1000000) ∧ (0 ≤ (↑(listE raw 70).length : Int)) ∧ ((↑(listE raw 70).length : Int) ≤ 65536) ∧ (0 ≤ (↑x4.m.length : Int)) ∧ ((↑x4.m.length : Int) ≤ 65536) ∧ (∀ p1 : Int, (((p1) = ((↑(listE raw 70).length : Int) + (↑x4.m.length : Int) + 12 * (Hn ((↑(listE raw 70).length : Int) + (↑x4.m.length : Int)) + 2))) → (∃ S0 : Arn, ((Wf S0 [x4.y, x4.x]) ∧ (S0.reads ≤ 900000000000000000) ∧ ((x4.d) = (slotsOf S0)) ∧ ((x4.o) = (orderOf S0)) ∧ ((x4.r) = (S0.reads)) ∧ ((intE (listE raw 70) x4.m x4.p).length ≤ 60000) ∧
    (ckR S0 x4.S x4.x x4.y x4.i x4.e (intE (listE raw 70) x4.m x4.p) x4.same x4.res p1) ∧ (K (SV.one (TV.at (At.val (Value.bool true)))) [(Chunk.row false (EC.ent) (raw)), (Chunk.row false (EC.ent) (oth))] [])))))) ∧ ((listE raw 70).length + x4.m.length ≤ 1000000) ∧ ((0 ≤ (↑(listE raw 70).length : Int)) ∧ ((↑(listE raw 70).length : Int) ≤ 65536) ∧ (0 ≤ (↑x4.m.length : Int)) ∧ ((↑x4.m.length : Int) ≤ 65536) ∧ (∀ p1 : Int, (((p1) = ((↑(listE raw 70).length : Int) + (↑x4.m.length : Int) + 12 * (Hn ((↑(listE raw 70).length : Int) + (↑x4.m.length : Int)) + 2))) → (∃ S0 : Arn, ((Wf S0 [x4.y, x4.x]) ∧ (S0.reads ≤ 900000000000000000) ∧ ((x4.d) = (slotsOf S0)) ∧ ((x4.o) = (orderOf S0)) ∧ ((x4.r) = (S0.reads)) ∧ ((intE (listE raw 70) x4.m x4.p).length ≤ 60000) ∧ (ckR S0 x4.S x4.x x4.y x4.i x4.e (intE (listE raw 70) x4.m x4.p) x4.same x4.res p1) ∧ (K (SV.one (TV.at (At.val (Value.bool true)))) [(Chunk.row false (EC.ent) (raw)), (Chunk.row false (EC.ent) (oth))] [])))))) ∧ (0 ≤ (↑(listE raw 70).length : Int)) ∧ ((↑(listE raw 70).length : Int) ≤ 65536) ∧ (0 ≤ (↑x4.m.length : Int)) ∧ ((↑x4.m.length : Int) ≤ 65536) ∧ (∀ p1 : Int, (((p1) = ((↑(listE raw 70).length : Int) + (↑x4.m.length : Int) + 12 * (Hn ((↑(listE raw 70).length : Int) + (↑x4.m.length : Int)) + 2))) → (∃ S0 : Arn, ((Wf S0 [x4.y, x4.x]) ∧ (S0.reads ≤ 900000000000000000) ∧ ((x4.d) = (slotsOf S0)) ∧ ((x4.o) = (orderOf S0)) ∧ ((x4.r) = (S0.reads)) ∧ ((intE (listE raw 70) x4.m x4.p).length ≤ 60000) ∧
    (ckR S0 x4.S x4.x x4.y x4.i x4.e (intE (listE raw 70) x4.m x4.p) x4.same x4.res p1) ∧ (K (SV.one (TV.at (At.val (Value.bool true)))) [(Chunk.row false (EC.ent) (raw)), (Chunk.row false (EC.ent) (oth))] [])))))))))))))))) ∧ ((1 ≤ x1) → ((x1 ≤ 5) → (∀ S' : Arn, (∀ i : Int, (∀ e : Int, ((SoR fInt whU reI S hs tx ty x y x1 S' i e) → ((∀ b : Bool, (((b) = (decide (1 ≤ x1 ∧ x1 ≤ 5))) → (brS (!b) ((brS (e == 1) ((brS (i == 0) (((exW S') ∧ (∀ d1 : List SlotT, (∀ o1 : List Int, (((d1) = (slotsOf S')) → (((o1) = (orderOf S')) → (((d1) = (d)) ∧ ((o1) = (o)) ∧ (d1.length ≤ 1000000) ∧ (o1.length ≤ 1000000) ∧ (K (SV.one (TV.at (At.val (Value.bool true)))) [(Chunk.row false (EC.ent) (raw)), (Chunk.row false (EC.ent) (oth))] [])))))))) ((K (SV.one (TV.at (At.val (Value.bool false)))) [(Chunk.row false (EC.ent) (raw)), (Chunk.row false (EC.ent) (oth))] [])))) ((K (SV.one (TV.at (At.val (Value.bool false)))) [(Chunk.row false (EC.ent) (raw)), (Chunk.row false (EC.ent) (oth))] [])))) ((∃ x2 : XC2 Q1, (True ∧ (True ∧ ((Value.int IntKind.u32 (x)) = (Value.int IntKind.u32 (x2.x))) ∧ ((Value.int IntKind.u32 (y)) = (Value.int IntKind.u32 (x2.y))) ∧ True ∧ True ∧ ((Value.int IntKind.i64 (x1)) = (Value.int IntKind.i64 (x2.p))) ∧ True ∧ ((Value.int IntKind.u64 (S.reads)) = (Value.int IntKind.u64 (x2.r))) ∧ ((Value.int IntKind.u32 (i)) = (Value.int IntKind.u32 (x2.i))) ∧ ((Value.int IntKind.i64 (e)) = (Value.int IntKind.i64 (x2.e))) ∧ True) ∧ ((raw) = (raw)) ∧ ((oth) = (oth)) ∧ (True ∧ True ∧ True ∧
    ((Value.int IntKind.u64 (S'.reads)) = (Value.int IntKind.u64 (x2.S.reads))) ∧ True) ∧ (True ∧ True ∧ True ∧ ((Value.int IntKind.u32 (S'.fresh)) = (Value.int IntKind.u32 (x2.S.fresh))) ∧ True) ∧ ((S'.nodes) = (x2.S.nodes)) ∧ ((S'.counts) = (x2.S.counts)) ∧ ((S'.used) = (x2.S.used)) ∧ ((S'.gen) = (x2.S.gen)) ∧ ((S'.rel) = (x2.S.rel)) ∧ ((listE raw 70) = (listE raw 70)) ∧ ((m) = (x2.m)) ∧ (True ∧ True ∧ True) ∧ ((d) = (x2.d)) ∧ ((o) = (x2.o)) ∧ True)))))) ∧ (∀ x2 : XC2 Q1, (True → ((brS (x2.x == 0) ((∃ x3 : XC2 Q2, (True ∧ (True ∧ ((Value.int IntKind.u32 (x2.x)) = (Value.int IntKind.u32 (x3.x))) ∧ ((Value.int IntKind.u32 (x2.y)) = (Value.int IntKind.u32 (x3.y))) ∧ True ∧ True ∧ ((Value.int IntKind.i64 (x2.p)) = (Value.int IntKind.i64 (x3.p))) ∧ True ∧ ((Value.int IntKind.u64 (x2.r)) = (Value.int IntKind.u64 (x3.r))) ∧ ((Value.int IntKind.u32 (x2.i)) = (Value.int IntKind.u32 (x3.i))) ∧ ((Value.int IntKind.i64 (x2.e)) = (Value.int IntKind.i64 (x3.e))) ∧ ((Value.bool true) = (Value.bool (x3.same))) ∧ ((Value.int IntKind.u32 (x2.x)) = (Value.int IntKind.u32 (x3.x))) ∧ True) ∧ ((raw) = (raw)) ∧ ((oth) = (oth)) ∧ (True ∧ True ∧ True ∧ ((Value.int IntKind.u64 (x2.S.reads)) = (Value.int IntKind.u64 (x3.S.reads))) ∧ True) ∧ (True ∧ True ∧ True ∧ ((Value.int IntKind.u32 (x2.S.fresh)) = (Value.int IntKind.u32 (x3.S.fresh))) ∧ True) ∧ ((x2.S.nodes) = (x3.S.nodes)) ∧ ((x2.S.counts) = (x3.S.counts)) ∧ ((x2.S.used) = (x3.S.used)) ∧ ((x2.S.gen) = (x3.S.gen)) ∧ ((x2.S.rel) = (x3.S.rel)) ∧
    ((listE raw 70) = (listE raw 70)) ∧ ((x2.m) = (x3.m)) ∧ (True ∧ True ∧ True) ∧ ((x2.d) = (x3.d)) ∧ ((x2.o) = (x3.o)) ∧ True))) ((brS (x2.y == 0) ((∃ x3 : XC2 Q2, (True ∧ (True ∧ ((Value.int IntKind.u32 (x2.x)) = (Value.int IntKind.u32 (x3.x))) ∧ ((Value.int IntKind.u32 (x2.y)) = (Value.int IntKind.u32 (x3.y))) ∧ True ∧ True ∧ ((Value.int IntKind.i64 (x2.p)) = (Value.int IntKind.i64 (x3.p))) ∧ True ∧ ((Value.int IntKind.u64 (x2.r)) = (Value.int IntKind.u64 (x3.r))) ∧ ((Value.int IntKind.u32 (x2.i)) = (Value.int IntKind.u32 (x3.i))) ∧ ((Value.int IntKind.i64 (x2.e)) = (Value.int IntKind.i64 (x3.e))) ∧ ((Value.bool true) = (Value.bool (x3.same))) ∧ ((Value.int IntKind.u32 (x2.x)) = (Value.int IntKind.u32 (x3.x))) ∧ True) ∧ ((raw) = (raw)) ∧ ((oth) = (oth)) ∧ (True ∧ True ∧ True ∧ ((Value.int IntKind.u64 (x2.S.reads)) = (Value.int IntKind.u64 (x3.S.reads))) ∧ True) ∧ (True ∧ True ∧ True ∧ ((Value.int IntKind.u32 (x2.S.fresh)) = (Value.int IntKind.u32 (x3.S.fresh))) ∧ True) ∧ ((x2.S.nodes) = (x3.S.nodes)) ∧ ((x2.S.counts) = (x3.S.counts)) ∧ ((x2.S.used) = (x3.S.used)) ∧ ((x2.S.gen) = (x3.S.gen)) ∧ ((x2.S.rel) = (x3.S.rel)) ∧ ((listE raw 70) = (listE raw 70)) ∧ ((x2.m) = (x3.m)) ∧ (True ∧ True ∧ True) ∧ ((x2.d) = (x3.d)) ∧ ((x2.o) = (x3.o)) ∧ True))) ((brS (x2.x == x2.y) ((∃ x3 : XC2 Q2, (True ∧ (True ∧ ((Value.int IntKind.u32 (x2.x)) = (Value.int IntKind.u32 (x3.x))) ∧ ((Value.int IntKind.u32 (x2.y)) = (Value.int IntKind.u32 (x3.y))) ∧ True ∧ True ∧
    ((Value.int IntKind.i64 (x2.p)) = (Value.int IntKind.i64 (x3.p))) ∧ True ∧ ((Value.int IntKind.u64 (x2.r)) = (Value.int IntKind.u64 (x3.r))) ∧ ((Value.int IntKind.u32 (x2.i)) = (Value.int IntKind.u32 (x3.i))) ∧ ((Value.int IntKind.i64 (x2.e)) = (Value.int IntKind.i64 (x3.e))) ∧ ((Value.bool (x2.p != 3)) = (Value.bool (x3.same))) ∧ ((Value.int IntKind.u32 (x2.x)) = (Value.int IntKind.u32 (x3.x))) ∧ True) ∧ ((raw) = (raw)) ∧ ((oth) = (oth)) ∧ (True ∧ True ∧ True ∧ ((Value.int IntKind.u64 (x2.S.reads)) = (Value.int IntKind.u64 (x3.S.reads))) ∧ True) ∧ (True ∧ True ∧ True ∧ ((Value.int IntKind.u32 (x2.S.fresh)) = (Value.int IntKind.u32 (x3.S.fresh))) ∧ True) ∧ ((x2.S.nodes) = (x3.S.nodes)) ∧ ((x2.S.counts) = (x3.S.counts)) ∧ ((x2.S.used) = (x3.S.used)) ∧ ((x2.S.gen) = (x3.S.gen)) ∧ ((x2.S.rel) = (x3.S.rel)) ∧ ((listE raw 70) = (listE raw 70)) ∧ ((x2.m) = (x3.m)) ∧ (True ∧ True ∧ True) ∧ ((x2.d) = (x3.d)) ∧ ((x2.o) = (x3.o)) ∧ True))) ((∃ x3 : XC2 Q2, (True ∧ (True ∧ ((Value.int IntKind.u32 (x2.x)) = (Value.int IntKind.u32 (x3.x))) ∧ ((Value.int IntKind.u32 (x2.y)) = (Value.int IntKind.u32 (x3.y))) ∧ True ∧ True ∧ ((Value.int IntKind.i64 (x2.p)) = (Value.int IntKind.i64 (x3.p))) ∧ True ∧ ((Value.int IntKind.u64 (x2.r)) = (Value.int IntKind.u64 (x3.r))) ∧ ((Value.int IntKind.u32 (x2.i)) = (Value.int IntKind.u32 (x3.i))) ∧ ((Value.int IntKind.i64 (x2.e)) = (Value.int IntKind.i64 (x3.e))) ∧ ((Value.bool false) = (Value.bool (x3.same))) ∧
    ((Value.int IntKind.u32 (x2.x)) = (Value.int IntKind.u32 (x3.x))) ∧ True) ∧ ((raw) = (raw)) ∧ ((oth) = (oth)) ∧ (True ∧ True ∧ True ∧ ((Value.int IntKind.u64 (x2.S.reads)) = (Value.int IntKind.u64 (x3.S.reads))) ∧ True) ∧ (True ∧ True ∧ True ∧ ((Value.int IntKind.u32 (x2.S.fresh)) = (Value.int IntKind.u32 (x3.S.fresh))) ∧ True) ∧ ((x2.S.nodes) = (x3.S.nodes)) ∧ ((x2.S.counts) = (x3.S.counts)) ∧ ((x2.S.used) = (x3.S.used)) ∧ ((x2.S.gen) = (x3.S.gen)) ∧ ((x2.S.rel) = (x3.S.rel)) ∧ ((listE raw 70) = (listE raw 70)) ∧ ((x2.m) = (x3.m)) ∧ (True ∧ True ∧ True) ∧ ((x2.d) = (x3.d)) ∧ ((x2.o) = (x3.o)) ∧ True)))))))) ∧ (∀ x3 : XC2 Q2, (True → ((brS (x3.x == 0) ((∃ x4 : XC2 P2, (True ∧ (True ∧ ((Value.int IntKind.u32 (x3.x)) = (Value.int IntKind.u32 (x4.x))) ∧ ((Value.int IntKind.u32 (x3.y)) = (Value.int IntKind.u32 (x4.y))) ∧ True ∧ True ∧ ((Value.int IntKind.i64 (x3.p)) = (Value.int IntKind.i64 (x4.p))) ∧ True ∧ ((Value.int IntKind.u64 (x3.r)) = (Value.int IntKind.u64 (x4.r))) ∧ ((Value.int IntKind.u32 (x3.i)) = (Value.int IntKind.u32 (x4.i))) ∧ ((Value.int IntKind.i64 (x3.e)) = (Value.int IntKind.i64 (x4.e))) ∧ ((Value.bool (x3.same)) = (Value.bool (x4.same))) ∧ ((Value.int IntKind.u32 0) = (Value.int IntKind.u32 (x4.res))) ∧ True) ∧ ((raw) = (raw)) ∧ ((oth) = (oth)) ∧ (True ∧ True ∧ True ∧ ((Value.int IntKind.u64 (x3.S.reads)) = (Value.int IntKind.u64 (x4.S.reads))) ∧ True) ∧ (True ∧ True ∧ True ∧ ((Value.int IntKind.u32 (x3.S.fresh)) = (Value.int IntKind.u32 (x4.S.fresh))) ∧
    True) ∧ ((x3.S.nodes) = (x4.S.nodes)) ∧ ((x3.S.counts) = (x4.S.counts)) ∧ ((x3.S.used) = (x4.S.used)) ∧ ((x3.S.gen) = (x4.S.gen)) ∧ ((x3.S.rel) = (x4.S.rel)) ∧ ((listE raw 70) = (listE raw 70)) ∧ ((x3.m) = (x4.m)) ∧ (True ∧ True ∧ True) ∧ ((x3.d) = (x4.d)) ∧ ((x3.o) = (x4.o)) ∧ True))) ((brS (x3.y == 0) ((∃ x4 : XC2 P2, (True ∧ (True ∧ ((Value.int IntKind.u32 (x3.x)) = (Value.int IntKind.u32 (x4.x))) ∧ ((Value.int IntKind.u32 (x3.y)) = (Value.int IntKind.u32 (x4.y))) ∧ True ∧ True ∧ ((Value.int IntKind.i64 (x3.p)) = (Value.int IntKind.i64 (x4.p))) ∧ True ∧ ((Value.int IntKind.u64 (x3.r)) = (Value.int IntKind.u64 (x4.r))) ∧ ((Value.int IntKind.u32 (x3.i)) = (Value.int IntKind.u32 (x4.i))) ∧ ((Value.int IntKind.i64 (x3.e)) = (Value.int IntKind.i64 (x4.e))) ∧ ((Value.bool (x3.same)) = (Value.bool (x4.same))) ∧ ((Value.int IntKind.u32 0) = (Value.int IntKind.u32 (x4.res))) ∧ True) ∧ ((raw) = (raw)) ∧ ((oth) = (oth)) ∧ (True ∧ True ∧ True ∧ ((Value.int IntKind.u64 (x3.S.reads)) = (Value.int IntKind.u64 (x4.S.reads))) ∧ True) ∧ (True ∧ True ∧ True ∧ ((Value.int IntKind.u32 (x3.S.fresh)) = (Value.int IntKind.u32 (x4.S.fresh))) ∧ True) ∧ ((x3.S.nodes) = (x4.S.nodes)) ∧ ((x3.S.counts) = (x4.S.counts)) ∧ ((x3.S.used) = (x4.S.used)) ∧ ((x3.S.gen) = (x4.S.gen)) ∧ ((x3.S.rel) = (x4.S.rel)) ∧ ((listE raw 70) = (listE raw 70)) ∧ ((x3.m) = (x4.m)) ∧ (True ∧ True ∧ True) ∧ ((x3.d) = (x4.d)) ∧ ((x3.o) = (x4.o)) ∧ True))) ((∃ x4 : XC2 P2, (True ∧ (True ∧
    ((Value.int IntKind.u32 (x3.x)) = (Value.int IntKind.u32 (x4.x))) ∧ ((Value.int IntKind.u32 (x3.y)) = (Value.int IntKind.u32 (x4.y))) ∧ True ∧ True ∧ ((Value.int IntKind.i64 (x3.p)) = (Value.int IntKind.i64 (x4.p))) ∧ True ∧ ((Value.int IntKind.u64 (x3.r)) = (Value.int IntKind.u64 (x4.r))) ∧ ((Value.int IntKind.u32 (x3.i)) = (Value.int IntKind.u32 (x4.i))) ∧ ((Value.int IntKind.i64 (x3.e)) = (Value.int IntKind.i64 (x4.e))) ∧ ((Value.bool (x3.same)) = (Value.bool (x4.same))) ∧ ((Value.int IntKind.u32 (x3.x)) = (Value.int IntKind.u32 (x4.res))) ∧ True) ∧ ((raw) = (raw)) ∧ ((oth) = (oth)) ∧ (True ∧ True ∧ True ∧ ((Value.int IntKind.u64 (x3.S.reads)) = (Value.int IntKind.u64 (x4.S.reads))) ∧ True) ∧ (True ∧ True ∧ True ∧ ((Value.int IntKind.u32 (x3.S.fresh)) = (Value.int IntKind.u32 (x4.S.fresh))) ∧ True) ∧ ((x3.S.nodes) = (x4.S.nodes)) ∧ ((x3.S.counts) = (x4.S.counts)) ∧ ((x3.S.used) = (x4.S.used)) ∧ ((x3.S.gen) = (x4.S.gen)) ∧ ((x3.S.rel) = (x4.S.rel)) ∧ ((listE raw 70) = (listE raw 70)) ∧ ((x3.m) = (x4.m)) ∧ (True ∧ True ∧ True) ∧ ((x3.d) = (x4.d)) ∧ ((x3.o) = (x4.o)) ∧ True)))))) ∧ (∀ x4 : XC2 P2, (True → ((((listE raw 70).length + x4.m.length ≤ 1000000) ∧ (0 ≤ (↑(listE raw 70).length : Int)) ∧ ((↑(listE raw 70).length : Int) ≤ 65536) ∧ (0 ≤ (↑x4.m.length : Int)) ∧ ((↑x4.m.length : Int) ≤ 65536) ∧ (∀ p1 : Int, (((p1) = ((↑(listE raw 70).length : Int) + (↑x4.m.length : Int) + 12 * (Hn ((↑(listE raw 70).length : Int) + (↑x4.m.length : Int)) + 2))) → (∃ S0 : Arn,
    ((Wf S0 [x4.y, x4.x]) ∧ (S0.reads ≤ 900000000000000000) ∧ ((x4.d) = (slotsOf S0)) ∧ ((x4.o) = (orderOf S0)) ∧ ((x4.r) = (S0.reads)) ∧ ((intE (listE raw 70) x4.m x4.p).length ≤ 60000) ∧ (ckR S0 x4.S x4.x x4.y x4.i x4.e (intE (listE raw 70) x4.m x4.p) x4.same x4.res p1) ∧ (K (SV.one (TV.at (At.val (Value.bool true)))) [(Chunk.row false (EC.ent) (raw)), (Chunk.row false (EC.ent) (oth))] [])))))) ∧ ((listE raw 70).length + x4.m.length ≤ 1000000) ∧ ((0 ≤ (↑(listE raw 70).length : Int)) ∧ ((↑(listE raw 70).length : Int) ≤ 65536) ∧ (0 ≤ (↑x4.m.length : Int)) ∧ ((↑x4.m.length : Int) ≤ 65536) ∧ (∀ p1 : Int, (((p1) = ((↑(listE raw 70).length : Int) + (↑x4.m.length : Int) + 12 * (Hn ((↑(listE raw 70).length : Int) + (↑x4.m.length : Int)) + 2))) → (∃ S0 : Arn, ((Wf S0 [x4.y, x4.x]) ∧ (S0.reads ≤ 900000000000000000) ∧ ((x4.d) = (slotsOf S0)) ∧ ((x4.o) = (orderOf S0)) ∧ ((x4.r) = (S0.reads)) ∧ ((intE (listE raw 70) x4.m x4.p).length ≤ 60000) ∧ (ckR S0 x4.S x4.x x4.y x4.i x4.e (intE (listE raw 70) x4.m x4.p) x4.same x4.res p1) ∧ (K (SV.one (TV.at (At.val (Value.bool true)))) [(Chunk.row false (EC.ent) (raw)), (Chunk.row false (EC.ent) (oth))] [])))))) ∧ (0 ≤ (↑(listE raw 70).length : Int)) ∧ ((↑(listE raw 70).length : Int) ≤ 65536) ∧ (0 ≤ (↑x4.m.length : Int)) ∧ ((↑x4.m.length : Int) ≤ 65536) ∧ (∀ p1 : Int, (((p1) = ((↑(listE raw 70).length : Int) + (↑x4.m.length : Int) + 12 * (Hn ((↑(listE raw 70).length : Int) + (↑x4.m.length : Int)) + 2))) → (∃ S0 : Arn, ((Wf S0 [x4.y, x4.x]) ∧
    (S0.reads ≤ 900000000000000000) ∧ ((x4.d) = (slotsOf S0)) ∧ ((x4.o) = (orderOf S0)) ∧ ((x4.r) = (S0.reads)) ∧ ((intE (listE raw 70) x4.m x4.p).length ≤ 60000) ∧ (ckR S0 x4.S x4.x x4.y x4.i x4.e (intE (listE raw 70) x4.m x4.p) x4.same x4.res p1) ∧ (K (SV.one (TV.at (At.val (Value.bool true)))) [(Chunk.row false (EC.ent) (raw)), (Chunk.row false (EC.ent) (oth))] []))))))))))))))))))))))))))))))))))))))) = _ by kernel_rfl) ?_
  subst hQ1 hQ2 hP2
  have lB : (listE raw 70).length ≤ 70 := (listE_spec raw 70).2
  generalize listE raw 70 = B at *
  refine ⟨h0, f1, f2, k1, k2, fun S x y m pr => ⟨by decide, by decide, fun p1 ep => ⟨⟨_, pr.wf⟩, fun d o ed eo => ?_⟩⟩⟩
  have pq := pr.q
  obtain ⟨tx, ty, op, lx, ly, nd⟩ := pq.op
  have rd := pr.rds
  have sl := slots_le pr.wf
  have ol := order_len pr.wf
  refine (fun tail => ⟨_, tx, ty, op, fun nv => ⟨fun b eb => bt7 (by rw [eb, decide_eq_false nv]; rfl) ⟨⟨_, pr.wf⟩, fun d1 o1 e1 e2 => ⟨e1.trans ed.symm, e2.trans eo.symm, by rw [e1]; omega, by rw [e2]; omega, h⟩⟩, tail⟩,
    fun v1 v2 S' i e so => ⟨fun b eb => bf7 (by rw [eb, decide_eq_true ⟨v1, v2⟩]; rfl) ⟨⟨S', x, y, m, d, o, S.reads, p1, i, e, false, 0, ⟨S, tx, ty, pq, ed, eo, rfl, op, lx, ly, nd, so⟩⟩, ?_⟩, tail⟩⟩) ?_
  rotate_left
  · (repeat' first | exact trivial | exact rfl | refine And.intro ?_ ?_)
  clear pr pq op lx ly nd ed eo rd sl ol ep tx ty d o S x y m p1 p
  refine fun x2 _ => ?_
  obtain ⟨S, x, y, m, d, o, r, p, i, e, _, _, hq⟩ := x2
  dsimp only
  refine ⟨brS_of (fun c => ⟨⟨S, x, y, m, d, o, r, p, i, e, true, 0, hq, ?_⟩, ?_⟩) fun c => brS_of (fun c2 => ⟨⟨S, x, y, m, d, o, r, p, i, e, true, 0, hq, ?_⟩, ?_⟩) fun c2 => brS_of (fun c3 => ⟨⟨S, x, y, m, d, o, r, p, i, e, p != 3, 0, hq, ?_⟩, ?_⟩) fun c3 => ⟨⟨S, x, y, m, d, o, r, p, i, e, false, 0, hq, ?_⟩, ?_⟩, fun x3 _ => ?_⟩
  · exact ⟨fun _ => .inl (by simpa using c), fun _ => rfl⟩
  · (repeat' first | exact trivial | exact rfl | refine And.intro ?_ ?_)
  · exact ⟨fun _ => .inr (.inl (by simpa using c2)), fun _ => rfl⟩
  · (repeat' first | exact trivial | exact rfl | refine And.intro ?_ ?_)
  · have c : x ≠ 0 := by simpa using c
    have c2 : y ≠ 0 := by simpa using c2
    have c3 : x = y := by simpa using c3
    exact ⟨fun q => .inr (.inr ⟨c3, by simpa using q⟩), fun q => by rcases q with q | q | q; exact absurd q c; exact absurd q c2; simpa using q.2⟩
  · (repeat' first | exact trivial | exact rfl | refine And.intro ?_ ?_)
  · have c : x ≠ 0 := by simpa using c
    have c2 : y ≠ 0 := by simpa using c2
    have c3 : x ≠ y := by simpa using c3
    exact ⟨fun q => (by cases q), fun q => by rcases q with q | q | q; exact absurd q c; exact absurd q c2; exact absurd q.1 c3⟩
  · (repeat' first | exact trivial | exact rfl | refine And.intro ?_ ?_)
  clear hq
  obtain ⟨S, x, y, m, d, o, r, p, i, e, same, _, hq, hs⟩ := x3
  dsimp only
  have fin : ∀ rs, (whU x y p → rs = reI x y) → PI2 B S x y m d o r p i e same rs := fun rs hr => ⟨len76 hq, so_ck hq (fun o h => wh_int o h) (fun a _ => int_set a p) hs hr⟩
  refine ⟨brS_of (fun c => ⟨⟨S, x, y, m, d, o, r, p, i, e, same, 0, fin 0 fun _ => ?_⟩, ?_⟩) fun c => brS_of (fun c2 => ⟨⟨S, x, y, m, d, o, r, p, i, e, same, 0, fin 0 fun _ => ?_⟩, ?_⟩) fun c2 => ⟨⟨S, x, y, m, d, o, r, p, i, e, same, x, fin x fun _ => ?_⟩, ?_⟩, fun x4 _ => ?_⟩
  · have c : x = 0 := by simpa using c
    unfold reI; rw [if_pos (.inl c)]
  · (repeat' first | exact trivial | exact rfl | refine And.intro ?_ ?_)
  · have c2 : y = 0 := by simpa using c2
    unfold reI; rw [if_pos (.inr c2)]
  · (repeat' first | exact trivial | exact rfl | refine And.intro ?_ ?_)
  · have c : x ≠ 0 := by simpa using c
    have c2 : y ≠ 0 := by simpa using c2
    unfold reI; rw [if_neg fun q => q.elim c c2]
  · (repeat' first | exact trivial | exact rfl | refine And.intro ?_ ?_)
  clear fin hs hq
  obtain ⟨S, x, y, m, d, o, r, p, i, e, same, res, lm, hq⟩ := x4
  dsimp only
  have key : ∀ p1, p1 = (B.length : Int) + m.length + 12 * (Hn ((B.length : Int) + m.length) + 2) → ∃ S0, Wf S0 [y, x] ∧ S0.reads ≤ 900000000000000000 ∧ d = slotsOf S0 ∧ o = orderOf S0 ∧ r = S0.reads ∧ (intE B m p).length ≤ 60000 ∧ ckR S0 S x y i e (intE B m p) same res p1 ∧ K (.one (.at (vB true))) [.row false EC.ent raw, .row false EC.ent oth] [] := fun p1 ep => by
    obtain ⟨S0, q1, q2, q3, q4, q5, q6, q7⟩ := hq
    exact ⟨S0, q1, q2, q3, q4, q5, q6, by rw [ep]; exact q7, h⟩
  (repeat' first | exact key | omega | refine And.intro ?_ ?_)
theorem s_vi : SoundT C0 7 tVu := by
  refine .of Try.func7 (by decide) rfl fun args H K h hB => ?_
  unfold tVu at h
  split at h <;> try exact h.elim
  rename_i t der p f raw oth
  obtain ⟨h0, p1, p2, f1, f2, k1, k2, h⟩ := h
  refine ⟨_, ?_, vc_vi raw oth t p f der K h0 f1 f2 k1 k2 h⟩
  exact ⟨frame C0.ok s_soI _, frame C0.ok s_int9 _, s_pr16, frame C0.ok s_aw16 _, frame C0.ok s_dump _, frame C0.ok s_rds _, frame C0.ok s_pol9 _, frame C0.ok s_sameD _, frame C0.ok s_mod _, frame C0.ok s_nSet _, frame C0.ok s_ck16 _, trivial⟩
theorem SoR.post {f : Int → Option Int → Option Int → Option Int} {whole : Int → Int → Int → Prop} {res : Int → Int → Int} {S S' : Arn} {hs : List Int} {tx ty : Tr} {x y p i e : Int} (op : OpM S hs tx ty x y) (h : SoR f whole res S hs tx ty x y p S' i e)
    (hw : whole x y p → res x y = 0 ∨ S.us (res x y) = true) : (e = 0 ∧ Got S hs 65537 2000000000 S' (i :: hs)) ∨ (e ≠ 0 ∧ Got S hs 65537 2000000000 S' hs) := by
  have hl := op.hl
  have hr := op.rd
  rcases h with ⟨a, b, c, g⟩ | ⟨a, b, c, c2, k, hk, g⟩ | ⟨a, b, c, L, hL, tr⟩
  · refine .inl ⟨b, ?_⟩
    rw [g, c]
    exact (retL_got op.wf (hw a) (by omega)).mono (by omega) (by omega)
  · refine .inr ⟨by omega, ?_⟩
    rw [g]
    exact (Got.rds op.wf (by omega)).mono (by omega) (by omega)
  · exact .inl ⟨c, tr.got⟩
def PU1 (B : List Ent) : Arn → Int → Int → List Ent → Prop := fun S x y m => PrQ B m S x y
def QU1 (B : List Ent) : Arn → Int → Int → List Ent → List SlotT → List Int → Int → Int → Int → Int → Bool → Int → Prop := fun S x y m d o r p i e _ _ => SoP fUni whU reU B m S x y d o r p i e
def QU2 (B : List Ent) : Arn → Int → Int → List Ent → List SlotT → List Int → Int → Int → Int → Int → Bool → Int → Prop := fun S x y m d o r p i e same _ => SoP fUni whU reU B m S x y d o r p i e ∧ (same = true ↔ whU x y p)
def PU2 (B : List Ent) : Arn → Int → Int → List Ent → List SlotT → List Int → Int → Int → Int → Int → Bool → Int → Prop := fun S x y m d o r p i e same res => m.length ≤ 76 ∧ CkP B m (uniE B m p) S x y d o r i e same res
def PS1 (B : List Ent) : Arn → Int → Int → List Ent → List SlotT → List Int → Int → Int → Int → Int → Bool → Int → Prop := fun S x y m d o r p i e _ res => m.length ≤ 76 ∧ p = nS B m ∧ ∀ same, (same = true ↔ whS x y 1) → CkP B m (excE B m) S x y d o r i e same res
def PS2 (B : List Ent) : Arn → Int → Int → List Ent → List SlotT → List Int → Int → Int → Int → Int → Bool → Int → Prop := fun S x y m d o r p i e _ res => m.length ≤ 76 ∧ p = nS B m ∧ ∀ same, (same = true ↔ whS x y 1) → CkP B m (subE B m) S x y d o r i e same res
end Go.Proofs.Ytbonbaccmlomhaa.Sx
end
section
/- What every law's last step leans on. -/
namespace Go.Proofs.Ytbonbaccmlomhaa
open Go.ChangeShapes Go.WideShapes Go.ChangeAt Go.RowKit

theorem ownK : ownKnob Try.prog.godebug = none := by kernel_rfl
theorem laidO : laidOutB Try.prog = true := by kernel_rfl

theorem lit_i64 {a : Int} (h : (Lit.int .i64 a).wf = true) : -9223372036854775808 ≤ a ∧ a ≤ 9223372036854775807 := by
  have h1 : IntKind.i64.min = -9223372036854775808 := rfl
  have h2 : IntKind.i64.max = 9223372036854775807 := rfl
  simp only [Lit.wf, Bool.and_eq_true, decide_eq_true_eq] at h
  omega
theorem lit_u64 {a : Int} (h : (Lit.int .u64 a).wf = true) : 0 ≤ a ∧ a ≤ 18446744073709551615 := by
  have h1 : IntKind.u64.min = 0 := rfl
  have h2 : IntKind.u64.max = 18446744073709551615 := rfl
  simp only [Lit.wf, Bool.and_eq_true, decide_eq_true_eq] at h
  omega
theorem lit_u16 {a : Int} (h : (Lit.int .u16 a).wf = true) : 0 ≤ a ∧ a ≤ 65535 := by
  have h1 : IntKind.u16.min = 0 := rfl
  have h2 : IntKind.u16.max = 65535 := rfl
  simp only [Lit.wf, Bool.and_eq_true, decide_eq_true_eq] at h
  omega
end Go.Proofs.Ytbonbaccmlomhaa
end
section
/- From contracts to laws: the arguments as they come, what a law's call leaves. -/
namespace Go.Proofs.Ytbonbaccmlomhaa.Sx
open Go Go.Joins Go.ChangeShapes Go.WideShapes Go.ChangeAt Go.RowKit

theorem Sat.imms {C : Ctx} {w : World} (vs : List Value) (H : List (Chunk C)) (h : ∀ (n : Nat) (c : Chunk C), H[n]? = some c → ∃ e l, c = .row false e l ∧ Imm C w (vs.getD n undef) e l) : Sat C (fun n => vs.getD n undef) (fun _ _ => False) w H where
  holds n c hc := by
    obtain ⟨e, l, rfl, hi⟩ := h n c hc
    exact ⟨hi, fun _ hh => hh⟩
  dis _ _ _ hh := hh.elim
  bd _ _ hh := hh.elim
  imm _ _ _ _ _ _ _ _ hh := hh
  out _ _ _ hh := hh
  cl n c hc m hm := by
    obtain ⟨e, l, rfl, _⟩ := h n c hc
    simp [Chunk.names] at hm

theorem lawOf {f : FuncId} {t : Tfm C0} (hs : SoundT C0 f t) {args : List TV} {H : List (Chunk C0)} {vs : List Value} {σ : Nat → Value} {w : World} (ht : ∀ K : KT, K (.one (.at (vB true))) H [] → t args H K)
    (hsat : Sat C0 σ (fun _ _ => False) w H) (hr : Rels (TV.rel σ) args vs) (hn : ∀ x ∈ args, ∀ m ∈ x.names, m < H.length) : Calls Try.prog f vs.toArray w (fun e w' => e = .returned (.bool true) ∧ Below w.heap.size w w') := by
  have hc := hs.call args H (fun r _ _ => r = .one (.at (vB true))) (ht _ rfl) σ _ w vs hsat hr hn
  refine Calls.mono hc fun e w' hh => ?_
  cases e with
  | panicked ch => exact hh.elim
  | outgrown => exact hh.elim
  | returned v =>
    obtain ⟨r, H', ts, σ', φ', hout, rfl⟩ := hh
    have hv : v = .bool true := hout.rel
    exact ⟨by rw [hv], hout.adv.os, hout.adv.tape, hout.adv.output, hout.adv.size, fun k hk => hout.adv.fr k hk fun n hh => hh⟩

section
variable {HH : Type} {enc : TypeId × Value → HH} {P : Program} {w : World} {base b0 : Nat} {spare : Nat → Bool} {held : Bool} {r : Reach}
theorem openRowQ {α : Type} [Inhabited α] {t e : TypeId} {f : α → List Value} {Q : α → Prop} {sz : Nat} {v : Value} {d : DataW HH} {p : List MemPlace} (ht : P.underlying t = some (.slice e)) (hC : P.cellsOf e = sz) (hpos : 0 < sz) (hf : ∀ x, (f x).length = sz)
    (hel : ∀ {n : Nat} {cs : List Value} {x : DataW HH × List MemPlace}, DataW.trod enc P w base spare held n e cs = some x → ∃ a, cs = f a ∧ Q a) (hv : Value.okWide P w r b0 t v) (h : DataW.Trod enc P w base spare held t v d p) :
    ∃ A n c l, v = .slice A n c ∧ Rd f sz w A n c l ∧ ∀ x ∈ l, Q x := by
  obtain ⟨A, n, c, rfl⟩ := okWide_slice ht hv
  obtain ⟨fuel, hh⟩ := h
  have hh : DataW.trod enc P w base spare held fuel t [.slice A n c] = some (d, p) := by simpa [Value.cells] using hh
  rcases Go.Deep.open_slice ht hh with ⟨h1, _⟩ | ⟨a, len, cap, m, k, D, Pl, h1, hb, hle, hm, hmm, hx, hall⟩
  · simp only [List.cons.injEq, Value.slice.injEq, and_true] at h1
    obtain ⟨rfl, rfl, rfl⟩ := h1
    exact ⟨none, 0, 0, [], rfl, Rd.nil hf, fun x hx => by simp at hx⟩
  · simp only [List.cons.injEq, Value.slice.injEq, and_true] at h1
    obtain ⟨rfl, rfl, rfl⟩ := h1
    have hlm : n ≤ m := by rw [hmm]; split <;> omega
    have hel' : ∀ i, i < n → ∃ x : α, w.cells? base (a.add (i * P.cellsOf e)) (P.cellsOf e) = some (f x) ∧ Q x := fun i hi => by
      obtain ⟨cs', hc1, hc2⟩ := hall i (by omega)
      obtain ⟨x, rfl, hq⟩ := hel hc2
      exact ⟨x, hc1, hq⟩
    obtain ⟨F, hF⟩ := Go.Deep.choose_lt hel'
    have cell : ∀ i, i < n → ∀ j, j < sz → w.cell? ((a.add (i * sz)).add j) = (f (F i))[j]? := fun i hi j hj => by
      have h2 := (hF i hi).1
      rw [hC] at h2
      unfold World.cells? at h2
      split at h2
      · exact mapM_some_get h2 j j (by simp [hj])
      · cases h2
    refine ⟨some a, n, c, (List.range n).map F, rfl, ⟨by simp, hle, hm, hf, fun h => (by cases h), fun hn => ?_⟩, fun x hx => by obtain ⟨i, hi, rfl⟩ := List.mem_map.1 hx; exact (hF i (List.mem_range.1 hi)).2⟩
    obtain ⟨b, o, sp⟩ := a
    have hsome : ∀ i, i < n → ∀ j, j < sz → ∃ u, w.cell? (((⟨b, o, sp⟩ : Addr).add (i * sz)).add j) = some u := fun i hi j hj => by
      rw [cell i hi j hj]
      exact ⟨_, List.getElem?_eq_getElem (by rw [hf]; exact hj)⟩
    obtain ⟨u0, hu0⟩ := hsome 0 hn 0 hpos
    have hspot : sp = none := by simpa [Addr.add] using World.cell?_spot hu0
    subst hspot
    refine ⟨b, o, rfl, ?_, fun k x hx j u hu => ?_⟩
    · have hu1 : w.cell? ⟨b, o, none⟩ = some u0 := by simpa [Addr.add] using hu0
      unfold World.cell? at hu1
      split at hu1
      · rename_i hb2
        exact (Array.getElem?_eq_some_iff.1 hb2).1
      · cases hu1
    · rw [List.getElem?_map] at hx
      have hk : k < n := by
        rcases Nat.lt_or_ge k n with h2 | h2
        · exact h2
        · rw [List.getElem?_eq_none (by simpa using h2)] at hx; cases hx
      rw [List.getElem?_range hk] at hx
      simp only [Option.map_some, Option.some.injEq] at hx
      subst hx
      have hj : j < sz := by
        have := (List.getElem?_eq_some_iff.1 hu).1
        rwa [hf] at this
      have h3 := cell k hk j hj
      rw [hu] at h3
      rw [← h3]
      congr 1
      rw [Go.WideShapes.add_plain, Go.WideShapes.add_plain]
end

section
variable {HH : Type} {enc : TypeId × Value → HH} {w : World} {base b0 : Nat} {spare : Nat → Bool} {held : Bool} {r : Reach}
set_option maxRecDepth 100000 in
theorem elEw {n : Nat} {cs : List Value} {x : DataW HH × List MemPlace} (h : DataW.trod enc Try.prog w base spare held n 98 cs = some x) :
    ∃ a : Ent, cs = EC.enc .ent a ∧ ((-9223372036854775808 ≤ a.1 ∧ a.1 ≤ 9223372036854775807) ∧ (-9223372036854775808 ≤ a.2 ∧ a.2 ≤ 9223372036854775807)) := by
  obtain ⟨y0, y1, m, _, hl, h0, h1⟩ := trod_struct2 Try.underlying98 h
  obtain ⟨k, e0, _, w0⟩ := DataW.trod_int Try.underlying2 h0
  obtain ⟨v, e1, _, w1⟩ := DataW.trod_int Try.underlying2 h1
  have hl : cs.length = 2 := hl.trans (by kernel_rfl)
  have c1 : Try.prog.cellsOf 2 = 1 := by kernel_rfl
  match cs, hl with
  | [a, b], _ =>
    simp [c1] at e0 e1
    exact ⟨(k, v), by rw [e0, e1]; rfl, lit_i64 w0, lit_i64 w1⟩
set_option maxRecDepth 100000 in
/-- The same with what the entries' numbers are. -/
theorem openEw {v : Value} {d : DataW HH} {p : List MemPlace} (hv : Value.okWide Try.prog w r b0 22 v) (h : DataW.Trod enc Try.prog w base spare held 22 v d p) :
    ∃ (l : List Ent), Imm C0 w v EC.ent l ∧ ∀ x ∈ l, (-9223372036854775808 ≤ x.1 ∧ x.1 ≤ 9223372036854775807) ∧ (-9223372036854775808 ≤ x.2 ∧ x.2 ≤ 9223372036854775807) := by
  obtain ⟨A, n, c, l, rfl, hr, hq⟩ := openRowQ (α := Ent) (f := fun x => EC.enc .ent x) (sz := 2) Try.underlying22 (by kernel_rfl) (by decide) (fun _ => rfl) (fun h => elEw h) hv h
  obtain rfl := hr.len
  exact ⟨l, ⟨A, c, rfl, hr⟩, hq⟩
instance : Inhabited Chg := ⟨⟨0, 0, 0, 0⟩⟩
end
end Go.Proofs.Ytbonbaccmlomhaa.Sx
end
section
/- 'SetopsIntersect': the law returns true for every input, and its arguments read afterwards as they read before. -/
namespace Go.Proofs.Ytbonbaccmlomhaa.setopsIntersect
open Go.ChangeShapes Go.WideShapes Go.ChangeAt Go.RowKit Sx

set_option maxRecDepth 100000 in
theorem lifted (os : Os) (started : os.Started) (H : Type) (enc : TypeId × Value → H) :
    ReturnsInHanded {} Try.checked os 7 .any (Rows.setopsIntersectSpec.pre6 enc Try.prog Try.f7 Rows.setopsIntersectRow.domain false) (Rows.setopsIntersectSpec.post enc Try.prog Try.f7 false true false false) := by
  refine returnsInHanded_of_change (C := Try.checked) ownK started (by kernel_rfl) Try.func7
    (ChangeSpec.witness6 (enc := enc) (C := Try.checked) false ⟨#[], #[.slice none 0 0, .slice none 0 0, .int .u64 0, .bool false, .int .i64 0, .int .u16 0], []⟩ 8 (by kernel_rfl) (by kernel_rfl) (by kernel_rfl) (by kernel_rfl)) ?_
  intro W base args ds gs before hval0 hW hcnd _
  have hval : ∀ (j : Nat) t v, Try.f7.params[j]? = some t → args[j]? = some v → Value.okWide Try.prog W .any base t v := hval0
  have hW' := hW
  obtain ⟨p, q, hA0, hV, rfl, hfz, hnd⟩ := hW
  have hA : DataW.TrodAll enc Try.prog W 0 (fun _ => true) true Try.f7.params.toList args.toList ds p := hA0
  rw [Try.params7] at hA hval
  obtain ⟨v0, vs0, d0, ds0, p0, q0, hargs, rfl, rfl, h0, r0⟩ := trodAll_cons hA
  obtain ⟨v1, vs1, d1, ds1, p1, q1, rfl, rfl, rfl, h1, r1⟩ := trodAll_cons r0
  obtain ⟨v2, vs2, d2, ds2, p2, q2, rfl, rfl, rfl, h2, r2⟩ := trodAll_cons r1
  obtain ⟨v3, vs3, d3, ds3, p3, q3, rfl, rfl, rfl, h3, r3⟩ := trodAll_cons r2
  obtain ⟨v4, vs4, d4, ds4, p4, q4, rfl, rfl, rfl, h4, r4⟩ := trodAll_cons r3
  obtain ⟨v5, vs5, d5, ds5, p5, q5, rfl, rfl, rfl, h5, r5⟩ := trodAll_cons r4
  obtain ⟨rfl, rfl, rfl⟩ := trodAll_nil r5
  obtain rfl : args = #[v0, v1, v2, v3, v4, v5] := by cases args; simp_all
  obtain ⟨rfl, rfl⟩ := trodVars_none hV
  have k0 := h0
  have k1 := h1
  have k2 := h2
  have k3 := h3
  have k4 := h4
  have k5 := h5
  clear hA0 hval0
  simp only [List.append_nil] at hW'
  have hlt : ∀ x ∈ p0 ++ (p1 ++ (p2 ++ (p3 ++ (p4 ++ (p5))))), x.block < W.heap.size := fun x hx => by simpa using hW'.lt x (by simpa using hx)
  have l0 : ∀ x ∈ p0, x.block < W.heap.size := fun x hx => hlt x (by simp [hx])
  have l1 : ∀ x ∈ p1, x.block < W.heap.size := fun x hx => hlt x (by simp [hx])
  have l2 : ∀ x ∈ p2, x.block < W.heap.size := fun x hx => hlt x (by simp [hx])
  have l3 : ∀ x ∈ p3, x.block < W.heap.size := fun x hx => hlt x (by simp [hx])
  have l4 : ∀ x ∈ p4, x.block < W.heap.size := fun x hx => hlt x (by simp [hx])
  have l5 : ∀ x ∈ p5, x.block < W.heap.size := fun x hx => hlt x (by simp [hx])
  obtain ⟨L0, R0, Q0⟩ := openEw (hval 0 22 v0 rfl rfl) h0
  obtain ⟨L1, R1, Q1⟩ := openEw (hval 1 22 v1 rfl rfl) h1
  obtain ⟨a2, rfl, rfl, rfl, w2⟩ := open_int Try.underlying23 (hval 2 23 v2 rfl rfl) h2
  have b2 := lit_u64 w2
  obtain ⟨a3, rfl, rfl, rfl⟩ := open_bool Try.underlying4 (hval 3 4 v3 rfl rfl) h3
  obtain ⟨a4, rfl, rfl, rfl, w4⟩ := open_int Try.underlying3 (hval 4 3 v4 rfl rfl) h4
  have b4 := lit_i64 w4
  obtain ⟨a5, rfl, rfl, rfl, w5⟩ := open_int Try.underlying40 (hval 5 40 v5 rfl rfl) h5
  have b5 := lit_u16 w5
  refine (lawOf s_vi (args := [.at (.slc 0), .at (.slc 1), .at (.val (.int .u64 a2)), .at (.val (.bool a3)), .at (.val (.int .i64 a4)), .at (.val (.int .u16 a5))]) (H := [Chunk.row false EC.ent L0, Chunk.row false EC.ent L1]) (vs := [v0, v1, .int .u64 a2, .bool a3, .int .i64 a4, .int .u16 a5]) (σ := fun n => [v0, v1].getD n undef) (w := W) (fun K h => ⟨b2.1, b4.1, b4.2, b5.1, b5.2, fun x hx => (Q0 x hx).1, fun x hx => (Q1 x hx).1, h⟩)
    (Sat.imms [v0, v1] _ fun n c hc => by match n, hc with | 0, hc => exact ⟨_, _, (Option.some.inj hc).symm, R0⟩ | 1, hc => exact ⟨_, _, (Option.some.inj hc).symm, R1⟩ | n + 2, hc => simp at hc) (Rels.cons rfl (Rels.cons rfl (Rels.cons rfl (Rels.cons rfl (Rels.cons rfl (Rels.cons rfl Rels.nil)))))) (by simp [TV.names, At.names])).mono fun e W' ⟨he, hg⟩ => ?_
  subst he
  exact ⟨_, rfl, _, _, _, [] ++ [], _, [], hW', (trodAll_cons_mk (shut_bool Try.underlying4 true) trodAll_mk0), (trodAll_cons_mk (Below.trod laidO (by kernel_rfl) (of_decide_eq_true (by kernel_rfl)) k0 hg l0) (trodAll_cons_mk (Below.trod laidO (by kernel_rfl) (of_decide_eq_true (by kernel_rfl)) k1 hg l1) (trodAll_cons_mk (Below.trod laidO (by kernel_rfl) (of_decide_eq_true (by kernel_rfl)) k2 hg l2) (trodAll_cons_mk (Below.trod laidO (by kernel_rfl) (of_decide_eq_true (by kernel_rfl)) k3 hg l3) (trodAll_cons_mk (Below.trod laidO (by kernel_rfl) (of_decide_eq_true (by kernel_rfl)) k4 hg l4) (trodAll_cons_mk (Below.trod laidO (by kernel_rfl) (of_decide_eq_true (by kernel_rfl)) k5 hg l5) trodAll_mk0)))))), rfl, hg.frame _, fun h => by cases h⟩

theorem over : Rows.setopsIntersectRow.holds Try.pinned (OpenSpec.ofChange Rows.setopsIntersectSpec) :=
  OpenClaim.holds_of_wide 7 Try.f7 rfl rfl rfl rfl rfl rfl rfl ⟨rfl, rfl, rfl, rfl, rfl⟩ rfl rfl rfl rfl rfl (by kernel_rfl) Try.func7 (by kernel_rfl)
    (of_decide_eq_true (by kernel_rfl)) (by unfold Func.isWrapper; first | (rw [if_pos (by decide +kernel)]; kernel_rfl) | (rw [if_neg (by decide +kernel)]; exact ⟨rfl, rfl⟩))
    (fun os started H enc _ => lifted os started H enc)

theorem proved : Rows.SetopsIntersectSaid := over
#print axioms proved
end Go.Proofs.Ytbonbaccmlomhaa.setopsIntersect
end
