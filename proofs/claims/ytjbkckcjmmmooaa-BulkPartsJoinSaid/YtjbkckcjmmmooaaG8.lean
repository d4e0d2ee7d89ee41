/- A part of the proof. -/
import Derived.Test.YtjbkckcjmmmooaaG7
import Derived.Test.YtjbkckcjmmmooaaG6
import Derived.Test.YtjbkckcjmmmooaaG4
section
/- The first and the last entry of a tree. -/
namespace Go.Proofs.Ytjbkckcjmmmooaa.Sx
open Go

/-KEEP Wf exW inU live Arn.cap Arn.free Rep rdS Tr.size Tr.list ht entO List.head? List.getLast?-/
def tEvery : Tfm C0 := fun args H K => match args, H with
  | [.at (.val (.int .i64 _))], [] => K (.one (.at (vB true))) [] []
  | _, _ => False
theorem s_every : SoundT C0 114 tEvery := by
  refine .of Try.func114 (by decide) rfl fun args H K h hB => ⟨A0, trivial, ?_⟩
  unfold tEvery at h
  split at h <;> try exact h.elim
  exact Eq.mp (show _ = _ by kernel_rfl) h
structure XNfst (S : Arn) (t : Tr) where
  i : Int
  t' : Tr
  b : Option Ent
  m : Nat
  h : Rep S t' i ∧ (t'.list.head?).or b = t.list.head? ∧ m + ht t' ≤ ht t ∧ t'.size ≤ t.size
theorem step_fst (l r : Tr) (k v : Int) (b : Option Ent) : ((Tr.node l k v r).list.head?).or b = (l.list.head?).or (some (k, v)) := by
  have e : (Tr.node l k v r).list = l.list ++ (k, v) :: r.list := rfl
  rw [e]
  cases l.list <;> simp
noncomputable def aNfst (S : Arn) (t : Tr) : Ann C0 := { Γ := [(49, frameT [] tNode), (114, frameT [] tEvery), (132, frameT [] tEntry)], inv := fun n => match n with
  | 4 => some { X := XNfst S t, sl := [10, 9, 8, 6], tf := fun x => [vi .u32 x.i, vb x.b.isSome, .one (.at (.ptr 7 0)), .one (.at (.ptr 8 0))], hf := fun x => chS (rdS S x.m) ++ [.box [vI (x.b.getD (0, 0)).1, vI (x.b.getD (0, 0)).2], .box [vI 0, vI 0]], μ := fun x => x.t'.size, wr := [0] }
  | _ => none }
def tNfst : Tfm C0 := fun args H K => match args with
  | [.at (.ptr 0 0), .at (.val (.int .u32 i)), .at (.fn 114 [])] => arM H fun S => ∃ hs t, Wf S hs ∧ Rep S t i ∧ t.size ≤ 1000000 ∧ S.reads + t.size ≤ 3000000000000000000 ∧
    ∀ S' m o, S' = rdS S m → m ≤ ht t → o = t.list.head? → K (.tup [entO o, .at (vB o.isSome)]) (chS S') [0]
  | _ => False
noncomputable def aLfst : Ann C0 := { Γ := [(113, frameT [] tNfst)] }
def tLfst : Tfm C0 := fun args H K => match args with
  | [.at (.ptr 0 0), .at (.val (.int .u32 i))] => arM H fun S => ∃ hs t, Wf S hs ∧ Rep S t i ∧ t.size ≤ 1000000 ∧ S.reads + t.size ≤ 3000000000000000000 ∧
    ∀ S' m o, S' = rdS S m → m ≤ ht t → o = t.list.head? → K (.tup [entO o, .at (vB o.isSome)]) (chS S') [0]
  | _ => False
theorem vc_nfst (S : Arn) (i : Int) (K : KT) (hs : List Int) (t : Tr) (hw : Wf S hs) (hr : Rep S t i) (h1 : t.size ≤ 1000000) (h2 : S.reads + t.size ≤ 3000000000000000000)
    (h : ∀ S' m o, S' = rdS S m → m ≤ ht t → o = t.list.head? → K (.tup [entO o, .at (vB o.isSome)]) (chS S') [0]) :
    vc C0 (aNfst S t) Try.f113 [.at (.ptr 0 0), .at (vU i), .at (.fn 114 [])] (chS S) (normK 7 (wideK [0] K)) := by
  refine Eq.mp (show ((∃ x : XNfst S t, (True ∧ (True ∧ ((At.fn 114 []) = (At.fn 114 [])) ∧ True ∧ True ∧ ((Value.bool false) = (Value.bool (x.b.isSome))) ∧ ((Value.int IntKind.u32 (i)) = (Value.int IntKind.u32 (x.i))) ∧ True) ∧ (True ∧ True ∧ True ∧ ((Value.int IntKind.u64 (S.reads)) = (Value.int IntKind.u64 ((rdS S x.m).reads))) ∧ True) ∧ (True ∧ True ∧ True ∧ ((Value.int IntKind.u32 (S.fresh)) = (Value.int IntKind.u32 ((rdS S x.m).fresh))) ∧ True) ∧ ((S.nodes) = ((rdS S x.m).nodes)) ∧ ((S.counts) = ((rdS S x.m).counts)) ∧ ((S.used) = ((rdS S x.m).used)) ∧ ((S.gen) = ((rdS S x.m).gen)) ∧ ((S.rel) = ((rdS S x.m).rel)) ∧ (((Value.int IntKind.i64 0) = (Value.int IntKind.i64 ((x.b.getD (0, 0)).fst))) ∧ ((Value.int IntKind.i64 0) = (Value.int IntKind.i64 ((x.b.getD (0, 0)).snd))) ∧ True) ∧ (((Value.int IntKind.i64 0) = (Value.int IntKind.i64 0)) ∧ ((Value.int IntKind.i64 0) = (Value.int IntKind.i64 0)) ∧ True) ∧ True)) ∧
(∀ x : XNfst S t, (True → (brS (x.i != 0) (((inU x.i) ∧ (exW (rdS S x.m)) ∧ ((rdS S x.m).reads < 4000000000000000000) ∧ (∀ S' : Arn, (((S') = (rdS (rdS S x.m) ((rdS S x.m).us x.i).toNat)) → (brS (!(rdS S x.m).us x.i)
    ((K (SV.tup [(TV.agg [(At.val (Value.int IntKind.i64 ((x.b.getD (0, 0)).fst))), (At.val (Value.int IntKind.i64 ((x.b.getD (0, 0)).snd)))]), (TV.at (At.val (Value.bool (x.b.isSome))))]) [(Chunk.box [(At.ptr 1 0), (At.slc 2), (At.slc 3), (At.val (Value.int IntKind.u64 (S'.reads)))]), (Chunk.box [(At.slc 4), (At.slc 5), (At.slc 6), (At.val (Value.int IntKind.u32 (S'.fresh)))]), (Chunk.row true (EC.node) (S'.nodes)), (Chunk.row true (EC.int) (S'.counts)), (Chunk.row true (EC.bool) (S'.used)), (Chunk.row true (EC.u32) (S'.gen)), (Chunk.row true (EC.u32) (S'.rel))] [0])) ((∃ x' : XNfst S t, (True ∧ ((True ∧ ((At.fn 114 []) = (At.fn 114 [])) ∧ True ∧ True ∧ ((Value.bool true) = (Value.bool (x'.b.isSome))) ∧ ((Value.int IntKind.u32 (((rdS S x.m).nd x.i).left)) = (Value.int IntKind.u32 (x'.i))) ∧ True) ∧ (True ∧ True ∧ True ∧ ((Value.int IntKind.u64 (S'.reads)) = (Value.int IntKind.u64 ((rdS S x'.m).reads))) ∧ True) ∧ (True ∧ True ∧ True ∧ ((Value.int IntKind.u32 (S'.fresh)) = (Value.int IntKind.u32 ((rdS S x'.m).fresh))) ∧ True) ∧ ((S'.nodes) = ((rdS S x'.m).nodes)) ∧ ((S'.counts) = ((rdS S x'.m).counts)) ∧ ((S'.used) = ((rdS S x'.m).used)) ∧ ((S'.gen) = ((rdS S x'.m).gen)) ∧ ((S'.rel) = ((rdS S x'.m).rel)) ∧ (((Value.int IntKind.i64 (((rdS S x.m).nd x.i).key)) = (Value.int IntKind.i64 ((x'.b.getD (0, 0)).fst))) ∧ ((Value.int IntKind.i64 (((rdS S x.m).nd x.i).value)) = (Value.int IntKind.i64 ((x'.b.getD (0, 0)).snd))) ∧ True) ∧
    (((Value.int IntKind.i64 0) = (Value.int IntKind.i64 0)) ∧ ((Value.int IntKind.i64 0) = (Value.int IntKind.i64 0)) ∧ True) ∧ True) ∧ (x'.t'.size < x.t'.size))))))))) ((K (SV.tup [(TV.agg [(At.val (Value.int IntKind.i64 ((x.b.getD (0, 0)).fst))), (At.val (Value.int IntKind.i64 ((x.b.getD (0, 0)).snd)))]), (TV.at (At.val (Value.bool (x.b.isSome))))]) [(Chunk.box [(At.ptr 1 0), (At.slc 2), (At.slc 3), (At.val (Value.int IntKind.u64 ((rdS S x.m).reads)))]), (Chunk.box [(At.slc 4), (At.slc 5), (At.slc 6), (At.val (Value.int IntKind.u32 ((rdS S x.m).fresh)))]), (Chunk.row true (EC.node) ((rdS S x.m).nodes)), (Chunk.row true (EC.int) ((rdS S x.m).counts)), (Chunk.row true (EC.bool) ((rdS S x.m).used)), (Chunk.row true (EC.u32) ((rdS S x.m).gen)), (Chunk.row true (EC.u32) ((rdS S x.m).rel))] [0])))))) = _ by kernel_rfl) ?_
  have hrd := hw.rds
  have hb := htr_size t
  refine ⟨⟨⟨i, t, none, 0, hr, by simp, by omega, Nat.le_refl _⟩, ?_⟩, fun x _ => ?_⟩
  · (repeat' first | exact trivial | exact rfl | refine And.intro ?_ ?_)
    rw [rdS_zero]
  obtain ⟨xi, xt, xb, xm, h1', hb2, h3, h4⟩ := x
  dsimp only
  have hwx : Wf (rdS S xm) hs := hw.rd (by omega)
  refine brS_of (fun c => ?_) fun c => ?_
  · have c : xi ≠ 0 := by simpa using c
    cases xt with
    | nil => exact absurd h1' c
    | node l k v r =>
      obtain ⟨r1, r2, r3, r4, r5⟩ := h1'
      have hsz : l.size + r.size + 1 = (Tr.node l k v r).size := by simp [Tr.size]; omega
      have q1 := ht_l l r k v
      refine ⟨inU_of hw (.inr r1), ⟨_, hwx⟩, by show S.reads + (xm : Int) < _; omega, fun S1 e1 => brS_of (fun d => ?_) fun _ => ?_⟩
      · have d : (!S.us xi) = true := d
        have d : S.us xi = false := by simpa using d
        rw [r1] at d; cases d
      have e1 : S1 = rdS S (xm + 1) := by rw [e1, rdS_rdS]; show rdS S (xm + (S.us xi).toNat) = _; rw [r1]; rfl
      subst e1
      have ek : ((rdS S xm).nd xi).key = k := r2
      have ev : ((rdS S xm).nd xi).value = v := r3
      rw [ek, ev]
      refine ⟨⟨(S.nd xi).left, l, some (k, v), xm + 1, r4, by rw [← hb2, step_fst], by omega, by omega⟩, ?_⟩
      (repeat' first | exact trivial | exact rfl | refine And.intro ?_ ?_)
      show l.size < (Tr.node l k v r).size; omega
  · have c : xi = 0 := by simpa using c
    subst c
    have e := h1'.zero hw
    subst e
    exact h _ xm xb rfl (by omega) (by rw [← hb2]; simp [Tr.list])
theorem s_nfst : SoundT C0 113 tNfst := by
  refine .ofW [0] Try.func113 (by decide) rfl fun args H K h hB => ?_
  unfold tNfst at h
  split at h <;> try exact h.elim
  unfold arM at h
  split at h <;> try exact h.elim
  rename_i i _ rd fr nd ct us gn rl
  obtain ⟨hs, t, h1, h2, h3, h4, h5⟩ := h
  exact ⟨aNfst ⟨us, gn, rl, fr, nd, ct, rd⟩ t, ⟨frame C0.ok s_node _, frame C0.ok s_every _, frame C0.ok s_entry _, trivial⟩, vc_nfst ⟨us, gn, rl, fr, nd, ct, rd⟩ i K hs t h1 h2 h3 h4 h5⟩
theorem s_lfst : SoundT C0 86 tLfst := by
  refine .ofW [0] Try.func86 (by decide) rfl fun args H K h hB => ?_
  unfold tLfst at h
  split at h <;> try exact h.elim
  unfold arM at h
  split at h <;> try exact h.elim
  rename_i i _ rd fr nd ct us gn rl
  have key : ∀ S : Arn, (∃ hs t, Wf S hs ∧ Rep S t i ∧ t.size ≤ 1000000 ∧ S.reads + t.size ≤ 3000000000000000000 ∧
    ∀ S' m o, S' = rdS S m → m ≤ ht t → o = t.list.head? → K (.tup [entO o, .at (vB o.isSome)]) (chS S') [0]) → vc C0 aLfst Try.f86 [.at (.ptr 0 0), .at (vU i)] (chS S) (normK 7 (wideK [0] K)) := fun S h => Eq.mp (show (∃ hs : List Int, (∃ t : Tr, ((Wf S hs) ∧ (Rep S t i) ∧ (t.size ≤ 1000000) ∧ (S.reads + (↑t.size : Int) ≤ 3000000000000000000) ∧ (∀ S' : Arn, (∀ m : Nat, (∀ o : Option Ent, (((S') = (rdS S m)) → ((m ≤ ht t) → (((o) = (t.list.head?)) → (K (SV.tup [(TV.agg [(At.val (Value.int IntKind.i64 ((o.getD (0, 0)).fst))), (At.val (Value.int IntKind.i64 ((o.getD (0, 0)).snd)))]), (TV.at (At.val (Value.bool (o.isSome))))]) [(Chunk.box [(At.ptr 1 0), (At.slc 2), (At.slc 3), (At.val (Value.int IntKind.u64 (S'.reads)))]), (Chunk.box [(At.slc 4), (At.slc 5), (At.slc 6), (At.val (Value.int IntKind.u32 (S'.fresh)))]), (Chunk.row true (EC.node) (S'.nodes)), (Chunk.row true (EC.int) (S'.counts)), (Chunk.row true (EC.bool) (S'.used)), (Chunk.row true (EC.u32) (S'.gen)), (Chunk.row true (EC.u32) (S'.rel))] [0])))))))))) = _ by kernel_rfl) h
  exact ⟨aLfst, ⟨frame C0.ok s_nfst _, trivial⟩, key ⟨us, gn, rl, fr, nd, ct, rd⟩ h⟩
structure XNlst (S : Arn) (t : Tr) where
  i : Int
  t' : Tr
  b : Option Ent
  m : Nat
  h : Rep S t' i ∧ (t'.list.getLast?).or b = t.list.getLast? ∧ m + ht t' ≤ ht t ∧ t'.size ≤ t.size
theorem step_lst (l r : Tr) (k v : Int) (b : Option Ent) : ((Tr.node l k v r).list.getLast?).or b = (r.list.getLast?).or (some (k, v)) := by
  have e : (Tr.node l k v r).list = l.list ++ (k, v) :: r.list := rfl
  rw [e]
  rw [List.getLast?_append, List.getLast?_cons]; cases r.list.getLast? <;> simp
noncomputable def aNlst (S : Arn) (t : Tr) : Ann C0 := { Γ := [(49, frameT [] tNode), (114, frameT [] tEvery), (132, frameT [] tEntry)], inv := fun n => match n with
  | 4 => some { X := XNlst S t, sl := [10, 9, 8, 6], tf := fun x => [vi .u32 x.i, vb x.b.isSome, .one (.at (.ptr 7 0)), .one (.at (.ptr 8 0))], hf := fun x => chS (rdS S x.m) ++ [.box [vI (x.b.getD (0, 0)).1, vI (x.b.getD (0, 0)).2], .box [vI 0, vI 0]], μ := fun x => x.t'.size, wr := [0] }
  | _ => none }
def tNlst : Tfm C0 := fun args H K => match args with
  | [.at (.ptr 0 0), .at (.val (.int .u32 i)), .at (.fn 114 [])] => arM H fun S => ∃ hs t, Wf S hs ∧ Rep S t i ∧ t.size ≤ 1000000 ∧ S.reads + t.size ≤ 3000000000000000000 ∧
    ∀ S' m o, S' = rdS S m → m ≤ ht t → o = t.list.getLast? → K (.tup [entO o, .at (vB o.isSome)]) (chS S') [0]
  | _ => False
noncomputable def aLlst : Ann C0 := { Γ := [(115, frameT [] tNlst)] }
def tLlst : Tfm C0 := fun args H K => match args with
  | [.at (.ptr 0 0), .at (.val (.int .u32 i))] => arM H fun S => ∃ hs t, Wf S hs ∧ Rep S t i ∧ t.size ≤ 1000000 ∧ S.reads + t.size ≤ 3000000000000000000 ∧
    ∀ S' m o, S' = rdS S m → m ≤ ht t → o = t.list.getLast? → K (.tup [entO o, .at (vB o.isSome)]) (chS S') [0]
  | _ => False
theorem vc_nlst (S : Arn) (i : Int) (K : KT) (hs : List Int) (t : Tr) (hw : Wf S hs) (hr : Rep S t i) (h1 : t.size ≤ 1000000) (h2 : S.reads + t.size ≤ 3000000000000000000)
    (h : ∀ S' m o, S' = rdS S m → m ≤ ht t → o = t.list.getLast? → K (.tup [entO o, .at (vB o.isSome)]) (chS S') [0]) :
    vc C0 (aNlst S t) Try.f115 [.at (.ptr 0 0), .at (vU i), .at (.fn 114 [])] (chS S) (normK 7 (wideK [0] K)) := by
  refine Eq.mp (show ((∃ x : XNlst S t, (True ∧ (True ∧ ((At.fn 114 []) = (At.fn 114 [])) ∧ True ∧ True ∧ ((Value.bool false) = (Value.bool (x.b.isSome))) ∧ ((Value.int IntKind.u32 (i)) = (Value.int IntKind.u32 (x.i))) ∧ True) ∧ (True ∧ True ∧ True ∧ ((Value.int IntKind.u64 (S.reads)) = (Value.int IntKind.u64 ((rdS S x.m).reads))) ∧ True) ∧ (True ∧ True ∧ True ∧ ((Value.int IntKind.u32 (S.fresh)) = (Value.int IntKind.u32 ((rdS S x.m).fresh))) ∧ True) ∧ ((S.nodes) = ((rdS S x.m).nodes)) ∧ ((S.counts) = ((rdS S x.m).counts)) ∧ ((S.used) = ((rdS S x.m).used)) ∧ ((S.gen) = ((rdS S x.m).gen)) ∧ ((S.rel) = ((rdS S x.m).rel)) ∧ (((Value.int IntKind.i64 0) = (Value.int IntKind.i64 ((x.b.getD (0, 0)).fst))) ∧ ((Value.int IntKind.i64 0) = (Value.int IntKind.i64 ((x.b.getD (0, 0)).snd))) ∧ True) ∧ (((Value.int IntKind.i64 0) = (Value.int IntKind.i64 0)) ∧ ((Value.int IntKind.i64 0) = (Value.int IntKind.i64 0)) ∧ True) ∧ True)) ∧
(∀ x : XNlst S t, (True → (brS (x.i != 0) (((inU x.i) ∧ (exW (rdS S x.m)) ∧ ((rdS S x.m).reads < 4000000000000000000) ∧ (∀ S' : Arn, (((S') = (rdS (rdS S x.m) ((rdS S x.m).us x.i).toNat)) → (brS (!(rdS S x.m).us x.i)
    ((K (SV.tup [(TV.agg [(At.val (Value.int IntKind.i64 ((x.b.getD (0, 0)).fst))), (At.val (Value.int IntKind.i64 ((x.b.getD (0, 0)).snd)))]), (TV.at (At.val (Value.bool (x.b.isSome))))]) [(Chunk.box [(At.ptr 1 0), (At.slc 2), (At.slc 3), (At.val (Value.int IntKind.u64 (S'.reads)))]), (Chunk.box [(At.slc 4), (At.slc 5), (At.slc 6), (At.val (Value.int IntKind.u32 (S'.fresh)))]), (Chunk.row true (EC.node) (S'.nodes)), (Chunk.row true (EC.int) (S'.counts)), (Chunk.row true (EC.bool) (S'.used)), (Chunk.row true (EC.u32) (S'.gen)), (Chunk.row true (EC.u32) (S'.rel))] [0])) ((∃ x' : XNlst S t, (True ∧ ((True ∧ ((At.fn 114 []) = (At.fn 114 [])) ∧ True ∧ True ∧ ((Value.bool true) = (Value.bool (x'.b.isSome))) ∧ ((Value.int IntKind.u32 (((rdS S x.m).nd x.i).right)) = (Value.int IntKind.u32 (x'.i))) ∧ True) ∧ (True ∧ True ∧ True ∧ ((Value.int IntKind.u64 (S'.reads)) = (Value.int IntKind.u64 ((rdS S x'.m).reads))) ∧ True) ∧ (True ∧ True ∧ True ∧ ((Value.int IntKind.u32 (S'.fresh)) = (Value.int IntKind.u32 ((rdS S x'.m).fresh))) ∧ True) ∧ ((S'.nodes) = ((rdS S x'.m).nodes)) ∧ ((S'.counts) = ((rdS S x'.m).counts)) ∧ ((S'.used) = ((rdS S x'.m).used)) ∧ ((S'.gen) = ((rdS S x'.m).gen)) ∧ ((S'.rel) = ((rdS S x'.m).rel)) ∧ (((Value.int IntKind.i64 (((rdS S x.m).nd x.i).key)) = (Value.int IntKind.i64 ((x'.b.getD (0, 0)).fst))) ∧ ((Value.int IntKind.i64 (((rdS S x.m).nd x.i).value)) = (Value.int IntKind.i64 ((x'.b.getD (0, 0)).snd))) ∧ True) ∧
    (((Value.int IntKind.i64 0) = (Value.int IntKind.i64 0)) ∧ ((Value.int IntKind.i64 0) = (Value.int IntKind.i64 0)) ∧ True) ∧ True) ∧ (x'.t'.size < x.t'.size))))))))) ((K (SV.tup [(TV.agg [(At.val (Value.int IntKind.i64 ((x.b.getD (0, 0)).fst))), (At.val (Value.int IntKind.i64 ((x.b.getD (0, 0)).snd)))]), (TV.at (At.val (Value.bool (x.b.isSome))))]) [(Chunk.box [(At.ptr 1 0), (At.slc 2), (At.slc 3), (At.val (Value.int IntKind.u64 ((rdS S x.m).reads)))]), (Chunk.box [(At.slc 4), (At.slc 5), (At.slc 6), (At.val (Value.int IntKind.u32 ((rdS S x.m).fresh)))]), (Chunk.row true (EC.node) ((rdS S x.m).nodes)), (Chunk.row true (EC.int) ((rdS S x.m).counts)), (Chunk.row true (EC.bool) ((rdS S x.m).used)), (Chunk.row true (EC.u32) ((rdS S x.m).gen)), (Chunk.row true (EC.u32) ((rdS S x.m).rel))] [0])))))) = _ by kernel_rfl) ?_
  have hrd := hw.rds
  have hb := htr_size t
  refine ⟨⟨⟨i, t, none, 0, hr, by simp, by omega, Nat.le_refl _⟩, ?_⟩, fun x _ => ?_⟩
  · (repeat' first | exact trivial | exact rfl | refine And.intro ?_ ?_)
    rw [rdS_zero]
  obtain ⟨xi, xt, xb, xm, h1', hb2, h3, h4⟩ := x
  dsimp only
  have hwx : Wf (rdS S xm) hs := hw.rd (by omega)
  refine brS_of (fun c => ?_) fun c => ?_
  · have c : xi ≠ 0 := by simpa using c
    cases xt with
    | nil => exact absurd h1' c
    | node l k v r =>
      obtain ⟨r1, r2, r3, r4, r5⟩ := h1'
      have hsz : l.size + r.size + 1 = (Tr.node l k v r).size := by simp [Tr.size]; omega
      have q1 := ht_r l r k v
      refine ⟨inU_of hw (.inr r1), ⟨_, hwx⟩, by show S.reads + (xm : Int) < _; omega, fun S1 e1 => brS_of (fun d => ?_) fun _ => ?_⟩
      · have d : (!S.us xi) = true := d
        have d : S.us xi = false := by simpa using d
        rw [r1] at d; cases d
      have e1 : S1 = rdS S (xm + 1) := by rw [e1, rdS_rdS]; show rdS S (xm + (S.us xi).toNat) = _; rw [r1]; rfl
      subst e1
      have ek : ((rdS S xm).nd xi).key = k := r2
      have ev : ((rdS S xm).nd xi).value = v := r3
      rw [ek, ev]
      refine ⟨⟨(S.nd xi).right, r, some (k, v), xm + 1, r5, by rw [← hb2, step_lst], by omega, by omega⟩, ?_⟩
      (repeat' first | exact trivial | exact rfl | refine And.intro ?_ ?_)
      show r.size < (Tr.node l k v r).size; omega
  · have c : xi = 0 := by simpa using c
    subst c
    have e := h1'.zero hw
    subst e
    exact h _ xm xb rfl (by omega) (by rw [← hb2]; simp [Tr.list])
theorem s_nlst : SoundT C0 115 tNlst := by
  refine .ofW [0] Try.func115 (by decide) rfl fun args H K h hB => ?_
  unfold tNlst at h
  split at h <;> try exact h.elim
  unfold arM at h
  split at h <;> try exact h.elim
  rename_i i _ rd fr nd ct us gn rl
  obtain ⟨hs, t, h1, h2, h3, h4, h5⟩ := h
  exact ⟨aNlst ⟨us, gn, rl, fr, nd, ct, rd⟩ t, ⟨frame C0.ok s_node _, frame C0.ok s_every _, frame C0.ok s_entry _, trivial⟩, vc_nlst ⟨us, gn, rl, fr, nd, ct, rd⟩ i K hs t h1 h2 h3 h4 h5⟩
theorem s_llst : SoundT C0 87 tLlst := by
  refine .ofW [0] Try.func87 (by decide) rfl fun args H K h hB => ?_
  unfold tLlst at h
  split at h <;> try exact h.elim
  unfold arM at h
  split at h <;> try exact h.elim
  rename_i i _ rd fr nd ct us gn rl
  have key : ∀ S : Arn, (∃ hs t, Wf S hs ∧ Rep S t i ∧ t.size ≤ 1000000 ∧ S.reads + t.size ≤ 3000000000000000000 ∧
    ∀ S' m o, S' = rdS S m → m ≤ ht t → o = t.list.getLast? → K (.tup [entO o, .at (vB o.isSome)]) (chS S') [0]) → vc C0 aLlst Try.f87 [.at (.ptr 0 0), .at (vU i)] (chS S) (normK 7 (wideK [0] K)) := fun S h => Eq.mp (show (∃ hs : List Int, (∃ t : Tr, ((Wf S hs) ∧ (Rep S t i) ∧ (t.size ≤ 1000000) ∧ (S.reads + (↑t.size : Int) ≤ 3000000000000000000) ∧ (∀ S' : Arn, (∀ m : Nat, (∀ o : Option Ent, (((S') = (rdS S m)) → ((m ≤ ht t) → (((o) = (t.list.getLast?)) → (K (SV.tup [(TV.agg [(At.val (Value.int IntKind.i64 ((o.getD (0, 0)).fst))), (At.val (Value.int IntKind.i64 ((o.getD (0, 0)).snd)))]), (TV.at (At.val (Value.bool (o.isSome))))]) [(Chunk.box [(At.ptr 1 0), (At.slc 2), (At.slc 3), (At.val (Value.int IntKind.u64 (S'.reads)))]), (Chunk.box [(At.slc 4), (At.slc 5), (At.slc 6), (At.val (Value.int IntKind.u32 (S'.fresh)))]), (Chunk.row true (EC.node) (S'.nodes)), (Chunk.row true (EC.int) (S'.counts)), (Chunk.row true (EC.bool) (S'.used)), (Chunk.row true (EC.u32) (S'.gen)), (Chunk.row true (EC.u32) (S'.rel))] [0])))))))))) = _ by kernel_rfl) h
  exact ⟨aLlst, ⟨frame C0.ok s_nlst _, trivial⟩, key ⟨us, gn, rl, fr, nd, ct, rd⟩ h⟩
end Go.Proofs.Ytjbkckcjmmmooaa.Sx
end
section
/- join.room, Join, Concat, Split. -/
namespace Go.Proofs.Ytjbkckcjmmmooaa.Sx
open Go

/-KEEP Wf exW inU live Arn.cap Arn.free Rep rdS retL Tr.size Tr.list Tr.Bal balN jB cB gN TrR Got flt ltK gtK getE Asc Hn ht entO List.head? List.getLast?-/
/-- Whether an entry's key does not stand between two lists. -/
def ordB (L : List Ent) (k : Int) (R : List Ent) : Bool := (L.getLast?.isSome && decide ((L.getLast?.getD (0, 0)).1 ≥ k)) || (R.head?.isSome && decide ((R.head?.getD (0, 0)).1 ≤ k))
def jnM (S : Arn) (hs : List Int) (tl tr : Tr) (l r : Int) : Prop := Wf S hs ∧ Rep S tl l ∧ Rep S tr r ∧ tl.Bal ∧ tr.Bal ∧ tl.size + tr.size ≤ 60000 ∧ hs.length ≤ 100000000 ∧ S.reads ≤ 1000000000000000000
noncomputable def aJr : Ann C0 := { Γ := [(61, frameT [] tSize), (116, frameT [] tRes2), (66, frameT [] tRoom)] }
def tJr : Tfm C0 := fun args H K => match args with
  | [.at (.ptr 0 0), .at (.val (.int .u32 l)), .at (.val (.int .u32 r))] => arM H fun S => ∃ hs tl tr, jnM S hs tl tr l r ∧
    ∀ S' m b, S' = rdS S m → m ≤ 2 → b = decide (4 * (Hn ((tl.size : Int) + tr.size + 1) + 2) ≤ S.free) → K (.one (.at (vB b))) (chS S') [0]
  | _ => False
structure XJj (P : Arn → Prop) where
  S : Arn
  h : P S
noncomputable def aJj (P : Arn → Prop) (k v : Int) : Ann C0 := { Γ := [(86, frameT [] tLfst), (87, frameT [] tLlst), (90, frameT [] tJr), (69, frameT [] tHold), (91, frameT [] tJoin)], inv := fun n => match n with
  | 1005 => some { X := XJj P, sl := [6], tf := fun _ => [.one (.at (.ptr 7 0))], hf := fun x => chS x.S ++ [.box [vI k, vI v]], wr := W7 }
  | _ => none }
def tJj : Tfm C0 := fun args H K => match args with
  | [.at (.ptr 0 0), .at (.val (.int .u32 l)), .agg [.val (.int .i64 k), .val (.int .i64 v)], .at (.val (.int .u32 r))] => arM H fun S => ∃ hs tl tr, jnM S hs tl tr l r ∧ S.reads ≤ 900000000000000000 ∧
    (ordB tl.list k tr.list = true → ∀ S' m, S' = rdS S m → m ≤ ht tl + ht tr → K (.tup [.at (vU 0), .at (vI 7)]) (chS S') W7) ∧
    (ordB tl.list k tr.list = false → S.free < 4 * (Hn ((tl.size : Int) + tr.size + 1) + 2) → ∀ S' m, S' = rdS S m → m ≤ ht tl + ht tr + 2 → K (.tup [.at (vU 0), .at (vI 2)]) (chS S') W7) ∧
    (ordB tl.list k tr.list = false → 4 * (Hn ((tl.size : Int) + tr.size + 1) + 2) ≤ S.free → ∀ S' i, TrR S hs (tl.list ++ (k, v) :: tr.list) (jB tl.size tr.size) (4 * jB tl.size tr.size + ht tl + ht tr + 2) S' i → (balN tl.size tr.size → (S'.nd i).left = l ∧ (S'.nd i).right = r ∧ S'.nu = S.nu + 1) → K (.tup [.at (vU i), .at (vI 0)]) (chS S') W7)
  | _ => False
noncomputable def aJc : Ann C0 := { Γ := [(86, frameT [] tLfst), (87, frameT [] tLlst), (90, frameT [] tJr), (69, frameT [] tHold), (92, frameT [] tCat)] }
def tJc : Tfm C0 := fun args H K => match args with
  | [.at (.ptr 0 0), .at (.val (.int .u32 l)), .at (.val (.int .u32 r))] => arM H fun S => ∃ hs tl tr, jnM S hs tl tr l r ∧ S.reads ≤ 900000000000000000 ∧
    (l = 0 → ∀ S', S' = retL S r → K (.tup [.at (vU r), .at (vI 0)]) (chS S') W7) ∧
    (l ≠ 0 → r = 0 → ∀ S', S' = retL S l → K (.tup [.at (vU l), .at (vI 0)]) (chS S') W7) ∧
    (l ≠ 0 → r ≠ 0 → (tl.list.getLast?.getD (0, 0)).1 ≥ (tr.list.head?.getD (0, 0)).1 → ∀ S' m, S' = rdS S m → m ≤ ht tl + ht tr → K (.tup [.at (vU 0), .at (vI 7)]) (chS S') W7) ∧
    (l ≠ 0 → r ≠ 0 → ¬ (tl.list.getLast?.getD (0, 0)).1 ≥ (tr.list.head?.getD (0, 0)).1 → S.free < 4 * (Hn ((tl.size : Int) + tr.size + 1) + 2) → ∀ S' m, S' = rdS S m → m ≤ ht tl + ht tr + 2 → K (.tup [.at (vU 0), .at (vI 2)]) (chS S') W7) ∧
    (l ≠ 0 → r ≠ 0 → ¬ (tl.list.getLast?.getD (0, 0)).1 ≥ (tr.list.head?.getD (0, 0)).1 → 4 * (Hn ((tl.size : Int) + tr.size + 1) + 2) ≤ S.free → ∀ S' i, TrR S hs (tl.list ++ tr.list) (cB tl.size tr.size) (5 * cB tl.size tr.size + ht tl + ht tr + 2) S' i → K (.tup [.at (vU i), .at (vI 0)]) (chS S') W7)
  | _ => False
noncomputable def aJs : Ann C0 := { Γ := [(86, frameT [] tLfst), (87, frameT [] tLlst), (69, frameT [] tHold), (61, frameT [] tSize), (88, frameT [] (tRes1 12 0)), (66, frameT [] tRoom), (89, frameT [] (tSpl 1000000))] }
def tJs : Tfm C0 := fun args H K => match args with
  | [.at (.ptr 0 0), .at (.val (.int .u32 i)), .at (.val (.int .i64 key))] => arM H fun S => ∃ hs t, upM S hs t i ∧
    ((t.list.head?.isSome = false ∨ (t.list.head?.getD (0, 0)).1 > key) → ∀ S' m, S' = retL (rdS S m) i → m ≤ ht t → K (.tup [.at (vU 0), .at (vI 0), .at (vB false), .at (vU i), .at (vI 0)]) (chS S') W7) ∧
    (t.list.head?.isSome = true → ¬ (t.list.head?.getD (0, 0)).1 > key → (t.list.getLast?.getD (0, 0)).1 < key → ∀ S' m, S' = retL (rdS S m) i → m ≤ 2 * ht t → K (.tup [.at (vU i), .at (vI 0), .at (vB false), .at (vU 0), .at (vI 0)]) (chS S') W7) ∧
    (t.list.head?.isSome = true → ¬ (t.list.head?.getD (0, 0)).1 > key → ¬ (t.list.getLast?.getD (0, 0)).1 < key → S.free < 12 * (Hn t.size + 2) → ∀ S' m, S' = rdS S m → m ≤ 2 * ht t + 1 → K (.tup [.at (vU 0), .at (vI 0), .at (vB false), .at (vU 0), .at (vI 2)]) (chS S') W7) ∧
    (t.list.head?.isSome = true → ¬ (t.list.head?.getD (0, 0)).1 > key → ¬ (t.list.getLast?.getD (0, 0)).1 < key → 12 * (Hn t.size + 2) ≤ S.free → ∀ S' x y (o : Option Int), Got S hs (7 * gN (t.size + 1) + 1) (35 * gN (t.size + 1) + 5 + 2 * ht t + 1) S' (x :: y :: hs) →
      (∃ t1, Rep S' t1 x ∧ t1.list = flt (ltK key) t.list ∧ t1.Bal) → (∃ t2, Rep S' t2 y ∧ t2.list = flt (gtK key) t.list ∧ t2.Bal) → o = getE t.list key → K (.tup [.at (vU x), .at (vI (o.getD 0)), .at (vB o.isSome), .at (vU y), .at (vI 0)]) (chS S') W7)
  | _ => False
theorem room_of {b : Bool} {p f : Int} (hp : 0 ≤ p) (e : b = (decide (0 ≤ p) && decide (p ≤ f))) : b = decide (p ≤ f) := by
  rw [e, decide_eq_true hp, Bool.true_and]
theorem vc_jr (S : Arn) (l r : Int) (K : KT) (hs : List Int) (tl tr : Tr) (hm : jnM S hs tl tr l r)
    (h : ∀ S' m b, S' = rdS S m → m ≤ 2 → b = decide (4 * (Hn ((tl.size : Int) + tr.size + 1) + 2) ≤ S.free) → K (.one (.at (vB b))) (chS S') [0]) :
    vc C0 aJr Try.f90 [.at (.ptr 0 0), .at (vU l), .at (vU r)] (chS S) (normK 7 (wideK [0] K)) := by
  refine Eq.mp (show ((inU l) ∧
(exW S) ∧
(S.reads < 4000000000000000000) ∧
(∀ S' : Arn, (((S') = (rdS S (S.us l).toNat)) → ((inU r) ∧ (exW S') ∧ (S'.reads < 4000000000000000000) ∧ (∀ S'1 : Arn, (((S'1) = (rdS S' (S'.us r).toNat)) → ((0 ≤ (S.nd l).size) ∧ ((S.nd l).size ≤ 65536) ∧ (0 ≤ (S'.nd r).size) ∧ ((S'.nd r).size ≤ 65536) ∧ (∀ p : Int, (((p) = (4 * (Hn ((S.nd l).size + (S'.nd r).size + 1) + 2))) → ((exW S'1) ∧ (∀ b : Bool, (((b) = (decide (0 ≤ p) && decide (p ≤ S'1.free))) → (K (SV.one (TV.at (At.val (Value.bool (b))))) [(Chunk.box [(At.ptr 1 0), (At.slc 2), (At.slc 3), (At.val (Value.int IntKind.u64 (S'1.reads)))]), (Chunk.box [(At.slc 4), (At.slc 5), (At.slc 6), (At.val (Value.int IntKind.u32 (S'1.fresh)))]), (Chunk.row true (EC.node) (S'1.nodes)), (Chunk.row true (EC.int) (S'1.counts)), (Chunk.row true (EC.bool) (S'1.used)), (Chunk.row true (EC.u32) (S'1.gen)), (Chunk.row true (EC.u32) (S'1.rel))] [0]))))))))))))) = _ by kernel_rfl) ?_
  obtain ⟨w, rl, rr, bl, br, sz, hl, rd⟩ := hm
  have hrd := w.rds
  have hH := Hn_rng ((tl.size : Int) + tr.size + 1)
  refine ⟨inU_of w rl.us, ⟨_, w⟩, by omega, fun S1 e1 => ?_⟩
  have u1 := us_one (S.us l)
  have w1 : Wf S1 hs := by rw [e1]; exact w.rd (by omega)
  have rr1 : Rep S1 tr r := by rw [e1]; exact rep_rd rr _
  have q1 : S1.reads = S.reads + (S.us l).toNat := by rw [e1]; rfl
  refine ⟨inU_of w1 rr1.us, ⟨_, w1⟩, by omega, fun S2 e2 => ?_⟩
  have u2 := us_one (S1.us r)
  have w2 : Wf S2 hs := by rw [e2]; exact w1.rd (by omega)
  have z1 := rl.size w
  have z2 := rr1.size w1
  rw [z1, z2]
  refine ⟨by omega, by omega, by omega, by omega, fun p ep => ⟨⟨_, w2⟩, fun b eb => ?_⟩⟩
  have eb := room_of (by omega) eb
  have f2 : S2.free = S.free := by rw [e2, e1]; rfl
  rw [f2, ep] at eb
  exact h S2 ((S.us l).toNat + (S1.us r).toNat) b (by rw [e2]; rw [e1, rdS_rdS]) (by omega) eb
theorem s_jr : SoundT C0 90 tJr := by
  refine .ofW [0] Try.func90 (by decide) rfl fun args H K h hB => ?_
  unfold tJr at h
  split at h <;> try exact h.elim
  unfold arM at h
  split at h <;> try exact h.elim
  rename_i l r _ rd fr nd ct us gn rl
  obtain ⟨hs, tl, tr, h1, h2⟩ := h
  exact ⟨aJr, ⟨frame C0.ok s_size _, frame C0.ok s_rJn _, frame C0.ok s_room _, trivial⟩, vc_jr ⟨us, gn, rl, fr, nd, ct, rd⟩ l r K hs tl tr h1 h2⟩
theorem Hn_mono2 (a b : Nat) : Hn (((a + b : Nat) : Int)) ≤ Hn ((a : Int) + b + 1) := by
  have := Hn_mono1 (a + b)
  rw [show (((a + b : Nat) : Int) + 1) = (a : Int) + b + 1 by omega] at this
  exact this
theorem cB_Hn {a b : Nat} (h : a + b ≤ 60000) : (cB a b : Int) ≤ 4 * Hn ((a : Int) + b + 1) + 4 := by
  have x := cB_g (l := a) (r := b) (by omega)
  have y := gN_size (a + b)
  have z := Hn_mono2 a b
  omega
theorem jnM.rd {S : Arn} {hs : List Int} {tl tr : Tr} {l r : Int} (h : jnM S hs tl tr l r) {m : Nat} (hm : S.reads + m ≤ 1000000000000000000) : jnM (rdS S m) hs tl tr l r := by
  obtain ⟨w, rl, rr, bl, br, sz, hl, _⟩ := h
  exact ⟨w.rd (by omega), rep_rd rl _, rep_rd rr _, bl, br, sz, hl, hm⟩
def PJj (S : Arn) (tl tr : Tr) (k : Int) (S1 : Arn) : Prop := ordB tl.list k tr.list = false ∧ ∃ m, S1 = rdS S m ∧ m ≤ ht tl + ht tr
theorem vc_jc (S : Arn) (l r : Int) (K : KT) (hs : List Int) (tl tr : Tr) (hm : jnM S hs tl tr l r) (hrr : S.reads ≤ 900000000000000000)
    (h1 : l = 0 → ∀ S', S' = retL S r → K (.tup [.at (vU r), .at (vI 0)]) (chS S') W7)
    (h2 : l ≠ 0 → r = 0 → ∀ S', S' = retL S l → K (.tup [.at (vU l), .at (vI 0)]) (chS S') W7)
    (h3 : l ≠ 0 → r ≠ 0 → (tl.list.getLast?.getD (0, 0)).1 ≥ (tr.list.head?.getD (0, 0)).1 → ∀ S' m, S' = rdS S m → m ≤ ht tl + ht tr → K (.tup [.at (vU 0), .at (vI 7)]) (chS S') W7)
    (h4 : l ≠ 0 → r ≠ 0 → ¬ (tl.list.getLast?.getD (0, 0)).1 ≥ (tr.list.head?.getD (0, 0)).1 → S.free < 4 * (Hn ((tl.size : Int) + tr.size + 1) + 2) → ∀ S' m, S' = rdS S m → m ≤ ht tl + ht tr + 2 → K (.tup [.at (vU 0), .at (vI 2)]) (chS S') W7)
    (h5 : l ≠ 0 → r ≠ 0 → ¬ (tl.list.getLast?.getD (0, 0)).1 ≥ (tr.list.head?.getD (0, 0)).1 → 4 * (Hn ((tl.size : Int) + tr.size + 1) + 2) ≤ S.free → ∀ S' i, TrR S hs (tl.list ++ tr.list) (cB tl.size tr.size) (5 * cB tl.size tr.size + ht tl + ht tr + 2) S' i → K (.tup [.at (vU i), .at (vI 0)]) (chS S') W7) :
    vc C0 aJc Try.f55 [.at (.ptr 0 0), .at (vU l), .at (vU r)] (chS S) (normK 7 (wideK W7 K)) := by
  refine Eq.mp (show (brS (l == 0) (((live S r) ∧ (exW S) ∧ (∀ S' : Arn, (((S') = (retL S r)) → (K (SV.tup [(TV.at (At.val (Value.int IntKind.u32 (r)))), (TV.at (At.val (Value.int IntKind.i64 0)))]) [(Chunk.box [(At.ptr 1 0), (At.slc 2), (At.slc 3), (At.val (Value.int IntKind.u64 (S'.reads)))]), (Chunk.box [(At.slc 4), (At.slc 5), (At.slc 6), (At.val (Value.int IntKind.u32 (S'.fresh)))]), (Chunk.row true (EC.node) (S'.nodes)), (Chunk.row true (EC.int) (S'.counts)), (Chunk.row true (EC.bool) (S'.used)), (Chunk.row true (EC.u32) (S'.gen)), (Chunk.row true (EC.u32) (S'.rel))] [0, 1, 2, 3, 4, 5, 6]))))) ((brS (r == 0) (((live S l) ∧ (exW S) ∧ (∀ S' : Arn, (((S') = (retL S l)) → (K (SV.tup [(TV.at (At.val (Value.int IntKind.u32 (l)))), (TV.at (At.val (Value.int IntKind.i64 0)))]) [(Chunk.box [(At.ptr 1 0), (At.slc 2), (At.slc 3), (At.val (Value.int IntKind.u64 (S'.reads)))]), (Chunk.box [(At.slc 4), (At.slc 5), (At.slc 6), (At.val (Value.int IntKind.u32 (S'.fresh)))]), (Chunk.row true (EC.node) (S'.nodes)), (Chunk.row true (EC.int) (S'.counts)), (Chunk.row true (EC.bool) (S'.used)), (Chunk.row true (EC.u32) (S'.gen)), (Chunk.row true (EC.u32) (S'.rel))] [0, 1, 2, 3, 4, 5, 6]))))) ((∃ hs : List Int, (∃ t : Tr, ((Wf S hs) ∧ (Rep S t l) ∧ (t.size ≤ 1000000) ∧ (S.reads + (↑t.size : Int) ≤ 3000000000000000000) ∧ (∀ S' : Arn, (∀ m : Nat, (∀ o : Option Ent, (((S') = (rdS S m)) → ((m ≤ ht t) → (((o) = (t.list.getLast?)) → (∃ hs1 : List Int, (∃ t1 : Tr, ((Wf S' hs1) ∧ (Rep S' t1 r) ∧ (t1.size ≤ 1000000) ∧
    (S'.reads + (↑t1.size : Int) ≤ 3000000000000000000) ∧ (∀ S'1 : Arn, (∀ m1 : Nat, (∀ o1 : Option Ent, (((S'1) = (rdS S' m1)) → ((m1 ≤ ht t1) → (((o1) = (t1.list.head?)) → (brS (decide ((o.getD (0, 0)).fst ≥ (o1.getD (0, 0)).fst)) ((K (SV.tup [(TV.at (At.val (Value.int IntKind.u32 0))), (TV.at (At.val (Value.int IntKind.i64 7)))]) [(Chunk.box [(At.ptr 1 0), (At.slc 2), (At.slc 3), (At.val (Value.int IntKind.u64 (S'1.reads)))]), (Chunk.box [(At.slc 4), (At.slc 5), (At.slc 6), (At.val (Value.int IntKind.u32 (S'1.fresh)))]), (Chunk.row true (EC.node) (S'1.nodes)), (Chunk.row true (EC.int) (S'1.counts)), (Chunk.row true (EC.bool) (S'1.used)), (Chunk.row true (EC.u32) (S'1.gen)), (Chunk.row true (EC.u32) (S'1.rel))] [0, 1, 2, 3, 4, 5, 6])) ((∃ hs2 : List Int, (∃ tl : Tr, (∃ tr : Tr, ((jnM S'1 hs2 tl tr l r) ∧ (∀ S'2 : Arn, (∀ m2 : Nat, (∀ b : Bool, (((S'2) = (rdS S'1 m2)) → ((m2 ≤ 2) → (((b) = (decide (4 * (Hn ((↑tl.size : Int) + (↑tr.size : Int) + 1) + 2) ≤ S'1.free))) → (brS (!b)
    ((K (SV.tup [(TV.at (At.val (Value.int IntKind.u32 0))), (TV.at (At.val (Value.int IntKind.i64 2)))]) [(Chunk.box [(At.ptr 1 0), (At.slc 2), (At.slc 3), (At.val (Value.int IntKind.u64 (S'2.reads)))]), (Chunk.box [(At.slc 4), (At.slc 5), (At.slc 6), (At.val (Value.int IntKind.u32 (S'2.fresh)))]), (Chunk.row true (EC.node) (S'2.nodes)), (Chunk.row true (EC.int) (S'2.counts)), (Chunk.row true (EC.bool) (S'2.used)), (Chunk.row true (EC.u32) (S'2.gen)), (Chunk.row true (EC.u32) (S'2.rel))] [0, 1, 2, 3, 4, 5, 6])) (((live S'2 l) ∧ (exW S'2) ∧ (∀ S'3 : Arn, (((S'3) = (retL S'2 l)) → ((live S'3 r) ∧ (exW S'3) ∧ (∀ S'4 : Arn, (((S'4) = (retL S'3 r)) → (∃ hs3 : List Int, (∃ ta : Tr, (∃ tb : Tr, ((Wf S'4 (l :: r :: hs3)) ∧ (Rep S'4 ta l) ∧ (Rep S'4 tb r) ∧ (ta.Bal) ∧ (tb.Bal) ∧ (ta.size + tb.size ≤ 800000) ∧ ((↑(cB ta.size tb.size) : Int) ≤ S'4.free) ∧ (hs3.length ≤ 400000000) ∧ (S'4.reads + 5 * (↑(cB ta.size tb.size) : Int) ≤ 1600000000000000000) ∧ (∀ S'5 : Arn, (∀ i : Int, ((TrR S'4 hs3 (ta.list ++ tb.list) (cB ta.size tb.size) (5 * cB ta.size tb.size) S'5 i) →
    (K (SV.tup [(TV.at (At.val (Value.int IntKind.u32 (i)))), (TV.at (At.val (Value.int IntKind.i64 0)))]) [(Chunk.box [(At.ptr 1 0), (At.slc 2), (At.slc 3), (At.val (Value.int IntKind.u64 (S'5.reads)))]), (Chunk.box [(At.slc 4), (At.slc 5), (At.slc 6), (At.val (Value.int IntKind.u32 (S'5.fresh)))]), (Chunk.row true (EC.node) (S'5.nodes)), (Chunk.row true (EC.int) (S'5.counts)), (Chunk.row true (EC.bool) (S'5.used)), (Chunk.row true (EC.u32) (S'5.gen)), (Chunk.row true (EC.u32) (S'5.rel))] [0, 1, 2, 3, 4, 5, 6])))))))))))))))))))))))))))))))))))))))))))))))))) = _ by kernel_rfl) ?_
  obtain ⟨w, rl, rr, bl, br, sz, hl, rd⟩ := id hm
  have hrd := w.rds
  have hH := Hn_rng ((tl.size : Int) + tr.size + 1)
  have hb1 := Bal.height bl (by omega)
  have hb2 := Bal.height br (by omega)
  have hg1 := Hn_rng tl.size
  have hg2 := Hn_rng tr.size
  have hj := cB_Hn (a := tl.size) (b := tr.size) sz
  refine brS_of (fun c => ⟨rr.us, ⟨_, w⟩, h1 (by simpa using c)⟩) fun c => brS_of (fun c2 => ⟨rl.us, ⟨_, w⟩, h2 (by simpa using c) (by simpa using c2)⟩) fun c2 => ?_
  have c : l ≠ 0 := by simpa using c
  have c2 : r ≠ 0 := by simpa using c2
  refine ⟨hs, tl, w, rl, by omega, by omega, fun S1 m1 o e1 b1 eo => ?_⟩
  have w1 : Wf S1 hs := by rw [e1]; exact w.rd (by omega)
  have rr1 : Rep S1 tr r := by rw [e1]; exact rep_rd rr _
  have q1 : S1.reads = S.reads + m1 := by rw [e1]; rfl
  refine ⟨hs, tr, w1, rr1, by omega, by omega, fun S2 m2 o1 e2 b2 eo1 => ?_⟩
  have e12 : S2 = rdS S (m1 + m2) := by rw [e2, e1, rdS_rdS]
  rw [eo, eo1]
  refine brS_of (fun d => h3 c c2 (of_decide_eq_true d) S2 _ e12 (by omega)) fun d => ?_
  have ho := of_decide_eq_false d
  have jm : jnM S2 hs tl tr l r := by rw [e12]; exact hm.rd (by omega)
  refine ⟨hs, tl, tr, jm, fun S3 n b e3 hn eb => ?_⟩
  have e32 : S3 = rdS S (m1 + m2 + n) := by rw [e3, e12, rdS_rdS]
  have f2 : S2.free = S.free := by rw [e12]; rfl
  rw [f2] at eb
  refine brS_of (fun d => ?_) fun d => ?_
  · have d : b = false := by simpa using d
    rw [d] at eb
    exact h4 c c2 ho (by have := of_decide_eq_false eb.symm; omega) S3 _ e32 (by omega)
  have d : b = true := by simpa using d
  rw [d] at eb
  have hf := of_decide_eq_true eb.symm
  have gA : Got S hs 0 (ht tl + ht tr + 2) S3 hs := by rw [e32]; exact (Got.rds w (by omega)).mono (by omega) (by omega)
  have rl3 : Rep S3 tl l := by rw [e32]; exact rep_rd rl _
  have rr3 : Rep S3 tr r := by rw [e32]; exact rep_rd rr _
  have q3 : S3.reads = S.reads + (m1 + m2 + n : Nat) := by rw [e32]; rfl
  refine ⟨rl3.us, ⟨_, gA.wf⟩, fun S4 e4 => ?_⟩
  have g4 := retL_got (hs := hs) gA.wf rl3.us (by omega)
  rw [← e4] at g4
  have rl4 : Rep S4 tl l := by rw [e4]; exact rl3.retL
  have rr4 : Rep S4 tr r := by rw [e4]; exact rr3.retL
  have q4 : S4.reads = S3.reads := by rw [e4]; exact (retL_flds _ _).1
  refine ⟨rr4.us, ⟨_, g4.wf⟩, fun S5 e5 => ?_⟩
  have g5 := retL_got (hs := hs) g4.wf rr4.us (by simp; omega)
  rw [← e5] at g5
  have rl5 : Rep S5 tl l := by rw [e5]; exact rl4.retL
  have rr5 : Rep S5 tr r := by rw [e5]; exact rr4.retL
  have q5 : S5.reads = S4.reads := by rw [e5]; exact (retL_flds _ _).1
  have gB := (gA.seq g4 (h := hs) (fun _ h => h) (fun _ h => h)).seq g5 (h := hs) (fun _ h => h) (fun _ h => h)
  have f5 := gB.free w
  refine ⟨hs, tl, tr, g5.wf.perm (List.Perm.swap _ _ _), rl5, rr5, bl, br, by omega, by omega, by omega, by omega, fun S6 i tj => h5 c c2 ho hf S6 i ⟨(gB.seq tj.got (h := hs) (fun _ h => h) (fun _ h => h)).mono (by omega) (by omega), tj.tree⟩⟩
theorem s_jc : SoundT C0 55 tJc := by
  refine .ofW W7 Try.func55 (by decide) rfl fun args H K h hB => ?_
  unfold tJc at h
  split at h <;> try exact h.elim
  unfold arM at h
  split at h <;> try exact h.elim
  rename_i l r _ rd fr nd ct us gn rl
  obtain ⟨hs, tl, tr, h0, h1, h2, h3, h4, h5, h6⟩ := h
  exact ⟨aJc, ⟨frame C0.ok s_lfst _, frame C0.ok s_llst _, frame C0.ok s_jr _, frame C0.ok s_hold _, frame C0.ok s_cat _, trivial⟩, vc_jc ⟨us, gn, rl, fr, nd, ct, rd⟩ l r K hs tl tr h0 h1 h2 h3 h4 h5 h6⟩
/-! ### Where there is room -/
def tJjOk : Tfm C0 := fun args H K => match args with
  | [.at (.ptr 0 0), .at (.val (.int .u32 l)), .agg [.val (.int .i64 k), .val (.int .i64 v)], .at (.val (.int .u32 r))] => arM H fun S => ∃ hs tl tr, jnM S hs tl tr l r ∧ S.reads ≤ 900000000000000000 ∧ ordB tl.list k tr.list = false ∧ 4 * (Hn ((tl.size : Int) + tr.size + 1) + 2) ≤ S.free ∧
    ∀ S' i, TrR S hs (tl.list ++ (k, v) :: tr.list) (jB tl.size tr.size) (4 * jB tl.size tr.size + ht tl + ht tr + 2) S' i → K (.tup [.at (vU i), .at (vI 0)]) (chS S') W7
  | _ => False
def tJsOk : Tfm C0 := fun args H K => match args with
  | [.at (.ptr 0 0), .at (.val (.int .u32 i)), .at (.val (.int .i64 key))] => arM H fun S => ∃ hs t, upM S hs t i ∧ 12 * (Hn t.size + 2) ≤ S.free ∧
    ∀ S' x y (o : Option Int), Got S hs (7 * gN (t.size + 1) + 1) (35 * gN (t.size + 1) + 5 + 2 * ht t + 1) S' (x :: y :: hs) →
      (∃ t1, Rep S' t1 x ∧ t1.list = flt (ltK key) t.list ∧ t1.Bal) → (∃ t2, Rep S' t2 y ∧ t2.list = flt (gtK key) t.list ∧ t2.Bal) → o = getE t.list key → K (.tup [.at (vU x), .at (vI (o.getD 0)), .at (vB o.isSome), .at (vU y), .at (vI 0)]) (chS S') W7
  | _ => False
end Go.Proofs.Ytjbkckcjmmmooaa.Sx
end
section
/- rank.Count, bulk.inside, Keep, Drop. -/
namespace Go.Proofs.Ytjbkckcjmmmooaa.Sx
open Go

/-KEEP Wf exW inU live Arn.cap Arn.free Rep rdS retL Tr.size Tr.list Tr.Bal gN TrR Got flt frK toK ltK gtK getE Asc Hn ht entO upM betE bf sB cB lsT gtT-/
noncomputable def aRcn : Ann C0 := { Γ := [(135, frameT [] tBf)] }
def tRcn : Tfm C0 := fun args H K => match args with
  | [.at (.ptr 0 0), .at (.val (.int .u32 i)), .at (.val (.int .i64 lo)), .at (.val (.int .i64 hi))] => arM H fun S => ∃ hs t, upM S hs t i ∧
    ∀ S' m (c : Int), S' = rdS S m → m ≤ 4 * ht t → c = ((betE t.list lo hi).length : Nat) → K (.one (.at (vI c))) (chS S') [0]
  | _ => False
noncomputable def aIns9 : Ann C0 := { Γ := [(121, frameT [] tRcn), (61, frameT [] tSize)] }
def tInsd : Tfm C0 := fun args H K => match args with
  | [.at (.ptr 0 0), .at (.val (.int .u32 i)), .at (.val (.int .i64 lo)), .at (.val (.int .i64 hi))] => arM H fun S => ∃ hs t, upM S hs t i ∧ S.reads ≤ 900000000000000000 ∧
    ∀ S' m (c n : Int), S' = rdS S m → m ≤ 4 * ht t + 1 → c = ((betE t.list lo hi).length : Nat) → n = (t.size : Nat) → K (.tup [.at (vI c), .at (vI n)]) (chS S') [0]
  | _ => False
noncomputable def aKeep : Ann C0 := { Γ := [(94, frameT [] tInsd), (69, frameT [] tHold), (88, frameT [] (tRes1 12 0)), (66, frameT [] tRoom), (98, frameT [] (tCut frK 1000000)), (96, frameT [] (tCut toK 1000000))] }
/-- What keeping, or dropping, a part comes to: w is the list that is wanted. -/
def cutR (S : Arn) (hs : List Int) (t : Tr) (i : Int) (w : List Ent) (S' : Arn) (j e : Int) : Prop :=
  (w.length = 0 ∧ t.size ≠ 0 ∧ j = 0 ∧ e = 0 ∧ ∃ m, S' = rdS S m ∧ m ≤ 4 * ht t + 1) ∨
  (w.length = t.size ∧ j = i ∧ e = 0 ∧ ∃ m, S' = retL (rdS S m) i ∧ m ≤ 4 * ht t + 1) ∨
  (w.length ≠ 0 ∧ w.length ≠ t.size ∧ S.free < 12 * (Hn t.size + 2) ∧ j = 0 ∧ e = 2 ∧ ∃ m, S' = rdS S m ∧ m ≤ 4 * ht t + 1) ∨
  (w.length ≠ 0 ∧ w.length ≠ t.size ∧ 12 * (Hn t.size + 2) ≤ S.free ∧ e = 0 ∧ TrR S hs w (12 * gN (t.size + 1) + 6) (60 * gN (t.size + 1) + 30 + 6 * ht t + 1) S' j)
def tKeep (w : List Ent → Int → Int → List Ent) : Tfm C0 := fun args H K => match args with
  | [.at (.ptr 0 0), .at (.val (.int .u32 i)), .at (.val (.int .i64 lo)), .at (.val (.int .i64 hi))] => arM H fun S => ∃ hs t, upM S hs t i ∧ S.reads ≤ 900000000000000000 ∧
    ∀ S' j e, cutR S hs t i (w t.list lo hi) S' j e → K (.tup [.at (vU j), .at (vI e)]) (chS S') W7
  | _ => False
structure XDa (P : Arn → Int → Prop) where
  S : Arn
  less : Int
  h : P S less
structure XDb (P : Arn → Int → Int → Prop) where
  S : Arn
  less : Int
  more : Int
  h : P S less more
noncomputable def aDrop (P : Arn → Int → Prop) (P2 : Arn → Int → Int → Prop) : Ann C0 := { Γ := [(94, frameT [] tInsd), (69, frameT [] tHold), (88, frameT [] (tRes1 12 0)), (66, frameT [] tRoom), (98, frameT [] (tCut frK 1000000)), (96, frameT [] (tCut toK 1000000)), (95, frameT [] tLu_below), (97, frameT [] tLu_above), (92, frameT [] tCat)], inv := fun n => match n with
  | 1012 => some { X := XDa P, sl := [12, 13], tf := fun x => [vi .u32 x.less, vi .u32 0], hf := fun x => chS x.S, wr := W7 }
  | 1015 => some { X := XDb P2, sl := [12, 13], tf := fun x => [vi .u32 x.less, vi .u32 x.more], hf := fun x => chS x.S, wr := W7 }
  | _ => none }
theorem bf_ht : ∀ (t : Tr) (q : Int) (eq : Bool), (bf t q eq).2 ≤ 2 * ht t
  | .nil, q, eq => by simp [bf]
  | .node l k v r, q, eq => by
    have h1 := bf_ht l q eq
    have h2 := bf_ht r q eq
    have q1 := ht_l l r k v
    have q2 := ht_r l r k v
    have hm : ne0 l ≤ 1 := by unfold ne0; split <;> omega
    simp only [bf]
    split <;> simp only [] <;> omega
theorem gtT_ht : ∀ (t : Tr) (p : Int → Bool) (b : Option Ent), (gtT t p b).2 ≤ ht t
  | .nil, p, b => by simp [gtT]
  | .node l k v r, p, b => by
    have h1 := gtT_ht l p b
    have h2 := gtT_ht r p (some (k, v))
    have q1 := ht_l l r k v
    have q2 := ht_r l r k v
    simp only [gtT]
    split <;> simp only [] <;> omega
theorem lsT_ht : ∀ (t : Tr) (p : Int → Bool) (b : Option Ent), (lsT t p b).2 ≤ ht t
  | .nil, p, b => by simp [lsT]
  | .node l k v r, p, b => by
    have h1 := lsT_ht l p (some (k, v))
    have h2 := lsT_ht r p b
    have q1 := ht_l l r k v
    have q2 := ht_r l r k v
    simp only [lsT]
    split <;> simp only [] <;> omega
theorem cnt_split (l : List Ent) (lo hi : Int) (h : ¬ lo > hi) : (l.filter fun x => decide (x.1 < hi) || (true && decide (x.1 = hi))).length = (l.filter fun x => decide (x.1 < lo) || (false && decide (x.1 = lo))).length + (betE l lo hi).length := by
  induction l with
  | nil => rfl
  | cons x l ih =>
    unfold betE at ih ⊢
    rw [List.filter_cons, List.filter_cons, List.filter_cons]
    by_cases a : x.1 < lo
    · have e1 : (decide (x.1 < hi) || (true && decide (x.1 = hi))) = true := by simp; omega
      have e2 : (decide (x.1 < lo) || (false && decide (x.1 = lo))) = true := by simp; omega
      have e3 : ¬ (decide (lo ≤ x.1) && decide (x.1 ≤ hi)) = true := by simp; omega
      rw [if_pos e1, if_pos e2, if_neg e3, List.length_cons, List.length_cons]
      omega
    · have e2 : ¬ (decide (x.1 < lo) || (false && decide (x.1 = lo))) = true := by simp; omega
      rw [if_neg e2]
      by_cases b : x.1 ≤ hi
      · have e1 : (decide (x.1 < hi) || (true && decide (x.1 = hi))) = true := by simp; omega
        have e3 : (decide (lo ≤ x.1) && decide (x.1 ≤ hi)) = true := by simp; omega
        rw [if_pos e1, if_pos e3, List.length_cons, List.length_cons]
        omega
      · have e1 : ¬ (decide (x.1 < hi) || (true && decide (x.1 = hi))) = true := by simp; omega
        have e3 : ¬ (decide (lo ≤ x.1) && decide (x.1 ≤ hi)) = true := by simp; omega
        rw [if_neg e1, if_neg e3]
        omega
theorem betE_none (l : List Ent) {lo hi : Int} (h : lo > hi) : betE l lo hi = [] := by
  unfold betE
  rw [List.filter_eq_nil_iff]
  intro x _
  simp
  omega
theorem betE_le (l : List Ent) (lo hi : Int) : (betE l lo hi).length ≤ l.length := List.length_filter_le _ _
theorem vc_rcn (S : Arn) (i lo hi : Int) (K : KT) (hs : List Int) (t : Tr) (hm : upM S hs t i)
    (h : ∀ S' m (c : Int), S' = rdS S m → m ≤ 4 * ht t → c = ((betE t.list lo hi).length : Nat) → K (.one (.at (vI c))) (chS S') [0]) :
    vc C0 aRcn Try.f121 [.at (.ptr 0 0), .at (vU i), .at (vI lo), .at (vI hi)] (chS S) (normK 7 (wideK [0] K)) := by
  refine Eq.mp (show (brS (decide (lo > hi)) ((K (SV.one (TV.at (At.val (Value.int IntKind.i64 0)))) [(Chunk.box [(At.ptr 1 0), (At.slc 2), (At.slc 3), (At.val (Value.int IntKind.u64 (S.reads)))]), (Chunk.box [(At.slc 4), (At.slc 5), (At.slc 6), (At.val (Value.int IntKind.u32 (S.fresh)))]), (Chunk.row true (EC.node) (S.nodes)), (Chunk.row true (EC.int) (S.counts)), (Chunk.row true (EC.bool) (S.used)), (Chunk.row true (EC.u32) (S.gen)), (Chunk.row true (EC.u32) (S.rel))] [0])) ((∃ hs : List Int, (∃ t : Tr, ((Wf S hs) ∧ (Rep S t i) ∧ (t.size ≤ 1000000) ∧ (S.reads + 2 * (↑t.size : Int) ≤ 3000000000000000000) ∧ (∀ S' : Arn, (∀ c : Int, (((S') = (rdS S (bf t hi true).snd)) → (((c) = ((↑(bf t hi true).fst : Int))) → (∃ hs1 : List Int, (∃ t1 : Tr, ((Wf S' hs1) ∧ (Rep S' t1 i) ∧ (t1.size ≤ 1000000) ∧ (S'.reads + 2 * (↑t1.size : Int) ≤ 3000000000000000000) ∧ (∀ S'1 : Arn, (∀ c1 : Int, (((S'1) = (rdS S' (bf t1 lo false).snd)) → (((c1) = ((↑(bf t1 lo false).fst : Int))) → (K (SV.one (TV.at (At.val (Value.int IntKind.i64 (IntKind.i64.wrap (c - c1)))))) [(Chunk.box [(At.ptr 1 0), (At.slc 2), (At.slc 3), (At.val (Value.int IntKind.u64 (S'1.reads)))]), (Chunk.box [(At.slc 4), (At.slc 5), (At.slc 6), (At.val (Value.int IntKind.u32 (S'1.fresh)))]), (Chunk.row true (EC.node) (S'1.nodes)), (Chunk.row true (EC.int) (S'1.counts)), (Chunk.row true (EC.bool) (S'1.used)), (Chunk.row true (EC.u32) (S'1.gen)), (Chunk.row true (EC.u32) (S'1.rel))] [0]))))))))))))))))) = _ by kernel_rfl) ?_
  obtain ⟨w, rp, bal, asc, sz, hl, rd⟩ := hm
  have hrd := w.rds
  refine brS_of (fun c => ?_) fun c => ?_
  · exact h S 0 0 (rdS_zero S).symm (by omega) (by rw [betE_none _ (of_decide_eq_true c)]; rfl)
  have c : ¬ lo > hi := of_decide_eq_false c
  have b1 := bf_ht t hi true
  have b2 := bf_ht t lo false
  have l1 := bf_le t hi true
  have l2 := bf_le t lo false
  refine ⟨hs, t, w, rp, by omega, by omega, fun S1 c1 e1 ec1 => ?_⟩
  have w1 : Wf S1 hs := by rw [e1]; exact w.rd (by omega)
  have rp1 : Rep S1 t i := by rw [e1]; exact rep_rd rp _
  have q1 : S1.reads = S.reads + (bf t hi true).2 := by rw [e1]; rfl
  refine ⟨hs, t, w1, rp1, by omega, by omega, fun S2 c2 e2 ec2 => ?_⟩
  have cs := cnt_split t.list lo hi c
  rw [← bf_count t hi true asc, ← bf_count t lo false asc] at cs
  have bl := betE_le t.list lo hi
  rw [t.list_len] at bl
  refine h S2 ((bf t hi true).2 + (bf t lo false).2) _ (by rw [e2, e1, rdS_rdS]) (by omega) ?_
  rw [wrap_id (by omega) (by omega)]
  omega
theorem s_rcn : SoundT C0 121 tRcn := by
  refine .ofW [0] Try.func121 (by decide) rfl fun args H K h hB => ?_
  unfold tRcn at h
  split at h <;> try exact h.elim
  unfold arM at h
  split at h <;> try exact h.elim
  rename_i i lo hi _ rd fr nd ct us gn rl
  obtain ⟨hs, t, h1, h2⟩ := h
  exact ⟨aRcn, ⟨frame C0.ok s_bf _, trivial⟩, vc_rcn ⟨us, gn, rl, fr, nd, ct, rd⟩ i lo hi K hs t h1 h2⟩
theorem vc_insd (S : Arn) (i lo hi : Int) (K : KT) (hs : List Int) (t : Tr) (hm : upM S hs t i)
    (h : ∀ S' m (c n : Int), S' = rdS S m → m ≤ 4 * ht t + 1 → c = ((betE t.list lo hi).length : Nat) → n = (t.size : Nat) → K (.tup [.at (vI c), .at (vI n)]) (chS S') [0]) :
    vc C0 aIns9 Try.f94 [.at (.ptr 0 0), .at (vU i), .at (vI lo), .at (vI hi)] (chS S) (normK 7 (wideK [0] K)) := by
  refine Eq.mp (show (∃ hs : List Int, (∃ t : Tr, ((upM S hs t i) ∧ (∀ S' : Arn, (∀ m : Nat, (∀ c : Int, (((S') = (rdS S m)) → ((m ≤ 4 * ht t) → (((c) = ((↑(betE t.list lo hi).length : Int))) → ((inU i) ∧ (exW S') ∧ (S'.reads < 4000000000000000000) ∧ (∀ S'1 : Arn, (((S'1) = (rdS S' (S'.us i).toNat)) → (K (SV.tup [(TV.at (At.val (Value.int IntKind.i64 (c)))), (TV.at (At.val (Value.int IntKind.i64 ((S'.nd i).size))))]) [(Chunk.box [(At.ptr 1 0), (At.slc 2), (At.slc 3), (At.val (Value.int IntKind.u64 (S'1.reads)))]), (Chunk.box [(At.slc 4), (At.slc 5), (At.slc 6), (At.val (Value.int IntKind.u32 (S'1.fresh)))]), (Chunk.row true (EC.node) (S'1.nodes)), (Chunk.row true (EC.int) (S'1.counts)), (Chunk.row true (EC.bool) (S'1.used)), (Chunk.row true (EC.u32) (S'1.gen)), (Chunk.row true (EC.u32) (S'1.rel))] [0]))))))))))))) = _ by kernel_rfl) ?_
  obtain ⟨w, rp, bal, asc, sz, hl, rd⟩ := id hm
  have hrd := w.rds
  have hb := Bal.height bal (by omega)
  have hH := Hn_rng t.size
  refine ⟨hs, t, hm, fun S1 m c e1 hm1 ec => ?_⟩
  have w1 : Wf S1 hs := by rw [e1]; exact w.rd (by omega)
  have rp1 : Rep S1 t i := by rw [e1]; exact rep_rd rp _
  have q1 : S1.reads = S.reads + m := by rw [e1]; rfl
  have hu := us_one (S1.us i)
  exact ⟨inU_of w1 rp1.us, ⟨_, w1⟩, by omega, fun S2 e2 => h S2 (m + (S1.us i).toNat) c _ (by rw [e2]; rw [e1, rdS_rdS]) (by omega) ec (rp1.size w1)⟩
theorem s_insd : SoundT C0 94 tInsd := by
  refine .ofW [0] Try.func94 (by decide) rfl fun args H K h hB => ?_
  unfold tInsd at h
  split at h <;> try exact h.elim
  unfold arM at h
  split at h <;> try exact h.elim
  rename_i i lo hi _ rd fr nd ct us gn rl
  obtain ⟨hs, t, h1, _, h2⟩ := h
  exact ⟨aIns9, ⟨frame C0.ok s_rcn _, frame C0.ok s_size _, trivial⟩, vc_insd ⟨us, gn, rl, fr, nd, ct, rd⟩ i lo hi K hs t h1 h2⟩
theorem flt_flt (p q : Int → Bool) (l : List Ent) : flt p (flt q l) = flt (fun k => p k && q k) l := by
  unfold flt
  rw [List.filter_filter]
theorem keep_bet (l : List Ent) (lo hi : Int) : flt (toK hi true) (flt (frK lo true) l) = betE l lo hi := by
  rw [flt_flt]
  unfold flt betE
  congr 1
  funext x
  unfold toK frK
  dsimp only
  by_cases a : lo ≤ x.1
  · by_cases b : x.1 ≤ hi
    · have e : (decide (x.1 < hi) || (true && decide (x.1 = hi))) = true := by simp; omega
      have e2 : (decide (lo < x.1) || (true && decide (x.1 = lo))) = true := by simp; omega
      rw [e, e2, decide_eq_true a, decide_eq_true b]
    · have e : (decide (x.1 < hi) || (true && decide (x.1 = hi))) = false := by simp; omega
      rw [e, decide_eq_false b, Bool.and_false, Bool.false_and]
  · have e2 : (decide (lo < x.1) || (true && decide (x.1 = lo))) = false := by simp; omega
    rw [e2, decide_eq_false a, Bool.and_false, Bool.false_and]
theorem vc_keep (S : Arn) (i lo hi : Int) (K : KT) (hs : List Int) (t : Tr) (hm : upM S hs t i) (hrr : S.reads ≤ 900000000000000000)
    (h : ∀ S' j e, cutR S hs t i (betE t.list lo hi) S' j e → K (.tup [.at (vU j), .at (vI e)]) (chS S') W7) :
    vc C0 aKeep Try.f60 [.at (.ptr 0 0), .at (vU i), .at (vI lo), .at (vI hi)] (chS S) (normK 7 (wideK W7 K)) := by
  refine Eq.mp (show (∃ hs : List Int, (∃ t : Tr, ((upM S hs t i) ∧ (S.reads ≤ 900000000000000000) ∧ (∀ S' : Arn, (∀ m : Nat, (∀ c : Int, (∀ n : Int, (((S') = (rdS S m)) → ((m ≤ 4 * ht t + 1) → (((c) = ((↑(betE t.list lo hi).length : Int))) → (((n) = ((↑t.size : Int))) → (brS (c == 0) ((K (SV.tup [(TV.at (At.val (Value.int IntKind.u32 0))), (TV.at (At.val (Value.int IntKind.i64 0)))]) [(Chunk.box [(At.ptr 1 0), (At.slc 2), (At.slc 3), (At.val (Value.int IntKind.u64 (S'.reads)))]), (Chunk.box [(At.slc 4), (At.slc 5), (At.slc 6), (At.val (Value.int IntKind.u32 (S'.fresh)))]), (Chunk.row true (EC.node) (S'.nodes)), (Chunk.row true (EC.int) (S'.counts)), (Chunk.row true (EC.bool) (S'.used)), (Chunk.row true (EC.u32) (S'.gen)), (Chunk.row true (EC.u32) (S'.rel))] [0, 1, 2, 3, 4, 5, 6])) ((brS (c == n) (((live S' i) ∧ (exW S') ∧ (∀ S'1 : Arn, (((S'1) = (retL S' i)) → (K (SV.tup [(TV.at (At.val (Value.int IntKind.u32 (i)))), (TV.at (At.val (Value.int IntKind.i64 0)))]) [(Chunk.box [(At.ptr 1 0), (At.slc 2), (At.slc 3), (At.val (Value.int IntKind.u64 (S'1.reads)))]), (Chunk.box [(At.slc 4), (At.slc 5), (At.slc 6), (At.val (Value.int IntKind.u32 (S'1.fresh)))]), (Chunk.row true (EC.node) (S'1.nodes)), (Chunk.row true (EC.int) (S'1.counts)), (Chunk.row true (EC.bool) (S'1.used)), (Chunk.row true (EC.u32) (S'1.gen)), (Chunk.row true (EC.u32) (S'1.rel))] [0, 1, 2, 3, 4, 5, 6]))))) (((0 ≤ n) ∧ (n ≤ 65536) ∧ (∀ p : Int, (((p) = (12 * (Hn (n + 0) + 2))) → ((exW S') ∧ (∀ b : Bool,
    (((b) = (decide (0 ≤ p) && decide (p ≤ S'.free))) → (brS (!b) ((K (SV.tup [(TV.at (At.val (Value.int IntKind.u32 0))), (TV.at (At.val (Value.int IntKind.i64 2)))]) [(Chunk.box [(At.ptr 1 0), (At.slc 2), (At.slc 3), (At.val (Value.int IntKind.u64 (S'.reads)))]), (Chunk.box [(At.slc 4), (At.slc 5), (At.slc 6), (At.val (Value.int IntKind.u32 (S'.fresh)))]), (Chunk.row true (EC.node) (S'.nodes)), (Chunk.row true (EC.int) (S'.counts)), (Chunk.row true (EC.bool) (S'.used)), (Chunk.row true (EC.u32) (S'.gen)), (Chunk.row true (EC.u32) (S'.rel))] [0, 1, 2, 3, 4, 5, 6])) (((live S' i) ∧ (exW S') ∧ (∀ S'1 : Arn, (((S'1) = (retL S' i)) → (∃ hs1 : List Int, (∃ t1 : Tr, ((Wf S'1 (i :: hs1)) ∧ (Rep S'1 t1 i) ∧ (t1.Bal) ∧ (Asc t1.list) ∧ (t1.size < 1000000) ∧ (t1.size ≤ 700000) ∧ (4 * (↑(gN (t1.size + 1)) : Int) + 1 ≤ S'1.free) ∧ (hs1.length + t1.size ≤ 600000000) ∧ (S'1.reads + (20 * (↑(gN (t1.size + 1)) : Int) + 5) ≤ 1600000000000000000) ∧ (∀ S'2 : Arn, (∀ x : Int, (∀ m1 : Nat, ((m1 ≤ sB t1.size (flt (frK lo true) t1.list).length) → ((TrR S'1 hs1 (flt (frK lo true) t1.list) m1 (5 * m1) S'2 x) → (∃ hs2 : List Int, (∃ t2 : Tr, ((Wf S'2 (x :: hs2)) ∧ (Rep S'2 t2 x) ∧ (t2.Bal) ∧ (Asc t2.list) ∧ (t2.size < 1000000) ∧ (t2.size ≤ 700000) ∧ (4 * (↑(gN (t2.size + 1)) : Int) + 1 ≤ S'2.free) ∧ (hs2.length + t2.size ≤ 600000000) ∧ (S'2.reads + (20 * (↑(gN (t2.size + 1)) : Int) + 5) ≤ 1600000000000000000) ∧ (∀ S'3 : Arn, (∀ x1 : Int, (∀ m2 : Nat, ((m2 ≤ sB t2.size (flt (toK hi true) t2.list).length) →
    ((TrR S'2 hs2 (flt (toK hi true) t2.list) m2 (5 * m2) S'3 x1) → (K (SV.tup [(TV.at (At.val (Value.int IntKind.u32 (x1)))), (TV.at (At.val (Value.int IntKind.i64 0)))]) [(Chunk.box [(At.ptr 1 0), (At.slc 2), (At.slc 3), (At.val (Value.int IntKind.u64 (S'3.reads)))]), (Chunk.box [(At.slc 4), (At.slc 5), (At.slc 6), (At.val (Value.int IntKind.u32 (S'3.fresh)))]), (Chunk.row true (EC.node) (S'3.nodes)), (Chunk.row true (EC.int) (S'3.counts)), (Chunk.row true (EC.bool) (S'3.used)), (Chunk.row true (EC.u32) (S'3.gen)), (Chunk.row true (EC.u32) (S'3.rel))] [0, 1, 2, 3, 4, 5, 6]))))))))))))))))))))))))))))))))))))))))))) = _ by kernel_rfl) ?_
  obtain ⟨w, rp, bal, asc, sz, hl, rd⟩ := id hm
  have hrd := w.rds
  have hb := Bal.height bal (by omega)
  have hH := Hn_rng t.size
  have hg := gN_size t.size
  refine ⟨hs, t, hm, hrr, fun S1 m c n e1 hm1 ec en => ?_⟩
  have w1 : Wf S1 hs := by rw [e1]; exact w.rd (by omega)
  have rp1 : Rep S1 t i := by rw [e1]; exact rep_rd rp _
  have q1 : S1.reads = S.reads + m := by rw [e1]; rfl
  have f1 : S1.free = S.free := by rw [e1]; rfl
  refine brS_of (fun d => ?_) fun d => brS_of (fun d2 => ?_) fun d2 => ?_
  · have d : c = 0 := by simpa using d
    refine h S1 0 0 ?_
    by_cases z : t.size = 0
    · have et : t = .nil := by
        cases t with
        | nil => rfl
        | node a k v b => simp [Tr.size] at z
      have ei : i = 0 := by rw [et] at rp; exact rp
      exact .inr (.inl ⟨by omega, ei.symm, rfl, m, by rw [e1, ei]; unfold retL; rw [if_pos rfl], hm1⟩)
    · exact .inl ⟨by omega, z, rfl, rfl, m, e1, hm1⟩
  · have d2 : c = n := by simpa using d2
    exact ⟨rp1.us, ⟨_, w1⟩, fun S2 e2 => h S2 i 0 (.inr (.inl ⟨by omega, rfl, rfl, m, by rw [e2, e1], hm1⟩))⟩
  have d : c ≠ 0 := by simpa using d
  have d2 : c ≠ n := by simpa using d2
  rw [en, Int.add_zero]
  refine ⟨by omega, by omega, fun p ep => ⟨⟨_, w1⟩, fun b eb => ?_⟩⟩
  have eb := room_of (by omega) eb
  rw [f1] at eb
  refine brS_of (fun d3 => ?_) fun d3 => ?_
  · have d3 : b = false := by simpa using d3
    rw [d3] at eb
    exact h S1 0 2 (.inr (.inr (.inl ⟨by omega, by omega, by have := of_decide_eq_false eb.symm; omega, rfl, rfl, m, e1, hm1⟩)))
  have d3 : b = true := by simpa using d3
  rw [d3] at eb
  have hf := of_decide_eq_true eb.symm
  have gA : Got S hs 0 (4 * ht t + 1) S1 hs := by rw [e1]; exact (Got.rds w (by omega)).mono (by omega) (by omega)
  refine ⟨rp1.us, ⟨_, w1⟩, fun S2 e2 => ?_⟩
  have g2 := retL_got (hs := hs) w1 rp1.us (by omega)
  rw [← e2] at g2
  have rp2 : Rep S2 t i := by rw [e2]; exact rp1.retL
  have q2 : S2.reads = S1.reads := by rw [e2]; exact (retL_flds _ _).1
  have gB := gA.seq g2 (h := hs) (fun _ h => h) (fun _ h => h)
  have f2 := gB.free w
  refine ⟨hs, t, g2.wf, rp2, bal, asc, by omega, by omega, by omega, by omega, by omega, fun S3 x m1 hm1' tr => ?_⟩
  have l1 := flt_len (p := frK lo true) (l := t.list)
  rw [t.list_len] at l1
  have k1 := gN_mono (v := (flt (frK lo true) t.list).length + 1) (w := t.size + 1) (by omega) (by omega)
  unfold sB at hm1'
  obtain ⟨u, ru, lu, bu⟩ := tr.tree
  have zu : u.size = (flt (frK lo true) t.list).length := by rw [← u.list_len, lu]
  have ku := gN_mono (v := u.size + 1) (w := t.size + 1) (by omega) (by omega)
  have f3 := tr.got.free g2.wf
  have q3 := tr.got.rd
  refine ⟨hs, u, tr.got.wf, ru, bu, by rw [lu]; exact flt_asc asc, by omega, by omega, by omega, by omega, by omega, fun S4 x1 m2 hm2 tr2 => ?_⟩
  have l2 := flt_len (p := toK hi true) (l := u.list)
  rw [u.list_len] at l2
  have k2 := gN_mono (v := (flt (toK hi true) u.list).length + 1) (w := t.size + 1) (by omega) (by omega)
  unfold sB at hm2
  rw [lu, keep_bet] at tr2
  exact h S4 x1 0 (.inr (.inr (.inr ⟨by omega, by omega, by omega, rfl, (((gB.seq tr.got (h := hs) (fun _ h => h) (fun _ h => h)).seq tr2.got (fun _ h => h) (fun _ h => h)).mono (by omega) (by omega)), tr2.tree⟩)))
theorem s_keep : SoundT C0 60 (tKeep betE) := by
  refine .ofW W7 Try.func60 (by decide) rfl fun args H K h hB => ?_
  unfold tKeep at h
  split at h <;> try exact h.elim
  unfold arM at h
  split at h <;> try exact h.elim
  rename_i i lo hi _ rd fr nd ct us gn rl
  obtain ⟨hs, t, h1, h2, h3⟩ := h
  exact ⟨aKeep, ⟨frame C0.ok s_insd _, frame C0.ok s_hold _, frame C0.ok s_rSpl _, frame C0.ok s_room _, frame C0.ok (s_frm _) _, frame C0.ok (s_to _) _, trivial⟩, vc_keep ⟨us, gn, rl, fr, nd, ct, rd⟩ i lo hi K hs t h1 h2 h3⟩
theorem drop_out {l : List Ent} {lo hi : Int} (ha : Asc l) (h : lo ≤ hi) : flt (toK lo false) l ++ flt (frK hi false) l = outE l lo hi := by
  induction l with
  | nil => rfl
  | cons x l ih =>
    have ih := ih ha.tail
    have hd : ∀ y ∈ l, x.1 < y.1 := (List.pairwise_cons.1 ha).1
    unfold flt outE at ih ⊢
    rw [List.filter_cons, List.filter_cons, List.filter_cons]
    by_cases a : x.1 < lo
    · have e1 : toK lo false x.1 = true := by simp [toK]; omega
      have e2 : ¬ frK hi false x.1 = true := by simp [frK]; omega
      have e3 : (decide (x.1 < lo) || decide (hi < x.1)) = true := by simp; omega
      rw [if_pos e1, if_neg e2, if_pos e3, ← ih]; rfl
    · have e1 : ¬ toK lo false x.1 = true := by simp [toK]; omega
      rw [if_neg e1]
      by_cases b : hi < x.1
      · have e2 : frK hi false x.1 = true := by simp [frK]; omega
        have e3 : (decide (x.1 < lo) || decide (hi < x.1)) = true := by simp; omega
        rw [if_pos e2, if_pos e3, ← ih]
        have : l.filter (fun x => toK lo false x.1) = [] := by
          rw [List.filter_eq_nil_iff]
          intro y hy
          have := hd y hy
          simp [toK]; omega
        rw [this]; rfl
      · have e2 : ¬ frK hi false x.1 = true := by simp [frK]; omega
        have e3 : ¬ (decide (x.1 < lo) || decide (hi < x.1)) = true := by simp; omega
        rw [if_neg e2, if_neg e3, ← ih]
theorem out_len (l : List Ent) (lo hi : Int) (h : lo ≤ hi ∨ (betE l lo hi).length = 0) : (outE l lo hi).length + (betE l lo hi).length = l.length ∨ lo > hi := by
  by_cases c : lo > hi
  · exact .inr c
  · refine .inl ?_
    clear h
    induction l with
    | nil => rfl
    | cons x l ih =>
      unfold outE betE at ih ⊢
      rw [List.filter_cons, List.filter_cons, List.length_cons]
      by_cases a : (decide (x.1 < lo) || decide (hi < x.1)) = true
      · have e : ¬ (decide (lo ≤ x.1) && decide (x.1 ≤ hi)) = true := by simp at a ⊢; omega
        rw [if_pos a, if_neg e, List.length_cons]; omega
      · have e : (decide (lo ≤ x.1) && decide (x.1 ≤ hi)) = true := by simp at a ⊢; omega
        rw [if_neg a, if_pos e, List.length_cons]; omega
theorem find_none {l : List Ent} {p : Int → Bool} (h : (l.find? fun x => p x.1).isSome = false) : flt p l = [] := by
  have h : l.find? (fun x => p x.1) = none := by simpa using h
  rw [List.find?_eq_none] at h
  exact flt_none fun x hx => by simpa using h x hx
theorem rep_all {S S' : Arn} {hs : List Int} {t : Tr} {i : Int} (w : Wf S hs) (st : Stay S S' hs) (rp : Rep S t i) : Rep S' t i :=
  Rep.stay (w.us0 (Int.le_refl 0)) st rp (rp.us.imp id w.reached)
/-- Where a drop stands between: a part is made and held. -/
def PDa (S : Arn) (hs : List Int) (t : Tr) (lo : Int) (S1 : Arn) (less : Int) : Prop := TrR S hs (flt (toK lo false) t.list) (4 * gN (t.size + 1) + 1) (20 * gN (t.size + 1) + 5 + 5 * ht t + 1) S1 less
def PDb (S : Arn) (hs : List Int) (t : Tr) (lo hi : Int) (S1 : Arn) (less more : Int) : Prop := Got S hs (8 * gN (t.size + 1) + 2) (40 * gN (t.size + 1) + 10 + 6 * ht t + 1) S1 (less :: more :: hs) ∧ (∃ t1, Rep S1 t1 less ∧ t1.list = flt (toK lo false) t.list ∧ t1.Bal) ∧ ∃ t2, Rep S1 t2 more ∧ t2.list = flt (frK hi false) t.list ∧ t2.Bal
theorem vc_drop (S : Arn) (i lo hi : Int) (K : KT) (hs : List Int) (t : Tr) (hm : upM S hs t i) (hrr : S.reads ≤ 900000000000000000)
    (h : ∀ S' j e, cutR S hs t i (outE t.list lo hi) S' j e ∨ (lo > hi ∧ cutR S hs t i t.list S' j e) → K (.tup [.at (vU j), .at (vI e)]) (chS S') W7) :
    vc C0 (aDrop (PDa S hs t lo) (PDb S hs t lo hi)) Try.f59 [.at (.ptr 0 0), .at (vU i), .at (vI lo), .at (vI hi)] (chS S) (normK 7 (wideK W7 K)) := by
  generalize hP : PDa S hs t lo = P
  generalize hP2 : PDb S hs t lo hi = P2
  refine Eq.mp (show (∃ hs : List Int, (∃ t : Tr, ((upM S hs t i) ∧ (S.reads ≤ 900000000000000000) ∧ (∀ S' : Arn, (∀ m : Nat, (∀ c : Int, (∀ n : Int, (((S') = (rdS S m)) → ((m ≤ 4 * ht t + 1) → (((c) = ((↑(betE t.list lo hi).length : Int))) → (((n) = ((↑t.size : Int))) → (brS (c == 0) (((live S' i) ∧ (exW S') ∧ (∀ S'1 : Arn, (((S'1) = (retL S' i)) → (K (SV.tup [(TV.at (At.val (Value.int IntKind.u32 (i)))), (TV.at (At.val (Value.int IntKind.i64 0)))]) [(Chunk.box [(At.ptr 1 0), (At.slc 2), (At.slc 3), (At.val (Value.int IntKind.u64 (S'1.reads)))]), (Chunk.box [(At.slc 4), (At.slc 5), (At.slc 6), (At.val (Value.int IntKind.u32 (S'1.fresh)))]), (Chunk.row true (EC.node) (S'1.nodes)), (Chunk.row true (EC.int) (S'1.counts)), (Chunk.row true (EC.bool) (S'1.used)), (Chunk.row true (EC.u32) (S'1.gen)), (Chunk.row true (EC.u32) (S'1.rel))] [0, 1, 2, 3, 4, 5, 6]))))) ((brS (c == n) ((K (SV.tup [(TV.at (At.val (Value.int IntKind.u32 0))), (TV.at (At.val (Value.int IntKind.i64 0)))]) [(Chunk.box [(At.ptr 1 0), (At.slc 2), (At.slc 3), (At.val (Value.int IntKind.u64 (S'.reads)))]), (Chunk.box [(At.slc 4), (At.slc 5), (At.slc 6), (At.val (Value.int IntKind.u32 (S'.fresh)))]), (Chunk.row true (EC.node) (S'.nodes)), (Chunk.row true (EC.int) (S'.counts)), (Chunk.row true (EC.bool) (S'.used)), (Chunk.row true (EC.u32) (S'.gen)), (Chunk.row true (EC.u32) (S'.rel))] [0, 1, 2, 3, 4, 5, 6])) (((0 ≤ n) ∧ (n ≤ 65536) ∧ (∀ p : Int, (((p) = (12 * (Hn (n + 0) + 2))) → ((exW S') ∧ (∀ b : Bool,
    (((b) = (decide (0 ≤ p) && decide (p ≤ S'.free))) → (brS (!b) ((K (SV.tup [(TV.at (At.val (Value.int IntKind.u32 0))), (TV.at (At.val (Value.int IntKind.i64 2)))]) [(Chunk.box [(At.ptr 1 0), (At.slc 2), (At.slc 3), (At.val (Value.int IntKind.u64 (S'.reads)))]), (Chunk.box [(At.slc 4), (At.slc 5), (At.slc 6), (At.val (Value.int IntKind.u32 (S'.fresh)))]), (Chunk.row true (EC.node) (S'.nodes)), (Chunk.row true (EC.int) (S'.counts)), (Chunk.row true (EC.bool) (S'.used)), (Chunk.row true (EC.u32) (S'.gen)), (Chunk.row true (EC.u32) (S'.rel))] [0, 1, 2, 3, 4, 5, 6])) (((∃ hs1 : List Int, (∃ t1 : Tr, ((Wf S' hs1) ∧ (Rep S' t1 i) ∧ (t1.size ≤ 1000000) ∧ (S'.reads + (↑t1.size : Int) ≤ 3000000000000000000) ∧ (∀ S'1 : Arn, (∀ o : Option Ent, (((S'1) = (rdS S' (gtT t1 (fun k => decide (k < lo)) none).snd)) → (((o) = ((gtT t1 (fun k => decide (k < lo)) none).fst)) → (brS (o.isSome) (((live S'1 i) ∧ (exW S'1) ∧ (∀ S'2 : Arn, (((S'2) = (retL S'1 i)) → (∃ hs2 : List Int, (∃ t2 : Tr, ((Wf S'2 (i :: hs2)) ∧ (Rep S'2 t2 i) ∧ (t2.Bal) ∧ (Asc t2.list) ∧ (t2.size < 1000000) ∧ (t2.size ≤ 700000) ∧ (4 * (↑(gN (t2.size + 1)) : Int) + 1 ≤ S'2.free) ∧ (hs2.length + t2.size ≤ 600000000) ∧ (S'2.reads + (20 * (↑(gN (t2.size + 1)) : Int) + 5) ≤ 1600000000000000000) ∧ (∀ S'3 : Arn, (∀ x : Int, (∀ m1 : Nat, ((m1 ≤ sB t2.size (flt (toK lo false) t2.list).length) → ((TrR S'2 hs2 (flt (toK lo false) t2.list) m1 (5 * m1) S'3 x) → (∃ x1 : XDa P, (True ∧ (True ∧
    ((Value.int IntKind.u32 (i)) = (Value.int IntKind.u32 (i))) ∧ ((Value.int IntKind.i64 (hi)) = (Value.int IntKind.i64 (hi))) ∧ ((Value.int IntKind.u32 (x)) = (Value.int IntKind.u32 (x1.less))) ∧ ((Value.int IntKind.u32 0) = (Value.int IntKind.u32 0)) ∧ True) ∧ (True ∧ True ∧ True ∧ ((Value.int IntKind.u64 (S'3.reads)) = (Value.int IntKind.u64 (x1.S.reads))) ∧ True) ∧ (True ∧ True ∧ True ∧ ((Value.int IntKind.u32 (S'3.fresh)) = (Value.int IntKind.u32 (x1.S.fresh))) ∧ True) ∧ ((S'3.nodes) = (x1.S.nodes)) ∧ ((S'3.counts) = (x1.S.counts)) ∧ ((S'3.used) = (x1.S.used)) ∧ ((S'3.gen) = (x1.S.gen)) ∧ ((S'3.rel) = (x1.S.rel)) ∧ True)))))))))))))) ((∃ x : XDa P, (True ∧ (True ∧ ((Value.int IntKind.u32 (i)) = (Value.int IntKind.u32 (i))) ∧ ((Value.int IntKind.i64 (hi)) = (Value.int IntKind.i64 (hi))) ∧ ((Value.int IntKind.u32 0) = (Value.int IntKind.u32 (x.less))) ∧ ((Value.int IntKind.u32 0) = (Value.int IntKind.u32 0)) ∧ True) ∧ (True ∧ True ∧ True ∧ ((Value.int IntKind.u64 (S'1.reads)) = (Value.int IntKind.u64 (x.S.reads))) ∧ True) ∧ (True ∧ True ∧ True ∧ ((Value.int IntKind.u32 (S'1.fresh)) = (Value.int IntKind.u32 (x.S.fresh))) ∧ True) ∧ ((S'1.nodes) = (x.S.nodes)) ∧ ((S'1.counts) = (x.S.counts)) ∧ ((S'1.used) = (x.S.used)) ∧ ((S'1.gen) = (x.S.gen)) ∧ ((S'1.rel) = (x.S.rel)) ∧ True))))))))))) ∧ (∀ x : XDa P, (True → ((∃ hs1 : List Int, (∃ t1 : Tr, ((Wf x.S hs1) ∧ (Rep x.S t1 i) ∧ (t1.size ≤ 1000000) ∧ (x.S.reads + (↑t1.size : Int) ≤ 3000000000000000000) ∧ (∀ S'1 : Arn,
    (∀ o : Option Ent, (((S'1) = (rdS x.S (lsT t1 (fun k => decide (k > hi)) none).snd)) → (((o) = ((lsT t1 (fun k => decide (k > hi)) none).fst)) → (brS (o.isSome) (((live S'1 i) ∧ (exW S'1) ∧ (∀ S'2 : Arn, (((S'2) = (retL S'1 i)) → (∃ hs2 : List Int, (∃ t2 : Tr, ((Wf S'2 (i :: hs2)) ∧ (Rep S'2 t2 i) ∧ (t2.Bal) ∧ (Asc t2.list) ∧ (t2.size < 1000000) ∧ (t2.size ≤ 700000) ∧ (4 * (↑(gN (t2.size + 1)) : Int) + 1 ≤ S'2.free) ∧ (hs2.length + t2.size ≤ 600000000) ∧ (S'2.reads + (20 * (↑(gN (t2.size + 1)) : Int) + 5) ≤ 1600000000000000000) ∧ (∀ S'3 : Arn, (∀ x1 : Int, (∀ m1 : Nat, ((m1 ≤ sB t2.size (flt (frK hi false) t2.list).length) → ((TrR S'2 hs2 (flt (frK hi false) t2.list) m1 (5 * m1) S'3 x1) → (∃ x2 : XDb P2, (True ∧ (True ∧ ((Value.int IntKind.u32 (x.less)) = (Value.int IntKind.u32 (x2.less))) ∧ ((Value.int IntKind.u32 (x1)) = (Value.int IntKind.u32 (x2.more))) ∧ True) ∧ (True ∧ True ∧ True ∧ ((Value.int IntKind.u64 (S'3.reads)) = (Value.int IntKind.u64 (x2.S.reads))) ∧ True) ∧ (True ∧ True ∧ True ∧ ((Value.int IntKind.u32 (S'3.fresh)) = (Value.int IntKind.u32 (x2.S.fresh))) ∧ True) ∧ ((S'3.nodes) = (x2.S.nodes)) ∧ ((S'3.counts) = (x2.S.counts)) ∧ ((S'3.used) = (x2.S.used)) ∧ ((S'3.gen) = (x2.S.gen)) ∧ ((S'3.rel) = (x2.S.rel)) ∧ True)))))))))))))) ((∃ x1 : XDb P2, (True ∧ (True ∧ ((Value.int IntKind.u32 (x.less)) = (Value.int IntKind.u32 (x1.less))) ∧ ((Value.int IntKind.u32 0) = (Value.int IntKind.u32 (x1.more))) ∧ True) ∧ (True ∧ True ∧ True ∧
    ((Value.int IntKind.u64 (S'1.reads)) = (Value.int IntKind.u64 (x1.S.reads))) ∧ True) ∧ (True ∧ True ∧ True ∧ ((Value.int IntKind.u32 (S'1.fresh)) = (Value.int IntKind.u32 (x1.S.fresh))) ∧ True) ∧ ((S'1.nodes) = (x1.S.nodes)) ∧ ((S'1.counts) = (x1.S.counts)) ∧ ((S'1.used) = (x1.S.used)) ∧ ((S'1.gen) = (x1.S.gen)) ∧ ((S'1.rel) = (x1.S.rel)) ∧ True))))))))))) ∧ (∀ x1 : XDb P2, (True → (∃ hs1 : List Int, (∃ ta : Tr, (∃ tb : Tr, ((Wf x1.S (x1.less :: x1.more :: hs1)) ∧ (Rep x1.S ta x1.less) ∧ (Rep x1.S tb x1.more) ∧ (ta.Bal) ∧ (tb.Bal) ∧ (ta.size + tb.size ≤ 800000) ∧ ((↑(cB ta.size tb.size) : Int) ≤ x1.S.free) ∧ (hs1.length ≤ 400000000) ∧ (x1.S.reads + 5 * (↑(cB ta.size tb.size) : Int) ≤ 1600000000000000000) ∧ (∀ S'1 : Arn, (∀ i1 : Int, ((TrR x1.S hs1 (ta.list ++ tb.list) (cB ta.size tb.size) (5 * cB ta.size tb.size) S'1 i1) → (K (SV.tup [(TV.at (At.val (Value.int IntKind.u32 (i1)))), (TV.at (At.val (Value.int IntKind.i64 0)))]) [(Chunk.box [(At.ptr 1 0), (At.slc 2), (At.slc 3), (At.val (Value.int IntKind.u64 (S'1.reads)))]), (Chunk.box [(At.slc 4), (At.slc 5), (At.slc 6), (At.val (Value.int IntKind.u32 (S'1.fresh)))]), (Chunk.row true (EC.node) (S'1.nodes)), (Chunk.row true (EC.int) (S'1.counts)), (Chunk.row true (EC.bool) (S'1.used)), (Chunk.row true (EC.u32) (S'1.gen)), (Chunk.row true (EC.u32) (S'1.rel))] [0, 1, 2, 3, 4, 5, 6]))))))))))))))))))))))))))))))))))))) = _ by kernel_rfl) ?_
  subst hP hP2
  obtain ⟨w, rp, bal, asc, sz, hl, rd⟩ := id hm
  have hrd := w.rds
  have hb := Bal.height bal (by omega)
  have hH := Hn_rng t.size
  have hg := gN_size t.size
  have hlen := t.list_len
  refine ⟨hs, t, hm, hrr, fun S1 m c n e1 hm1 ec en => ?_⟩
  have w1 : Wf S1 hs := by rw [e1]; exact w.rd (by omega)
  have rp1 : Rep S1 t i := by rw [e1]; exact rep_rd rp _
  have q1 : S1.reads = S.reads + m := by rw [e1]; rfl
  have f1 : S1.free = S.free := by rw [e1]; rfl
  have ol := out_len t.list lo hi
  refine brS_of (fun d => ?_) fun d => brS_of (fun d2 => ?_) fun d2 => ?_
  · have d : c = 0 := by simpa using d
    refine ⟨rp1.us, ⟨_, w1⟩, fun S2 e2 => h S2 i 0 ?_⟩
    rcases ol (.inr (by omega)) with o | o
    · exact .inl (.inr (.inl ⟨by omega, rfl, rfl, m, by rw [e2, e1], hm1⟩))
    · exact .inr ⟨o, .inr (.inl ⟨hlen, rfl, rfl, m, by rw [e2, e1], hm1⟩)⟩
  all_goals
    have d : c ≠ 0 := by simpa using d
    have hlo : lo ≤ hi := by
      by_cases z : lo ≤ hi
      · exact z
      · rw [betE_none _ (by omega)] at ec
        exact absurd ec d
    have ol := (ol (.inl hlo)).resolve_right (by omega)
  · have d2 : c = n := by simpa using d2
    exact h S1 0 0 (.inl (.inl ⟨by omega, by omega, rfl, rfl, m, e1, hm1⟩))
  have d2 : c ≠ n := by simpa using d2
  rw [en, Int.add_zero]
  refine ⟨by omega, by omega, fun p ep => ⟨⟨_, w1⟩, fun b eb => ?_⟩⟩
  have eb := room_of (by omega) eb
  rw [f1] at eb
  refine brS_of (fun d3 => ?_) fun d3 => ?_
  · have d3 : b = false := by simpa using d3
    rw [d3] at eb
    exact h S1 0 2 (.inl (.inr (.inr (.inl ⟨by omega, by omega, by have := of_decide_eq_false eb.symm; omega, rfl, rfl, m, e1, hm1⟩))))
  have d3 : b = true := by simpa using d3
  rw [d3] at eb
  have hf := of_decide_eq_true eb.symm
  have gA : Got S hs 0 (4 * ht t + 1) S1 hs := by rw [e1]; exact (Got.rds w (by omega)).mono (by omega) (by omega)
  refine ⟨⟨hs, t, w1, rp1, by omega, by have := htr_size t; omega, fun S2 o e2 eo => ?_⟩, fun z _ => ?_⟩
  · have gt := gtT_ht t (fun k => decide (k < lo)) none
    have gB : Got S hs 0 (5 * ht t + 1) S2 hs := by
      rw [e2]
      exact ((gA.seq (Got.rds (hs := hs) w1 (by omega)) (fun _ h => h) (fun _ h => h))).mono (by omega) (by omega)
    have rp2 : Rep S2 t i := by rw [e2]; exact rep_rd rp1 _
    have f2 := gB.free w
    have q2 := gB.rd
    refine brS_of (fun c => ?_) fun c => ?_
    · refine ⟨rp2.us, ⟨_, gB.wf⟩, fun S3 e3 => ?_⟩
      have g3 := retL_got (hs := hs) gB.wf rp2.us (by omega)
      rw [← e3] at g3
      have rp3 : Rep S3 t i := by rw [e3]; exact rp2.retL
      have gC := gB.seq g3 (h := hs) (fun _ h => h) (fun _ h => h)
      have f3 := gC.free w
      have q3 := gC.rd
      refine ⟨hs, t, g3.wf, rp3, bal, asc, by omega, by omega, by omega, by omega, by omega, fun S4 x m1 hm2 tr => ⟨⟨S4, x, ⟨?_, tr.tree⟩⟩, ?_⟩⟩
      · have l1 := flt_len (p := toK lo false) (l := t.list)
        have k1 := gN_mono (v := (flt (toK lo false) t.list).length + 1) (w := t.size + 1) (by omega) (by omega)
        unfold sB at hm2
        exact (gC.seq tr.got (fun _ h => h) (fun _ h => h)).mono (by omega) (by omega)
      (repeat' first | exact trivial | exact rfl | refine And.intro ?_ ?_)
    · have en : flt (toK lo false) t.list = [] := by
        have hfd := gtT_find t (fun k => decide (k < lo)) none asc (fun a b hab hb => by simp at hb ⊢; omega)
        rw [← eo, Option.or_none] at hfd
        have e0 : (t.list.reverse.find? fun x => decide (x.1 < lo)).isSome = false := by rw [← hfd]; exact c
        have := find_none (p := fun k => decide (k < lo)) e0
        have e9 : flt (fun k => decide (k < lo)) t.list.reverse = (flt (toK lo false) t.list).reverse := by
          unfold flt
          rw [List.filter_reverse]
          congr 2
          funext x
          simp [toK]
        rw [e9] at this
        simpa using this
      refine ⟨⟨S2, 0, ⟨(⟨gB.wf.zero_cons (by omega), gB.stay, gB.len, gB.nu, gB.rd0, gB.rd⟩ : Got S hs 0 (5 * ht t + 1) S2 (0 :: hs)).mono (by omega) (by omega), .nil, rfl, by rw [en]; rfl, trivial⟩⟩, ?_⟩
      (repeat' first | exact trivial | exact rfl | refine And.intro ?_ ?_)
  obtain ⟨S2, less, tr⟩ := z
  dsimp only
  obtain ⟨u, ru, lu, bu⟩ := tr.tree
  have g2 := tr.got
  have f2 := g2.free w
  have q2 := g2.rd
  have w2 : Wf S2 (less :: hs) := g2.wf
  have rp2 : Rep S2 t i := rep_all w g2.stay rp
  refine ⟨⟨less :: hs, t, w2, rp2, by omega, by have := htr_size t; omega, fun S3 o e3 eo => ?_⟩, fun z _ => ?_⟩
  · have lt := lsT_ht t (fun k => decide (k > hi)) none
    have gR : Got S2 (less :: hs) 0 (ht t) S3 (less :: hs) := by rw [e3]; exact (Got.rds w2 (by omega)).mono (by omega) (by omega)
    have rp3 : Rep S3 t i := by rw [e3]; exact rep_rd rp2 _
    have ru3 : Rep S3 u less := by rw [e3]; exact rep_rd ru _
    have gB : Got S hs (4 * gN (t.size + 1) + 1) (20 * gN (t.size + 1) + 5 + 6 * ht t + 1) S3 (less :: hs) := (g2.seq gR (h := hs) (fun _ h => h) (fun _ h => by simp [h])).mono (by omega) (by omega)
    have f3 := gB.free w
    have q3 := gB.rd
    refine brS_of (fun c => ?_) fun c => ?_
    · refine ⟨rp3.us, ⟨_, gB.wf⟩, fun S4 e4 => ?_⟩
      have g4 := retL_got (hs := less :: hs) gB.wf rp3.us (by simp; omega)
      rw [← e4] at g4
      have rp4 : Rep S4 t i := by rw [e4]; exact rp3.retL
      have ru4 : Rep S4 u less := by rw [e4]; exact ru3.retL
      have gC := gB.seq g4 (h := hs) (fun _ h => h) (fun _ h => by simp [h])
      have f4 := gC.free w
      have q4 := gC.rd
      refine ⟨less :: hs, t, g4.wf, rp4, bal, asc, by omega, by omega, by omega, by simp; omega, by omega, fun S5 x m1 hm2 tr2 => ⟨⟨S5, less, x, ?_, ⟨u, ru4.held g4.wf tr2.got.stay (.inr (by simp)), lu, bu⟩, tr2.tree⟩, ?_⟩⟩
      · have l1 := flt_len (p := frK hi false) (l := t.list)
        have k1 := gN_mono (v := (flt (frK hi false) t.list).length + 1) (w := t.size + 1) (by omega) (by omega)
        unfold sB at hm2
        exact ((gC.seq tr2.got (fun _ h => h) (fun _ h => by simp [h])).mono (by omega) (by omega)).perm (List.Perm.swap _ _ _)
      (repeat' first | exact trivial | exact rfl | refine And.intro ?_ ?_)
    · have en : flt (frK hi false) t.list = [] := by
        have hfd := lsT_find t (fun k => decide (k > hi)) none asc (fun a b hab hb => by simp at hb ⊢; omega)
        rw [← eo, Option.or_none] at hfd
        have e0 : (t.list.find? fun x => decide (x.1 > hi)).isSome = false := by rw [← hfd]; exact c
        have := find_none (p := fun k => decide (k > hi)) e0
        rw [← this]
        unfold flt
        congr 1
        funext x
        simp [frK]
      refine ⟨⟨S3, less, 0, (⟨(gB.wf.zero_cons (by simp; omega)).perm (List.Perm.swap _ _ _), gB.stay, gB.len, gB.nu, gB.rd0, gB.rd⟩ : Got S hs (4 * gN (t.size + 1) + 1) (20 * gN (t.size + 1) + 5 + 6 * ht t + 1) S3 (less :: 0 :: hs)).mono (by omega) (by omega), ⟨u, ru3, lu, bu⟩, .nil, rfl, by rw [en]; rfl, trivial⟩, ?_⟩
      (repeat' first | exact trivial | exact rfl | refine And.intro ?_ ?_)
  obtain ⟨S3, l3, more, g3, ⟨ua, ra, la, ba⟩, ub, rb, lb, bb⟩ := z
  dsimp only
  have f3 := g3.free w
  have q3 := g3.rd
  have za : ua.size + ub.size + (betE t.list lo hi).length = t.size := by
    have := congrArg List.length (drop_out asc hlo)
    rw [List.length_append, ← la, ← lb, ua.list_len, ub.list_len] at this
    omega
  have cb := cB_g (l := ua.size) (r := ub.size) (by omega)
  have k1 := gN_mono (v := ua.size + ub.size + 1) (w := t.size + 1) (by omega) (by omega)
  refine ⟨hs, ua, ub, g3.wf, ra, rb, ba, bb, by omega, by omega, by omega, by omega, fun S4 j tj => h S4 j 0 (.inl (.inr (.inr (.inr ⟨by omega, by omega, by omega, rfl, ?_⟩))))⟩
  rw [la, lb, drop_out asc hlo] at tj
  exact ⟨(g3.seq tj.got (fun _ h => h) (fun _ h => h)).mono (by omega) (by omega), tj.tree⟩
def tDrop : Tfm C0 := fun args H K => match args with
  | [.at (.ptr 0 0), .at (.val (.int .u32 i)), .at (.val (.int .i64 lo)), .at (.val (.int .i64 hi))] => arM H fun S => ∃ hs t, upM S hs t i ∧ S.reads ≤ 900000000000000000 ∧
    ∀ S' j e, cutR S hs t i (outE t.list lo hi) S' j e ∨ (lo > hi ∧ cutR S hs t i t.list S' j e) → K (.tup [.at (vU j), .at (vI e)]) (chS S') W7
  | _ => False
theorem s_drop : SoundT C0 59 tDrop := by
  refine .ofW W7 Try.func59 (by decide) rfl fun args H K h hB => ?_
  unfold tDrop at h
  split at h <;> try exact h.elim
  unfold arM at h
  split at h <;> try exact h.elim
  rename_i i lo hi _ rd fr nd ct us gn rl
  obtain ⟨hs, t, h1, h2, h3⟩ := h
  exact ⟨aDrop (PDa ⟨us, gn, rl, fr, nd, ct, rd⟩ hs t lo) (PDb ⟨us, gn, rl, fr, nd, ct, rd⟩ hs t lo hi), ⟨frame C0.ok s_insd _, frame C0.ok s_hold _, frame C0.ok s_rSpl _, frame C0.ok s_room _, frame C0.ok (s_frm _) _, frame C0.ok (s_to _) _, frame C0.ok s_lu_below _, frame C0.ok s_lu_above _, frame C0.ok s_cat _, trivial⟩, vc_drop ⟨us, gn, rl, fr, nd, ct, rd⟩ i lo hi K hs t h1 h2 h3⟩
end Go.Proofs.Ytjbkckcjmmmooaa.Sx
end
section
/- The order of the free slots, and the arena's Dump. -/
/-KEEP exW inU Arn.cap Arn.free-/
namespace Go.Proofs.Ytjbkckcjmmmooaa.Sx
open Go

def upTo (fr : Int) (n : Nat) : List Int := (List.range n).map fun (k : Nat) => fr + 1 + (k : Int)
def orderL (us : List Bool) (rl : List Int) (fr : Int) : List Int := rl.reverse ++ upTo fr ((us.length : Int) - 1 - fr).toNat
structure XOr1 (rl : List Int) where
  k : Nat
  h : k ≤ rl.length
structure XOr2 (us : List Bool) (fr : Int) where
  n : Nat
  h : n ≤ ((us.length : Int) - 1 - fr).toNat
noncomputable def aOrder (us : List Bool) (gn rl : List Int) (fr : Int) : Ann C0 := { Γ := [(72, frameT [] tSlFree), (83, frameT [] tSlCap)], inv := fun n => match n with
  | 3 => some { X := XOr1 rl, sl := [4, 3], tf := fun x => [vi .i64 ((x.k : Int) - 1), .one (.at (.slc 4))], hf := fun x => slC us gn rl fr ++ [.row true EC.u32 (rl.drop x.k).reverse], μ := fun x => x.k }
  | 7 => some { X := XOr2 us fr, sl := [5, 3], tf := fun x => [vi .i64 (fr + 1 + (x.n : Int)), .one (.at (.slc 4))], hf := fun x => slC us gn rl fr ++ [.row true EC.u32 (rl.reverse ++ upTo fr x.n)], μ := fun x => ((us.length : Int) - 1 - fr).toNat - x.n }
  | _ => none }
def tOrder : Tfm C0 := fun args H K => match args with
  | [.at (.ptr 0 0)] => slM H fun us gn rl fr => 1 ≤ us.length ∧ us.length ≤ 65537 ∧ rl.length ≤ 65537 ∧ 0 ≤ fr ∧ fr ≤ us.length - 1 ∧ ∀ o : List Int, o = orderL us rl fr → K (.one (.at (.slc 4))) (slC us gn rl fr ++ [.row true EC.u32 o]) []
  | _ => False
def SlotT.zero : SlotT := ⟨false, 0, 0, NodeT.zero⟩
def slotAt (S : Arn) (k : Nat) : SlotT := ⟨S.us ((k : Int) + 1), if S.us ((k : Int) + 1) then S.ct ((k : Int) + 1) else 0, S.gn ((k : Int) + 1), S.nd ((k : Int) + 1)⟩
def ncap (S : Arn) : Nat := S.used.length - 1
def slotsOf (S : Arn) : List SlotT := (List.range (ncap S)).map (slotAt S)
def orderOf (S : Arn) : List Int := orderL S.used S.rel S.fresh
structure XDu (S : Arn) where
  i : Nat
  h : i ≤ ncap S
def fillS (S : Arn) (i : Nat) : List SlotT := (List.range i).map (slotAt S) ++ List.replicate (ncap S - i) SlotT.zero
noncomputable def aDump (S : Arn) : Ann C0 := { quiet := [75, 78, 79, 33], Γ := [(33, frameT [] tCap), (77, frameT [] tOrder), (75, frameT [] tSlAllocated), (78, frameT [] tCount), (79, frameT [] tGen)], inv := fun n => match n with
  | 1002 => some { X := Unit, sl := [3, 2], tf := fun _ => [.one (.at (.ptr 7 0)), .one (.at (.ptr 10 0))], hf := fun _ => chS S ++ [.box [.slc 8, .slc 9], .row true EC.slot (fillS S 0), .row true EC.u32 (orderOf S), .box [.slc 11, .slc 12], .row true EC.slot [], .row true EC.u32 []] }
  | 3 => some { X := XDu S, sl := [18, 3, 2], tf := fun x => [vi .i64 x.i, .one (.at (.ptr 7 0)), .one (.at (.ptr 10 0))], hf := fun x => chS S ++ [.box [.slc 8, .slc 9], .row true EC.slot (fillS S x.i), .row true EC.u32 (orderOf S), .box [.slc 11, .slc 12], .row true EC.slot [], .row true EC.u32 []], μ := fun x => ncap S - x.i }
  | _ => none }
def tDump : Tfm C0 := fun args H K => match args with
  | [.at (.ptr 0 0)] => arM H fun S => exW S ∧ ∀ (d : List SlotT) (o : List Int), d = slotsOf S → o = orderOf S → K (.one (.agg [.slc 7, .slc 8])) (chS S ++ [.row true EC.slot d, .row true EC.u32 o]) []
  | _ => False
theorem upTo_snoc (fr : Int) (n : Nat) : upTo fr n ++ [fr + 1 + (n : Int)] = upTo fr (n + 1) := by
  unfold upTo; rw [List.range_succ, List.map_append]; rfl
theorem vc_order (us : List Bool) (gn rl : List Int) (fr : Int) (K : KT) (h1 : 1 ≤ us.length) (h2 : us.length ≤ 65537) (h3 : rl.length ≤ 65537) (h4 : 0 ≤ fr) (h5 : fr ≤ us.length - 1) (h : ∀ o : List Int, o = orderL us rl fr → K (.one (.at (.slc 4))) (slC us gn rl fr ++ [.row true EC.u32 o]) []) :
    vc C0 (aOrder us gn rl fr) Try.f77 [.at (.ptr 0 0)] (slC us gn rl fr) (normK 4 K) := by
  refine Eq.mp (show ((1 ≤ us.length) ∧
(us.length ≤ 65537) ∧
(rl.length ≤ 65537) ∧
(0 ≤ fr) ∧
(fr ≤ 65537) ∧
((0 : Int) ≤ 0) ∧
(0 ≤ (↑rl.length : Int) + ((↑us.length : Int) - 1) - fr) ∧
(((↑rl.length : Int) + ((↑us.length : Int) - 1) - fr) * (↑(bytesOf C0 EC.u32) : Int) ≤ 140737488355328) ∧
(∃ x : XOr1 rl, (True ∧ (True ∧ True ∧ ((Value.int IntKind.i64 (IntKind.i64.wrap ((↑rl.length : Int) - 1))) = (Value.int IntKind.i64 ((↑x.k : Int) - 1))) ∧ True) ∧ (True ∧ True ∧ True ∧ ((Value.int IntKind.u32 (fr)) = (Value.int IntKind.u32 (fr))) ∧ True) ∧ ((us) = (us)) ∧ ((gn) = (gn)) ∧ ((rl) = (rl)) ∧ ([] = ((List.drop x.k rl).reverse)) ∧ True)) ∧
(∀ x : XOr1 rl, (True → (brS (decide ((↑x.k : Int) - 1 ≥ 0)) (((0 ≤ (↑x.k : Int) - 1) ∧ ((↑x.k : Int) - 1 < (↑rl.length : Int)) ∧ (((List.drop x.k rl).reverse.length + [rl.getD ((↑x.k : Int) - 1).toNat 0].length) * bytesOf C0 EC.u32 ≤ 140737488355328) ∧ (∃ x' : XOr1 rl, (True ∧ ((True ∧ True ∧ ((Value.int IntKind.i64 (IntKind.i64.wrap ((↑x.k : Int) - 1 - 1))) = (Value.int IntKind.i64 ((↑x'.k : Int) - 1))) ∧ True) ∧ (True ∧ True ∧ True ∧ ((Value.int IntKind.u32 (fr)) = (Value.int IntKind.u32 (fr))) ∧ True) ∧ ((us) = (us)) ∧ ((gn) = (gn)) ∧ ((rl) = (rl)) ∧ (((List.drop x.k rl).reverse ++ [rl.getD ((↑x.k : Int) - 1).toNat 0]) = ((List.drop x'.k rl).reverse)) ∧ True) ∧ (x'.k < x.k))))) (((∃ x1 : XOr2 us fr, (True ∧ (True ∧ True ∧ ((Value.int IntKind.i64 (IntKind.i64.wrap (IntKind.i64.wrap fr + 1))) = (Value.int IntKind.i64 (fr + 1 + (↑x1.n : Int)))) ∧ True) ∧ (True ∧
    True ∧ True ∧ ((Value.int IntKind.u32 (fr)) = (Value.int IntKind.u32 (fr))) ∧ True) ∧ ((us) = (us)) ∧ ((gn) = (gn)) ∧ ((rl) = (rl)) ∧ (((List.drop x.k rl).reverse) = (rl.reverse ++ upTo fr x1.n)) ∧ True)) ∧ (∀ x1 : XOr2 us fr, (True → ((1 ≤ us.length) ∧ (us.length ≤ 65537) ∧ (brS (decide (fr + 1 + (↑x1.n : Int) ≤ (↑us.length : Int) - 1)) (((((rl.reverse ++ upTo fr x1.n).length + [IntKind.u32.wrap (fr + 1 + (↑x1.n : Int))].length) * bytesOf C0 EC.u32 ≤ 140737488355328) ∧ (∃ x' : XOr2 us fr, (True ∧ ((True ∧ True ∧ ((Value.int IntKind.i64 (IntKind.i64.wrap (fr + 1 + (↑x1.n : Int) + 1))) = (Value.int IntKind.i64 (fr + 1 + (↑x'.n : Int)))) ∧ True) ∧ (True ∧ True ∧ True ∧ ((Value.int IntKind.u32 (fr)) = (Value.int IntKind.u32 (fr))) ∧ True) ∧ ((us) = (us)) ∧ ((gn) = (gn)) ∧ ((rl) = (rl)) ∧ ((rl.reverse ++ upTo fr x1.n ++ [IntKind.u32.wrap (fr + 1 + (↑x1.n : Int))]) = (rl.reverse ++ upTo fr x'.n)) ∧ True) ∧ (((↑us.length : Int) - 1 - fr).toNat - x'.n < ((↑us.length : Int) - 1 - fr).toNat - x1.n))))) ((K (SV.one (TV.at (At.slc 4))) [(Chunk.box [(At.slc 1), (At.slc 2), (At.slc 3), (At.val (Value.int IntKind.u32 (fr)))]), (Chunk.row true (EC.bool) (us)), (Chunk.row true (EC.u32) (gn)), (Chunk.row true (EC.u32) (rl)), (Chunk.row true (EC.u32) (rl.reverse ++ upTo fr x1.n))] [])))))))))))) = _ by kernel_rfl) ?_
  rw [bytes_u32]
  rw [wrap_id (x := (rl.length : Int) - 1) (by omega) (by omega), wrap_id (x := fr) (by omega) (by omega), wrap_id (x := fr + 1) (by omega) (by omega)]
  refine ⟨h1, h2, h3, h4, by omega, by decide, by omega, by omega, ⟨⟨rl.length, Nat.le_refl _⟩, trivial, ⟨trivial, trivial, rfl, trivial⟩, ⟨trivial, trivial, trivial, rfl, trivial⟩, rfl, rfl, rfl, by simp, trivial⟩, fun x _ => brS_of (fun c => ?_) fun c => ?_⟩
  · have c : 1 ≤ x.k := by have := of_decide_eq_true c; omega
    have hk := x.h
    have hg : rl[x.k - 1]? = some (rl.getD (x.k - 1) 0) := by simp [List.getD_eq_getElem?_getD, List.getElem?_eq_getElem (show x.k - 1 < rl.length by omega)]
    rw [wrap_id (by omega) (by omega), show ((x.k : Int) - 1).toNat = x.k - 1 by omega]
    refine ⟨by omega, by omega, ?_, ⟨x.k - 1, by omega⟩, trivial, ⟨⟨trivial, trivial, ?_, trivial⟩, ⟨trivial, trivial, trivial, rfl, trivial⟩, rfl, rfl, rfl, ?_, trivial⟩, ?_⟩
    · simp; omega
    · congr 1; show (x.k : Int) - 1 - 1 = ((x.k - 1 : Nat) : Int) - 1; omega
    · show _ = (rl.drop (x.k - 1)).reverse
      rw [drop_cons hg, List.reverse_cons, show x.k - 1 + 1 = x.k by omega]
    · show x.k - 1 < x.k; omega
  · have c : x.k = 0 := by have := of_decide_eq_false c; omega
    refine ⟨⟨⟨0, Nat.zero_le _⟩, trivial, ⟨trivial, trivial, by congr 1; show fr + 1 = fr + 1 + ((0 : Nat) : Int); omega, trivial⟩, ⟨trivial, trivial, trivial, rfl, trivial⟩, rfl, rfl, rfl, by rw [c]; simp [upTo], trivial⟩, fun y _ => ⟨h1, h2, brS_of (fun d => ?_) fun d => ?_⟩⟩
    · have d : fr + 1 + (y.n : Int) ≤ us.length - 1 := of_decide_eq_true d
      have hul : (upTo fr y.n).length = y.n := by simp [upTo]
      rw [wrap_u32 (by omega) (by omega), wrap_id (by omega) (by omega)]
      refine ⟨?_, ⟨y.n + 1, by omega⟩, trivial, ⟨⟨trivial, trivial, ?_, trivial⟩, ⟨trivial, trivial, trivial, rfl, trivial⟩, rfl, rfl, rfl, ?_, trivial⟩, ?_⟩
      · simp [hul]; omega
      · congr 1; show fr + 1 + (y.n : Int) + 1 = fr + 1 + ((y.n + 1 : Nat) : Int); omega
      · show _ = rl.reverse ++ upTo fr (y.n + 1)
        rw [← upTo_snoc, List.append_assoc]
      · show _ - (y.n + 1) < _; omega
    · have d : ¬ fr + 1 + (y.n : Int) ≤ us.length - 1 := of_decide_eq_false d
      have hn : y.n = ((us.length : Int) - 1 - fr).toNat := by have := y.h; omega
      exact h _ (by unfold orderL; rw [hn])
theorem s_order : SoundT C0 77 tOrder := by
  refine .of Try.func77 (by decide) rfl fun args H K h hB => ?_
  unfold tOrder at h
  split at h <;> try exact h.elim
  unfold slM at h
  split at h <;> try exact h.elim
  rename_i fr us gn rl
  obtain ⟨h1, h2, h3, h4, h5, h6⟩ := h
  exact ⟨aOrder us gn rl fr, ⟨frame C0.ok s_slFree _, frame C0.ok s_slCap _, trivial⟩, vc_order us gn rl fr K h1 h2 h3 h4 h5 h6⟩
theorem fill_zero (S : Arn) : List.replicate (ncap S) SlotT.zero = fillS S 0 := by simp [fillS]
theorem fill_len (S : Arn) (i : Nat) (h : i ≤ ncap S) : (fillS S i).length = ncap S := by simp [fillS]; omega
theorem fill_next (S : Arn) {i : Nat} (h : i < ncap S) : (fillS S i).set i (slotAt S i) = fillS S (i + 1) := by
  unfold fillS
  obtain ⟨m, hm⟩ : ∃ m, ncap S - i = m + 1 := ⟨ncap S - i - 1, by omega⟩
  rw [hm, show ncap S - (i + 1) = m by omega, List.range_succ, List.map_append, List.replicate_succ, List.set_append_right _ _ (by simp)]
  simp
theorem fill_all (S : Arn) : fillS S (ncap S) = slotsOf S := by simp [fillS, slotsOf]
theorem vc_dump (S : Arn) (K : KT) (hw : exW S) (h : ∀ (d : List SlotT) (o : List Int), d = slotsOf S → o = orderOf S → K (.one (.agg [.slc 7, .slc 8])) (chS S ++ [.row true EC.slot d, .row true EC.u32 o]) []) :
    vc C0 (aDump S) Try.f30 [.at (.ptr 0 0)] (chS S) (normK 7 K) := by
  refine Eq.mp (show ((((exW S) ∧
((0 ≤ S.cap) ∧
(S.cap ≤ S.cap) ∧
(S.cap * (↑(bytesOf C0 EC.slot) : Int) ≤ 140737488355328) ∧
(((1 ≤ S.used.length) ∧
(S.used.length ≤ 65537) ∧
(S.rel.length ≤ 65537) ∧
(0 ≤ S.fresh) ∧
(S.fresh ≤ (↑S.used.length : Int) - 1) ∧
(∀ o : List Int, (((o) = (orderL S.used S.rel S.fresh)) → (∃ x : Unit, (True ∧ (True ∧ True ∧ True ∧ True) ∧ (True ∧ True ∧ True ∧ ((Value.int IntKind.u64 (S.reads)) = (Value.int IntKind.u64 (S.reads))) ∧ True) ∧ (True ∧ True ∧ True ∧ ((Value.int IntKind.u32 (S.fresh)) = (Value.int IntKind.u32 (S.fresh))) ∧ True) ∧ ((S.nodes) = (S.nodes)) ∧ ((S.counts) = (S.counts)) ∧ ((S.used) = (S.used)) ∧ ((S.gen) = (S.gen)) ∧ ((S.rel) = (S.rel)) ∧ (True ∧ True ∧ True) ∧ ((List.replicate S.cap.toNat { alloc := false, count := 0, gen := 0, node := { key := 0, value := 0, left := 0, right := 0, size := 0, sum := 0, min := 0, max := 0 : NodeT } : SlotT }) = (fillS S 0)) ∧ ((o) = (orderOf S)) ∧ (True ∧ True ∧ True) ∧ ((([] : List SlotT) = [])) ∧ ((([] : List Int) = [])) ∧ True))))) ∧
(1 ≤ S.used.length) ∧
(S.used.length ≤ 65537) ∧
(S.rel.length ≤ 65537) ∧
(0 ≤ S.fresh) ∧
(S.fresh ≤ (↑S.used.length : Int) - 1) ∧
(∀ o : List Int, (((o) = (orderL S.used S.rel S.fresh)) → (∃ x : Unit, (True ∧ (True ∧ True ∧ True ∧ True) ∧ (True ∧ True ∧ True ∧ ((Value.int IntKind.u64 (S.reads)) = (Value.int IntKind.u64 (S.reads))) ∧ True) ∧ (True ∧ True ∧ True ∧ ((Value.int IntKind.u32 (S.fresh)) = (Value.int IntKind.u32 (S.fresh))) ∧ True) ∧ ((S.nodes) = (S.nodes)) ∧
    ((S.counts) = (S.counts)) ∧ ((S.used) = (S.used)) ∧ ((S.gen) = (S.gen)) ∧ ((S.rel) = (S.rel)) ∧ (True ∧ True ∧ True) ∧ ((List.replicate S.cap.toNat { alloc := false, count := 0, gen := 0, node := { key := 0, value := 0, left := 0, right := 0, size := 0, sum := 0, min := 0, max := 0 : NodeT } : SlotT }) = (fillS S 0)) ∧ ((o) = (orderOf S)) ∧ (True ∧ True ∧ True) ∧ ((([] : List SlotT) = [])) ∧ ((([] : List Int) = [])) ∧ True))))) ∧
(1 ≤ S.used.length) ∧
(S.used.length ≤ 65537) ∧
(S.rel.length ≤ 65537) ∧
(0 ≤ S.fresh) ∧
(S.fresh ≤ (↑S.used.length : Int) - 1) ∧
(∀ o : List Int, (((o) = (orderL S.used S.rel S.fresh)) → (∃ x : Unit, (True ∧ (True ∧ True ∧ True ∧ True) ∧ (True ∧ True ∧ True ∧ ((Value.int IntKind.u64 (S.reads)) = (Value.int IntKind.u64 (S.reads))) ∧ True) ∧ (True ∧ True ∧ True ∧ ((Value.int IntKind.u32 (S.fresh)) = (Value.int IntKind.u32 (S.fresh))) ∧ True) ∧ ((S.nodes) = (S.nodes)) ∧ ((S.counts) = (S.counts)) ∧ ((S.used) = (S.used)) ∧ ((S.gen) = (S.gen)) ∧ ((S.rel) = (S.rel)) ∧ (True ∧ True ∧ True) ∧ ((List.replicate S.cap.toNat { alloc := false, count := 0, gen := 0, node := { key := 0, value := 0, left := 0, right := 0, size := 0, sum := 0, min := 0, max := 0 : NodeT } : SlotT }) = (fillS S 0)) ∧ ((o) = (orderOf S)) ∧ (True ∧ True ∧ True) ∧ ((([] : List SlotT) = [])) ∧ ((([] : List Int) = [])) ∧
    True))))) ∧
(((0 ≤ S.cap) ∧
(S.cap ≤ S.cap) ∧
(S.cap * (↑(bytesOf C0 EC.slot) : Int) ≤ 140737488355328) ∧
((1 ≤ S.used.length) ∧
(S.used.length ≤ 65537) ∧
(S.rel.length ≤ 65537) ∧
(0 ≤ S.fresh) ∧
(S.fresh ≤ (↑S.used.length : Int) - 1) ∧
(∀ o : List Int, (((o) = (orderL S.used S.rel S.fresh)) → (∃ x : Unit, (True ∧ (True ∧ True ∧ True ∧ True) ∧ (True ∧ True ∧ True ∧ ((Value.int IntKind.u64 (S.reads)) = (Value.int IntKind.u64 (S.reads))) ∧ True) ∧ (True ∧ True ∧ True ∧ ((Value.int IntKind.u32 (S.fresh)) = (Value.int IntKind.u32 (S.fresh))) ∧ True) ∧ ((S.nodes) = (S.nodes)) ∧ ((S.counts) = (S.counts)) ∧ ((S.used) = (S.used)) ∧ ((S.gen) = (S.gen)) ∧ ((S.rel) = (S.rel)) ∧ (True ∧ True ∧ True) ∧ ((List.replicate S.cap.toNat { alloc := false, count := 0, gen := 0, node := { key := 0, value := 0, left := 0, right := 0, size := 0, sum := 0, min := 0, max := 0 : NodeT } : SlotT }) = (fillS S 0)) ∧ ((o) = (orderOf S)) ∧ (True ∧ True ∧ True) ∧ ((([] : List SlotT) = [])) ∧ ((([] : List Int) = [])) ∧ True))))) ∧
(1 ≤ S.used.length) ∧
(S.used.length ≤ 65537) ∧
(S.rel.length ≤ 65537) ∧
(0 ≤ S.fresh) ∧
(S.fresh ≤ (↑S.used.length : Int) - 1) ∧
(∀ o : List Int, (((o) = (orderL S.used S.rel S.fresh)) → (∃ x : Unit, (True ∧ (True ∧ True ∧ True ∧ True) ∧ (True ∧ True ∧ True ∧ ((Value.int IntKind.u64 (S.reads)) = (Value.int IntKind.u64 (S.reads))) ∧ True) ∧ (True ∧ True ∧ True ∧ ((Value.int IntKind.u32 (S.fresh)) = (Value.int IntKind.u32 (S.fresh))) ∧ True) ∧ ((S.nodes) = (S.nodes)) ∧
    ((S.counts) = (S.counts)) ∧ ((S.used) = (S.used)) ∧ ((S.gen) = (S.gen)) ∧ ((S.rel) = (S.rel)) ∧ (True ∧ True ∧ True) ∧ ((List.replicate S.cap.toNat { alloc := false, count := 0, gen := 0, node := { key := 0, value := 0, left := 0, right := 0, size := 0, sum := 0, min := 0, max := 0 : NodeT } : SlotT }) = (fillS S 0)) ∧ ((o) = (orderOf S)) ∧ (True ∧ True ∧ True) ∧ ((([] : List SlotT) = [])) ∧ ((([] : List Int) = [])) ∧ True))))) ∧
((1 ≤ S.used.length) ∧
(S.used.length ≤ 65537) ∧
(S.rel.length ≤ 65537) ∧
(0 ≤ S.fresh) ∧
(S.fresh ≤ (↑S.used.length : Int) - 1) ∧
(∀ o : List Int, (((o) = (orderL S.used S.rel S.fresh)) → (((0 ≤ S.cap) ∧ (S.cap ≤ S.cap) ∧ (S.cap * (↑(bytesOf C0 EC.slot) : Int) ≤ 140737488355328) ∧ (∃ x : Unit, (True ∧ (True ∧ True ∧ True ∧ True) ∧ (True ∧ True ∧ True ∧ ((Value.int IntKind.u64 (S.reads)) = (Value.int IntKind.u64 (S.reads))) ∧ True) ∧ (True ∧ True ∧ True ∧ ((Value.int IntKind.u32 (S.fresh)) = (Value.int IntKind.u32 (S.fresh))) ∧ True) ∧ ((S.nodes) = (S.nodes)) ∧ ((S.counts) = (S.counts)) ∧ ((S.used) = (S.used)) ∧ ((S.gen) = (S.gen)) ∧ ((S.rel) = (S.rel)) ∧ (True ∧ True ∧ True) ∧ ((List.replicate S.cap.toNat { alloc := false, count := 0, gen := 0, node := { key := 0, value := 0, left := 0, right := 0, size := 0, sum := 0, min := 0, max := 0 : NodeT } : SlotT }) = (fillS S 0)) ∧ ((o) = (orderOf S)) ∧ (True ∧ True ∧ True) ∧ ((([] : List SlotT) = [])) ∧ ((([] : List Int) = [])) ∧ True))) ∧ (0 ≤ S.cap) ∧ (S.cap ≤ S.cap) ∧
    (S.cap * (↑(bytesOf C0 EC.slot) : Int) ≤ 140737488355328) ∧ (∃ x : Unit, (True ∧ (True ∧ True ∧ True ∧ True) ∧ (True ∧ True ∧ True ∧ ((Value.int IntKind.u64 (S.reads)) = (Value.int IntKind.u64 (S.reads))) ∧ True) ∧ (True ∧ True ∧ True ∧ ((Value.int IntKind.u32 (S.fresh)) = (Value.int IntKind.u32 (S.fresh))) ∧ True) ∧ ((S.nodes) = (S.nodes)) ∧ ((S.counts) = (S.counts)) ∧ ((S.used) = (S.used)) ∧ ((S.gen) = (S.gen)) ∧ ((S.rel) = (S.rel)) ∧ (True ∧ True ∧ True) ∧ ((List.replicate S.cap.toNat { alloc := false, count := 0, gen := 0, node := { key := 0, value := 0, left := 0, right := 0, size := 0, sum := 0, min := 0, max := 0 : NodeT } : SlotT }) = (fillS S 0)) ∧ ((o) = (orderOf S)) ∧ (True ∧ True ∧ True) ∧ ((([] : List SlotT) = [])) ∧ ((([] : List Int) = [])) ∧ True)))))) ∧
((0 ≤ S.cap) ∧
(S.cap ≤ S.cap) ∧
(S.cap * (↑(bytesOf C0 EC.slot) : Int) ≤ 140737488355328) ∧
(1 ≤ S.used.length) ∧
(S.used.length ≤ 65537) ∧
(S.rel.length ≤ 65537) ∧
(0 ≤ S.fresh) ∧
(S.fresh ≤ (↑S.used.length : Int) - 1) ∧
(∀ o : List Int, (((o) = (orderL S.used S.rel S.fresh)) → (∃ x : Unit, (True ∧ (True ∧ True ∧ True ∧ True) ∧ (True ∧ True ∧ True ∧ ((Value.int IntKind.u64 (S.reads)) = (Value.int IntKind.u64 (S.reads))) ∧ True) ∧ (True ∧ True ∧ True ∧ ((Value.int IntKind.u32 (S.fresh)) = (Value.int IntKind.u32 (S.fresh))) ∧ True) ∧ ((S.nodes) = (S.nodes)) ∧ ((S.counts) = (S.counts)) ∧ ((S.used) = (S.used)) ∧ ((S.gen) = (S.gen)) ∧ ((S.rel) = (S.rel)) ∧ (True ∧ True ∧ True) ∧
    ((List.replicate S.cap.toNat { alloc := false, count := 0, gen := 0, node := { key := 0, value := 0, left := 0, right := 0, size := 0, sum := 0, min := 0, max := 0 : NodeT } : SlotT }) = (fillS S 0)) ∧ ((o) = (orderOf S)) ∧ (True ∧ True ∧ True) ∧ ((([] : List SlotT) = [])) ∧ ((([] : List Int) = [])) ∧ True))))) ∧
(1 ≤ S.used.length) ∧
(S.used.length ≤ 65537) ∧
(S.rel.length ≤ 65537) ∧
(0 ≤ S.fresh) ∧
(S.fresh ≤ (↑S.used.length : Int) - 1) ∧
(∀ o : List Int, (((o) = (orderL S.used S.rel S.fresh)) → ((0 ≤ S.cap) ∧ (S.cap ≤ S.cap) ∧ (S.cap * (↑(bytesOf C0 EC.slot) : Int) ≤ 140737488355328) ∧ (∃ x : Unit, (True ∧ (True ∧ True ∧ True ∧ True) ∧ (True ∧ True ∧ True ∧ ((Value.int IntKind.u64 (S.reads)) = (Value.int IntKind.u64 (S.reads))) ∧ True) ∧ (True ∧ True ∧ True ∧ ((Value.int IntKind.u32 (S.fresh)) = (Value.int IntKind.u32 (S.fresh))) ∧ True) ∧ ((S.nodes) = (S.nodes)) ∧ ((S.counts) = (S.counts)) ∧ ((S.used) = (S.used)) ∧ ((S.gen) = (S.gen)) ∧ ((S.rel) = (S.rel)) ∧ (True ∧ True ∧ True) ∧ ((List.replicate S.cap.toNat { alloc := false, count := 0, gen := 0, node := { key := 0, value := 0, left := 0, right := 0, size := 0, sum := 0, min := 0, max := 0 : NodeT } : SlotT }) = (fillS S 0)) ∧ ((o) = (orderOf S)) ∧ (True ∧ True ∧ True) ∧ ((([] : List SlotT) = [])) ∧ ((([] : List Int) = [])) ∧
    True)))))) ∧
((0 ≤ S.cap) ∧
(S.cap ≤ S.cap) ∧
(S.cap * (↑(bytesOf C0 EC.slot) : Int) ≤ 140737488355328) ∧
(1 ≤ S.used.length) ∧
(S.used.length ≤ 65537) ∧
(S.rel.length ≤ 65537) ∧
(0 ≤ S.fresh) ∧
(S.fresh ≤ (↑S.used.length : Int) - 1) ∧
(∀ o : List Int, (((o) = (orderL S.used S.rel S.fresh)) → (∃ x : Unit, (True ∧ (True ∧ True ∧ True ∧ True) ∧ (True ∧ True ∧ True ∧ ((Value.int IntKind.u64 (S.reads)) = (Value.int IntKind.u64 (S.reads))) ∧ True) ∧ (True ∧ True ∧ True ∧ ((Value.int IntKind.u32 (S.fresh)) = (Value.int IntKind.u32 (S.fresh))) ∧ True) ∧ ((S.nodes) = (S.nodes)) ∧ ((S.counts) = (S.counts)) ∧ ((S.used) = (S.used)) ∧ ((S.gen) = (S.gen)) ∧ ((S.rel) = (S.rel)) ∧ (True ∧ True ∧ True) ∧ ((List.replicate S.cap.toNat { alloc := false, count := 0, gen := 0, node := { key := 0, value := 0, left := 0, right := 0, size := 0, sum := 0, min := 0, max := 0 : NodeT } : SlotT }) = (fillS S 0)) ∧ ((o) = (orderOf S)) ∧ (True ∧ True ∧ True) ∧ ((([] : List SlotT) = [])) ∧ ((([] : List Int) = [])) ∧ True))))) ∧
((0 ≤ S.cap) ∧
(S.cap ≤ S.cap) ∧
(S.cap * (↑(bytesOf C0 EC.slot) : Int) ≤ 140737488355328) ∧
(1 ≤ S.used.length) ∧
(S.used.length ≤ 65537) ∧
(S.rel.length ≤ 65537) ∧
(0 ≤ S.fresh) ∧
(S.fresh ≤ (↑S.used.length : Int) - 1) ∧
(∀ o : List Int, (((o) = (orderL S.used S.rel S.fresh)) → (∃ x : Unit, (True ∧ (True ∧ True ∧ True ∧ True) ∧ (True ∧ True ∧ True ∧ ((Value.int IntKind.u64 (S.reads)) = (Value.int IntKind.u64 (S.reads))) ∧ True) ∧ (True ∧ True ∧ True ∧
    ((Value.int IntKind.u32 (S.fresh)) = (Value.int IntKind.u32 (S.fresh))) ∧ True) ∧ ((S.nodes) = (S.nodes)) ∧ ((S.counts) = (S.counts)) ∧ ((S.used) = (S.used)) ∧ ((S.gen) = (S.gen)) ∧ ((S.rel) = (S.rel)) ∧ (True ∧ True ∧ True) ∧ ((List.replicate S.cap.toNat { alloc := false, count := 0, gen := 0, node := { key := 0, value := 0, left := 0, right := 0, size := 0, sum := 0, min := 0, max := 0 : NodeT } : SlotT }) = (fillS S 0)) ∧ ((o) = (orderOf S)) ∧ (True ∧ True ∧ True) ∧ ((([] : List SlotT) = [])) ∧ ((([] : List Int) = [])) ∧ True))))) ∧
(1 ≤ S.used.length) ∧
(S.used.length ≤ 65537) ∧
(S.rel.length ≤ 65537) ∧
(0 ≤ S.fresh) ∧
(S.fresh ≤ (↑S.used.length : Int) - 1) ∧
(∀ o : List Int, (((o) = (orderL S.used S.rel S.fresh)) → ((0 ≤ S.cap) ∧ (S.cap ≤ S.cap) ∧ (S.cap * (↑(bytesOf C0 EC.slot) : Int) ≤ 140737488355328) ∧ (∃ x : Unit, (True ∧ (True ∧ True ∧ True ∧ True) ∧ (True ∧ True ∧ True ∧ ((Value.int IntKind.u64 (S.reads)) = (Value.int IntKind.u64 (S.reads))) ∧ True) ∧ (True ∧ True ∧ True ∧ ((Value.int IntKind.u32 (S.fresh)) = (Value.int IntKind.u32 (S.fresh))) ∧ True) ∧ ((S.nodes) = (S.nodes)) ∧ ((S.counts) = (S.counts)) ∧ ((S.used) = (S.used)) ∧ ((S.gen) = (S.gen)) ∧ ((S.rel) = (S.rel)) ∧ (True ∧ True ∧ True) ∧ ((List.replicate S.cap.toNat { alloc := false, count := 0, gen := 0, node := { key := 0, value := 0, left := 0, right := 0, size := 0, sum := 0, min := 0, max := 0 : NodeT } : SlotT }) = (fillS S 0)) ∧ ((o) = (orderOf S)) ∧ (True ∧ True ∧ True) ∧
    ((([] : List SlotT) = [])) ∧ ((([] : List Int) = [])) ∧ True)))))) ∧
(((exW S) ∧
((0 ≤ S.cap) ∧
(S.cap ≤ S.cap) ∧
(S.cap * (↑(bytesOf C0 EC.slot) : Int) ≤ 140737488355328) ∧
((1 ≤ S.used.length) ∧
(S.used.length ≤ 65537) ∧
(S.rel.length ≤ 65537) ∧
(0 ≤ S.fresh) ∧
(S.fresh ≤ (↑S.used.length : Int) - 1) ∧
(∀ o : List Int, (((o) = (orderL S.used S.rel S.fresh)) → (∃ x : Unit, (True ∧ (True ∧ True ∧ True ∧ True) ∧ (True ∧ True ∧ True ∧ ((Value.int IntKind.u64 (S.reads)) = (Value.int IntKind.u64 (S.reads))) ∧ True) ∧ (True ∧ True ∧ True ∧ ((Value.int IntKind.u32 (S.fresh)) = (Value.int IntKind.u32 (S.fresh))) ∧ True) ∧ ((S.nodes) = (S.nodes)) ∧ ((S.counts) = (S.counts)) ∧ ((S.used) = (S.used)) ∧ ((S.gen) = (S.gen)) ∧ ((S.rel) = (S.rel)) ∧ (True ∧ True ∧ True) ∧ ((List.replicate S.cap.toNat { alloc := false, count := 0, gen := 0, node := { key := 0, value := 0, left := 0, right := 0, size := 0, sum := 0, min := 0, max := 0 : NodeT } : SlotT }) = (fillS S 0)) ∧ ((o) = (orderOf S)) ∧ (True ∧ True ∧ True) ∧ ((([] : List SlotT) = [])) ∧ ((([] : List Int) = [])) ∧ True))))) ∧
(1 ≤ S.used.length) ∧
(S.used.length ≤ 65537) ∧
(S.rel.length ≤ 65537) ∧
(0 ≤ S.fresh) ∧
(S.fresh ≤ (↑S.used.length : Int) - 1) ∧
(∀ o : List Int, (((o) = (orderL S.used S.rel S.fresh)) → (∃ x : Unit, (True ∧ (True ∧ True ∧ True ∧ True) ∧ (True ∧ True ∧ True ∧ ((Value.int IntKind.u64 (S.reads)) = (Value.int IntKind.u64 (S.reads))) ∧ True) ∧ (True ∧ True ∧ True ∧
    ((Value.int IntKind.u32 (S.fresh)) = (Value.int IntKind.u32 (S.fresh))) ∧ True) ∧ ((S.nodes) = (S.nodes)) ∧ ((S.counts) = (S.counts)) ∧ ((S.used) = (S.used)) ∧ ((S.gen) = (S.gen)) ∧ ((S.rel) = (S.rel)) ∧ (True ∧ True ∧ True) ∧ ((List.replicate S.cap.toNat { alloc := false, count := 0, gen := 0, node := { key := 0, value := 0, left := 0, right := 0, size := 0, sum := 0, min := 0, max := 0 : NodeT } : SlotT }) = (fillS S 0)) ∧ ((o) = (orderOf S)) ∧ (True ∧ True ∧ True) ∧ ((([] : List SlotT) = [])) ∧ ((([] : List Int) = [])) ∧ True))))) ∧
((1 ≤ S.used.length) ∧
(S.used.length ≤ 65537) ∧
(S.rel.length ≤ 65537) ∧
(0 ≤ S.fresh) ∧
(S.fresh ≤ (↑S.used.length : Int) - 1) ∧
(∀ o : List Int, (((o) = (orderL S.used S.rel S.fresh)) → (((0 ≤ S.cap) ∧ (S.cap ≤ S.cap) ∧ (S.cap * (↑(bytesOf C0 EC.slot) : Int) ≤ 140737488355328) ∧ (∃ x : Unit, (True ∧ (True ∧ True ∧ True ∧ True) ∧ (True ∧ True ∧ True ∧ ((Value.int IntKind.u64 (S.reads)) = (Value.int IntKind.u64 (S.reads))) ∧ True) ∧ (True ∧ True ∧ True ∧ ((Value.int IntKind.u32 (S.fresh)) = (Value.int IntKind.u32 (S.fresh))) ∧ True) ∧ ((S.nodes) = (S.nodes)) ∧ ((S.counts) = (S.counts)) ∧ ((S.used) = (S.used)) ∧ ((S.gen) = (S.gen)) ∧ ((S.rel) = (S.rel)) ∧ (True ∧ True ∧ True) ∧ ((List.replicate S.cap.toNat { alloc := false, count := 0, gen := 0, node := { key := 0, value := 0, left := 0, right := 0, size := 0, sum := 0, min := 0, max := 0 : NodeT } : SlotT }) = (fillS S 0)) ∧ ((o) = (orderOf S)) ∧ (True ∧ True ∧ True) ∧
    ((([] : List SlotT) = [])) ∧ ((([] : List Int) = [])) ∧ True))) ∧ (0 ≤ S.cap) ∧ (S.cap ≤ S.cap) ∧ (S.cap * (↑(bytesOf C0 EC.slot) : Int) ≤ 140737488355328) ∧ (∃ x : Unit, (True ∧ (True ∧ True ∧ True ∧ True) ∧ (True ∧ True ∧ True ∧ ((Value.int IntKind.u64 (S.reads)) = (Value.int IntKind.u64 (S.reads))) ∧ True) ∧ (True ∧ True ∧ True ∧ ((Value.int IntKind.u32 (S.fresh)) = (Value.int IntKind.u32 (S.fresh))) ∧ True) ∧ ((S.nodes) = (S.nodes)) ∧ ((S.counts) = (S.counts)) ∧ ((S.used) = (S.used)) ∧ ((S.gen) = (S.gen)) ∧ ((S.rel) = (S.rel)) ∧ (True ∧ True ∧ True) ∧ ((List.replicate S.cap.toNat { alloc := false, count := 0, gen := 0, node := { key := 0, value := 0, left := 0, right := 0, size := 0, sum := 0, min := 0, max := 0 : NodeT } : SlotT }) = (fillS S 0)) ∧ ((o) = (orderOf S)) ∧ (True ∧ True ∧ True) ∧ ((([] : List SlotT) = [])) ∧ ((([] : List Int) = [])) ∧ True)))))) ∧
((0 ≤ S.cap) ∧
(S.cap ≤ S.cap) ∧
(S.cap * (↑(bytesOf C0 EC.slot) : Int) ≤ 140737488355328) ∧
(1 ≤ S.used.length) ∧
(S.used.length ≤ 65537) ∧
(S.rel.length ≤ 65537) ∧
(0 ≤ S.fresh) ∧
(S.fresh ≤ (↑S.used.length : Int) - 1) ∧
(∀ o : List Int, (((o) = (orderL S.used S.rel S.fresh)) → (∃ x : Unit, (True ∧ (True ∧ True ∧ True ∧ True) ∧ (True ∧ True ∧ True ∧ ((Value.int IntKind.u64 (S.reads)) = (Value.int IntKind.u64 (S.reads))) ∧ True) ∧ (True ∧ True ∧ True ∧ ((Value.int IntKind.u32 (S.fresh)) = (Value.int IntKind.u32 (S.fresh))) ∧ True) ∧ ((S.nodes) = (S.nodes)) ∧ ((S.counts) = (S.counts)) ∧ ((S.used) = (S.used)) ∧
    ((S.gen) = (S.gen)) ∧ ((S.rel) = (S.rel)) ∧ (True ∧ True ∧ True) ∧ ((List.replicate S.cap.toNat { alloc := false, count := 0, gen := 0, node := { key := 0, value := 0, left := 0, right := 0, size := 0, sum := 0, min := 0, max := 0 : NodeT } : SlotT }) = (fillS S 0)) ∧ ((o) = (orderOf S)) ∧ (True ∧ True ∧ True) ∧ ((([] : List SlotT) = [])) ∧ ((([] : List Int) = [])) ∧ True))))) ∧
(1 ≤ S.used.length) ∧
(S.used.length ≤ 65537) ∧
(S.rel.length ≤ 65537) ∧
(0 ≤ S.fresh) ∧
(S.fresh ≤ (↑S.used.length : Int) - 1) ∧
(∀ o : List Int, (((o) = (orderL S.used S.rel S.fresh)) → ((0 ≤ S.cap) ∧ (S.cap ≤ S.cap) ∧ (S.cap * (↑(bytesOf C0 EC.slot) : Int) ≤ 140737488355328) ∧ (∃ x : Unit, (True ∧ (True ∧ True ∧ True ∧ True) ∧ (True ∧ True ∧ True ∧ ((Value.int IntKind.u64 (S.reads)) = (Value.int IntKind.u64 (S.reads))) ∧ True) ∧ (True ∧ True ∧ True ∧ ((Value.int IntKind.u32 (S.fresh)) = (Value.int IntKind.u32 (S.fresh))) ∧ True) ∧ ((S.nodes) = (S.nodes)) ∧ ((S.counts) = (S.counts)) ∧ ((S.used) = (S.used)) ∧ ((S.gen) = (S.gen)) ∧ ((S.rel) = (S.rel)) ∧ (True ∧ True ∧ True) ∧ ((List.replicate S.cap.toNat { alloc := false, count := 0, gen := 0, node := { key := 0, value := 0, left := 0, right := 0, size := 0, sum := 0, min := 0, max := 0 : NodeT } : SlotT }) = (fillS S 0)) ∧ ((o) = (orderOf S)) ∧ (True ∧ True ∧ True) ∧ ((([] : List SlotT) = [])) ∧ ((([] : List Int) = [])) ∧
    True)))))) ∧
(exW S) ∧
((0 ≤ S.cap) ∧
(S.cap ≤ S.cap) ∧
(S.cap * (↑(bytesOf C0 EC.slot) : Int) ≤ 140737488355328) ∧
(1 ≤ S.used.length) ∧
(S.used.length ≤ 65537) ∧
(S.rel.length ≤ 65537) ∧
(0 ≤ S.fresh) ∧
(S.fresh ≤ (↑S.used.length : Int) - 1) ∧
(∀ o : List Int, (((o) = (orderL S.used S.rel S.fresh)) → (∃ x : Unit, (True ∧ (True ∧ True ∧ True ∧ True) ∧ (True ∧ True ∧ True ∧ ((Value.int IntKind.u64 (S.reads)) = (Value.int IntKind.u64 (S.reads))) ∧ True) ∧ (True ∧ True ∧ True ∧ ((Value.int IntKind.u32 (S.fresh)) = (Value.int IntKind.u32 (S.fresh))) ∧ True) ∧ ((S.nodes) = (S.nodes)) ∧ ((S.counts) = (S.counts)) ∧ ((S.used) = (S.used)) ∧ ((S.gen) = (S.gen)) ∧ ((S.rel) = (S.rel)) ∧ (True ∧ True ∧ True) ∧ ((List.replicate S.cap.toNat { alloc := false, count := 0, gen := 0, node := { key := 0, value := 0, left := 0, right := 0, size := 0, sum := 0, min := 0, max := 0 : NodeT } : SlotT }) = (fillS S 0)) ∧ ((o) = (orderOf S)) ∧ (True ∧ True ∧ True) ∧ ((([] : List SlotT) = [])) ∧ ((([] : List Int) = [])) ∧ True))))) ∧
(1 ≤ S.used.length) ∧
(S.used.length ≤ 65537) ∧
(S.rel.length ≤ 65537) ∧
(0 ≤ S.fresh) ∧
(S.fresh ≤ (↑S.used.length : Int) - 1) ∧
(∀ o : List Int, (((o) = (orderL S.used S.rel S.fresh)) → ((0 ≤ S.cap) ∧ (S.cap ≤ S.cap) ∧ (S.cap * (↑(bytesOf C0 EC.slot) : Int) ≤ 140737488355328) ∧ (∃ x : Unit, (True ∧ (True ∧ True ∧ True ∧ True) ∧ (True ∧ True ∧ True ∧ ((Value.int IntKind.u64 (S.reads)) = (Value.int IntKind.u64 (S.reads))) ∧ True) ∧ (True ∧ True ∧ True ∧
    ((Value.int IntKind.u32 (S.fresh)) = (Value.int IntKind.u32 (S.fresh))) ∧ True) ∧ ((S.nodes) = (S.nodes)) ∧ ((S.counts) = (S.counts)) ∧ ((S.used) = (S.used)) ∧ ((S.gen) = (S.gen)) ∧ ((S.rel) = (S.rel)) ∧ (True ∧ True ∧ True) ∧ ((List.replicate S.cap.toNat { alloc := false, count := 0, gen := 0, node := { key := 0, value := 0, left := 0, right := 0, size := 0, sum := 0, min := 0, max := 0 : NodeT } : SlotT }) = (fillS S 0)) ∧ ((o) = (orderOf S)) ∧ (True ∧ True ∧ True) ∧ ((([] : List SlotT) = [])) ∧ ((([] : List Int) = [])) ∧ True)))))) ∧
((exW S) ∧
((0 ≤ S.cap) ∧
(S.cap ≤ S.cap) ∧
(S.cap * (↑(bytesOf C0 EC.slot) : Int) ≤ 140737488355328) ∧
(1 ≤ S.used.length) ∧
(S.used.length ≤ 65537) ∧
(S.rel.length ≤ 65537) ∧
(0 ≤ S.fresh) ∧
(S.fresh ≤ (↑S.used.length : Int) - 1) ∧
(∀ o : List Int, (((o) = (orderL S.used S.rel S.fresh)) → (∃ x : Unit, (True ∧ (True ∧ True ∧ True ∧ True) ∧ (True ∧ True ∧ True ∧ ((Value.int IntKind.u64 (S.reads)) = (Value.int IntKind.u64 (S.reads))) ∧ True) ∧ (True ∧ True ∧ True ∧ ((Value.int IntKind.u32 (S.fresh)) = (Value.int IntKind.u32 (S.fresh))) ∧ True) ∧ ((S.nodes) = (S.nodes)) ∧ ((S.counts) = (S.counts)) ∧ ((S.used) = (S.used)) ∧ ((S.gen) = (S.gen)) ∧ ((S.rel) = (S.rel)) ∧ (True ∧ True ∧ True) ∧ ((List.replicate S.cap.toNat { alloc := false, count := 0, gen := 0, node := { key := 0, value := 0, left := 0, right := 0, size := 0, sum := 0, min := 0, max := 0 : NodeT } : SlotT }) = (fillS S 0)) ∧ ((o) = (orderOf S)) ∧ (True ∧ True ∧ True) ∧
    ((([] : List SlotT) = [])) ∧ ((([] : List Int) = [])) ∧ True))))) ∧
((0 ≤ S.cap) ∧
(S.cap ≤ S.cap) ∧
(S.cap * (↑(bytesOf C0 EC.slot) : Int) ≤ 140737488355328) ∧
(1 ≤ S.used.length) ∧
(S.used.length ≤ 65537) ∧
(S.rel.length ≤ 65537) ∧
(0 ≤ S.fresh) ∧
(S.fresh ≤ (↑S.used.length : Int) - 1) ∧
(∀ o : List Int, (((o) = (orderL S.used S.rel S.fresh)) → (∃ x : Unit, (True ∧ (True ∧ True ∧ True ∧ True) ∧ (True ∧ True ∧ True ∧ ((Value.int IntKind.u64 (S.reads)) = (Value.int IntKind.u64 (S.reads))) ∧ True) ∧ (True ∧ True ∧ True ∧ ((Value.int IntKind.u32 (S.fresh)) = (Value.int IntKind.u32 (S.fresh))) ∧ True) ∧ ((S.nodes) = (S.nodes)) ∧ ((S.counts) = (S.counts)) ∧ ((S.used) = (S.used)) ∧ ((S.gen) = (S.gen)) ∧ ((S.rel) = (S.rel)) ∧ (True ∧ True ∧ True) ∧ ((List.replicate S.cap.toNat { alloc := false, count := 0, gen := 0, node := { key := 0, value := 0, left := 0, right := 0, size := 0, sum := 0, min := 0, max := 0 : NodeT } : SlotT }) = (fillS S 0)) ∧ ((o) = (orderOf S)) ∧ (True ∧ True ∧ True) ∧ ((([] : List SlotT) = [])) ∧ ((([] : List Int) = [])) ∧ True))))) ∧
(1 ≤ S.used.length) ∧
(S.used.length ≤ 65537) ∧
(S.rel.length ≤ 65537) ∧
(0 ≤ S.fresh) ∧
(S.fresh ≤ (↑S.used.length : Int) - 1) ∧
(∀ o : List Int, (((o) = (orderL S.used S.rel S.fresh)) → ((0 ≤ S.cap) ∧ (S.cap ≤ S.cap) ∧ (S.cap * (↑(bytesOf C0 EC.slot) : Int) ≤ 140737488355328) ∧ (∃ x : Unit, (True ∧ (True ∧ True ∧ True ∧ True) ∧ (True ∧ True ∧ True ∧ ((Value.int IntKind.u64 (S.reads)) = (Value.int IntKind.u64 (S.reads))) ∧
    True) ∧ (True ∧ True ∧ True ∧ ((Value.int IntKind.u32 (S.fresh)) = (Value.int IntKind.u32 (S.fresh))) ∧ True) ∧ ((S.nodes) = (S.nodes)) ∧ ((S.counts) = (S.counts)) ∧ ((S.used) = (S.used)) ∧ ((S.gen) = (S.gen)) ∧ ((S.rel) = (S.rel)) ∧ (True ∧ True ∧ True) ∧ ((List.replicate S.cap.toNat { alloc := false, count := 0, gen := 0, node := { key := 0, value := 0, left := 0, right := 0, size := 0, sum := 0, min := 0, max := 0 : NodeT } : SlotT }) = (fillS S 0)) ∧ ((o) = (orderOf S)) ∧ (True ∧ True ∧ True) ∧ ((([] : List SlotT) = [])) ∧ ((([] : List Int) = [])) ∧ True)))))) ∧
(exW S) ∧
((0 ≤ S.cap) ∧
(S.cap ≤ S.cap) ∧
(S.cap * (↑(bytesOf C0 EC.slot) : Int) ≤ 140737488355328) ∧
(1 ≤ S.used.length) ∧
(S.used.length ≤ 65537) ∧
(S.rel.length ≤ 65537) ∧
(0 ≤ S.fresh) ∧
(S.fresh ≤ (↑S.used.length : Int) - 1) ∧
(∀ o : List Int, (((o) = (orderL S.used S.rel S.fresh)) → (∃ x : Unit, (True ∧ (True ∧ True ∧ True ∧ True) ∧ (True ∧ True ∧ True ∧ ((Value.int IntKind.u64 (S.reads)) = (Value.int IntKind.u64 (S.reads))) ∧ True) ∧ (True ∧ True ∧ True ∧ ((Value.int IntKind.u32 (S.fresh)) = (Value.int IntKind.u32 (S.fresh))) ∧ True) ∧ ((S.nodes) = (S.nodes)) ∧ ((S.counts) = (S.counts)) ∧ ((S.used) = (S.used)) ∧ ((S.gen) = (S.gen)) ∧ ((S.rel) = (S.rel)) ∧ (True ∧ True ∧ True) ∧ ((List.replicate S.cap.toNat { alloc := false, count := 0, gen := 0, node := { key := 0, value := 0, left := 0, right := 0, size := 0, sum := 0, min := 0, max := 0 : NodeT } : SlotT }) = (fillS S 0)) ∧ ((o) = (orderOf S)) ∧ (True ∧
    True ∧ True) ∧ ((([] : List SlotT) = [])) ∧ ((([] : List Int) = [])) ∧ True))))) ∧
(1 ≤ S.used.length) ∧
(S.used.length ≤ 65537) ∧
(S.rel.length ≤ 65537) ∧
(0 ≤ S.fresh) ∧
(S.fresh ≤ (↑S.used.length : Int) - 1) ∧
(∀ o : List Int, (((o) = (orderL S.used S.rel S.fresh)) → ((0 ≤ S.cap) ∧ (S.cap ≤ S.cap) ∧ (S.cap * (↑(bytesOf C0 EC.slot) : Int) ≤ 140737488355328) ∧ (∃ x : Unit, (True ∧ (True ∧ True ∧ True ∧ True) ∧ (True ∧ True ∧ True ∧ ((Value.int IntKind.u64 (S.reads)) = (Value.int IntKind.u64 (S.reads))) ∧ True) ∧ (True ∧ True ∧ True ∧ ((Value.int IntKind.u32 (S.fresh)) = (Value.int IntKind.u32 (S.fresh))) ∧ True) ∧ ((S.nodes) = (S.nodes)) ∧ ((S.counts) = (S.counts)) ∧ ((S.used) = (S.used)) ∧ ((S.gen) = (S.gen)) ∧ ((S.rel) = (S.rel)) ∧ (True ∧ True ∧ True) ∧ ((List.replicate S.cap.toNat { alloc := false, count := 0, gen := 0, node := { key := 0, value := 0, left := 0, right := 0, size := 0, sum := 0, min := 0, max := 0 : NodeT } : SlotT }) = (fillS S 0)) ∧ ((o) = (orderOf S)) ∧ (True ∧ True ∧ True) ∧ ((([] : List SlotT) = [])) ∧ ((([] : List Int) = [])) ∧ True)))))) ∧
(∀ x : Unit, (True → ((∃ x1 : XDu S, (True ∧ (True ∧ True ∧ True ∧ ((Value.int IntKind.i64 ((↑(fillS S 0).length : Int))) = (Value.int IntKind.i64 ((↑(fillS S 0).length : Int)))) ∧ ((Value.int IntKind.i64 0) = (Value.int IntKind.i64 ((↑x1.i : Int)))) ∧ True) ∧ (True ∧ True ∧ True ∧ ((Value.int IntKind.u64 (S.reads)) = (Value.int IntKind.u64 (S.reads))) ∧ True) ∧ (True ∧ True ∧ True ∧
    ((Value.int IntKind.u32 (S.fresh)) = (Value.int IntKind.u32 (S.fresh))) ∧ True) ∧ ((S.nodes) = (S.nodes)) ∧ ((S.counts) = (S.counts)) ∧ ((S.used) = (S.used)) ∧ ((S.gen) = (S.gen)) ∧ ((S.rel) = (S.rel)) ∧ (True ∧ True ∧ True) ∧ ((fillS S 0) = (fillS S x1.i)) ∧ ((orderOf S) = (orderOf S)) ∧ (True ∧ True ∧ True) ∧ ((([] : List SlotT) = [])) ∧ ((([] : List Int) = [])) ∧ True)) ∧ (∀ x1 : XDu S, (True → (brS (decide ((↑x1.i : Int) < (↑(fillS S 0).length : Int))) (((0 ≤ IntKind.u32.wrap (IntKind.i64.wrap ((↑x1.i : Int) + 1))) ∧ (IntKind.u32.wrap (IntKind.i64.wrap ((↑x1.i : Int) + 1)) < (↑S.nodes.length : Int)) ∧ (0 ≤ IntKind.u32.wrap (IntKind.i64.wrap ((↑x1.i : Int) + 1))) ∧ (IntKind.u32.wrap (IntKind.i64.wrap ((↑x1.i : Int) + 1)) < 4294967296) ∧ (S.used.length ≤ 65537) ∧ (inU (IntKind.u32.wrap (IntKind.i64.wrap ((↑x1.i : Int) + 1)))) ∧ (exW S) ∧ (inU (IntKind.u32.wrap (IntKind.i64.wrap ((↑x1.i : Int) + 1)))) ∧ (exW S) ∧ (0 ≤ (↑x1.i : Int)) ∧ ((↑x1.i : Int) < (↑(fillS S x1.i).length : Int)) ∧ (∃ x' : XDu S, (True ∧ ((True ∧ True ∧ True ∧ ((Value.int IntKind.i64 ((↑(fillS S 0).length : Int))) = (Value.int IntKind.i64 ((↑(fillS S 0).length : Int)))) ∧ ((Value.int IntKind.i64 (IntKind.i64.wrap ((↑x1.i : Int) + 1))) = (Value.int IntKind.i64 ((↑x'.i : Int)))) ∧ True) ∧ (True ∧ True ∧ True ∧ ((Value.int IntKind.u64 (S.reads)) = (Value.int IntKind.u64 (S.reads))) ∧ True) ∧ (True ∧ True ∧ True ∧ ((Value.int IntKind.u32 (S.fresh)) = (Value.int IntKind.u32 (S.fresh))) ∧ True) ∧
    ((S.nodes) = (S.nodes)) ∧ ((S.counts) = (S.counts)) ∧ ((S.used) = (S.used)) ∧ ((S.gen) = (S.gen)) ∧ ((S.rel) = (S.rel)) ∧ (True ∧ True ∧ True) ∧ (((fillS S x1.i).set (↑x1.i : Int).toNat { alloc := S.us (IntKind.u32.wrap (IntKind.i64.wrap ((↑x1.i : Int) + 1))), count := if S.us (IntKind.u32.wrap (IntKind.i64.wrap ((↑x1.i : Int) + 1))) = true then S.ct (IntKind.u32.wrap (IntKind.i64.wrap ((↑x1.i : Int) + 1))) else 0, gen := S.gn (IntKind.u32.wrap (IntKind.i64.wrap ((↑x1.i : Int) + 1))), node := S.nd (IntKind.u32.wrap (IntKind.i64.wrap ((↑x1.i : Int) + 1))) : SlotT }) = (fillS S x'.i)) ∧ ((orderOf S) = (orderOf S)) ∧ (True ∧ True ∧ True) ∧ ((([] : List SlotT) = [])) ∧ ((([] : List Int) = [])) ∧ True) ∧ (ncap S - x'.i < ncap S - x1.i))))) ((K (SV.one (TV.agg [(At.slc 7), (At.slc 8)])) [(Chunk.box [(At.ptr 1 0), (At.slc 2), (At.slc 3), (At.val (Value.int IntKind.u64 (S.reads)))]), (Chunk.box [(At.slc 4), (At.slc 5), (At.slc 6), (At.val (Value.int IntKind.u32 (S.fresh)))]), (Chunk.row true (EC.node) (S.nodes)), (Chunk.row true (EC.int) (S.counts)), (Chunk.row true (EC.bool) (S.used)), (Chunk.row true (EC.u32) (S.gen)), (Chunk.row true (EC.u32) (S.rel)), (Chunk.row true (EC.slot) (fillS S x1.i)), (Chunk.row true (EC.u32) (orderOf S))] []))))))))) = _ by kernel_rfl) ?_
  rw [bytes_slot]
  have hw0 := hw
  obtain ⟨hs, hw⟩ := hw
  have hn1 := hw.n1; have hn2 := hw.n2; have hnn := hw.nnod; have hfr := hw.fr; have hfree := hw.free_nonneg
  have hcap : S.cap = (ncap S : Int) := by unfold Arn.cap ncap; omega
  have hc1 : (ncap S : Int) + 1 = S.used.length := by unfold ncap; omega
  have z1 : List.replicate S.cap.toNat SlotT.zero = fillS S 0 := by rw [hcap, ← fill_zero]; rfl
  refine ⟨?_, fun x _ => ⟨⟨⟨0, Nat.zero_le _⟩, ?_⟩, fun y _ => brS_of (fun c => ?_) fun c => ?_⟩⟩
  · (repeat' first | exact trivial | exact hw0 | exact z1 | assumption | exact rfl | omega | refine And.intro ?_ ?_ | refine fun o ho => ?_ | refine ⟨(), ?_⟩)
  · (repeat' first | exact trivial | exact rfl | refine And.intro ?_ ?_)
  · rw [fill_len S 0 (Nat.zero_le _)] at c
    have c : y.i < ncap S := by have := of_decide_eq_true c; omega
    rw [wrap_id (x := (y.i : Int) + 1) (by omega) (by omega), wrap_u32 (by omega) (by omega)]
    refine ⟨by omega, by omega, by omega, by omega, hn2, ⟨by omega, by omega⟩, hw0, ⟨by omega, by omega⟩, hw0, by omega, by rw [fill_len S y.i y.h]; omega, ⟨y.i + 1, c⟩, trivial, ⟨⟨trivial, trivial, trivial, rfl, by congr 1, trivial⟩, ⟨trivial, trivial, trivial, rfl, trivial⟩, ⟨trivial, trivial, trivial, rfl, trivial⟩, rfl, rfl, rfl, rfl, rfl, ⟨trivial, trivial, trivial⟩, fill_next S c, rfl, ⟨trivial, trivial, trivial⟩, rfl, rfl, trivial⟩, ?_⟩
    show ncap S - (y.i + 1) < _; omega
  · rw [fill_len S 0 (Nat.zero_le _)] at c
    have c : y.i = ncap S := by have := of_decide_eq_false c; have := y.h; omega
    exact h _ _ (by rw [c, fill_all]) rfl
theorem s_dump : SoundT C0 30 tDump := by
  refine .of Try.func30 (by decide) rfl fun args H K h hB => ?_
  unfold tDump at h
  split at h <;> try exact h.elim
  unfold arM at h
  split at h <;> try exact h.elim
  rename_i rd fr nd ct us gn rl
  exact ⟨aDump ⟨us, gn, rl, fr, nd, ct, rd⟩, ⟨frame C0.ok s_cap _, frame C0.ok s_order _, frame C0.ok s_slAllocated _, frame C0.ok s_count _, frame C0.ok s_gen _, trivial⟩, vc_dump ⟨us, gn, rl, fr, nd, ct, rd⟩ K h.1 h.2⟩
end Go.Proofs.Ytjbkckcjmmmooaa.Sx
end
