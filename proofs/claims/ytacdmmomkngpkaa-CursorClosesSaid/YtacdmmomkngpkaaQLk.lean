/- The nearest entries of a tree: lookup's functions. -/
import Derived.Test.YtacdmmomkngpkaaQBk
import Derived.Test.YtacdmmomkngpkaaQRk
import Derived.Test.YtacdmmomkngpkaaArG
namespace Go.Proofs.Ytacdmmomkngpkaa.Sx
open Go

/-KEEP Wf exW inU live Arn.cap Arn.free Rep rdS Tr.size lsT gtT entO-/
abbrev chA (key : Int) (S : Arn) : List (Chunk C0) := [.box [.ptr 2 0, .slc 3, .slc 4, vU64 S.reads], .box [vI key], .box [.slc 5, .slc 6, .slc 7, vU S.fresh], .row true EC.node S.nodes, .row true EC.int S.counts, .row true EC.bool S.used, .row true EC.u32 S.gen, .row true EC.u32 S.rel]
def caM (H : List (Chunk C0)) (k : Int → Arn → Prop) : Prop := match H with
  | [.box [.ptr 2 0, .slc 3, .slc 4, .val (.int .u64 rd)], .box [.val (.int .i64 key)], .box [.slc 5, .slc 6, .slc 7, .val (.int .u32 fr)], .row true .node nd, .row true .int ct, .row true .bool us, .row true .u32 gn, .row true .u32 rl] => k key ⟨us, gn, rl, fr, nd, ct, rd⟩
  | _ => False
def tEntry : Tfm C0 := fun args H K => match args, H with
  | [.agg [.val (.int .i64 k), .val (.int .i64 v), .val (.int .u32 _), .val (.int .u32 _), .val (.int .i64 _), .val (.int .i64 _), .val (.int .i64 _), .val (.int .i64 _)]], [] => K (.one (.agg [vI k, vI v])) [] []
  | _, _ => False
theorem s_entry : SoundT C0 138 tEntry := by
  refine .of Try.func138 (by decide) rfl fun args H K h hB => ⟨A0, trivial, ?_⟩
  unfold tEntry at h
  split at h <;> try exact h.elim
  exact Eq.mp (show _ = _ by kernel_rfl) h
structure XNr (F : Tr → (Int → Bool) → Option Ent → Option Ent × Nat) (S : Arn) (t : Tr) (p : Int → Bool) where
  i : Int
  t' : Tr
  b : Option Ent
  m : Nat
  h : Rep S t' i ∧ F t p none = ((F t' p b).1, m + (F t' p b).2) ∧ t'.size ≤ t.size
def tAdm_ceil : Tfm C0 := fun args H K => match args, H with
  | [.at (.val (.int .i64 k)), .at (.ptr 0 0)], [.box [.val (.int .i64 key)]] => K (.one (.at (vB (decide (k ≥ key))))) [.box [vI key]] []
  | _, _ => False
theorem s_adm_ceil : SoundT C0 119 tAdm_ceil := by
  refine .of Try.func119 (by decide) rfl fun args H K h hB => ⟨A0, trivial, ?_⟩
  unfold tAdm_ceil at h
  split at h <;> try exact h.elim
  exact Eq.mp (show _ = _ by kernel_rfl) h
noncomputable def aNr_ceil (S : Arn) (t : Tr) (key : Int) : Ann C0 := { Γ := [(75, frameT [] tNode), (119, frameT [] tAdm_ceil), (138, frameT [] tEntry)], inv := fun n => match n with
  | 4 => some { X := XNr lsT S t (fun k => decide (k ≥ key)), sl := [10, 9, 8, 6], tf := fun x => [vi .u32 x.i, vb x.b.isSome, .one (.at (.ptr 8 0)), .one (.at (.ptr 9 0))], hf := fun x => chA key (rdS S x.m) ++ [.box [vI (x.b.getD (0, 0)).1, vI (x.b.getD (0, 0)).2], .box [vI 0, vI 0]], μ := fun x => x.t'.size, wr := [0] }
  | _ => none }
def tNr_ceil : Tfm C0 := fun args H K => match args with
  | [.at (.ptr 0 0), .at (.val (.int .u32 i)), .at (.fn 119 [1])] => caM H fun key S => ∃ hs t, Wf S hs ∧ Rep S t i ∧ t.size ≤ 1000000 ∧ S.reads + t.size ≤ 3000000000000000000 ∧
    ∀ S' o, S' = rdS S (lsT t (fun k => decide (k ≥ key)) none).2 → o = (lsT t (fun k => decide (k ≥ key)) none).1 → K (.tup [entO o, .at (vB o.isSome)]) (chA key S') [0]
  | _ => False
noncomputable def aLu_ceil : Ann C0 := { Γ := [(118, frameT [] tNr_ceil)] }
def tLu_ceil : Tfm C0 := fun args H K => match args with
  | [.at (.ptr 0 0), .at (.val (.int .u32 i)), .at (.val (.int .i64 key))] => arM H fun S => ∃ hs t, Wf S hs ∧ Rep S t i ∧ t.size ≤ 1000000 ∧ S.reads + t.size ≤ 3000000000000000000 ∧
    ∀ S' o, S' = rdS S (lsT t (fun k => decide (k ≥ key)) none).2 → o = (lsT t (fun k => decide (k ≥ key)) none).1 → K (.tup [entO o, .at (vB o.isSome)]) (chS S') [0]
  | _ => False
theorem vc_nr_ceil (S : Arn) (i key : Int) (K : KT) (hs : List Int) (t : Tr) (hw : Wf S hs) (hr : Rep S t i) (h1 : t.size ≤ 1000000) (h2 : S.reads + t.size ≤ 3000000000000000000)
    (h : ∀ S' o, S' = rdS S (lsT t (fun k => decide (k ≥ key)) none).2 → o = (lsT t (fun k => decide (k ≥ key)) none).1 → K (.tup [entO o, .at (vB o.isSome)]) (chA key S') [0]) :
    vc C0 (aNr_ceil S t key) Try.f118 [.at (.ptr 0 0), .at (vU i), .at (.fn 119 [1])] (chA key S) (normK 8 (wideK [0] K)) := by
  refine Eq.mp (show ((∃ x : XNr lsT S t fun k => decide (k ≥ key),
  (True ∧
  (True ∧
  ((At.fn 119 [1]) = (At.fn 119 [1])) ∧
  True ∧
  True ∧
  ((Value.bool false) = (Value.bool (x.b.isSome))) ∧
  ((Value.int IntKind.u32 (i)) = (Value.int IntKind.u32 (x.i))) ∧
  True) ∧
  (True ∧
  True ∧
  True ∧
  ((Value.int IntKind.u64 (S.reads)) = (Value.int IntKind.u64 ((rdS S x.m).reads))) ∧
  True) ∧
  (((Value.int IntKind.i64 (key)) = (Value.int IntKind.i64 (key))) ∧
  True) ∧
  (True ∧
  True ∧
  True ∧
  ((Value.int IntKind.u32 (S.fresh)) = (Value.int IntKind.u32 ((rdS S x.m).fresh))) ∧
  True) ∧
  ((S.nodes) = ((rdS S x.m).nodes)) ∧
  ((S.counts) = ((rdS S x.m).counts)) ∧
  ((S.used) = ((rdS S x.m).used)) ∧
  ((S.gen) = ((rdS S x.m).gen)) ∧
  ((S.rel) = ((rdS S x.m).rel)) ∧
  (((Value.int IntKind.i64 0) = (Value.int IntKind.i64 ((x.b.getD (0, 0)).fst))) ∧
  ((Value.int IntKind.i64 0) = (Value.int IntKind.i64 ((x.b.getD (0, 0)).snd))) ∧
  True) ∧
  (((Value.int IntKind.i64 0) = (Value.int IntKind.i64 0)) ∧
  ((Value.int IntKind.i64 0) = (Value.int IntKind.i64 0)) ∧
  True) ∧
  True)) ∧
(∀ x : XNr lsT S t fun k => decide (k ≥ key),
  (True →
  (brS (x.i != 0)
    (((inU x.i) ∧
    (exW (rdS S x.m)) ∧
    ((rdS S x.m).reads < 4000000000000000000) ∧
    (∀ S' : Arn,
      (((S') = (rdS (rdS S x.m) ((rdS S x.m).us x.i).toNat)) →
      (brS (!(rdS S x.m).us x.i)
        ((K (SV.tup [(TV.agg [(At.val (Value.int IntKind.i64 ((x.b.getD (0, 0)).fst))), (At.val (Value.int IntKind.i64 ((x.b.getD (0, 0)).snd)))]), (TV.at (At.val (Value.bool (x.b.isSome))))]) [(Chunk.box [(At.ptr 2 0), (At.slc 3), (At.slc 4), (At.val (Value.int IntKind.u64 (S'.reads)))]), (Chunk.box [(At.val (Value.int IntKind.i64 (key)))]), (Chunk.box [(At.slc 5), (At.slc 6), (At.slc 7), (At.val (Value.int IntKind.u32 (S'.fresh)))]), (Chunk.row true (EC.node) (S'.nodes)), (Chunk.row true (EC.int) (S'.counts)), (Chunk.row true (EC.bool) (S'.used)), (Chunk.row true (EC.u32) (S'.gen)), (Chunk.row true (EC.u32) (S'.rel))] [0]))
        ((brS (!decide (((rdS S x.m).nd x.i).key ≥ key))
          ((∃ x' : XNr lsT S t fun k => decide (k ≥ key),
            (True ∧
            ((True ∧
            ((At.fn 119 [1]) = (At.fn 119 [1])) ∧
            True ∧
            True ∧
            ((Value.bool (x.b.isSome)) = (Value.bool (x'.b.isSome))) ∧
            ((Value.int IntKind.u32 (((rdS S x.m).nd x.i).right)) = (Value.int IntKind.u32 (x'.i))) ∧
            True) ∧
            (True ∧
            True ∧
            True ∧
            ((Value.int IntKind.u64 (S'.reads)) = (Value.int IntKind.u64 ((rdS S x'.m).reads))) ∧
            True) ∧
            (((Value.int IntKind.i64 (key)) = (Value.int IntKind.i64 (key))) ∧
            True) ∧
            (True ∧
            True ∧
            True ∧
            ((Value.int IntKind.u32 (S'.fresh)) = (Value.int IntKind.u32 ((rdS S x'.m).fresh))) ∧
            True) ∧
            ((S'.nodes) = ((rdS S x'.m).nodes)) ∧
            ((S'.counts) = ((rdS S x'.m).counts)) ∧
            ((S'.used) = ((rdS S x'.m).used)) ∧
            ((S'.gen) = ((rdS S x'.m).gen)) ∧
            ((S'.rel) = ((rdS S x'.m).rel)) ∧
            (((Value.int IntKind.i64 ((x.b.getD (0, 0)).fst)) = (Value.int IntKind.i64 ((x'.b.getD (0, 0)).fst))) ∧
            ((Value.int IntKind.i64 ((x.b.getD (0, 0)).snd)) = (Value.int IntKind.i64 ((x'.b.getD (0, 0)).snd))) ∧
            True) ∧
            (((Value.int IntKind.i64 0) = (Value.int IntKind.i64 0)) ∧
            ((Value.int IntKind.i64 0) = (Value.int IntKind.i64 0)) ∧
            True) ∧
            True) ∧
            (x'.t'.size < x.t'.size))))
          ((∃ x' : XNr lsT S t fun k => decide (k ≥ key),
            (True ∧
            ((True ∧
            ((At.fn 119 [1]) = (At.fn 119 [1])) ∧
            True ∧
            True ∧
            ((Value.bool true) = (Value.bool (x'.b.isSome))) ∧
            ((Value.int IntKind.u32 (((rdS S x.m).nd x.i).left)) = (Value.int IntKind.u32 (x'.i))) ∧
            True) ∧
            (True ∧
            True ∧
            True ∧
            ((Value.int IntKind.u64 (S'.reads)) = (Value.int IntKind.u64 ((rdS S x'.m).reads))) ∧
            True) ∧
            (((Value.int IntKind.i64 (key)) = (Value.int IntKind.i64 (key))) ∧
            True) ∧
            (True ∧
            True ∧
            True ∧
            ((Value.int IntKind.u32 (S'.fresh)) = (Value.int IntKind.u32 ((rdS S x'.m).fresh))) ∧
            True) ∧
            ((S'.nodes) = ((rdS S x'.m).nodes)) ∧
            ((S'.counts) = ((rdS S x'.m).counts)) ∧
            ((S'.used) = ((rdS S x'.m).used)) ∧
            ((S'.gen) = ((rdS S x'.m).gen)) ∧
            ((S'.rel) = ((rdS S x'.m).rel)) ∧
            (((Value.int IntKind.i64 (((rdS S x.m).nd x.i).key)) = (Value.int IntKind.i64 ((x'.b.getD (0, 0)).fst))) ∧
            ((Value.int IntKind.i64 (((rdS S x.m).nd x.i).value)) = (Value.int IntKind.i64 ((x'.b.getD (0, 0)).snd))) ∧
            True) ∧
            (((Value.int IntKind.i64 0) = (Value.int IntKind.i64 0)) ∧
            ((Value.int IntKind.i64 0) = (Value.int IntKind.i64 0)) ∧
            True) ∧
            True) ∧
            (x'.t'.size < x.t'.size)))))))))))
    ((K (SV.tup [(TV.agg [(At.val (Value.int IntKind.i64 ((x.b.getD (0, 0)).fst))), (At.val (Value.int IntKind.i64 ((x.b.getD (0, 0)).snd)))]), (TV.at (At.val (Value.bool (x.b.isSome))))]) [(Chunk.box [(At.ptr 2 0), (At.slc 3), (At.slc 4), (At.val (Value.int IntKind.u64 ((rdS S x.m).reads)))]), (Chunk.box [(At.val (Value.int IntKind.i64 (key)))]), (Chunk.box [(At.slc 5), (At.slc 6), (At.slc 7), (At.val (Value.int IntKind.u32 ((rdS S x.m).fresh)))]), (Chunk.row true (EC.node) ((rdS S x.m).nodes)), (Chunk.row true (EC.int) ((rdS S x.m).counts)), (Chunk.row true (EC.bool) ((rdS S x.m).used)), (Chunk.row true (EC.u32) ((rdS S x.m).gen)), (Chunk.row true (EC.u32) ((rdS S x.m).rel))] [0])))))) = _ by kernel_rfl) ?_
  have hrd := hw.rds
  have hb := lsT_le t (fun k => decide (k ≥ key)) none
  refine ⟨⟨⟨i, t, none, 0, hr, by simp, Nat.le_refl _⟩, ?_⟩, fun x _ => ?_⟩
  · (repeat' first | exact trivial | exact rfl | refine And.intro ?_ ?_)
    rw [rdS_zero]
  obtain ⟨xi, xt, xb, xm, h1', hb2, h3⟩ := x
  dsimp only
  have hxm : xm ≤ (lsT t (fun k => decide (k ≥ key)) none).2 := by rw [hb2]; exact Nat.le_add_right _ _
  have hwx : Wf (rdS S xm) hs := hw.rd (by omega)
  refine brS_of (fun c => ?_) fun c => ?_
  · have c : xi ≠ 0 := by simpa using c
    cases xt with
    | nil => exact absurd h1' c
    | node l k v r =>
      obtain ⟨r1, r2, r3, r4, r5⟩ := h1'
      have hsz : l.size + r.size + 1 = (Tr.node l k v r).size := by simp [Tr.size]; omega
      refine ⟨inU_of hw (.inr r1), ⟨_, hwx⟩, by show S.reads + (xm : Int) < _; omega, fun S1 e1 => brS_of (fun d => ?_) fun _ => ?_⟩
      · have d : (!S.us xi) = true := d
        have d : S.us xi = false := by simpa using d
        rw [r1] at d; cases d
      have e1 : S1 = rdS S (xm + 1) := by rw [e1, rdS_rdS]; show rdS S (xm + (S.us xi).toNat) = _; rw [r1]; rfl
      subst e1
      have ek : ((rdS S xm).nd xi).key = k := r2
      have ev : ((rdS S xm).nd xi).value = v := r3
      rw [ek, ev]
      refine brS_of (fun d => ?_) fun d => ?_
      · have hc : ¬ decide (k ≥ key) = true := by simpa using d
        refine ⟨⟨(S.nd xi).right, r, xb, xm + 1, r5, by rw [hb2]; simp only [lsT, if_neg hc]; exact Prod.ext rfl (by show _ = _; simp only []; omega), by omega⟩, ?_⟩
        (repeat' first | exact trivial | exact rfl | refine And.intro ?_ ?_)
        show r.size < (Tr.node l k v r).size; omega
      · have hc : decide (k ≥ key) = true := by simpa using d
        refine ⟨⟨(S.nd xi).left, l, some (k, v), xm + 1, r4, by rw [hb2]; simp only [lsT, if_pos hc]; exact Prod.ext rfl (by show _ = _; simp only []; omega), by omega⟩, ?_⟩
        (repeat' first | exact trivial | exact rfl | refine And.intro ?_ ?_)
        show l.size < (Tr.node l k v r).size; omega
  · have c : xi = 0 := by simpa using c
    subst c
    have e := h1'.zero hw
    subst e
    exact h _ xb (by rw [hb2]; simp [lsT]) (by rw [hb2]; simp [lsT])
theorem s_nr_ceil : SoundT C0 118 tNr_ceil := by
  refine .ofW [0] Try.func118 (by decide) rfl fun args H K h hB => ?_
  unfold tNr_ceil at h
  split at h <;> try exact h.elim
  unfold caM at h
  split at h <;> try exact h.elim
  rename_i i _ rd key fr nd ct us gn rl
  obtain ⟨hs, t, h1, h2, h3, h4, h5⟩ := h
  exact ⟨aNr_ceil ⟨us, gn, rl, fr, nd, ct, rd⟩ t key, ⟨frame C0.ok s_node _, frame C0.ok s_adm_ceil _, frame C0.ok s_entry _, trivial⟩, vc_nr_ceil ⟨us, gn, rl, fr, nd, ct, rd⟩ i key K hs t h1 h2 h3 h4 h5⟩
theorem vc_lu_ceil (S : Arn) (i key : Int) (K : KT) (hs : List Int) (t : Tr) (hw : Wf S hs) (hr : Rep S t i) (h1 : t.size ≤ 1000000) (h2 : S.reads + t.size ≤ 3000000000000000000)
    (h : ∀ S' o, S' = rdS S (lsT t (fun k => decide (k ≥ key)) none).2 → o = (lsT t (fun k => decide (k ≥ key)) none).1 → K (.tup [entO o, .at (vB o.isSome)]) (chS S') [0]) :
    vc C0 aLu_ceil Try.f87 [.at (.ptr 0 0), .at (vU i), .at (vI key)] (chS S) (normK 7 (wideK [0] K)) :=
  Eq.mp (show (∃ hs : List Int,
  (∃ t : Tr,
    ((Wf S hs) ∧
    (Rep S t i) ∧
    (t.size ≤ 1000000) ∧
    (S.reads + (↑t.size : Int) ≤ 3000000000000000000) ∧
    (∀ S' : Arn,
      (∀ o : Option Ent,
        (((S') = (rdS S (lsT t (fun k => decide (k ≥ key)) none).snd)) →
        (((o) = ((lsT t (fun k => decide (k ≥ key)) none).fst)) →
        (K (SV.tup [(TV.agg [(At.val (Value.int IntKind.i64 ((o.getD (0, 0)).fst))), (At.val (Value.int IntKind.i64 ((o.getD (0, 0)).snd)))]), (TV.at (At.val (Value.bool (o.isSome))))]) [(Chunk.box [(At.ptr 1 0), (At.slc 2), (At.slc 3), (At.val (Value.int IntKind.u64 (S'.reads)))]), (Chunk.box [(At.slc 4), (At.slc 5), (At.slc 6), (At.val (Value.int IntKind.u32 (S'.fresh)))]), (Chunk.row true (EC.node) (S'.nodes)), (Chunk.row true (EC.int) (S'.counts)), (Chunk.row true (EC.bool) (S'.used)), (Chunk.row true (EC.u32) (S'.gen)), (Chunk.row true (EC.u32) (S'.rel))] [0])))))))) = _ by kernel_rfl) ⟨hs, t, hw, hr, h1, h2, h⟩
theorem s_lu_ceil : SoundT C0 87 tLu_ceil := by
  refine .ofW [0] Try.func87 (by decide) rfl fun args H K h hB => ?_
  unfold tLu_ceil at h
  split at h <;> try exact h.elim
  unfold arM at h
  split at h <;> try exact h.elim
  rename_i i key _ rd fr nd ct us gn rl
  obtain ⟨hs, t, h1, h2, h3, h4, h5⟩ := h
  exact ⟨aLu_ceil, ⟨frame C0.ok s_nr_ceil _, trivial⟩, vc_lu_ceil ⟨us, gn, rl, fr, nd, ct, rd⟩ i key K hs t h1 h2 h3 h4 h5⟩
def tAdm_above : Tfm C0 := fun args H K => match args, H with
  | [.at (.val (.int .i64 k)), .at (.ptr 0 0)], [.box [.val (.int .i64 key)]] => K (.one (.at (vB (decide (k > key))))) [.box [vI key]] []
  | _, _ => False
theorem s_adm_above : SoundT C0 120 tAdm_above := by
  refine .of Try.func120 (by decide) rfl fun args H K h hB => ⟨A0, trivial, ?_⟩
  unfold tAdm_above at h
  split at h <;> try exact h.elim
  exact Eq.mp (show _ = _ by kernel_rfl) h
noncomputable def aNr_above (S : Arn) (t : Tr) (key : Int) : Ann C0 := { Γ := [(75, frameT [] tNode), (120, frameT [] tAdm_above), (138, frameT [] tEntry)], inv := fun n => match n with
  | 4 => some { X := XNr lsT S t (fun k => decide (k > key)), sl := [10, 9, 8, 6], tf := fun x => [vi .u32 x.i, vb x.b.isSome, .one (.at (.ptr 8 0)), .one (.at (.ptr 9 0))], hf := fun x => chA key (rdS S x.m) ++ [.box [vI (x.b.getD (0, 0)).1, vI (x.b.getD (0, 0)).2], .box [vI 0, vI 0]], μ := fun x => x.t'.size, wr := [0] }
  | _ => none }
def tNr_above : Tfm C0 := fun args H K => match args with
  | [.at (.ptr 0 0), .at (.val (.int .u32 i)), .at (.fn 120 [1])] => caM H fun key S => ∃ hs t, Wf S hs ∧ Rep S t i ∧ t.size ≤ 1000000 ∧ S.reads + t.size ≤ 3000000000000000000 ∧
    ∀ S' o, S' = rdS S (lsT t (fun k => decide (k > key)) none).2 → o = (lsT t (fun k => decide (k > key)) none).1 → K (.tup [entO o, .at (vB o.isSome)]) (chA key S') [0]
  | _ => False
noncomputable def aLu_above : Ann C0 := { Γ := [(118, frameT [] tNr_above)] }
def tLu_above : Tfm C0 := fun args H K => match args with
  | [.at (.ptr 0 0), .at (.val (.int .u32 i)), .at (.val (.int .i64 key))] => arM H fun S => ∃ hs t, Wf S hs ∧ Rep S t i ∧ t.size ≤ 1000000 ∧ S.reads + t.size ≤ 3000000000000000000 ∧
    ∀ S' o, S' = rdS S (lsT t (fun k => decide (k > key)) none).2 → o = (lsT t (fun k => decide (k > key)) none).1 → K (.tup [entO o, .at (vB o.isSome)]) (chS S') [0]
  | _ => False
theorem vc_nr_above (S : Arn) (i key : Int) (K : KT) (hs : List Int) (t : Tr) (hw : Wf S hs) (hr : Rep S t i) (h1 : t.size ≤ 1000000) (h2 : S.reads + t.size ≤ 3000000000000000000)
    (h : ∀ S' o, S' = rdS S (lsT t (fun k => decide (k > key)) none).2 → o = (lsT t (fun k => decide (k > key)) none).1 → K (.tup [entO o, .at (vB o.isSome)]) (chA key S') [0]) :
    vc C0 (aNr_above S t key) Try.f118 [.at (.ptr 0 0), .at (vU i), .at (.fn 120 [1])] (chA key S) (normK 8 (wideK [0] K)) := by
  refine Eq.mp (show ((∃ x : XNr lsT S t fun k => decide (k > key),
  (True ∧
  (True ∧
  ((At.fn 120 [1]) = (At.fn 120 [1])) ∧
  True ∧
  True ∧
  ((Value.bool false) = (Value.bool (x.b.isSome))) ∧
  ((Value.int IntKind.u32 (i)) = (Value.int IntKind.u32 (x.i))) ∧
  True) ∧
  (True ∧
  True ∧
  True ∧
  ((Value.int IntKind.u64 (S.reads)) = (Value.int IntKind.u64 ((rdS S x.m).reads))) ∧
  True) ∧
  (((Value.int IntKind.i64 (key)) = (Value.int IntKind.i64 (key))) ∧
  True) ∧
  (True ∧
  True ∧
  True ∧
  ((Value.int IntKind.u32 (S.fresh)) = (Value.int IntKind.u32 ((rdS S x.m).fresh))) ∧
  True) ∧
  ((S.nodes) = ((rdS S x.m).nodes)) ∧
  ((S.counts) = ((rdS S x.m).counts)) ∧
  ((S.used) = ((rdS S x.m).used)) ∧
  ((S.gen) = ((rdS S x.m).gen)) ∧
  ((S.rel) = ((rdS S x.m).rel)) ∧
  (((Value.int IntKind.i64 0) = (Value.int IntKind.i64 ((x.b.getD (0, 0)).fst))) ∧
  ((Value.int IntKind.i64 0) = (Value.int IntKind.i64 ((x.b.getD (0, 0)).snd))) ∧
  True) ∧
  (((Value.int IntKind.i64 0) = (Value.int IntKind.i64 0)) ∧
  ((Value.int IntKind.i64 0) = (Value.int IntKind.i64 0)) ∧
  True) ∧
  True)) ∧
(∀ x : XNr lsT S t fun k => decide (k > key),
  (True →
  (brS (x.i != 0)
    (((inU x.i) ∧
    (exW (rdS S x.m)) ∧
    ((rdS S x.m).reads < 4000000000000000000) ∧
    (∀ S' : Arn,
      (((S') = (rdS (rdS S x.m) ((rdS S x.m).us x.i).toNat)) →
      (brS (!(rdS S x.m).us x.i)
        ((K (SV.tup [(TV.agg [(At.val (Value.int IntKind.i64 ((x.b.getD (0, 0)).fst))), (At.val (Value.int IntKind.i64 ((x.b.getD (0, 0)).snd)))]), (TV.at (At.val (Value.bool (x.b.isSome))))]) [(Chunk.box [(At.ptr 2 0), (At.slc 3), (At.slc 4), (At.val (Value.int IntKind.u64 (S'.reads)))]), (Chunk.box [(At.val (Value.int IntKind.i64 (key)))]), (Chunk.box [(At.slc 5), (At.slc 6), (At.slc 7), (At.val (Value.int IntKind.u32 (S'.fresh)))]), (Chunk.row true (EC.node) (S'.nodes)), (Chunk.row true (EC.int) (S'.counts)), (Chunk.row true (EC.bool) (S'.used)), (Chunk.row true (EC.u32) (S'.gen)), (Chunk.row true (EC.u32) (S'.rel))] [0]))
        ((brS (!decide (((rdS S x.m).nd x.i).key > key))
          ((∃ x' : XNr lsT S t fun k => decide (k > key),
            (True ∧
            ((True ∧
            ((At.fn 120 [1]) = (At.fn 120 [1])) ∧
            True ∧
            True ∧
            ((Value.bool (x.b.isSome)) = (Value.bool (x'.b.isSome))) ∧
            ((Value.int IntKind.u32 (((rdS S x.m).nd x.i).right)) = (Value.int IntKind.u32 (x'.i))) ∧
            True) ∧
            (True ∧
            True ∧
            True ∧
            ((Value.int IntKind.u64 (S'.reads)) = (Value.int IntKind.u64 ((rdS S x'.m).reads))) ∧
            True) ∧
            (((Value.int IntKind.i64 (key)) = (Value.int IntKind.i64 (key))) ∧
            True) ∧
            (True ∧
            True ∧
            True ∧
            ((Value.int IntKind.u32 (S'.fresh)) = (Value.int IntKind.u32 ((rdS S x'.m).fresh))) ∧
            True) ∧
            ((S'.nodes) = ((rdS S x'.m).nodes)) ∧
            ((S'.counts) = ((rdS S x'.m).counts)) ∧
            ((S'.used) = ((rdS S x'.m).used)) ∧
            ((S'.gen) = ((rdS S x'.m).gen)) ∧
            ((S'.rel) = ((rdS S x'.m).rel)) ∧
            (((Value.int IntKind.i64 ((x.b.getD (0, 0)).fst)) = (Value.int IntKind.i64 ((x'.b.getD (0, 0)).fst))) ∧
            ((Value.int IntKind.i64 ((x.b.getD (0, 0)).snd)) = (Value.int IntKind.i64 ((x'.b.getD (0, 0)).snd))) ∧
            True) ∧
            (((Value.int IntKind.i64 0) = (Value.int IntKind.i64 0)) ∧
            ((Value.int IntKind.i64 0) = (Value.int IntKind.i64 0)) ∧
            True) ∧
            True) ∧
            (x'.t'.size < x.t'.size))))
          ((∃ x' : XNr lsT S t fun k => decide (k > key),
            (True ∧
            ((True ∧
            ((At.fn 120 [1]) = (At.fn 120 [1])) ∧
            True ∧
            True ∧
            ((Value.bool true) = (Value.bool (x'.b.isSome))) ∧
            ((Value.int IntKind.u32 (((rdS S x.m).nd x.i).left)) = (Value.int IntKind.u32 (x'.i))) ∧
            True) ∧
            (True ∧
            True ∧
            True ∧
            ((Value.int IntKind.u64 (S'.reads)) = (Value.int IntKind.u64 ((rdS S x'.m).reads))) ∧
            True) ∧
            (((Value.int IntKind.i64 (key)) = (Value.int IntKind.i64 (key))) ∧
            True) ∧
            (True ∧
            True ∧
            True ∧
            ((Value.int IntKind.u32 (S'.fresh)) = (Value.int IntKind.u32 ((rdS S x'.m).fresh))) ∧
            True) ∧
            ((S'.nodes) = ((rdS S x'.m).nodes)) ∧
            ((S'.counts) = ((rdS S x'.m).counts)) ∧
            ((S'.used) = ((rdS S x'.m).used)) ∧
            ((S'.gen) = ((rdS S x'.m).gen)) ∧
            ((S'.rel) = ((rdS S x'.m).rel)) ∧
            (((Value.int IntKind.i64 (((rdS S x.m).nd x.i).key)) = (Value.int IntKind.i64 ((x'.b.getD (0, 0)).fst))) ∧
            ((Value.int IntKind.i64 (((rdS S x.m).nd x.i).value)) = (Value.int IntKind.i64 ((x'.b.getD (0, 0)).snd))) ∧
            True) ∧
            (((Value.int IntKind.i64 0) = (Value.int IntKind.i64 0)) ∧
            ((Value.int IntKind.i64 0) = (Value.int IntKind.i64 0)) ∧
            True) ∧
            True) ∧
            (x'.t'.size < x.t'.size)))))))))))
    ((K (SV.tup [(TV.agg [(At.val (Value.int IntKind.i64 ((x.b.getD (0, 0)).fst))), (At.val (Value.int IntKind.i64 ((x.b.getD (0, 0)).snd)))]), (TV.at (At.val (Value.bool (x.b.isSome))))]) [(Chunk.box [(At.ptr 2 0), (At.slc 3), (At.slc 4), (At.val (Value.int IntKind.u64 ((rdS S x.m).reads)))]), (Chunk.box [(At.val (Value.int IntKind.i64 (key)))]), (Chunk.box [(At.slc 5), (At.slc 6), (At.slc 7), (At.val (Value.int IntKind.u32 ((rdS S x.m).fresh)))]), (Chunk.row true (EC.node) ((rdS S x.m).nodes)), (Chunk.row true (EC.int) ((rdS S x.m).counts)), (Chunk.row true (EC.bool) ((rdS S x.m).used)), (Chunk.row true (EC.u32) ((rdS S x.m).gen)), (Chunk.row true (EC.u32) ((rdS S x.m).rel))] [0])))))) = _ by kernel_rfl) ?_
  have hrd := hw.rds
  have hb := lsT_le t (fun k => decide (k > key)) none
  refine ⟨⟨⟨i, t, none, 0, hr, by simp, Nat.le_refl _⟩, ?_⟩, fun x _ => ?_⟩
  · (repeat' first | exact trivial | exact rfl | refine And.intro ?_ ?_)
    rw [rdS_zero]
  obtain ⟨xi, xt, xb, xm, h1', hb2, h3⟩ := x
  dsimp only
  have hxm : xm ≤ (lsT t (fun k => decide (k > key)) none).2 := by rw [hb2]; exact Nat.le_add_right _ _
  have hwx : Wf (rdS S xm) hs := hw.rd (by omega)
  refine brS_of (fun c => ?_) fun c => ?_
  · have c : xi ≠ 0 := by simpa using c
    cases xt with
    | nil => exact absurd h1' c
    | node l k v r =>
      obtain ⟨r1, r2, r3, r4, r5⟩ := h1'
      have hsz : l.size + r.size + 1 = (Tr.node l k v r).size := by simp [Tr.size]; omega
      refine ⟨inU_of hw (.inr r1), ⟨_, hwx⟩, by show S.reads + (xm : Int) < _; omega, fun S1 e1 => brS_of (fun d => ?_) fun _ => ?_⟩
      · have d : (!S.us xi) = true := d
        have d : S.us xi = false := by simpa using d
        rw [r1] at d; cases d
      have e1 : S1 = rdS S (xm + 1) := by rw [e1, rdS_rdS]; show rdS S (xm + (S.us xi).toNat) = _; rw [r1]; rfl
      subst e1
      have ek : ((rdS S xm).nd xi).key = k := r2
      have ev : ((rdS S xm).nd xi).value = v := r3
      rw [ek, ev]
      refine brS_of (fun d => ?_) fun d => ?_
      · have hc : ¬ decide (k > key) = true := by simpa using d
        refine ⟨⟨(S.nd xi).right, r, xb, xm + 1, r5, by rw [hb2]; simp only [lsT, if_neg hc]; exact Prod.ext rfl (by show _ = _; simp only []; omega), by omega⟩, ?_⟩
        (repeat' first | exact trivial | exact rfl | refine And.intro ?_ ?_)
        show r.size < (Tr.node l k v r).size; omega
      · have hc : decide (k > key) = true := by simpa using d
        refine ⟨⟨(S.nd xi).left, l, some (k, v), xm + 1, r4, by rw [hb2]; simp only [lsT, if_pos hc]; exact Prod.ext rfl (by show _ = _; simp only []; omega), by omega⟩, ?_⟩
        (repeat' first | exact trivial | exact rfl | refine And.intro ?_ ?_)
        show l.size < (Tr.node l k v r).size; omega
  · have c : xi = 0 := by simpa using c
    subst c
    have e := h1'.zero hw
    subst e
    exact h _ xb (by rw [hb2]; simp [lsT]) (by rw [hb2]; simp [lsT])
theorem s_nr_above : SoundT C0 118 tNr_above := by
  refine .ofW [0] Try.func118 (by decide) rfl fun args H K h hB => ?_
  unfold tNr_above at h
  split at h <;> try exact h.elim
  unfold caM at h
  split at h <;> try exact h.elim
  rename_i i _ rd key fr nd ct us gn rl
  obtain ⟨hs, t, h1, h2, h3, h4, h5⟩ := h
  exact ⟨aNr_above ⟨us, gn, rl, fr, nd, ct, rd⟩ t key, ⟨frame C0.ok s_node _, frame C0.ok s_adm_above _, frame C0.ok s_entry _, trivial⟩, vc_nr_above ⟨us, gn, rl, fr, nd, ct, rd⟩ i key K hs t h1 h2 h3 h4 h5⟩
theorem vc_lu_above (S : Arn) (i key : Int) (K : KT) (hs : List Int) (t : Tr) (hw : Wf S hs) (hr : Rep S t i) (h1 : t.size ≤ 1000000) (h2 : S.reads + t.size ≤ 3000000000000000000)
    (h : ∀ S' o, S' = rdS S (lsT t (fun k => decide (k > key)) none).2 → o = (lsT t (fun k => decide (k > key)) none).1 → K (.tup [entO o, .at (vB o.isSome)]) (chS S') [0]) :
    vc C0 aLu_above Try.f89 [.at (.ptr 0 0), .at (vU i), .at (vI key)] (chS S) (normK 7 (wideK [0] K)) :=
  Eq.mp (show (∃ hs : List Int,
  (∃ t : Tr,
    ((Wf S hs) ∧
    (Rep S t i) ∧
    (t.size ≤ 1000000) ∧
    (S.reads + (↑t.size : Int) ≤ 3000000000000000000) ∧
    (∀ S' : Arn,
      (∀ o : Option Ent,
        (((S') = (rdS S (lsT t (fun k => decide (k > key)) none).snd)) →
        (((o) = ((lsT t (fun k => decide (k > key)) none).fst)) →
        (K (SV.tup [(TV.agg [(At.val (Value.int IntKind.i64 ((o.getD (0, 0)).fst))), (At.val (Value.int IntKind.i64 ((o.getD (0, 0)).snd)))]), (TV.at (At.val (Value.bool (o.isSome))))]) [(Chunk.box [(At.ptr 1 0), (At.slc 2), (At.slc 3), (At.val (Value.int IntKind.u64 (S'.reads)))]), (Chunk.box [(At.slc 4), (At.slc 5), (At.slc 6), (At.val (Value.int IntKind.u32 (S'.fresh)))]), (Chunk.row true (EC.node) (S'.nodes)), (Chunk.row true (EC.int) (S'.counts)), (Chunk.row true (EC.bool) (S'.used)), (Chunk.row true (EC.u32) (S'.gen)), (Chunk.row true (EC.u32) (S'.rel))] [0])))))))) = _ by kernel_rfl) ⟨hs, t, hw, hr, h1, h2, h⟩
theorem s_lu_above : SoundT C0 89 tLu_above := by
  refine .ofW [0] Try.func89 (by decide) rfl fun args H K h hB => ?_
  unfold tLu_above at h
  split at h <;> try exact h.elim
  unfold arM at h
  split at h <;> try exact h.elim
  rename_i i key _ rd fr nd ct us gn rl
  obtain ⟨hs, t, h1, h2, h3, h4, h5⟩ := h
  exact ⟨aLu_above, ⟨frame C0.ok s_nr_above _, trivial⟩, vc_lu_above ⟨us, gn, rl, fr, nd, ct, rd⟩ i key K hs t h1 h2 h3 h4 h5⟩
def tAdm_floor : Tfm C0 := fun args H K => match args, H with
  | [.at (.val (.int .i64 k)), .at (.ptr 0 0)], [.box [.val (.int .i64 key)]] => K (.one (.at (vB (decide (k ≤ key))))) [.box [vI key]] []
  | _, _ => False
theorem s_adm_floor : SoundT C0 122 tAdm_floor := by
  refine .of Try.func122 (by decide) rfl fun args H K h hB => ⟨A0, trivial, ?_⟩
  unfold tAdm_floor at h
  split at h <;> try exact h.elim
  exact Eq.mp (show _ = _ by kernel_rfl) h
noncomputable def aNr_floor (S : Arn) (t : Tr) (key : Int) : Ann C0 := { Γ := [(75, frameT [] tNode), (122, frameT [] tAdm_floor), (138, frameT [] tEntry)], inv := fun n => match n with
  | 4 => some { X := XNr gtT S t (fun k => decide (k ≤ key)), sl := [10, 9, 8, 6], tf := fun x => [vi .u32 x.i, vb x.b.isSome, .one (.at (.ptr 8 0)), .one (.at (.ptr 9 0))], hf := fun x => chA key (rdS S x.m) ++ [.box [vI (x.b.getD (0, 0)).1, vI (x.b.getD (0, 0)).2], .box [vI 0, vI 0]], μ := fun x => x.t'.size, wr := [0] }
  | _ => none }
def tNr_floor : Tfm C0 := fun args H K => match args with
  | [.at (.ptr 0 0), .at (.val (.int .u32 i)), .at (.fn 122 [1])] => caM H fun key S => ∃ hs t, Wf S hs ∧ Rep S t i ∧ t.size ≤ 1000000 ∧ S.reads + t.size ≤ 3000000000000000000 ∧
    ∀ S' o, S' = rdS S (gtT t (fun k => decide (k ≤ key)) none).2 → o = (gtT t (fun k => decide (k ≤ key)) none).1 → K (.tup [entO o, .at (vB o.isSome)]) (chA key S') [0]
  | _ => False
noncomputable def aLu_floor : Ann C0 := { Γ := [(121, frameT [] tNr_floor)] }
def tLu_floor : Tfm C0 := fun args H K => match args with
  | [.at (.ptr 0 0), .at (.val (.int .u32 i)), .at (.val (.int .i64 key))] => arM H fun S => ∃ hs t, Wf S hs ∧ Rep S t i ∧ t.size ≤ 1000000 ∧ S.reads + t.size ≤ 3000000000000000000 ∧
    ∀ S' o, S' = rdS S (gtT t (fun k => decide (k ≤ key)) none).2 → o = (gtT t (fun k => decide (k ≤ key)) none).1 → K (.tup [entO o, .at (vB o.isSome)]) (chS S') [0]
  | _ => False
theorem vc_nr_floor (S : Arn) (i key : Int) (K : KT) (hs : List Int) (t : Tr) (hw : Wf S hs) (hr : Rep S t i) (h1 : t.size ≤ 1000000) (h2 : S.reads + t.size ≤ 3000000000000000000)
    (h : ∀ S' o, S' = rdS S (gtT t (fun k => decide (k ≤ key)) none).2 → o = (gtT t (fun k => decide (k ≤ key)) none).1 → K (.tup [entO o, .at (vB o.isSome)]) (chA key S') [0]) :
    vc C0 (aNr_floor S t key) Try.f121 [.at (.ptr 0 0), .at (vU i), .at (.fn 122 [1])] (chA key S) (normK 8 (wideK [0] K)) := by
  refine Eq.mp (show ((∃ x : XNr gtT S t fun k => decide (k ≤ key),
  (True ∧
  (True ∧
  ((At.fn 122 [1]) = (At.fn 122 [1])) ∧
  True ∧
  True ∧
  ((Value.bool false) = (Value.bool (x.b.isSome))) ∧
  ((Value.int IntKind.u32 (i)) = (Value.int IntKind.u32 (x.i))) ∧
  True) ∧
  (True ∧
  True ∧
  True ∧
  ((Value.int IntKind.u64 (S.reads)) = (Value.int IntKind.u64 ((rdS S x.m).reads))) ∧
  True) ∧
  (((Value.int IntKind.i64 (key)) = (Value.int IntKind.i64 (key))) ∧
  True) ∧
  (True ∧
  True ∧
  True ∧
  ((Value.int IntKind.u32 (S.fresh)) = (Value.int IntKind.u32 ((rdS S x.m).fresh))) ∧
  True) ∧
  ((S.nodes) = ((rdS S x.m).nodes)) ∧
  ((S.counts) = ((rdS S x.m).counts)) ∧
  ((S.used) = ((rdS S x.m).used)) ∧
  ((S.gen) = ((rdS S x.m).gen)) ∧
  ((S.rel) = ((rdS S x.m).rel)) ∧
  (((Value.int IntKind.i64 0) = (Value.int IntKind.i64 ((x.b.getD (0, 0)).fst))) ∧
  ((Value.int IntKind.i64 0) = (Value.int IntKind.i64 ((x.b.getD (0, 0)).snd))) ∧
  True) ∧
  (((Value.int IntKind.i64 0) = (Value.int IntKind.i64 0)) ∧
  ((Value.int IntKind.i64 0) = (Value.int IntKind.i64 0)) ∧
  True) ∧
  True)) ∧
(∀ x : XNr gtT S t fun k => decide (k ≤ key),
  (True →
  (brS (x.i != 0)
    (((inU x.i) ∧
    (exW (rdS S x.m)) ∧
    ((rdS S x.m).reads < 4000000000000000000) ∧
    (∀ S' : Arn,
      (((S') = (rdS (rdS S x.m) ((rdS S x.m).us x.i).toNat)) →
      (brS (!(rdS S x.m).us x.i)
        ((K (SV.tup [(TV.agg [(At.val (Value.int IntKind.i64 ((x.b.getD (0, 0)).fst))), (At.val (Value.int IntKind.i64 ((x.b.getD (0, 0)).snd)))]), (TV.at (At.val (Value.bool (x.b.isSome))))]) [(Chunk.box [(At.ptr 2 0), (At.slc 3), (At.slc 4), (At.val (Value.int IntKind.u64 (S'.reads)))]), (Chunk.box [(At.val (Value.int IntKind.i64 (key)))]), (Chunk.box [(At.slc 5), (At.slc 6), (At.slc 7), (At.val (Value.int IntKind.u32 (S'.fresh)))]), (Chunk.row true (EC.node) (S'.nodes)), (Chunk.row true (EC.int) (S'.counts)), (Chunk.row true (EC.bool) (S'.used)), (Chunk.row true (EC.u32) (S'.gen)), (Chunk.row true (EC.u32) (S'.rel))] [0]))
        ((brS (!decide (((rdS S x.m).nd x.i).key ≤ key))
          ((∃ x' : XNr gtT S t fun k => decide (k ≤ key),
            (True ∧
            ((True ∧
            ((At.fn 122 [1]) = (At.fn 122 [1])) ∧
            True ∧
            True ∧
            ((Value.bool (x.b.isSome)) = (Value.bool (x'.b.isSome))) ∧
            ((Value.int IntKind.u32 (((rdS S x.m).nd x.i).left)) = (Value.int IntKind.u32 (x'.i))) ∧
            True) ∧
            (True ∧
            True ∧
            True ∧
            ((Value.int IntKind.u64 (S'.reads)) = (Value.int IntKind.u64 ((rdS S x'.m).reads))) ∧
            True) ∧
            (((Value.int IntKind.i64 (key)) = (Value.int IntKind.i64 (key))) ∧
            True) ∧
            (True ∧
            True ∧
            True ∧
            ((Value.int IntKind.u32 (S'.fresh)) = (Value.int IntKind.u32 ((rdS S x'.m).fresh))) ∧
            True) ∧
            ((S'.nodes) = ((rdS S x'.m).nodes)) ∧
            ((S'.counts) = ((rdS S x'.m).counts)) ∧
            ((S'.used) = ((rdS S x'.m).used)) ∧
            ((S'.gen) = ((rdS S x'.m).gen)) ∧
            ((S'.rel) = ((rdS S x'.m).rel)) ∧
            (((Value.int IntKind.i64 ((x.b.getD (0, 0)).fst)) = (Value.int IntKind.i64 ((x'.b.getD (0, 0)).fst))) ∧
            ((Value.int IntKind.i64 ((x.b.getD (0, 0)).snd)) = (Value.int IntKind.i64 ((x'.b.getD (0, 0)).snd))) ∧
            True) ∧
            (((Value.int IntKind.i64 0) = (Value.int IntKind.i64 0)) ∧
            ((Value.int IntKind.i64 0) = (Value.int IntKind.i64 0)) ∧
            True) ∧
            True) ∧
            (x'.t'.size < x.t'.size))))
          ((∃ x' : XNr gtT S t fun k => decide (k ≤ key),
            (True ∧
            ((True ∧
            ((At.fn 122 [1]) = (At.fn 122 [1])) ∧
            True ∧
            True ∧
            ((Value.bool true) = (Value.bool (x'.b.isSome))) ∧
            ((Value.int IntKind.u32 (((rdS S x.m).nd x.i).right)) = (Value.int IntKind.u32 (x'.i))) ∧
            True) ∧
            (True ∧
            True ∧
            True ∧
            ((Value.int IntKind.u64 (S'.reads)) = (Value.int IntKind.u64 ((rdS S x'.m).reads))) ∧
            True) ∧
            (((Value.int IntKind.i64 (key)) = (Value.int IntKind.i64 (key))) ∧
            True) ∧
            (True ∧
            True ∧
            True ∧
            ((Value.int IntKind.u32 (S'.fresh)) = (Value.int IntKind.u32 ((rdS S x'.m).fresh))) ∧
            True) ∧
            ((S'.nodes) = ((rdS S x'.m).nodes)) ∧
            ((S'.counts) = ((rdS S x'.m).counts)) ∧
            ((S'.used) = ((rdS S x'.m).used)) ∧
            ((S'.gen) = ((rdS S x'.m).gen)) ∧
            ((S'.rel) = ((rdS S x'.m).rel)) ∧
            (((Value.int IntKind.i64 (((rdS S x.m).nd x.i).key)) = (Value.int IntKind.i64 ((x'.b.getD (0, 0)).fst))) ∧
            ((Value.int IntKind.i64 (((rdS S x.m).nd x.i).value)) = (Value.int IntKind.i64 ((x'.b.getD (0, 0)).snd))) ∧
            True) ∧
            (((Value.int IntKind.i64 0) = (Value.int IntKind.i64 0)) ∧
            ((Value.int IntKind.i64 0) = (Value.int IntKind.i64 0)) ∧
            True) ∧
            True) ∧
            (x'.t'.size < x.t'.size)))))))))))
    ((K (SV.tup [(TV.agg [(At.val (Value.int IntKind.i64 ((x.b.getD (0, 0)).fst))), (At.val (Value.int IntKind.i64 ((x.b.getD (0, 0)).snd)))]), (TV.at (At.val (Value.bool (x.b.isSome))))]) [(Chunk.box [(At.ptr 2 0), (At.slc 3), (At.slc 4), (At.val (Value.int IntKind.u64 ((rdS S x.m).reads)))]), (Chunk.box [(At.val (Value.int IntKind.i64 (key)))]), (Chunk.box [(At.slc 5), (At.slc 6), (At.slc 7), (At.val (Value.int IntKind.u32 ((rdS S x.m).fresh)))]), (Chunk.row true (EC.node) ((rdS S x.m).nodes)), (Chunk.row true (EC.int) ((rdS S x.m).counts)), (Chunk.row true (EC.bool) ((rdS S x.m).used)), (Chunk.row true (EC.u32) ((rdS S x.m).gen)), (Chunk.row true (EC.u32) ((rdS S x.m).rel))] [0])))))) = _ by kernel_rfl) ?_
  have hrd := hw.rds
  have hb := gtT_le t (fun k => decide (k ≤ key)) none
  refine ⟨⟨⟨i, t, none, 0, hr, by simp, Nat.le_refl _⟩, ?_⟩, fun x _ => ?_⟩
  · (repeat' first | exact trivial | exact rfl | refine And.intro ?_ ?_)
    rw [rdS_zero]
  obtain ⟨xi, xt, xb, xm, h1', hb2, h3⟩ := x
  dsimp only
  have hxm : xm ≤ (gtT t (fun k => decide (k ≤ key)) none).2 := by rw [hb2]; exact Nat.le_add_right _ _
  have hwx : Wf (rdS S xm) hs := hw.rd (by omega)
  refine brS_of (fun c => ?_) fun c => ?_
  · have c : xi ≠ 0 := by simpa using c
    cases xt with
    | nil => exact absurd h1' c
    | node l k v r =>
      obtain ⟨r1, r2, r3, r4, r5⟩ := h1'
      have hsz : l.size + r.size + 1 = (Tr.node l k v r).size := by simp [Tr.size]; omega
      refine ⟨inU_of hw (.inr r1), ⟨_, hwx⟩, by show S.reads + (xm : Int) < _; omega, fun S1 e1 => brS_of (fun d => ?_) fun _ => ?_⟩
      · have d : (!S.us xi) = true := d
        have d : S.us xi = false := by simpa using d
        rw [r1] at d; cases d
      have e1 : S1 = rdS S (xm + 1) := by rw [e1, rdS_rdS]; show rdS S (xm + (S.us xi).toNat) = _; rw [r1]; rfl
      subst e1
      have ek : ((rdS S xm).nd xi).key = k := r2
      have ev : ((rdS S xm).nd xi).value = v := r3
      rw [ek, ev]
      refine brS_of (fun d => ?_) fun d => ?_
      · have hc : ¬ decide (k ≤ key) = true := by simpa using d
        refine ⟨⟨(S.nd xi).left, l, xb, xm + 1, r4, by rw [hb2]; simp only [gtT, if_neg hc]; exact Prod.ext rfl (by show _ = _; simp only []; omega), by omega⟩, ?_⟩
        (repeat' first | exact trivial | exact rfl | refine And.intro ?_ ?_)
        show l.size < (Tr.node l k v r).size; omega
      · have hc : decide (k ≤ key) = true := by simpa using d
        refine ⟨⟨(S.nd xi).right, r, some (k, v), xm + 1, r5, by rw [hb2]; simp only [gtT, if_pos hc]; exact Prod.ext rfl (by show _ = _; simp only []; omega), by omega⟩, ?_⟩
        (repeat' first | exact trivial | exact rfl | refine And.intro ?_ ?_)
        show r.size < (Tr.node l k v r).size; omega
  · have c : xi = 0 := by simpa using c
    subst c
    have e := h1'.zero hw
    subst e
    exact h _ xb (by rw [hb2]; simp [gtT]) (by rw [hb2]; simp [gtT])
theorem s_nr_floor : SoundT C0 121 tNr_floor := by
  refine .ofW [0] Try.func121 (by decide) rfl fun args H K h hB => ?_
  unfold tNr_floor at h
  split at h <;> try exact h.elim
  unfold caM at h
  split at h <;> try exact h.elim
  rename_i i _ rd key fr nd ct us gn rl
  obtain ⟨hs, t, h1, h2, h3, h4, h5⟩ := h
  exact ⟨aNr_floor ⟨us, gn, rl, fr, nd, ct, rd⟩ t key, ⟨frame C0.ok s_node _, frame C0.ok s_adm_floor _, frame C0.ok s_entry _, trivial⟩, vc_nr_floor ⟨us, gn, rl, fr, nd, ct, rd⟩ i key K hs t h1 h2 h3 h4 h5⟩
theorem vc_lu_floor (S : Arn) (i key : Int) (K : KT) (hs : List Int) (t : Tr) (hw : Wf S hs) (hr : Rep S t i) (h1 : t.size ≤ 1000000) (h2 : S.reads + t.size ≤ 3000000000000000000)
    (h : ∀ S' o, S' = rdS S (gtT t (fun k => decide (k ≤ key)) none).2 → o = (gtT t (fun k => decide (k ≤ key)) none).1 → K (.tup [entO o, .at (vB o.isSome)]) (chS S') [0]) :
    vc C0 aLu_floor Try.f90 [.at (.ptr 0 0), .at (vU i), .at (vI key)] (chS S) (normK 7 (wideK [0] K)) :=
  Eq.mp (show (∃ hs : List Int,
  (∃ t : Tr,
    ((Wf S hs) ∧
    (Rep S t i) ∧
    (t.size ≤ 1000000) ∧
    (S.reads + (↑t.size : Int) ≤ 3000000000000000000) ∧
    (∀ S' : Arn,
      (∀ o : Option Ent,
        (((S') = (rdS S (gtT t (fun k => decide (k ≤ key)) none).snd)) →
        (((o) = ((gtT t (fun k => decide (k ≤ key)) none).fst)) →
        (K (SV.tup [(TV.agg [(At.val (Value.int IntKind.i64 ((o.getD (0, 0)).fst))), (At.val (Value.int IntKind.i64 ((o.getD (0, 0)).snd)))]), (TV.at (At.val (Value.bool (o.isSome))))]) [(Chunk.box [(At.ptr 1 0), (At.slc 2), (At.slc 3), (At.val (Value.int IntKind.u64 (S'.reads)))]), (Chunk.box [(At.slc 4), (At.slc 5), (At.slc 6), (At.val (Value.int IntKind.u32 (S'.fresh)))]), (Chunk.row true (EC.node) (S'.nodes)), (Chunk.row true (EC.int) (S'.counts)), (Chunk.row true (EC.bool) (S'.used)), (Chunk.row true (EC.u32) (S'.gen)), (Chunk.row true (EC.u32) (S'.rel))] [0])))))))) = _ by kernel_rfl) ⟨hs, t, hw, hr, h1, h2, h⟩
theorem s_lu_floor : SoundT C0 90 tLu_floor := by
  refine .ofW [0] Try.func90 (by decide) rfl fun args H K h hB => ?_
  unfold tLu_floor at h
  split at h <;> try exact h.elim
  unfold arM at h
  split at h <;> try exact h.elim
  rename_i i key _ rd fr nd ct us gn rl
  obtain ⟨hs, t, h1, h2, h3, h4, h5⟩ := h
  exact ⟨aLu_floor, ⟨frame C0.ok s_nr_floor _, trivial⟩, vc_lu_floor ⟨us, gn, rl, fr, nd, ct, rd⟩ i key K hs t h1 h2 h3 h4 h5⟩
def tAdm_below : Tfm C0 := fun args H K => match args, H with
  | [.at (.val (.int .i64 k)), .at (.ptr 0 0)], [.box [.val (.int .i64 key)]] => K (.one (.at (vB (decide (k < key))))) [.box [vI key]] []
  | _, _ => False
theorem s_adm_below : SoundT C0 123 tAdm_below := by
  refine .of Try.func123 (by decide) rfl fun args H K h hB => ⟨A0, trivial, ?_⟩
  unfold tAdm_below at h
  split at h <;> try exact h.elim
  exact Eq.mp (show _ = _ by kernel_rfl) h
noncomputable def aNr_below (S : Arn) (t : Tr) (key : Int) : Ann C0 := { Γ := [(75, frameT [] tNode), (123, frameT [] tAdm_below), (138, frameT [] tEntry)], inv := fun n => match n with
  | 4 => some { X := XNr gtT S t (fun k => decide (k < key)), sl := [10, 9, 8, 6], tf := fun x => [vi .u32 x.i, vb x.b.isSome, .one (.at (.ptr 8 0)), .one (.at (.ptr 9 0))], hf := fun x => chA key (rdS S x.m) ++ [.box [vI (x.b.getD (0, 0)).1, vI (x.b.getD (0, 0)).2], .box [vI 0, vI 0]], μ := fun x => x.t'.size, wr := [0] }
  | _ => none }
def tNr_below : Tfm C0 := fun args H K => match args with
  | [.at (.ptr 0 0), .at (.val (.int .u32 i)), .at (.fn 123 [1])] => caM H fun key S => ∃ hs t, Wf S hs ∧ Rep S t i ∧ t.size ≤ 1000000 ∧ S.reads + t.size ≤ 3000000000000000000 ∧
    ∀ S' o, S' = rdS S (gtT t (fun k => decide (k < key)) none).2 → o = (gtT t (fun k => decide (k < key)) none).1 → K (.tup [entO o, .at (vB o.isSome)]) (chA key S') [0]
  | _ => False
noncomputable def aLu_below : Ann C0 := { Γ := [(121, frameT [] tNr_below)] }
def tLu_below : Tfm C0 := fun args H K => match args with
  | [.at (.ptr 0 0), .at (.val (.int .u32 i)), .at (.val (.int .i64 key))] => arM H fun S => ∃ hs t, Wf S hs ∧ Rep S t i ∧ t.size ≤ 1000000 ∧ S.reads + t.size ≤ 3000000000000000000 ∧
    ∀ S' o, S' = rdS S (gtT t (fun k => decide (k < key)) none).2 → o = (gtT t (fun k => decide (k < key)) none).1 → K (.tup [entO o, .at (vB o.isSome)]) (chS S') [0]
  | _ => False
theorem vc_nr_below (S : Arn) (i key : Int) (K : KT) (hs : List Int) (t : Tr) (hw : Wf S hs) (hr : Rep S t i) (h1 : t.size ≤ 1000000) (h2 : S.reads + t.size ≤ 3000000000000000000)
    (h : ∀ S' o, S' = rdS S (gtT t (fun k => decide (k < key)) none).2 → o = (gtT t (fun k => decide (k < key)) none).1 → K (.tup [entO o, .at (vB o.isSome)]) (chA key S') [0]) :
    vc C0 (aNr_below S t key) Try.f121 [.at (.ptr 0 0), .at (vU i), .at (.fn 123 [1])] (chA key S) (normK 8 (wideK [0] K)) := by
  refine Eq.mp (show ((∃ x : XNr gtT S t fun k => decide (k < key),
  (True ∧
  (True ∧
  ((At.fn 123 [1]) = (At.fn 123 [1])) ∧
  True ∧
  True ∧
  ((Value.bool false) = (Value.bool (x.b.isSome))) ∧
  ((Value.int IntKind.u32 (i)) = (Value.int IntKind.u32 (x.i))) ∧
  True) ∧
  (True ∧
  True ∧
  True ∧
  ((Value.int IntKind.u64 (S.reads)) = (Value.int IntKind.u64 ((rdS S x.m).reads))) ∧
  True) ∧
  (((Value.int IntKind.i64 (key)) = (Value.int IntKind.i64 (key))) ∧
  True) ∧
  (True ∧
  True ∧
  True ∧
  ((Value.int IntKind.u32 (S.fresh)) = (Value.int IntKind.u32 ((rdS S x.m).fresh))) ∧
  True) ∧
  ((S.nodes) = ((rdS S x.m).nodes)) ∧
  ((S.counts) = ((rdS S x.m).counts)) ∧
  ((S.used) = ((rdS S x.m).used)) ∧
  ((S.gen) = ((rdS S x.m).gen)) ∧
  ((S.rel) = ((rdS S x.m).rel)) ∧
  (((Value.int IntKind.i64 0) = (Value.int IntKind.i64 ((x.b.getD (0, 0)).fst))) ∧
  ((Value.int IntKind.i64 0) = (Value.int IntKind.i64 ((x.b.getD (0, 0)).snd))) ∧
  True) ∧
  (((Value.int IntKind.i64 0) = (Value.int IntKind.i64 0)) ∧
  ((Value.int IntKind.i64 0) = (Value.int IntKind.i64 0)) ∧
  True) ∧
  True)) ∧
(∀ x : XNr gtT S t fun k => decide (k < key),
  (True →
  (brS (x.i != 0)
    (((inU x.i) ∧
    (exW (rdS S x.m)) ∧
    ((rdS S x.m).reads < 4000000000000000000) ∧
    (∀ S' : Arn,
      (((S') = (rdS (rdS S x.m) ((rdS S x.m).us x.i).toNat)) →
      (brS (!(rdS S x.m).us x.i)
        ((K (SV.tup [(TV.agg [(At.val (Value.int IntKind.i64 ((x.b.getD (0, 0)).fst))), (At.val (Value.int IntKind.i64 ((x.b.getD (0, 0)).snd)))]), (TV.at (At.val (Value.bool (x.b.isSome))))]) [(Chunk.box [(At.ptr 2 0), (At.slc 3), (At.slc 4), (At.val (Value.int IntKind.u64 (S'.reads)))]), (Chunk.box [(At.val (Value.int IntKind.i64 (key)))]), (Chunk.box [(At.slc 5), (At.slc 6), (At.slc 7), (At.val (Value.int IntKind.u32 (S'.fresh)))]), (Chunk.row true (EC.node) (S'.nodes)), (Chunk.row true (EC.int) (S'.counts)), (Chunk.row true (EC.bool) (S'.used)), (Chunk.row true (EC.u32) (S'.gen)), (Chunk.row true (EC.u32) (S'.rel))] [0]))
        ((brS (!decide (((rdS S x.m).nd x.i).key < key))
          ((∃ x' : XNr gtT S t fun k => decide (k < key),
            (True ∧
            ((True ∧
            ((At.fn 123 [1]) = (At.fn 123 [1])) ∧
            True ∧
            True ∧
            ((Value.bool (x.b.isSome)) = (Value.bool (x'.b.isSome))) ∧
            ((Value.int IntKind.u32 (((rdS S x.m).nd x.i).left)) = (Value.int IntKind.u32 (x'.i))) ∧
            True) ∧
            (True ∧
            True ∧
            True ∧
            ((Value.int IntKind.u64 (S'.reads)) = (Value.int IntKind.u64 ((rdS S x'.m).reads))) ∧
            True) ∧
            (((Value.int IntKind.i64 (key)) = (Value.int IntKind.i64 (key))) ∧
            True) ∧
            (True ∧
            True ∧
            True ∧
            ((Value.int IntKind.u32 (S'.fresh)) = (Value.int IntKind.u32 ((rdS S x'.m).fresh))) ∧
            True) ∧
            ((S'.nodes) = ((rdS S x'.m).nodes)) ∧
            ((S'.counts) = ((rdS S x'.m).counts)) ∧
            ((S'.used) = ((rdS S x'.m).used)) ∧
            ((S'.gen) = ((rdS S x'.m).gen)) ∧
            ((S'.rel) = ((rdS S x'.m).rel)) ∧
            (((Value.int IntKind.i64 ((x.b.getD (0, 0)).fst)) = (Value.int IntKind.i64 ((x'.b.getD (0, 0)).fst))) ∧
            ((Value.int IntKind.i64 ((x.b.getD (0, 0)).snd)) = (Value.int IntKind.i64 ((x'.b.getD (0, 0)).snd))) ∧
            True) ∧
            (((Value.int IntKind.i64 0) = (Value.int IntKind.i64 0)) ∧
            ((Value.int IntKind.i64 0) = (Value.int IntKind.i64 0)) ∧
            True) ∧
            True) ∧
            (x'.t'.size < x.t'.size))))
          ((∃ x' : XNr gtT S t fun k => decide (k < key),
            (True ∧
            ((True ∧
            ((At.fn 123 [1]) = (At.fn 123 [1])) ∧
            True ∧
            True ∧
            ((Value.bool true) = (Value.bool (x'.b.isSome))) ∧
            ((Value.int IntKind.u32 (((rdS S x.m).nd x.i).right)) = (Value.int IntKind.u32 (x'.i))) ∧
            True) ∧
            (True ∧
            True ∧
            True ∧
            ((Value.int IntKind.u64 (S'.reads)) = (Value.int IntKind.u64 ((rdS S x'.m).reads))) ∧
            True) ∧
            (((Value.int IntKind.i64 (key)) = (Value.int IntKind.i64 (key))) ∧
            True) ∧
            (True ∧
            True ∧
            True ∧
            ((Value.int IntKind.u32 (S'.fresh)) = (Value.int IntKind.u32 ((rdS S x'.m).fresh))) ∧
            True) ∧
            ((S'.nodes) = ((rdS S x'.m).nodes)) ∧
            ((S'.counts) = ((rdS S x'.m).counts)) ∧
            ((S'.used) = ((rdS S x'.m).used)) ∧
            ((S'.gen) = ((rdS S x'.m).gen)) ∧
            ((S'.rel) = ((rdS S x'.m).rel)) ∧
            (((Value.int IntKind.i64 (((rdS S x.m).nd x.i).key)) = (Value.int IntKind.i64 ((x'.b.getD (0, 0)).fst))) ∧
            ((Value.int IntKind.i64 (((rdS S x.m).nd x.i).value)) = (Value.int IntKind.i64 ((x'.b.getD (0, 0)).snd))) ∧
            True) ∧
            (((Value.int IntKind.i64 0) = (Value.int IntKind.i64 0)) ∧
            ((Value.int IntKind.i64 0) = (Value.int IntKind.i64 0)) ∧
            True) ∧
            True) ∧
            (x'.t'.size < x.t'.size)))))))))))
    ((K (SV.tup [(TV.agg [(At.val (Value.int IntKind.i64 ((x.b.getD (0, 0)).fst))), (At.val (Value.int IntKind.i64 ((x.b.getD (0, 0)).snd)))]), (TV.at (At.val (Value.bool (x.b.isSome))))]) [(Chunk.box [(At.ptr 2 0), (At.slc 3), (At.slc 4), (At.val (Value.int IntKind.u64 ((rdS S x.m).reads)))]), (Chunk.box [(At.val (Value.int IntKind.i64 (key)))]), (Chunk.box [(At.slc 5), (At.slc 6), (At.slc 7), (At.val (Value.int IntKind.u32 ((rdS S x.m).fresh)))]), (Chunk.row true (EC.node) ((rdS S x.m).nodes)), (Chunk.row true (EC.int) ((rdS S x.m).counts)), (Chunk.row true (EC.bool) ((rdS S x.m).used)), (Chunk.row true (EC.u32) ((rdS S x.m).gen)), (Chunk.row true (EC.u32) ((rdS S x.m).rel))] [0])))))) = _ by kernel_rfl) ?_
  have hrd := hw.rds
  have hb := gtT_le t (fun k => decide (k < key)) none
  refine ⟨⟨⟨i, t, none, 0, hr, by simp, Nat.le_refl _⟩, ?_⟩, fun x _ => ?_⟩
  · (repeat' first | exact trivial | exact rfl | refine And.intro ?_ ?_)
    rw [rdS_zero]
  obtain ⟨xi, xt, xb, xm, h1', hb2, h3⟩ := x
  dsimp only
  have hxm : xm ≤ (gtT t (fun k => decide (k < key)) none).2 := by rw [hb2]; exact Nat.le_add_right _ _
  have hwx : Wf (rdS S xm) hs := hw.rd (by omega)
  refine brS_of (fun c => ?_) fun c => ?_
  · have c : xi ≠ 0 := by simpa using c
    cases xt with
    | nil => exact absurd h1' c
    | node l k v r =>
      obtain ⟨r1, r2, r3, r4, r5⟩ := h1'
      have hsz : l.size + r.size + 1 = (Tr.node l k v r).size := by simp [Tr.size]; omega
      refine ⟨inU_of hw (.inr r1), ⟨_, hwx⟩, by show S.reads + (xm : Int) < _; omega, fun S1 e1 => brS_of (fun d => ?_) fun _ => ?_⟩
      · have d : (!S.us xi) = true := d
        have d : S.us xi = false := by simpa using d
        rw [r1] at d; cases d
      have e1 : S1 = rdS S (xm + 1) := by rw [e1, rdS_rdS]; show rdS S (xm + (S.us xi).toNat) = _; rw [r1]; rfl
      subst e1
      have ek : ((rdS S xm).nd xi).key = k := r2
      have ev : ((rdS S xm).nd xi).value = v := r3
      rw [ek, ev]
      refine brS_of (fun d => ?_) fun d => ?_
      · have hc : ¬ decide (k < key) = true := by simpa using d
        refine ⟨⟨(S.nd xi).left, l, xb, xm + 1, r4, by rw [hb2]; simp only [gtT, if_neg hc]; exact Prod.ext rfl (by show _ = _; simp only []; omega), by omega⟩, ?_⟩
        (repeat' first | exact trivial | exact rfl | refine And.intro ?_ ?_)
        show l.size < (Tr.node l k v r).size; omega
      · have hc : decide (k < key) = true := by simpa using d
        refine ⟨⟨(S.nd xi).right, r, some (k, v), xm + 1, r5, by rw [hb2]; simp only [gtT, if_pos hc]; exact Prod.ext rfl (by show _ = _; simp only []; omega), by omega⟩, ?_⟩
        (repeat' first | exact trivial | exact rfl | refine And.intro ?_ ?_)
        show r.size < (Tr.node l k v r).size; omega
  · have c : xi = 0 := by simpa using c
    subst c
    have e := h1'.zero hw
    subst e
    exact h _ xb (by rw [hb2]; simp [gtT]) (by rw [hb2]; simp [gtT])
theorem s_nr_below : SoundT C0 121 tNr_below := by
  refine .ofW [0] Try.func121 (by decide) rfl fun args H K h hB => ?_
  unfold tNr_below at h
  split at h <;> try exact h.elim
  unfold caM at h
  split at h <;> try exact h.elim
  rename_i i _ rd key fr nd ct us gn rl
  obtain ⟨hs, t, h1, h2, h3, h4, h5⟩ := h
  exact ⟨aNr_below ⟨us, gn, rl, fr, nd, ct, rd⟩ t key, ⟨frame C0.ok s_node _, frame C0.ok s_adm_below _, frame C0.ok s_entry _, trivial⟩, vc_nr_below ⟨us, gn, rl, fr, nd, ct, rd⟩ i key K hs t h1 h2 h3 h4 h5⟩
theorem vc_lu_below (S : Arn) (i key : Int) (K : KT) (hs : List Int) (t : Tr) (hw : Wf S hs) (hr : Rep S t i) (h1 : t.size ≤ 1000000) (h2 : S.reads + t.size ≤ 3000000000000000000)
    (h : ∀ S' o, S' = rdS S (gtT t (fun k => decide (k < key)) none).2 → o = (gtT t (fun k => decide (k < key)) none).1 → K (.tup [entO o, .at (vB o.isSome)]) (chS S') [0]) :
    vc C0 aLu_below Try.f91 [.at (.ptr 0 0), .at (vU i), .at (vI key)] (chS S) (normK 7 (wideK [0] K)) :=
  Eq.mp (show (∃ hs : List Int,
  (∃ t : Tr,
    ((Wf S hs) ∧
    (Rep S t i) ∧
    (t.size ≤ 1000000) ∧
    (S.reads + (↑t.size : Int) ≤ 3000000000000000000) ∧
    (∀ S' : Arn,
      (∀ o : Option Ent,
        (((S') = (rdS S (gtT t (fun k => decide (k < key)) none).snd)) →
        (((o) = ((gtT t (fun k => decide (k < key)) none).fst)) →
        (K (SV.tup [(TV.agg [(At.val (Value.int IntKind.i64 ((o.getD (0, 0)).fst))), (At.val (Value.int IntKind.i64 ((o.getD (0, 0)).snd)))]), (TV.at (At.val (Value.bool (o.isSome))))]) [(Chunk.box [(At.ptr 1 0), (At.slc 2), (At.slc 3), (At.val (Value.int IntKind.u64 (S'.reads)))]), (Chunk.box [(At.slc 4), (At.slc 5), (At.slc 6), (At.val (Value.int IntKind.u32 (S'.fresh)))]), (Chunk.row true (EC.node) (S'.nodes)), (Chunk.row true (EC.int) (S'.counts)), (Chunk.row true (EC.bool) (S'.used)), (Chunk.row true (EC.u32) (S'.gen)), (Chunk.row true (EC.u32) (S'.rel))] [0])))))))) = _ by kernel_rfl) ⟨hs, t, hw, hr, h1, h2, h⟩
theorem s_lu_below : SoundT C0 91 tLu_below := by
  refine .ofW [0] Try.func91 (by decide) rfl fun args H K h hB => ?_
  unfold tLu_below at h
  split at h <;> try exact h.elim
  unfold arM at h
  split at h <;> try exact h.elim
  rename_i i key _ rd fr nd ct us gn rl
  obtain ⟨hs, t, h1, h2, h3, h4, h5⟩ := h
  exact ⟨aLu_below, ⟨frame C0.ok s_nr_below _, trivial⟩, vc_lu_below ⟨us, gn, rl, fr, nd, ct, rd⟩ i key K hs t h1 h2 h3 h4 h5⟩
end Go.Proofs.Ytacdmmomkngpkaa.Sx
