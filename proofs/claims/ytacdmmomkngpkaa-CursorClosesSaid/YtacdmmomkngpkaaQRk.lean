/- Ranks and positions. -/
import Derived.Test.YtacdmmomkngpkaaQBk
import Derived.Test.YtacdmmomkngpkaaArE
namespace Go.Proofs.Ytacdmmomkngpkaa.Sx
open Go

/-KEEP Wf exW inU live Arn.cap Arn.free Rep rdS Tr.size ne0 bf sel selR-/
structure XBf (S : Arn) (t : Tr) (q : Int) (eq : Bool) where
  i : Int
  t' : Tr
  c : Nat
  m : Nat
  h : Rep S t' i ∧ bf t q eq = (c + (bf t' q eq).1, m + (bf t' q eq).2) ∧ t'.size ≤ t.size
noncomputable def aBf (S : Arn) (t : Tr) (q : Int) (eq : Bool) : Ann C0 := { Γ := [(75, frameT [] tNode), (20, frameT [] tSize)], inv := fun n => match n with
  | 3 => some { X := XBf S t q eq, sl := [10, 9], tf := fun x => [vi .u32 x.i, vi .i64 x.c], hf := fun x => chS (rdS S x.m), μ := fun x => x.t'.size, wr := [0] }
  | _ => none }
def tBf : Tfm C0 := fun args H K => match args with
  | [.at (.ptr 0 0), .at (.val (.int .u32 i)), .at (.val (.int .i64 q)), .at (.val (.bool eq))] => arM H fun S => ∃ hs t, Wf S hs ∧ Rep S t i ∧ t.size ≤ 1000000 ∧ S.reads + 2 * t.size ≤ 3000000000000000000 ∧
    ∀ S' (c : Int), S' = rdS S (bf t q eq).2 → c = (bf t q eq).1 → K (.one (.at (vI c))) (chS S') [0]
  | _ => False
noncomputable def aRank : Ann C0 := { Γ := [(104, frameT [] tBf)] }
def tRank : Tfm C0 := fun args H K => match args with
  | [.at (.ptr 0 0), .at (.val (.int .u32 i)), .at (.val (.int .i64 q))] => arM H fun S => ∃ hs t, Wf S hs ∧ Rep S t i ∧ t.size ≤ 1000000 ∧ S.reads + 2 * t.size ≤ 3000000000000000000 ∧
    ∀ S' (c : Int), S' = rdS S (bf t q false).2 → c = (bf t q false).1 → K (.one (.at (vI c))) (chS S') [0]
  | _ => False
structure XSel (S : Arn) (t : Tr) (n : Int) where
  i : Int
  j : Int
  t' : Tr
  m : Nat
  h : Rep S t' i ∧ sel t n = ((sel t' j).1, m + (sel t' j).2) ∧ t'.size ≤ t.size ∧ 0 ≤ j ∧ j < t'.size
def entO (o : Option Ent) : TV := .agg [vI (o.getD (0, 0)).1, vI (o.getD (0, 0)).2]
noncomputable def aSel (S : Arn) (t : Tr) (n : Int) : Ann C0 := { Γ := [(75, frameT [] tNode), (20, frameT [] tSize)], inv := fun k => match k with
  | 4 => some { X := XSel S t n, sl := [8, 2, 6], tf := fun x => [vi .u32 x.i, vi .i64 x.j, .one (.at (.ptr 7 0))], hf := fun x => chS (rdS S (ne0 t + x.m)) ++ [.box [vI 0, vI 0]], μ := fun x => x.t'.size, wr := [0] }
  | _ => none }
def tSel : Tfm C0 := fun args H K => match args with
  | [.at (.ptr 0 0), .at (.val (.int .u32 i)), .at (.val (.int .i64 n))] => arM H fun S => ∃ hs t, Wf S hs ∧ Rep S t i ∧ t.size ≤ 1000000 ∧ S.reads + 2 * t.size ≤ 3000000000000000000 ∧
    ∀ S' o, S' = rdS S (selR t n).2 → o = (selR t n).1 → K (.tup [entO o, .at (vB o.isSome)]) (chS S') [0]
  | _ => False
theorem vc_bf (S : Arn) (i q : Int) (eq : Bool) (K : KT) (hs : List Int) (t : Tr) (hw : Wf S hs) (hr : Rep S t i) (h1 : t.size ≤ 1000000) (h2 : S.reads + 2 * t.size ≤ 3000000000000000000)
    (h : ∀ S' (c : Int), S' = rdS S (bf t q eq).2 → c = (bf t q eq).1 → K (.one (.at (vI c))) (chS S') [0]) :
    vc C0 (aBf S t q eq) Try.f104 [.at (.ptr 0 0), .at (vU i), .at (vI q), .at (vB eq)] (chS S) (normK 7 (wideK [0] K)) := by
  refine Eq.mp (show ((∃ x : XBf S t q eq,
  (True ∧
  (True ∧
  ((Value.int IntKind.i64 (q)) = (Value.int IntKind.i64 (q))) ∧
  ((Value.bool (eq)) = (Value.bool (eq))) ∧
  ((Value.int IntKind.i64 0) = (Value.int IntKind.i64 ((↑x.c : Int)))) ∧
  ((Value.int IntKind.u32 (i)) = (Value.int IntKind.u32 (x.i))) ∧
  True) ∧
  (True ∧
  True ∧
  True ∧
  ((Value.int IntKind.u64 (S.reads)) = (Value.int IntKind.u64 ((rdS S x.m).reads))) ∧
  True) ∧
  (True ∧
  True ∧
  True ∧
  ((Value.int IntKind.u32 (S.fresh)) = (Value.int IntKind.u32 ((rdS S x.m).fresh))) ∧
  True) ∧
  ((S.nodes) = ((rdS S x.m).nodes)) ∧
  ((S.counts) = ((rdS S x.m).counts)) ∧
  ((S.used) = ((rdS S x.m).used)) ∧
  ((S.gen) = ((rdS S x.m).gen)) ∧
  ((S.rel) = ((rdS S x.m).rel)) ∧
  True)) ∧
(∀ x : XBf S t q eq,
  (True →
  (brS (x.i != 0)
    (((inU x.i) ∧
    (exW (rdS S x.m)) ∧
    ((rdS S x.m).reads < 4000000000000000000) ∧
    (∀ S' : Arn,
      (((S') = (rdS (rdS S x.m) ((rdS S x.m).us x.i).toNat)) →
      (brS (!(rdS S x.m).us x.i)
        ((K (SV.one (TV.at (At.val (Value.int IntKind.i64 ((↑x.c : Int)))))) [(Chunk.box [(At.ptr 1 0), (At.slc 2), (At.slc 3), (At.val (Value.int IntKind.u64 (S'.reads)))]), (Chunk.box [(At.slc 4), (At.slc 5), (At.slc 6), (At.val (Value.int IntKind.u32 (S'.fresh)))]), (Chunk.row true (EC.node) (S'.nodes)), (Chunk.row true (EC.int) (S'.counts)), (Chunk.row true (EC.bool) (S'.used)), (Chunk.row true (EC.u32) (S'.gen)), (Chunk.row true (EC.u32) (S'.rel))] [0]))
        ((brS (decide (((rdS S x.m).nd x.i).key > q))
          ((∃ x' : XBf S t q eq,
            (True ∧
            ((True ∧
            ((Value.int IntKind.i64 (q)) = (Value.int IntKind.i64 (q))) ∧
            ((Value.bool (eq)) = (Value.bool (eq))) ∧
            ((Value.int IntKind.i64 ((↑x.c : Int))) = (Value.int IntKind.i64 ((↑x'.c : Int)))) ∧
            ((Value.int IntKind.u32 (((rdS S x.m).nd x.i).left)) = (Value.int IntKind.u32 (x'.i))) ∧
            True) ∧
            (True ∧
            True ∧
            True ∧
            ((Value.int IntKind.u64 (S'.reads)) = (Value.int IntKind.u64 ((rdS S x'.m).reads))) ∧
            True) ∧
            (True ∧
            True ∧
            True ∧
            ((Value.int IntKind.u32 (S'.fresh)) = (Value.int IntKind.u32 ((rdS S x'.m).fresh))) ∧
            True) ∧
            ((S'.nodes) = ((rdS S x'.m).nodes)) ∧
            ((S'.counts) = ((rdS S x'.m).counts)) ∧
            ((S'.used) = ((rdS S x'.m).used)) ∧
            ((S'.gen) = ((rdS S x'.m).gen)) ∧
            ((S'.rel) = ((rdS S x'.m).rel)) ∧
            True) ∧
            (x'.t'.size < x.t'.size))))
          ((brS (((rdS S x.m).nd x.i).key == q)
            ((brS (!eq)
              ((∃ x' : XBf S t q eq,
                (True ∧
                ((True ∧
                ((Value.int IntKind.i64 (q)) = (Value.int IntKind.i64 (q))) ∧
                ((Value.bool (eq)) = (Value.bool (eq))) ∧
                ((Value.int IntKind.i64 ((↑x.c : Int))) = (Value.int IntKind.i64 ((↑x'.c : Int)))) ∧
                ((Value.int IntKind.u32 (((rdS S x.m).nd x.i).left)) = (Value.int IntKind.u32 (x'.i))) ∧
                True) ∧
                (True ∧
                True ∧
                True ∧
                ((Value.int IntKind.u64 (S'.reads)) = (Value.int IntKind.u64 ((rdS S x'.m).reads))) ∧
                True) ∧
                (True ∧
                True ∧
                True ∧
                ((Value.int IntKind.u32 (S'.fresh)) = (Value.int IntKind.u32 ((rdS S x'.m).fresh))) ∧
                True) ∧
                ((S'.nodes) = ((rdS S x'.m).nodes)) ∧
                ((S'.counts) = ((rdS S x'.m).counts)) ∧
                ((S'.used) = ((rdS S x'.m).used)) ∧
                ((S'.gen) = ((rdS S x'.m).gen)) ∧
                ((S'.rel) = ((rdS S x'.m).rel)) ∧
                True) ∧
                (x'.t'.size < x.t'.size))))
              (((inU ((rdS S x.m).nd x.i).left) ∧
              (exW S') ∧
              (S'.reads < 4000000000000000000) ∧
              (∀ S'1 : Arn,
                (((S'1) = (rdS S' (S'.us ((rdS S x.m).nd x.i).left).toNat)) →
                (∃ x' : XBf S t q eq,
                  (True ∧
                  ((True ∧
                  ((Value.int IntKind.i64 (q)) = (Value.int IntKind.i64 (q))) ∧
                  ((Value.bool (eq)) = (Value.bool (eq))) ∧
                  ((Value.int IntKind.i64 (IntKind.i64.wrap ((↑x.c : Int) + IntKind.i64.wrap ((S'.nd ((rdS S x.m).nd x.i).left).size + 1)))) = (Value.int IntKind.i64 ((↑x'.c : Int)))) ∧
                  ((Value.int IntKind.u32 (((rdS S x.m).nd x.i).right)) = (Value.int IntKind.u32 (x'.i))) ∧
                  True) ∧
                  (True ∧
                  True ∧
                  True ∧
                  ((Value.int IntKind.u64 (S'1.reads)) = (Value.int IntKind.u64 ((rdS S x'.m).reads))) ∧
                  True) ∧
                  (True ∧
                  True ∧
                  True ∧
                  ((Value.int IntKind.u32 (S'1.fresh)) = (Value.int IntKind.u32 ((rdS S x'.m).fresh))) ∧
                  True) ∧
                  ((S'1.nodes) = ((rdS S x'.m).nodes)) ∧
                  ((S'1.counts) = ((rdS S x'.m).counts)) ∧
                  ((S'1.used) = ((rdS S x'.m).used)) ∧
                  ((S'1.gen) = ((rdS S x'.m).gen)) ∧
                  ((S'1.rel) = ((rdS S x'.m).rel)) ∧
                  True) ∧
                  (x'.t'.size < x.t'.size)))))))))
            (((inU ((rdS S x.m).nd x.i).left) ∧
            (exW S') ∧
            (S'.reads < 4000000000000000000) ∧
            (∀ S'1 : Arn,
              (((S'1) = (rdS S' (S'.us ((rdS S x.m).nd x.i).left).toNat)) →
              (∃ x' : XBf S t q eq,
                (True ∧
                ((True ∧
                ((Value.int IntKind.i64 (q)) = (Value.int IntKind.i64 (q))) ∧
                ((Value.bool (eq)) = (Value.bool (eq))) ∧
                ((Value.int IntKind.i64 (IntKind.i64.wrap ((↑x.c : Int) + IntKind.i64.wrap ((S'.nd ((rdS S x.m).nd x.i).left).size + 1)))) = (Value.int IntKind.i64 ((↑x'.c : Int)))) ∧
                ((Value.int IntKind.u32 (((rdS S x.m).nd x.i).right)) = (Value.int IntKind.u32 (x'.i))) ∧
                True) ∧
                (True ∧
                True ∧
                True ∧
                ((Value.int IntKind.u64 (S'1.reads)) = (Value.int IntKind.u64 ((rdS S x'.m).reads))) ∧
                True) ∧
                (True ∧
                True ∧
                True ∧
                ((Value.int IntKind.u32 (S'1.fresh)) = (Value.int IntKind.u32 ((rdS S x'.m).fresh))) ∧
                True) ∧
                ((S'1.nodes) = ((rdS S x'.m).nodes)) ∧
                ((S'1.counts) = ((rdS S x'.m).counts)) ∧
                ((S'1.used) = ((rdS S x'.m).used)) ∧
                ((S'1.gen) = ((rdS S x'.m).gen)) ∧
                ((S'1.rel) = ((rdS S x'.m).rel)) ∧
                True) ∧
                (x'.t'.size < x.t'.size))))))))))))))))
    ((K (SV.one (TV.at (At.val (Value.int IntKind.i64 ((↑x.c : Int)))))) [(Chunk.box [(At.ptr 1 0), (At.slc 2), (At.slc 3), (At.val (Value.int IntKind.u64 ((rdS S x.m).reads)))]), (Chunk.box [(At.slc 4), (At.slc 5), (At.slc 6), (At.val (Value.int IntKind.u32 ((rdS S x.m).fresh)))]), (Chunk.row true (EC.node) ((rdS S x.m).nodes)), (Chunk.row true (EC.int) ((rdS S x.m).counts)), (Chunk.row true (EC.bool) ((rdS S x.m).used)), (Chunk.row true (EC.u32) ((rdS S x.m).gen)), (Chunk.row true (EC.u32) ((rdS S x.m).rel))] [0])))))) = _ by kernel_rfl) ?_
  have hrd := hw.rds
  have hb := bf_le t q eq
  refine ⟨⟨⟨i, t, 0, 0, hr, by simp, Nat.le_refl _⟩, ?_⟩, fun x _ => ?_⟩
  · (repeat' first | exact trivial | exact rfl | refine And.intro ?_ ?_)
    rw [rdS_zero]
  obtain ⟨xi, xt, xc, xm, h1', h2, h3⟩ := x
  dsimp only
  have hb2 : bf t q eq = (xc + (bf xt q eq).1, xm + (bf xt q eq).2) := h2
  have hxm : xc ≤ (bf t q eq).1 ∧ xm ≤ (bf t q eq).2 := by rw [hb2]; exact ⟨Nat.le_add_right _ _, Nat.le_add_right _ _⟩
  have hwx : Wf (rdS S xm) hs := hw.rd (by omega)
  refine brS_of (fun c => ?_) fun c => ?_
  · have c : xi ≠ 0 := by simpa using c
    cases xt with
    | nil => exact absurd h1' c
    | node l k v r =>
      obtain ⟨r1, r2, r3, r4, r5⟩ := h1'
      have hsz : l.size + r.size + 1 = (Tr.node l k v r).size := by simp [Tr.size]; omega
      have hsl : (S.nd (S.nd xi).left).size = l.size := r4.size hw
      have hus := us_toNat hw r4
      have hm : ne0 l ≤ 1 := by unfold ne0; split <;> omega
      have hsb : (bf (.node l k v r) q eq).2 ≤ (bf t q eq).2 - xm := by rw [hb2]; simp
      refine ⟨inU_of hw (.inr r1), ⟨_, hwx⟩, by show S.reads + (xm : Int) < _; omega, fun S1 e1 => brS_of (fun d => ?_) fun _ => ?_⟩
      · have d : (!S.us xi) = true := d
        have d : S.us xi = false := by simpa using d
        rw [r1] at d; cases d
      have e1 : S1 = rdS S (xm + 1) := by rw [e1, rdS_rdS]; show rdS S (xm + (S.us xi).toNat) = _; rw [r1]; rfl
      subst e1
      have ek : ((rdS S xm).nd xi).key = k := r2
      rw [ek]
      refine brS_of (fun d => ?_) fun d => brS_of (fun d2 => brS_of (fun d3 => ?_) fun d3 => ?_) fun d2 => ?_
      · have hc : q < k ∨ (k = q ∧ eq = false) := .inl (of_decide_eq_true d)
        refine ⟨⟨(S.nd xi).left, l, xc, xm + 1, r4, by rw [h2]; simp only [bf, if_pos hc]; rw [Nat.add_assoc], by omega⟩, ?_⟩
        (repeat' first | exact trivial | exact rfl | refine And.intro ?_ ?_)
        show l.size < (Tr.node l k v r).size; omega
      · have hc : q < k ∨ (k = q ∧ eq = false) := .inr ⟨by simpa using d2, by simpa using d3⟩
        refine ⟨⟨(S.nd xi).left, l, xc, xm + 1, r4, by rw [h2]; simp only [bf, if_pos hc]; rw [Nat.add_assoc], by omega⟩, ?_⟩
        (repeat' first | exact trivial | exact rfl | refine And.intro ?_ ?_)
        show l.size < (Tr.node l k v r).size; omega
      all_goals
        have d : ¬ q < k := of_decide_eq_false d
        have hc : ¬ (q < k ∨ (k = q ∧ eq = false)) := by first | (rintro (a | ⟨_, a⟩); exact d a; rw [a] at d3; cases d3) | (rintro (a | ⟨a, _⟩); exact d a; rw [a] at d2; simp at d2)
        have hn : (bf (.node l k v r) q eq).2 ≤ 2 * (Tr.node l k v r).size := (bf_le _ _ _).2
        refine ⟨inU_of hw (hw.kid xi r1).1, ⟨_, hw.rd (by omega)⟩, by show S.reads + ((xm + 1 : Nat) : Int) < _; omega, fun S2 e2 => ?_⟩
        have e2 : S2 = rdS S (xm + (1 + ne0 l)) := by rw [e2, rdS_rdS]; show rdS S (xm + 1 + (S.us (S.nd xi).left).toNat) = _; rw [hus, Nat.add_assoc]
        have e2 := e2
        subst e2
        refine ⟨⟨(S.nd xi).right, r, xc + (l.size + 1), xm + (1 + ne0 l), r5, by rw [h2]; simp only [bf, if_neg hc]; exact Prod.ext (by show _ = _; simp only []; omega) (by show _ = _; simp only []; omega), by omega⟩, ?_⟩
        (repeat' first | exact trivial | exact rfl | refine And.intro ?_ ?_)
        · show Value.int .i64 (IntKind.i64.wrap ((xc : Int) + IntKind.i64.wrap ((S.nd (S.nd xi).left).size + 1))) = Value.int .i64 ((xc + (l.size + 1) : Nat) : Int)
          rw [hsl, wrap_id (x := (l.size : Int) + 1) (by omega) (by omega), wrap_id (by omega) (by omega)]
          congr 1
        · show r.size < (Tr.node l k v r).size; omega
        
  · have c : xi = 0 := by simpa using c
    subst c
    have e := h1'.zero hw
    subst e
    exact h _ _ (by rw [hb2]; simp [bf]) (by rw [hb2]; simp [bf])
theorem s_bf : SoundT C0 104 tBf := by
  refine .ofW [0] Try.func104 (by decide) rfl fun args H K h hB => ?_
  unfold tBf at h
  split at h <;> try exact h.elim
  unfold arM at h
  split at h <;> try exact h.elim
  rename_i i q eq _ rd fr nd ct us gn rl
  obtain ⟨hs, t, h1, h2, h3, h4, h5⟩ := h
  exact ⟨aBf ⟨us, gn, rl, fr, nd, ct, rd⟩ t q eq, ⟨frame C0.ok s_node _, frame C0.ok s_size _, trivial⟩, vc_bf ⟨us, gn, rl, fr, nd, ct, rd⟩ i q eq K hs t h1 h2 h3 h4 h5⟩
theorem vc_rank (S : Arn) (i q : Int) (K : KT) (hs : List Int) (t : Tr) (hw : Wf S hs) (hr : Rep S t i) (h1 : t.size ≤ 1000000) (h2 : S.reads + 2 * t.size ≤ 3000000000000000000)
    (h : ∀ S' (c : Int), S' = rdS S (bf t q false).2 → c = (bf t q false).1 → K (.one (.at (vI c))) (chS S') [0]) :
    vc C0 aRank Try.f61 [.at (.ptr 0 0), .at (vU i), .at (vI q)] (chS S) (normK 7 (wideK [0] K)) :=
  Eq.mp (show (∃ hs : List Int,
  (∃ t : Tr,
    ((Wf S hs) ∧
    (Rep S t i) ∧
    (t.size ≤ 1000000) ∧
    (S.reads + 2 * (↑t.size : Int) ≤ 3000000000000000000) ∧
    (∀ S' : Arn,
      (∀ c : Int,
        (((S') = (rdS S (bf t q false).snd)) →
        (((c) = ((↑(bf t q false).fst : Int))) →
        (K (SV.one (TV.at (At.val (Value.int IntKind.i64 (c))))) [(Chunk.box [(At.ptr 1 0), (At.slc 2), (At.slc 3), (At.val (Value.int IntKind.u64 (S'.reads)))]), (Chunk.box [(At.slc 4), (At.slc 5), (At.slc 6), (At.val (Value.int IntKind.u32 (S'.fresh)))]), (Chunk.row true (EC.node) (S'.nodes)), (Chunk.row true (EC.int) (S'.counts)), (Chunk.row true (EC.bool) (S'.used)), (Chunk.row true (EC.u32) (S'.gen)), (Chunk.row true (EC.u32) (S'.rel))] [0])))))))) = _ by kernel_rfl) ⟨hs, t, hw, hr, h1, h2, h⟩
theorem s_rank : SoundT C0 61 tRank := by
  refine .ofW [0] Try.func61 (by decide) rfl fun args H K h hB => ?_
  unfold tRank at h
  split at h <;> try exact h.elim
  unfold arM at h
  split at h <;> try exact h.elim
  rename_i i q _ rd fr nd ct us gn rl
  obtain ⟨hs, t, h1, h2, h3, h4, h5⟩ := h
  exact ⟨aRank, ⟨frame C0.ok s_bf _, trivial⟩, vc_rank ⟨us, gn, rl, fr, nd, ct, rd⟩ i q K hs t h1 h2 h3 h4 h5⟩
theorem vc_sel (S : Arn) (i n : Int) (K : KT) (hs : List Int) (t : Tr) (hw : Wf S hs) (hr : Rep S t i) (h1 : t.size ≤ 1000000) (h2 : S.reads + 2 * t.size ≤ 3000000000000000000)
    (h : ∀ S' o, S' = rdS S (selR t n).2 → o = (selR t n).1 → K (.tup [entO o, .at (vB o.isSome)]) (chS S') [0]) :
    vc C0 (aSel S t n) Try.f60 [.at (.ptr 0 0), .at (vU i), .at (vI n)] (chS S) (normK 7 (wideK [0] K)) := by
  refine Eq.mp (show (brS (decide (n < 0))
  ((K (SV.tup [(TV.agg [(At.val (Value.int IntKind.i64 0)), (At.val (Value.int IntKind.i64 0))]), (TV.at (At.val (Value.bool false)))]) [(Chunk.box [(At.ptr 1 0), (At.slc 2), (At.slc 3), (At.val (Value.int IntKind.u64 (S.reads)))]), (Chunk.box [(At.slc 4), (At.slc 5), (At.slc 6), (At.val (Value.int IntKind.u32 (S.fresh)))]), (Chunk.row true (EC.node) (S.nodes)), (Chunk.row true (EC.int) (S.counts)), (Chunk.row true (EC.bool) (S.used)), (Chunk.row true (EC.u32) (S.gen)), (Chunk.row true (EC.u32) (S.rel))] [0]))
  (((inU i) ∧
  (exW S) ∧
  (S.reads < 4000000000000000000) ∧
  (∀ S' : Arn,
    (((S') = (rdS S (S.us i).toNat)) →
    (brS (decide (n ≥ (S.nd i).size))
      ((K (SV.tup [(TV.agg [(At.val (Value.int IntKind.i64 0)), (At.val (Value.int IntKind.i64 0))]), (TV.at (At.val (Value.bool false)))]) [(Chunk.box [(At.ptr 1 0), (At.slc 2), (At.slc 3), (At.val (Value.int IntKind.u64 (S'.reads)))]), (Chunk.box [(At.slc 4), (At.slc 5), (At.slc 6), (At.val (Value.int IntKind.u32 (S'.fresh)))]), (Chunk.row true (EC.node) (S'.nodes)), (Chunk.row true (EC.int) (S'.counts)), (Chunk.row true (EC.bool) (S'.used)), (Chunk.row true (EC.u32) (S'.gen)), (Chunk.row true (EC.u32) (S'.rel))] [0]))
      (((∃ x : XSel S t n,
        (True ∧
        (True ∧
        ((Value.int IntKind.i64 (n)) = (Value.int IntKind.i64 (x.j))) ∧
        True ∧
        ((Value.int IntKind.u32 (i)) = (Value.int IntKind.u32 (x.i))) ∧
        True) ∧
        (True ∧
        True ∧
        True ∧
        ((Value.int IntKind.u64 (S'.reads)) = (Value.int IntKind.u64 ((rdS S (ne0 t + x.m)).reads))) ∧
        True) ∧
        (True ∧
        True ∧
        True ∧
        ((Value.int IntKind.u32 (S'.fresh)) = (Value.int IntKind.u32 ((rdS S (ne0 t + x.m)).fresh))) ∧
        True) ∧
        ((S'.nodes) = ((rdS S (ne0 t + x.m)).nodes)) ∧
        ((S'.counts) = ((rdS S (ne0 t + x.m)).counts)) ∧
        ((S'.used) = ((rdS S (ne0 t + x.m)).used)) ∧
        ((S'.gen) = ((rdS S (ne0 t + x.m)).gen)) ∧
        ((S'.rel) = ((rdS S (ne0 t + x.m)).rel)) ∧
        (((Value.int IntKind.i64 0) = (Value.int IntKind.i64 0)) ∧
        ((Value.int IntKind.i64 0) = (Value.int IntKind.i64 0)) ∧
        True) ∧
        True)) ∧
      (∀ x : XSel S t n,
        (True →
        (brS (x.i != 0)
          (((inU x.i) ∧
          (exW (rdS S (ne0 t + x.m))) ∧
          ((rdS S (ne0 t + x.m)).reads < 4000000000000000000) ∧
          (∀ S'1 : Arn,
            (((S'1) = (rdS (rdS S (ne0 t + x.m)) ((rdS S (ne0 t + x.m)).us x.i).toNat)) →
            (brS (!(rdS S (ne0 t + x.m)).us x.i)
              ((K (SV.tup [(TV.agg [(At.val (Value.int IntKind.i64 0)), (At.val (Value.int IntKind.i64 0))]), (TV.at (At.val (Value.bool false)))]) [(Chunk.box [(At.ptr 1 0), (At.slc 2), (At.slc 3), (At.val (Value.int IntKind.u64 (S'1.reads)))]), (Chunk.box [(At.slc 4), (At.slc 5), (At.slc 6), (At.val (Value.int IntKind.u32 (S'1.fresh)))]), (Chunk.row true (EC.node) (S'1.nodes)), (Chunk.row true (EC.int) (S'1.counts)), (Chunk.row true (EC.bool) (S'1.used)), (Chunk.row true (EC.u32) (S'1.gen)), (Chunk.row true (EC.u32) (S'1.rel))] [0]))
              (((inU ((rdS S (ne0 t + x.m)).nd x.i).left) ∧
              (exW S'1) ∧
              (S'1.reads < 4000000000000000000) ∧
              (∀ S'2 : Arn,
                (((S'2) = (rdS S'1 (S'1.us ((rdS S (ne0 t + x.m)).nd x.i).left).toNat)) →
                (brS (decide (x.j < (S'1.nd ((rdS S (ne0 t + x.m)).nd x.i).left).size))
                  ((∃ x' : XSel S t n,
                    (True ∧
                    ((True ∧
                    ((Value.int IntKind.i64 (x.j)) = (Value.int IntKind.i64 (x'.j))) ∧
                    True ∧
                    ((Value.int IntKind.u32 (((rdS S (ne0 t + x.m)).nd x.i).left)) = (Value.int IntKind.u32 (x'.i))) ∧
                    True) ∧
                    (True ∧
                    True ∧
                    True ∧
                    ((Value.int IntKind.u64 (S'2.reads)) = (Value.int IntKind.u64 ((rdS S (ne0 t + x'.m)).reads))) ∧
                    True) ∧
                    (True ∧
                    True ∧
                    True ∧
                    ((Value.int IntKind.u32 (S'2.fresh)) = (Value.int IntKind.u32 ((rdS S (ne0 t + x'.m)).fresh))) ∧
                    True) ∧
                    ((S'2.nodes) = ((rdS S (ne0 t + x'.m)).nodes)) ∧
                    ((S'2.counts) = ((rdS S (ne0 t + x'.m)).counts)) ∧
                    ((S'2.used) = ((rdS S (ne0 t + x'.m)).used)) ∧
                    ((S'2.gen) = ((rdS S (ne0 t + x'.m)).gen)) ∧
                    ((S'2.rel) = ((rdS S (ne0 t + x'.m)).rel)) ∧
                    (((Value.int IntKind.i64 0) = (Value.int IntKind.i64 0)) ∧
                    ((Value.int IntKind.i64 0) = (Value.int IntKind.i64 0)) ∧
                    True) ∧
                    True) ∧
                    (x'.t'.size < x.t'.size))))
                  ((brS (decide (x.j > (S'1.nd ((rdS S (ne0 t + x.m)).nd x.i).left).size))
                    ((∃ x' : XSel S t n,
                      (True ∧
                      ((True ∧
                      ((Value.int IntKind.i64 (IntKind.i64.wrap (x.j - IntKind.i64.wrap ((S'1.nd ((rdS S (ne0 t + x.m)).nd x.i).left).size + 1)))) = (Value.int IntKind.i64 (x'.j))) ∧
                      True ∧
                      ((Value.int IntKind.u32 (((rdS S (ne0 t + x.m)).nd x.i).right)) = (Value.int IntKind.u32 (x'.i))) ∧
                      True) ∧
                      (True ∧
                      True ∧
                      True ∧
                      ((Value.int IntKind.u64 (S'2.reads)) = (Value.int IntKind.u64 ((rdS S (ne0 t + x'.m)).reads))) ∧
                      True) ∧
                      (True ∧
                      True ∧
                      True ∧
                      ((Value.int IntKind.u32 (S'2.fresh)) = (Value.int IntKind.u32 ((rdS S (ne0 t + x'.m)).fresh))) ∧
                      True) ∧
                      ((S'2.nodes) = ((rdS S (ne0 t + x'.m)).nodes)) ∧
                      ((S'2.counts) = ((rdS S (ne0 t + x'.m)).counts)) ∧
                      ((S'2.used) = ((rdS S (ne0 t + x'.m)).used)) ∧
                      ((S'2.gen) = ((rdS S (ne0 t + x'.m)).gen)) ∧
                      ((S'2.rel) = ((rdS S (ne0 t + x'.m)).rel)) ∧
                      (((Value.int IntKind.i64 0) = (Value.int IntKind.i64 0)) ∧
                      ((Value.int IntKind.i64 0) = (Value.int IntKind.i64 0)) ∧
                      True) ∧
                      True) ∧
                      (x'.t'.size < x.t'.size))))
                    ((K (SV.tup [(TV.agg [(At.val (Value.int IntKind.i64 (((rdS S (ne0 t + x.m)).nd x.i).key))), (At.val (Value.int IntKind.i64 (((rdS S (ne0 t + x.m)).nd x.i).value)))]), (TV.at (At.val (Value.bool true)))]) [(Chunk.box [(At.ptr 1 0), (At.slc 2), (At.slc 3), (At.val (Value.int IntKind.u64 (S'2.reads)))]), (Chunk.box [(At.slc 4), (At.slc 5), (At.slc 6), (At.val (Value.int IntKind.u32 (S'2.fresh)))]), (Chunk.row true (EC.node) (S'2.nodes)), (Chunk.row true (EC.int) (S'2.counts)), (Chunk.row true (EC.bool) (S'2.used)), (Chunk.row true (EC.u32) (S'2.gen)), (Chunk.row true (EC.u32) (S'2.rel))] [0]))))))))))))))
          ((K (SV.tup [(TV.agg [(At.val (Value.int IntKind.i64 0)), (At.val (Value.int IntKind.i64 0))]), (TV.at (At.val (Value.bool false)))]) [(Chunk.box [(At.ptr 1 0), (At.slc 2), (At.slc 3), (At.val (Value.int IntKind.u64 ((rdS S (ne0 t + x.m)).reads)))]), (Chunk.box [(At.slc 4), (At.slc 5), (At.slc 6), (At.val (Value.int IntKind.u32 ((rdS S (ne0 t + x.m)).fresh)))]), (Chunk.row true (EC.node) ((rdS S (ne0 t + x.m)).nodes)), (Chunk.row true (EC.int) ((rdS S (ne0 t + x.m)).counts)), (Chunk.row true (EC.bool) ((rdS S (ne0 t + x.m)).used)), (Chunk.row true (EC.u32) ((rdS S (ne0 t + x.m)).gen)), (Chunk.row true (EC.u32) ((rdS S (ne0 t + x.m)).rel))] [0]))))))))))))) = _ by kernel_rfl) ?_
  have hrd := hw.rds
  have hb := sel_le t n
  have hsz := hr.size hw
  have hus := us_toNat hw hr
  have hm0 : ne0 t ≤ 1 := by unfold ne0; split <;> omega
  refine brS_of (fun c => ?_) fun c => ⟨inU_of hw hr.us, ⟨_, hw⟩, by omega, fun S1 e1 => brS_of (fun d => ?_) fun d => ?_⟩
  · have c : n < 0 := of_decide_eq_true c
    exact h S none (by rw [selR, if_pos c]; exact (rdS_zero S).symm) (by rw [selR, if_pos c])
  all_goals
    have c : ¬ n < 0 := of_decide_eq_false c
    have e1 : S1 = rdS S (ne0 t) := by rw [e1, hus]
    rw [hsz] at d
  · have d : (t.size : Int) ≤ n := of_decide_eq_true d
    exact h S1 none (by rw [selR, if_neg c, if_pos d]; exact e1) (by rw [selR, if_neg c, if_pos d])
  have d : ¬ (t.size : Int) ≤ n := of_decide_eq_false d
  have eR : selR t n = ((sel t n).1, ne0 t + (sel t n).2) := by rw [selR, if_neg c, if_neg d]
  rw [eR] at h
  subst e1
  refine ⟨⟨⟨i, n, t, 0, hr, by simp, Nat.le_refl _, by omega, by omega⟩, ?_⟩, fun x _ => ?_⟩
  · (repeat' first | exact trivial | exact rfl | refine And.intro ?_ ?_)
  obtain ⟨xi, xj, xt, xm, h1', h2, h3, h4, h5⟩ := x
  dsimp only
  have hb2 : sel t n = ((sel xt xj).1, xm + (sel xt xj).2) := h2
  have hxm : xm ≤ (sel t n).2 := by rw [hb2]; exact Nat.le_add_right _ _
  have hwx : Wf (rdS S (ne0 t + xm)) hs := hw.rd (by omega)
  cases xt with
  | nil => simp [Tr.size] at h5; omega
  | node l k v r =>
    obtain ⟨r1, r2, r3, r4, r5⟩ := h1'
    have hp := hw.pos r1
    have hz : l.size + r.size + 1 = (Tr.node l k v r).size := by simp [Tr.size]; omega
    have hsl : (S.nd (S.nd xi).left).size = l.size := r4.size hw
    have hul := us_toNat hw r4
    have hm : ne0 l ≤ 1 := by unfold ne0; split <;> omega
    refine brS_of (fun c => ?_) fun c => ?_
    · refine ⟨inU_of hw (.inr r1), ⟨_, hwx⟩, by show S.reads + ((ne0 t + xm : Nat) : Int) < _; omega, fun S1 e1 => brS_of (fun d => ?_) fun _ => ?_⟩
      · have d : (!S.us xi) = true := d
        have d : S.us xi = false := by simpa using d
        rw [r1] at d; cases d
      have e1 : S1 = rdS S (ne0 t + (xm + 1)) := by rw [e1, rdS_rdS]; show rdS S (ne0 t + xm + (S.us xi).toNat) = _; rw [r1]; rfl
      subst e1
      refine ⟨inU_of hw (hw.kid xi r1).1, ⟨_, hw.rd (by omega)⟩, by show S.reads + ((ne0 t + (xm + 1) : Nat) : Int) < _; omega, fun S2 e2 => ?_⟩
      have e2 : S2 = rdS S (ne0 t + (xm + (1 + ne0 l))) := by rw [e2, rdS_rdS]; show rdS S (ne0 t + (xm + 1) + (S.us (S.nd xi).left).toNat) = _; rw [hul, Nat.add_assoc, Nat.add_assoc]
      subst e2
      have ez : ((rdS S (ne0 t + (xm + 1))).nd ((rdS S (ne0 t + xm)).nd xi).left).size = l.size := hsl
      have ek : ((rdS S (ne0 t + xm)).nd xi).key = k := r2
      have ev : ((rdS S (ne0 t + xm)).nd xi).value = v := r3
      rw [ez, ek, ev]
      refine brS_of (fun e => ?_) fun e => brS_of (fun e3 => ?_) fun e3 => ?_
      · have e : xj < (l.size : Int) := of_decide_eq_true e
        refine ⟨⟨(S.nd xi).left, xj, l, xm + (1 + ne0 l), r4, by rw [hb2]; simp only [sel, if_pos e]; exact Prod.ext rfl (by show _ = _; simp only []; omega), by omega, h4, e⟩, ?_⟩
        (repeat' first | exact trivial | exact rfl | refine And.intro ?_ ?_)
        show l.size < (Tr.node l k v r).size; omega
      all_goals have e : ¬ xj < (l.size : Int) := of_decide_eq_false e
      · have e3 : (l.size : Int) < xj := of_decide_eq_true e3
        refine ⟨⟨(S.nd xi).right, xj - (l.size + 1), r, xm + (1 + ne0 l), r5, by rw [hb2]; simp only [sel, if_neg e, if_pos e3]; exact Prod.ext rfl (by show _ = _; simp only []; omega), by omega, by omega, by omega⟩, ?_⟩
        (repeat' first | exact trivial | exact rfl | refine And.intro ?_ ?_)
        · rw [wrap_id (x := (l.size : Int) + 1) (by omega) (by omega), wrap_id (by omega) (by omega)]
        · show r.size < (Tr.node l k v r).size; omega
      · have e3 : ¬ (l.size : Int) < xj := of_decide_eq_false e3
        exact h _ (some (k, v)) (by rw [hb2]; simp only [sel, if_neg e, if_neg e3]) (by rw [hb2]; simp only [sel, if_neg e, if_neg e3])
    · have c : xi = 0 := by simpa using c
      omega
theorem s_sel : SoundT C0 60 tSel := by
  refine .ofW [0] Try.func60 (by decide) rfl fun args H K h hB => ?_
  unfold tSel at h
  split at h <;> try exact h.elim
  unfold arM at h
  split at h <;> try exact h.elim
  rename_i i n _ rd fr nd ct us gn rl
  obtain ⟨hs, t, h1, h2, h3, h4, h5⟩ := h
  exact ⟨aSel ⟨us, gn, rl, fr, nd, ct, rd⟩ t n, ⟨frame C0.ok s_node _, frame C0.ok s_size _, trivial⟩, vc_sel ⟨us, gn, rl, fr, nd, ct, rd⟩ i n K hs t h1 h2 h3 h4 h5⟩
end Go.Proofs.Ytacdmmomkngpkaa.Sx
