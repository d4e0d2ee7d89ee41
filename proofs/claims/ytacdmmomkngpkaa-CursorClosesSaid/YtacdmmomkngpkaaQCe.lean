/- The law that Close gives the reference back once. -/
import Derived.Test.YtacdmmomkngpkaaQCd
import Derived.Test.YtacdmmomkngpkaaQCm
import Derived.Test.YtacdmmomkngpkaaQSp
namespace Go.Proofs.Ytacdmmomkngpkaa.Sx
open Go

/-KEEP Wf exW inU live Arn.cap Arn.free Rep rdS Tr.size Tr.list PlantR betE listE newS opS relC keepC Kept List.Perm Asc-/
def tCl_next : Tfm C0 := fun args H K => match args with
  | [.at (.ptr 0 0)] => cuM H fun c S => c.closed = true ∧ K (.tup [entO none, .at (vI 6)]) (chC c S) [0, 1]
  | _ => False
def tCl_find : Tfm C0 := fun args H K => match args with
  | [.at (.ptr 0 0), .at (.val (.int .i64 _))] => cuM H fun c S => c.closed = true ∧ K (.tup [entO none, .at (vI 6)]) (chC c S) [0, 1]
  | _ => False
abbrev L20 (raw : List Ent) : List Ent := listE raw 60
abbrev W20 (raw : List Ent) : List Ent := betE (listE raw 60) (-9223372036854775808) 9223372036854775807
structure XCs (P : Arn → Cur → Int → Nat → Prop) where
  S : Arn
  c : Cur
  k : Int
  j : Nat
  h : P S c k j
noncomputable def aCs (P1 P2 : Arn → Cur → Int → Nat → Prop) (raw : List Ent) (ml : List MoveT) : Ann C0 := { Γ := [(24, frameT [] tLst), (33, frameT [] tGrow), (34, frameT [] tAwake24), (36, frameT [] tOpenL), (31, frameT [] tSound), (63, frameT [] tO24), (64, frameT [] tMv), (17, frameT [] tRelease), (65, frameT [] tCu_close), (21, frameT [] tFree), (66, frameT [] tCap), (38, frameT [] tCl_next), (39, frameT [] tCl_next), (67, frameT [] tCl_find), (68, frameT [] tCu_entry), (69, frameT [] tCu_rew)], inv := fun n => match n with
  | 10 => some { X := XCs P1, sl := [9, 10, 11, 13, 15, 16], tf := fun x => [.one (.at (.slc 2)), .one (.at (.ptr 4 0)), vi .u32 x.c.root, .one (.at (.ptr 3 0)), .one (.at (.ptr 12 0)), vi .i64 x.j], hf := fun x => [.row false EC.ent raw, .row false EC.move ml, .row false EC.ent (L20 raw), bxC 4 x.c] ++ chSk 4 x.S ++ [.row false EC.ent (W20 raw), .box [.slc 11, vI x.k, vB false]], μ := fun x => 20 - x.j }
  | 1013 => some { X := XCs P2, sl := [9, 10, 11, 13, 15, 16, 17, 18], tf := fun x => [.one (.at (.slc 2)), .one (.at (.ptr 4 0)), vi .u32 x.c.root, .one (.at (.ptr 3 0)), .one (.at (.ptr 12 0)), vi .i64 x.j, .one (.at (.ptr 13 0)), vb true], hf := fun x => [.row false EC.ent raw, .row false EC.move ml, .row false EC.ent (L20 raw), bxC 4 x.c] ++ chSk 4 x.S ++ [.row false EC.ent (W20 raw), .box [.any, .any, .any], .box [.slc 11, vI x.k, vB false]], rel := fun T _ x => slotI T 16 x.j }
  | _ => none }
def tCs : Tfm C0 := fun args H K => match args, H with
  | [.at (.slc 0), .at (.val (.int .u64 t)), .at (.slc 1), .at (.val (.int .i64 _))], [.row false .ent raw, .row false .move ml] => 0 ≤ t ∧ K (.one (.at (vB true))) [.row false EC.ent raw, .row false EC.move ml] []
  | _, _ => False
theorem s_cl_next : SoundT C0 38 tCl_next := by
  refine .ofW [0, 1] Try.func38 (by decide) rfl fun args H K h hB => ?_
  unfold tCl_next at h
  split at h <;> try exact h.elim
  unfold cuM at h
  split at h <;> try exact h.elim
  rename_i root lo hi place ek ev closed rd fr nd ct us gn rl
  have key : ∀ (P1 P2 : Arn → Option Ent → Prop) (c : Cur) (S : Arn), c.closed = true → K (.tup [entO none, .at (vI 6)]) (chC c S) [0, 1] → vc C0 (aCu_next P1 P2 c) Try.f38 [.at (.ptr 0 0)] (chC c S) (normK 8 (wideK [0, 1] K)) := fun P1 P2 c S hc h => by
    refine Eq.mp (show (brS (c.closed)
  ((K (SV.tup [(TV.agg [(At.val (Value.int IntKind.i64 0)), (At.val (Value.int IntKind.i64 0))]), (TV.at (At.val (Value.int IntKind.i64 6)))]) [(Chunk.box [(At.ptr 1 0), (At.val (Value.int IntKind.u32 (c.root))), (At.val (Value.int IntKind.i64 (c.lo))), (At.val (Value.int IntKind.i64 (c.hi))), (At.val (Value.int IntKind.i64 (c.place))), (At.val (Value.int IntKind.i64 (c.ek))), (At.val (Value.int IntKind.i64 (c.ev))), (At.val (Value.bool (c.closed)))]), (Chunk.box [(At.ptr 2 0), (At.slc 3), (At.slc 4), (At.val (Value.int IntKind.u64 (S.reads)))]), (Chunk.box [(At.slc 5), (At.slc 6), (At.slc 7), (At.val (Value.int IntKind.u32 (S.fresh)))]), (Chunk.row true (EC.node) (S.nodes)), (Chunk.row true (EC.int) (S.counts)), (Chunk.row true (EC.bool) (S.used)), (Chunk.row true (EC.u32) (S.gen)), (Chunk.row true (EC.u32) (S.rel))] [0, 1]))
  ((brS (c.place == 0)
    ((((∃ hs : List Int,
      (∃ t : Tr,
        ((Wf S hs) ∧
        (Rep S t c.root) ∧
        (t.size ≤ 1000000) ∧
        (S.reads + (↑t.size : Int) ≤ 3000000000000000000) ∧
        (∀ S' : Arn,
          (∀ o : Option Ent,
            (((S') = (rdS S (lsT t (fun k => decide (k ≥ c.lo)) none).snd)) →
            (((o) = ((lsT t (fun k => decide (k ≥ c.lo)) none).fst)) →
            (∃ x : XCu P1,
              (True ∧
              (True ∧
              True ∧
              True ∧
              ((Value.bool (o.isSome)) = (Value.bool (x.o.isSome))) ∧
              True) ∧
              (True ∧
              ((Value.int IntKind.u32 (c.root)) = (Value.int IntKind.u32 (c.root))) ∧
              ((Value.int IntKind.i64 (c.lo)) = (Value.int IntKind.i64 (c.lo))) ∧
              ((Value.int IntKind.i64 (c.hi)) = (Value.int IntKind.i64 (c.hi))) ∧
              ((Value.int IntKind.i64 (c.place)) = (Value.int IntKind.i64 (c.place))) ∧
              ((Value.int IntKind.i64 (c.ek)) = (Value.int IntKind.i64 (c.ek))) ∧
              ((Value.int IntKind.i64 (c.ev)) = (Value.int IntKind.i64 (c.ev))) ∧
              ((Value.bool (c.closed)) = (Value.bool (c.closed))) ∧
              True) ∧
              (True ∧
              True ∧
              True ∧
              ((Value.int IntKind.u64 (S'.reads)) = (Value.int IntKind.u64 (x.S.reads))) ∧
              True) ∧
              (True ∧
              True ∧
              True ∧
              ((Value.int IntKind.u32 (S'.fresh)) = (Value.int IntKind.u32 (x.S.fresh))) ∧
              True) ∧
              ((S'.nodes) = (x.S.nodes)) ∧
              ((S'.counts) = (x.S.counts)) ∧
              ((S'.used) = (x.S.used)) ∧
              ((S'.gen) = (x.S.gen)) ∧
              ((S'.rel) = (x.S.rel)) ∧
              (((Value.int IntKind.i64 0) = (Value.int IntKind.i64 0)) ∧
              ((Value.int IntKind.i64 0) = (Value.int IntKind.i64 0)) ∧
              True) ∧
              (((Value.int IntKind.i64 ((o.getD (0, 0)).fst)) = (Value.int IntKind.i64 ((x.o.getD (0, 0)).fst))) ∧
              ((Value.int IntKind.i64 ((o.getD (0, 0)).snd)) = (Value.int IntKind.i64 ((x.o.getD (0, 0)).snd))) ∧
              True) ∧
              True))))))))) ∧
    (∃ hs : List Int,
      (∃ t : Tr,
        ((Wf S hs) ∧
        (Rep S t c.root) ∧
        (t.size ≤ 1000000) ∧
        (S.reads + (↑t.size : Int) ≤ 3000000000000000000) ∧
        (∀ S' : Arn,
          (∀ o : Option Ent,
            (((S') = (rdS S (lsT t (fun k => decide (k ≥ c.lo)) none).snd)) →
            (((o) = ((lsT t (fun k => decide (k ≥ c.lo)) none).fst)) →
            (∃ x : XCu P1,
              (True ∧
              (True ∧
              True ∧
              True ∧
              ((Value.bool (o.isSome)) = (Value.bool (x.o.isSome))) ∧
              True) ∧
              (True ∧
              ((Value.int IntKind.u32 (c.root)) = (Value.int IntKind.u32 (c.root))) ∧
              ((Value.int IntKind.i64 (c.lo)) = (Value.int IntKind.i64 (c.lo))) ∧
              ((Value.int IntKind.i64 (c.hi)) = (Value.int IntKind.i64 (c.hi))) ∧
              ((Value.int IntKind.i64 (c.place)) = (Value.int IntKind.i64 (c.place))) ∧
              ((Value.int IntKind.i64 (c.ek)) = (Value.int IntKind.i64 (c.ek))) ∧
              ((Value.int IntKind.i64 (c.ev)) = (Value.int IntKind.i64 (c.ev))) ∧
              ((Value.bool (c.closed)) = (Value.bool (c.closed))) ∧
              True) ∧
              (True ∧
              True ∧
              True ∧
              ((Value.int IntKind.u64 (S'.reads)) = (Value.int IntKind.u64 (x.S.reads))) ∧
              True) ∧
              (True ∧
              True ∧
              True ∧
              ((Value.int IntKind.u32 (S'.fresh)) = (Value.int IntKind.u32 (x.S.fresh))) ∧
              True) ∧
              ((S'.nodes) = (x.S.nodes)) ∧
              ((S'.counts) = (x.S.counts)) ∧
              ((S'.used) = (x.S.used)) ∧
              ((S'.gen) = (x.S.gen)) ∧
              ((S'.rel) = (x.S.rel)) ∧
              (((Value.int IntKind.i64 0) = (Value.int IntKind.i64 0)) ∧
              ((Value.int IntKind.i64 0) = (Value.int IntKind.i64 0)) ∧
              True) ∧
              (((Value.int IntKind.i64 ((o.getD (0, 0)).fst)) = (Value.int IntKind.i64 ((x.o.getD (0, 0)).fst))) ∧
              ((Value.int IntKind.i64 ((o.getD (0, 0)).snd)) = (Value.int IntKind.i64 ((x.o.getD (0, 0)).snd))) ∧
              True) ∧
              True)))))))))) ∧
    (∀ x : XCu P1,
      (True →
      (∃ o : Option Ent,
        (((x.o.isSome) = (o.isSome)) ∧
        (((x.o.getD (0, 0)).fst) = ((o.getD (0, 0)).fst)) ∧
        (((x.o.getD (0, 0)).snd) = ((o.getD (0, 0)).snd)) ∧
        (∀ c' : Cur,
          (∀ r : Option Ent,
            (((Prod.mk (c') (r)) = (moveC c o 2)) →
            (K (SV.tup [(TV.agg [(At.val (Value.int IntKind.i64 ((r.getD (0, 0)).fst))), (At.val (Value.int IntKind.i64 ((r.getD (0, 0)).snd)))]), (TV.at (At.val (Value.int IntKind.i64 (errE r))))]) [(Chunk.box [(At.ptr 1 0), (At.val (Value.int IntKind.u32 (c'.root))), (At.val (Value.int IntKind.i64 (c'.lo))), (At.val (Value.int IntKind.i64 (c'.hi))), (At.val (Value.int IntKind.i64 (c'.place))), (At.val (Value.int IntKind.i64 (c'.ek))), (At.val (Value.int IntKind.i64 (c'.ev))), (At.val (Value.bool (c'.closed)))]), (Chunk.box [(At.ptr 2 0), (At.slc 3), (At.slc 4), (At.val (Value.int IntKind.u64 (x.S.reads)))]), (Chunk.box [(At.slc 5), (At.slc 6), (At.slc 7), (At.val (Value.int IntKind.u32 (x.S.fresh)))]), (Chunk.row true (EC.node) (x.S.nodes)), (Chunk.row true (EC.int) (x.S.counts)), (Chunk.row true (EC.bool) (x.S.used)), (Chunk.row true (EC.u32) (x.S.gen)), (Chunk.row true (EC.u32) (x.S.rel))] [0, 1]))))))))))
    ((brS (c.place == 1)
      ((((∃ hs : List Int,
        (∃ t : Tr,
          ((Wf S hs) ∧
          (Rep S t c.root) ∧
          (t.size ≤ 1000000) ∧
          (S.reads + (↑t.size : Int) ≤ 3000000000000000000) ∧
          (∀ S' : Arn,
            (∀ o : Option Ent,
              (((S') = (rdS S (lsT t (fun k => decide (k > c.ek)) none).snd)) →
              (((o) = ((lsT t (fun k => decide (k > c.ek)) none).fst)) →
              (∃ x : XCu P2,
                (True ∧
                (True ∧
                True ∧
                True ∧
                ((Value.bool (o.isSome)) = (Value.bool (x.o.isSome))) ∧
                True) ∧
                (True ∧
                ((Value.int IntKind.u32 (c.root)) = (Value.int IntKind.u32 (c.root))) ∧
                ((Value.int IntKind.i64 (c.lo)) = (Value.int IntKind.i64 (c.lo))) ∧
                ((Value.int IntKind.i64 (c.hi)) = (Value.int IntKind.i64 (c.hi))) ∧
                ((Value.int IntKind.i64 (c.place)) = (Value.int IntKind.i64 (c.place))) ∧
                ((Value.int IntKind.i64 (c.ek)) = (Value.int IntKind.i64 (c.ek))) ∧
                ((Value.int IntKind.i64 (c.ev)) = (Value.int IntKind.i64 (c.ev))) ∧
                ((Value.bool (c.closed)) = (Value.bool (c.closed))) ∧
                True) ∧
                (True ∧
                True ∧
                True ∧
                ((Value.int IntKind.u64 (S'.reads)) = (Value.int IntKind.u64 (x.S.reads))) ∧
                True) ∧
                (True ∧
                True ∧
                True ∧
                ((Value.int IntKind.u32 (S'.fresh)) = (Value.int IntKind.u32 (x.S.fresh))) ∧
                True) ∧
                ((S'.nodes) = (x.S.nodes)) ∧
                ((S'.counts) = (x.S.counts)) ∧
                ((S'.used) = (x.S.used)) ∧
                ((S'.gen) = (x.S.gen)) ∧
                ((S'.rel) = (x.S.rel)) ∧
                (((Value.int IntKind.i64 0) = (Value.int IntKind.i64 0)) ∧
                ((Value.int IntKind.i64 0) = (Value.int IntKind.i64 0)) ∧
                True) ∧
                (((Value.int IntKind.i64 ((o.getD (0, 0)).fst)) = (Value.int IntKind.i64 ((x.o.getD (0, 0)).fst))) ∧
                ((Value.int IntKind.i64 ((o.getD (0, 0)).snd)) = (Value.int IntKind.i64 ((x.o.getD (0, 0)).snd))) ∧
                True) ∧
                True))))))))) ∧
      (∃ hs : List Int,
        (∃ t : Tr,
          ((Wf S hs) ∧
          (Rep S t c.root) ∧
          (t.size ≤ 1000000) ∧
          (S.reads + (↑t.size : Int) ≤ 3000000000000000000) ∧
          (∀ S' : Arn,
            (∀ o : Option Ent,
              (((S') = (rdS S (lsT t (fun k => decide (k > c.ek)) none).snd)) →
              (((o) = ((lsT t (fun k => decide (k > c.ek)) none).fst)) →
              (∃ x : XCu P2,
                (True ∧
                (True ∧
                True ∧
                True ∧
                ((Value.bool (o.isSome)) = (Value.bool (x.o.isSome))) ∧
                True) ∧
                (True ∧
                ((Value.int IntKind.u32 (c.root)) = (Value.int IntKind.u32 (c.root))) ∧
                ((Value.int IntKind.i64 (c.lo)) = (Value.int IntKind.i64 (c.lo))) ∧
                ((Value.int IntKind.i64 (c.hi)) = (Value.int IntKind.i64 (c.hi))) ∧
                ((Value.int IntKind.i64 (c.place)) = (Value.int IntKind.i64 (c.place))) ∧
                ((Value.int IntKind.i64 (c.ek)) = (Value.int IntKind.i64 (c.ek))) ∧
                ((Value.int IntKind.i64 (c.ev)) = (Value.int IntKind.i64 (c.ev))) ∧
                ((Value.bool (c.closed)) = (Value.bool (c.closed))) ∧
                True) ∧
                (True ∧
                True ∧
                True ∧
                ((Value.int IntKind.u64 (S'.reads)) = (Value.int IntKind.u64 (x.S.reads))) ∧
                True) ∧
                (True ∧
                True ∧
                True ∧
                ((Value.int IntKind.u32 (S'.fresh)) = (Value.int IntKind.u32 (x.S.fresh))) ∧
                True) ∧
                ((S'.nodes) = (x.S.nodes)) ∧
                ((S'.counts) = (x.S.counts)) ∧
                ((S'.used) = (x.S.used)) ∧
                ((S'.gen) = (x.S.gen)) ∧
                ((S'.rel) = (x.S.rel)) ∧
                (((Value.int IntKind.i64 0) = (Value.int IntKind.i64 0)) ∧
                ((Value.int IntKind.i64 0) = (Value.int IntKind.i64 0)) ∧
                True) ∧
                (((Value.int IntKind.i64 ((o.getD (0, 0)).fst)) = (Value.int IntKind.i64 ((x.o.getD (0, 0)).fst))) ∧
                ((Value.int IntKind.i64 ((o.getD (0, 0)).snd)) = (Value.int IntKind.i64 ((x.o.getD (0, 0)).snd))) ∧
                True) ∧
                True)))))))))) ∧
      (∀ x : XCu P2,
        (True →
        (∃ o : Option Ent,
          (((x.o.isSome) = (o.isSome)) ∧
          (((x.o.getD (0, 0)).fst) = ((o.getD (0, 0)).fst)) ∧
          (((x.o.getD (0, 0)).snd) = ((o.getD (0, 0)).snd)) ∧
          (∀ c' : Cur,
            (∀ r : Option Ent,
              (((Prod.mk (c') (r)) = (moveC c o 2)) →
              (K (SV.tup [(TV.agg [(At.val (Value.int IntKind.i64 ((r.getD (0, 0)).fst))), (At.val (Value.int IntKind.i64 ((r.getD (0, 0)).snd)))]), (TV.at (At.val (Value.int IntKind.i64 (errE r))))]) [(Chunk.box [(At.ptr 1 0), (At.val (Value.int IntKind.u32 (c'.root))), (At.val (Value.int IntKind.i64 (c'.lo))), (At.val (Value.int IntKind.i64 (c'.hi))), (At.val (Value.int IntKind.i64 (c'.place))), (At.val (Value.int IntKind.i64 (c'.ek))), (At.val (Value.int IntKind.i64 (c'.ev))), (At.val (Value.bool (c'.closed)))]), (Chunk.box [(At.ptr 2 0), (At.slc 3), (At.slc 4), (At.val (Value.int IntKind.u64 (x.S.reads)))]), (Chunk.box [(At.slc 5), (At.slc 6), (At.slc 7), (At.val (Value.int IntKind.u32 (x.S.fresh)))]), (Chunk.row true (EC.node) (x.S.nodes)), (Chunk.row true (EC.int) (x.S.counts)), (Chunk.row true (EC.bool) (x.S.used)), (Chunk.row true (EC.u32) (x.S.gen)), (Chunk.row true (EC.u32) (x.S.rel))] [0, 1]))))))))))
      ((K (SV.tup [(TV.agg [(At.val (Value.int IntKind.i64 0)), (At.val (Value.int IntKind.i64 0))]), (TV.at (At.val (Value.int IntKind.i64 4)))]) [(Chunk.box [(At.ptr 1 0), (At.val (Value.int IntKind.u32 (c.root))), (At.val (Value.int IntKind.i64 (c.lo))), (At.val (Value.int IntKind.i64 (c.hi))), (At.val (Value.int IntKind.i64 (c.place))), (At.val (Value.int IntKind.i64 (c.ek))), (At.val (Value.int IntKind.i64 (c.ev))), (At.val (Value.bool (c.closed)))]), (Chunk.box [(At.ptr 2 0), (At.slc 3), (At.slc 4), (At.val (Value.int IntKind.u64 (S.reads)))]), (Chunk.box [(At.slc 5), (At.slc 6), (At.slc 7), (At.val (Value.int IntKind.u32 (S.fresh)))]), (Chunk.row true (EC.node) (S.nodes)), (Chunk.row true (EC.int) (S.counts)), (Chunk.row true (EC.bool) (S.used)), (Chunk.row true (EC.u32) (S.gen)), (Chunk.row true (EC.u32) (S.rel))] [0, 1]))))))) = _ by kernel_rfl) ?_
    exact bt2 hc h
  refine ⟨_, ?_, key (fun _ _ => True) (fun _ _ => True) ⟨root, lo, hi, place, ek, ev, closed⟩ ⟨us, gn, rl, fr, nd, ct, rd⟩ h.1 h.2⟩
  exact ⟨frame C0.ok s_lu_ceil _, frame C0.ok s_lu_above _, frame C0.ok s_move _, trivial⟩
theorem s_cl_prev : SoundT C0 39 tCl_next := by
  refine .ofW [0, 1] Try.func39 (by decide) rfl fun args H K h hB => ?_
  unfold tCl_next at h
  split at h <;> try exact h.elim
  unfold cuM at h
  split at h <;> try exact h.elim
  rename_i root lo hi place ek ev closed rd fr nd ct us gn rl
  have key : ∀ (P1 P2 : Arn → Option Ent → Prop) (c : Cur) (S : Arn), c.closed = true → K (.tup [entO none, .at (vI 6)]) (chC c S) [0, 1] → vc C0 (aCu_prev P1 P2 c) Try.f39 [.at (.ptr 0 0)] (chC c S) (normK 8 (wideK [0, 1] K)) := fun P1 P2 c S hc h => by
    refine Eq.mp (show (brS (c.closed)
  ((K (SV.tup [(TV.agg [(At.val (Value.int IntKind.i64 0)), (At.val (Value.int IntKind.i64 0))]), (TV.at (At.val (Value.int IntKind.i64 6)))]) [(Chunk.box [(At.ptr 1 0), (At.val (Value.int IntKind.u32 (c.root))), (At.val (Value.int IntKind.i64 (c.lo))), (At.val (Value.int IntKind.i64 (c.hi))), (At.val (Value.int IntKind.i64 (c.place))), (At.val (Value.int IntKind.i64 (c.ek))), (At.val (Value.int IntKind.i64 (c.ev))), (At.val (Value.bool (c.closed)))]), (Chunk.box [(At.ptr 2 0), (At.slc 3), (At.slc 4), (At.val (Value.int IntKind.u64 (S.reads)))]), (Chunk.box [(At.slc 5), (At.slc 6), (At.slc 7), (At.val (Value.int IntKind.u32 (S.fresh)))]), (Chunk.row true (EC.node) (S.nodes)), (Chunk.row true (EC.int) (S.counts)), (Chunk.row true (EC.bool) (S.used)), (Chunk.row true (EC.u32) (S.gen)), (Chunk.row true (EC.u32) (S.rel))] [0, 1]))
  ((brS (c.place == 2)
    ((((∃ hs : List Int,
      (∃ t : Tr,
        ((Wf S hs) ∧
        (Rep S t c.root) ∧
        (t.size ≤ 1000000) ∧
        (S.reads + (↑t.size : Int) ≤ 3000000000000000000) ∧
        (∀ S' : Arn,
          (∀ o : Option Ent,
            (((S') = (rdS S (gtT t (fun k => decide (k ≤ c.hi)) none).snd)) →
            (((o) = ((gtT t (fun k => decide (k ≤ c.hi)) none).fst)) →
            (∃ x : XCu P1,
              (True ∧
              (True ∧
              True ∧
              True ∧
              ((Value.bool (o.isSome)) = (Value.bool (x.o.isSome))) ∧
              True) ∧
              (True ∧
              ((Value.int IntKind.u32 (c.root)) = (Value.int IntKind.u32 (c.root))) ∧
              ((Value.int IntKind.i64 (c.lo)) = (Value.int IntKind.i64 (c.lo))) ∧
              ((Value.int IntKind.i64 (c.hi)) = (Value.int IntKind.i64 (c.hi))) ∧
              ((Value.int IntKind.i64 (c.place)) = (Value.int IntKind.i64 (c.place))) ∧
              ((Value.int IntKind.i64 (c.ek)) = (Value.int IntKind.i64 (c.ek))) ∧
              ((Value.int IntKind.i64 (c.ev)) = (Value.int IntKind.i64 (c.ev))) ∧
              ((Value.bool (c.closed)) = (Value.bool (c.closed))) ∧
              True) ∧
              (True ∧
              True ∧
              True ∧
              ((Value.int IntKind.u64 (S'.reads)) = (Value.int IntKind.u64 (x.S.reads))) ∧
              True) ∧
              (True ∧
              True ∧
              True ∧
              ((Value.int IntKind.u32 (S'.fresh)) = (Value.int IntKind.u32 (x.S.fresh))) ∧
              True) ∧
              ((S'.nodes) = (x.S.nodes)) ∧
              ((S'.counts) = (x.S.counts)) ∧
              ((S'.used) = (x.S.used)) ∧
              ((S'.gen) = (x.S.gen)) ∧
              ((S'.rel) = (x.S.rel)) ∧
              (((Value.int IntKind.i64 0) = (Value.int IntKind.i64 0)) ∧
              ((Value.int IntKind.i64 0) = (Value.int IntKind.i64 0)) ∧
              True) ∧
              (((Value.int IntKind.i64 ((o.getD (0, 0)).fst)) = (Value.int IntKind.i64 ((x.o.getD (0, 0)).fst))) ∧
              ((Value.int IntKind.i64 ((o.getD (0, 0)).snd)) = (Value.int IntKind.i64 ((x.o.getD (0, 0)).snd))) ∧
              True) ∧
              True))))))))) ∧
    (∃ hs : List Int,
      (∃ t : Tr,
        ((Wf S hs) ∧
        (Rep S t c.root) ∧
        (t.size ≤ 1000000) ∧
        (S.reads + (↑t.size : Int) ≤ 3000000000000000000) ∧
        (∀ S' : Arn,
          (∀ o : Option Ent,
            (((S') = (rdS S (gtT t (fun k => decide (k ≤ c.hi)) none).snd)) →
            (((o) = ((gtT t (fun k => decide (k ≤ c.hi)) none).fst)) →
            (∃ x : XCu P1,
              (True ∧
              (True ∧
              True ∧
              True ∧
              ((Value.bool (o.isSome)) = (Value.bool (x.o.isSome))) ∧
              True) ∧
              (True ∧
              ((Value.int IntKind.u32 (c.root)) = (Value.int IntKind.u32 (c.root))) ∧
              ((Value.int IntKind.i64 (c.lo)) = (Value.int IntKind.i64 (c.lo))) ∧
              ((Value.int IntKind.i64 (c.hi)) = (Value.int IntKind.i64 (c.hi))) ∧
              ((Value.int IntKind.i64 (c.place)) = (Value.int IntKind.i64 (c.place))) ∧
              ((Value.int IntKind.i64 (c.ek)) = (Value.int IntKind.i64 (c.ek))) ∧
              ((Value.int IntKind.i64 (c.ev)) = (Value.int IntKind.i64 (c.ev))) ∧
              ((Value.bool (c.closed)) = (Value.bool (c.closed))) ∧
              True) ∧
              (True ∧
              True ∧
              True ∧
              ((Value.int IntKind.u64 (S'.reads)) = (Value.int IntKind.u64 (x.S.reads))) ∧
              True) ∧
              (True ∧
              True ∧
              True ∧
              ((Value.int IntKind.u32 (S'.fresh)) = (Value.int IntKind.u32 (x.S.fresh))) ∧
              True) ∧
              ((S'.nodes) = (x.S.nodes)) ∧
              ((S'.counts) = (x.S.counts)) ∧
              ((S'.used) = (x.S.used)) ∧
              ((S'.gen) = (x.S.gen)) ∧
              ((S'.rel) = (x.S.rel)) ∧
              (((Value.int IntKind.i64 0) = (Value.int IntKind.i64 0)) ∧
              ((Value.int IntKind.i64 0) = (Value.int IntKind.i64 0)) ∧
              True) ∧
              (((Value.int IntKind.i64 ((o.getD (0, 0)).fst)) = (Value.int IntKind.i64 ((x.o.getD (0, 0)).fst))) ∧
              ((Value.int IntKind.i64 ((o.getD (0, 0)).snd)) = (Value.int IntKind.i64 ((x.o.getD (0, 0)).snd))) ∧
              True) ∧
              True)))))))))) ∧
    (∀ x : XCu P1,
      (True →
      (∃ o : Option Ent,
        (((x.o.isSome) = (o.isSome)) ∧
        (((x.o.getD (0, 0)).fst) = ((o.getD (0, 0)).fst)) ∧
        (((x.o.getD (0, 0)).snd) = ((o.getD (0, 0)).snd)) ∧
        (∀ c' : Cur,
          (∀ r : Option Ent,
            (((Prod.mk (c') (r)) = (moveC c o 0)) →
            (K (SV.tup [(TV.agg [(At.val (Value.int IntKind.i64 ((r.getD (0, 0)).fst))), (At.val (Value.int IntKind.i64 ((r.getD (0, 0)).snd)))]), (TV.at (At.val (Value.int IntKind.i64 (errE r))))]) [(Chunk.box [(At.ptr 1 0), (At.val (Value.int IntKind.u32 (c'.root))), (At.val (Value.int IntKind.i64 (c'.lo))), (At.val (Value.int IntKind.i64 (c'.hi))), (At.val (Value.int IntKind.i64 (c'.place))), (At.val (Value.int IntKind.i64 (c'.ek))), (At.val (Value.int IntKind.i64 (c'.ev))), (At.val (Value.bool (c'.closed)))]), (Chunk.box [(At.ptr 2 0), (At.slc 3), (At.slc 4), (At.val (Value.int IntKind.u64 (x.S.reads)))]), (Chunk.box [(At.slc 5), (At.slc 6), (At.slc 7), (At.val (Value.int IntKind.u32 (x.S.fresh)))]), (Chunk.row true (EC.node) (x.S.nodes)), (Chunk.row true (EC.int) (x.S.counts)), (Chunk.row true (EC.bool) (x.S.used)), (Chunk.row true (EC.u32) (x.S.gen)), (Chunk.row true (EC.u32) (x.S.rel))] [0, 1]))))))))))
    ((brS (c.place == 1)
      ((((∃ hs : List Int,
        (∃ t : Tr,
          ((Wf S hs) ∧
          (Rep S t c.root) ∧
          (t.size ≤ 1000000) ∧
          (S.reads + (↑t.size : Int) ≤ 3000000000000000000) ∧
          (∀ S' : Arn,
            (∀ o : Option Ent,
              (((S') = (rdS S (gtT t (fun k => decide (k < c.ek)) none).snd)) →
              (((o) = ((gtT t (fun k => decide (k < c.ek)) none).fst)) →
              (∃ x : XCu P2,
                (True ∧
                (True ∧
                True ∧
                True ∧
                ((Value.bool (o.isSome)) = (Value.bool (x.o.isSome))) ∧
                True) ∧
                (True ∧
                ((Value.int IntKind.u32 (c.root)) = (Value.int IntKind.u32 (c.root))) ∧
                ((Value.int IntKind.i64 (c.lo)) = (Value.int IntKind.i64 (c.lo))) ∧
                ((Value.int IntKind.i64 (c.hi)) = (Value.int IntKind.i64 (c.hi))) ∧
                ((Value.int IntKind.i64 (c.place)) = (Value.int IntKind.i64 (c.place))) ∧
                ((Value.int IntKind.i64 (c.ek)) = (Value.int IntKind.i64 (c.ek))) ∧
                ((Value.int IntKind.i64 (c.ev)) = (Value.int IntKind.i64 (c.ev))) ∧
                ((Value.bool (c.closed)) = (Value.bool (c.closed))) ∧
                True) ∧
                (True ∧
                True ∧
                True ∧
                ((Value.int IntKind.u64 (S'.reads)) = (Value.int IntKind.u64 (x.S.reads))) ∧
                True) ∧
                (True ∧
                True ∧
                True ∧
                ((Value.int IntKind.u32 (S'.fresh)) = (Value.int IntKind.u32 (x.S.fresh))) ∧
                True) ∧
                ((S'.nodes) = (x.S.nodes)) ∧
                ((S'.counts) = (x.S.counts)) ∧
                ((S'.used) = (x.S.used)) ∧
                ((S'.gen) = (x.S.gen)) ∧
                ((S'.rel) = (x.S.rel)) ∧
                (((Value.int IntKind.i64 0) = (Value.int IntKind.i64 0)) ∧
                ((Value.int IntKind.i64 0) = (Value.int IntKind.i64 0)) ∧
                True) ∧
                (((Value.int IntKind.i64 ((o.getD (0, 0)).fst)) = (Value.int IntKind.i64 ((x.o.getD (0, 0)).fst))) ∧
                ((Value.int IntKind.i64 ((o.getD (0, 0)).snd)) = (Value.int IntKind.i64 ((x.o.getD (0, 0)).snd))) ∧
                True) ∧
                True))))))))) ∧
      (∃ hs : List Int,
        (∃ t : Tr,
          ((Wf S hs) ∧
          (Rep S t c.root) ∧
          (t.size ≤ 1000000) ∧
          (S.reads + (↑t.size : Int) ≤ 3000000000000000000) ∧
          (∀ S' : Arn,
            (∀ o : Option Ent,
              (((S') = (rdS S (gtT t (fun k => decide (k < c.ek)) none).snd)) →
              (((o) = ((gtT t (fun k => decide (k < c.ek)) none).fst)) →
              (∃ x : XCu P2,
                (True ∧
                (True ∧
                True ∧
                True ∧
                ((Value.bool (o.isSome)) = (Value.bool (x.o.isSome))) ∧
                True) ∧
                (True ∧
                ((Value.int IntKind.u32 (c.root)) = (Value.int IntKind.u32 (c.root))) ∧
                ((Value.int IntKind.i64 (c.lo)) = (Value.int IntKind.i64 (c.lo))) ∧
                ((Value.int IntKind.i64 (c.hi)) = (Value.int IntKind.i64 (c.hi))) ∧
                ((Value.int IntKind.i64 (c.place)) = (Value.int IntKind.i64 (c.place))) ∧
                ((Value.int IntKind.i64 (c.ek)) = (Value.int IntKind.i64 (c.ek))) ∧
                ((Value.int IntKind.i64 (c.ev)) = (Value.int IntKind.i64 (c.ev))) ∧
                ((Value.bool (c.closed)) = (Value.bool (c.closed))) ∧
                True) ∧
                (True ∧
                True ∧
                True ∧
                ((Value.int IntKind.u64 (S'.reads)) = (Value.int IntKind.u64 (x.S.reads))) ∧
                True) ∧
                (True ∧
                True ∧
                True ∧
                ((Value.int IntKind.u32 (S'.fresh)) = (Value.int IntKind.u32 (x.S.fresh))) ∧
                True) ∧
                ((S'.nodes) = (x.S.nodes)) ∧
                ((S'.counts) = (x.S.counts)) ∧
                ((S'.used) = (x.S.used)) ∧
                ((S'.gen) = (x.S.gen)) ∧
                ((S'.rel) = (x.S.rel)) ∧
                (((Value.int IntKind.i64 0) = (Value.int IntKind.i64 0)) ∧
                ((Value.int IntKind.i64 0) = (Value.int IntKind.i64 0)) ∧
                True) ∧
                (((Value.int IntKind.i64 ((o.getD (0, 0)).fst)) = (Value.int IntKind.i64 ((x.o.getD (0, 0)).fst))) ∧
                ((Value.int IntKind.i64 ((o.getD (0, 0)).snd)) = (Value.int IntKind.i64 ((x.o.getD (0, 0)).snd))) ∧
                True) ∧
                True)))))))))) ∧
      (∀ x : XCu P2,
        (True →
        (∃ o : Option Ent,
          (((x.o.isSome) = (o.isSome)) ∧
          (((x.o.getD (0, 0)).fst) = ((o.getD (0, 0)).fst)) ∧
          (((x.o.getD (0, 0)).snd) = ((o.getD (0, 0)).snd)) ∧
          (∀ c' : Cur,
            (∀ r : Option Ent,
              (((Prod.mk (c') (r)) = (moveC c o 0)) →
              (K (SV.tup [(TV.agg [(At.val (Value.int IntKind.i64 ((r.getD (0, 0)).fst))), (At.val (Value.int IntKind.i64 ((r.getD (0, 0)).snd)))]), (TV.at (At.val (Value.int IntKind.i64 (errE r))))]) [(Chunk.box [(At.ptr 1 0), (At.val (Value.int IntKind.u32 (c'.root))), (At.val (Value.int IntKind.i64 (c'.lo))), (At.val (Value.int IntKind.i64 (c'.hi))), (At.val (Value.int IntKind.i64 (c'.place))), (At.val (Value.int IntKind.i64 (c'.ek))), (At.val (Value.int IntKind.i64 (c'.ev))), (At.val (Value.bool (c'.closed)))]), (Chunk.box [(At.ptr 2 0), (At.slc 3), (At.slc 4), (At.val (Value.int IntKind.u64 (x.S.reads)))]), (Chunk.box [(At.slc 5), (At.slc 6), (At.slc 7), (At.val (Value.int IntKind.u32 (x.S.fresh)))]), (Chunk.row true (EC.node) (x.S.nodes)), (Chunk.row true (EC.int) (x.S.counts)), (Chunk.row true (EC.bool) (x.S.used)), (Chunk.row true (EC.u32) (x.S.gen)), (Chunk.row true (EC.u32) (x.S.rel))] [0, 1]))))))))))
      ((K (SV.tup [(TV.agg [(At.val (Value.int IntKind.i64 0)), (At.val (Value.int IntKind.i64 0))]), (TV.at (At.val (Value.int IntKind.i64 4)))]) [(Chunk.box [(At.ptr 1 0), (At.val (Value.int IntKind.u32 (c.root))), (At.val (Value.int IntKind.i64 (c.lo))), (At.val (Value.int IntKind.i64 (c.hi))), (At.val (Value.int IntKind.i64 (c.place))), (At.val (Value.int IntKind.i64 (c.ek))), (At.val (Value.int IntKind.i64 (c.ev))), (At.val (Value.bool (c.closed)))]), (Chunk.box [(At.ptr 2 0), (At.slc 3), (At.slc 4), (At.val (Value.int IntKind.u64 (S.reads)))]), (Chunk.box [(At.slc 5), (At.slc 6), (At.slc 7), (At.val (Value.int IntKind.u32 (S.fresh)))]), (Chunk.row true (EC.node) (S.nodes)), (Chunk.row true (EC.int) (S.counts)), (Chunk.row true (EC.bool) (S.used)), (Chunk.row true (EC.u32) (S.gen)), (Chunk.row true (EC.u32) (S.rel))] [0, 1]))))))) = _ by kernel_rfl) ?_
    exact bt2 hc h
  refine ⟨_, ?_, key (fun _ _ => True) (fun _ _ => True) ⟨root, lo, hi, place, ek, ev, closed⟩ ⟨us, gn, rl, fr, nd, ct, rd⟩ h.1 h.2⟩
  exact ⟨frame C0.ok s_lu_floor _, frame C0.ok s_lu_below _, frame C0.ok s_move _, trivial⟩
theorem s_cl_find : SoundT C0 67 tCl_find := s_cu_find.weak fun args H K h => by
  unfold tCl_find at h
  unfold tCu_find
  split at h <;> try exact h.elim
  unfold cuM at h ⊢
  split at h <;> try exact h.elim
  exact ⟨fun _ => h.2, fun z => absurd h.1 (by rw [z]; decide)⟩
theorem opS_wf2 {S : Arn} {i : Int} (w : Wf S [i]) (hv : live S i) : Wf (opS S i) [i, i] := by
  unfold opS
  rcases hv with e | e
  · subst e
    rw [w.us0 (Int.le_refl 0), if_neg (by decide)]
    exact w.zero_cons (by simp)
  · rw [if_pos e]
    exact w.ret e (by simp)
def PCs (raw : List Ent) (S : Arn) (c : Cur) (k : Int) (j : Nat) : Prop := (∃ t, Wf S [c.root, c.root] ∧ Rep S t c.root ∧ t.list = L20 raw) ∧ c.closed = false ∧ c.lo = -9223372036854775808 ∧ c.hi = 9223372036854775807 ∧ relC (W20 raw) c k ∧ 0 ≤ S.reads ∧ S.reads ≤ 1000 * (j + 1) ∧ j ≤ 20
def PCt (raw : List Ent) (S : Arn) (c : Cur) (k : Int) (j : Nat) : Prop := (∃ t, Wf S [c.root, c.root] ∧ Rep S t c.root ∧ t.list = L20 raw) ∧ c.closed = false ∧ c.lo = -9223372036854775808 ∧ c.hi = 9223372036854775807 ∧ relC (W20 raw) c k ∧ 0 ≤ S.reads ∧ S.reads ≤ 1000 * (j + 2) ∧ j < 20
theorem vc_cs (raw : List Ent) (ml : List MoveT) (t key : Int) (K : KT) (h0 : 0 ≤ t) (h : K (.one (.at (vB true))) [.row false EC.ent raw, .row false EC.move ml] []) :
    vc C0 (aCs (PCs raw) (PCt raw) raw ml) Try.f12 [.at (.slc 0), .at (vU64 t), .at (.slc 1), .at (vI key)] [.row false EC.ent raw, .row false EC.move ml] (normK 2 K) := by
  generalize hP1 : PCs raw = P1
  generalize hP2 : PCt raw = P2
  refine Eq.mp (show (((0 : Int) ≤ 60) ∧
((60 : Int) ≤ 1000000) ∧
(0 ≤ t) ∧
((1 : Int) ≤ 1) ∧
((1 : Int) ≤ 30000) ∧
((listE raw (Int.toNat 60)).length ≤ 30000) ∧
(∀ S' : Arn,
  (∀ i : Int,
    ((PlantR (newS ((↑(listE raw (Int.toNat 60)).length : Int) + 1).toNat) [] (listE raw (Int.toNat 60)) S' i) →
    ((exW S') ∧
    (live S' i) ∧
    (∀ S'1 : Arn,
      (((S'1) = (opS S' i)) →
      (∃ hs : List Int,
        ((Wf S'1 hs) ∧
        ([i, i].Perm hs) ∧
        ([i, i].length ≤ 1000000) ∧
        ((listE raw (Int.toNat 60)).length ≤ 1000000) ∧
        (∀ W : List Ent,
          (((W) = (betE (listE raw (Int.toNat 60)) (-9223372036854775808) 9223372036854775807)) →
          ((∃ x : XCs P1,
            (True ∧
            (True ∧
            ((Value.int IntKind.i64 (key)) = (Value.int IntKind.i64 (key))) ∧
            True ∧
            True ∧
            ((Value.int IntKind.u32 (i)) = (Value.int IntKind.u32 (x.c.root))) ∧
            True ∧
            True ∧
            ((Value.int IntKind.i64 0) = (Value.int IntKind.i64 ((↑x.j : Int)))) ∧
            True) ∧
            ((raw) = (raw)) ∧
            ((ml) = (ml)) ∧
            ((listE raw (Int.toNat 60)) = (L20 raw)) ∧
            (True ∧
            ((Value.int IntKind.u32 (i)) = (Value.int IntKind.u32 (x.c.root))) ∧
            ((Value.int IntKind.i64 (-9223372036854775808)) = (Value.int IntKind.i64 (x.c.lo))) ∧
            ((Value.int IntKind.i64 9223372036854775807) = (Value.int IntKind.i64 (x.c.hi))) ∧
            ((Value.int IntKind.i64 0) = (Value.int IntKind.i64 (x.c.place))) ∧
            ((Value.int IntKind.i64 0) = (Value.int IntKind.i64 (x.c.ek))) ∧
            ((Value.int IntKind.i64 0) = (Value.int IntKind.i64 (x.c.ev))) ∧
            ((Value.bool false) = (Value.bool (x.c.closed))) ∧
            True) ∧
            (True ∧
            True ∧
            True ∧
            ((Value.int IntKind.u64 (S'1.reads)) = (Value.int IntKind.u64 (x.S.reads))) ∧
            True) ∧
            (True ∧
            True ∧
            True ∧
            ((Value.int IntKind.u32 (S'1.fresh)) = (Value.int IntKind.u32 (x.S.fresh))) ∧
            True) ∧
            ((S'1.nodes) = (x.S.nodes)) ∧
            ((S'1.counts) = (x.S.counts)) ∧
            ((S'1.used) = (x.S.used)) ∧
            ((S'1.gen) = (x.S.gen)) ∧
            ((S'1.rel) = (x.S.rel)) ∧
            ((W) = (W20 raw)) ∧
            (True ∧
            ((Value.int IntKind.i64 0) = (Value.int IntKind.i64 (x.k))) ∧
            ((Value.bool false) = (Value.bool false)) ∧
            True) ∧
            True)) ∧
          (∀ x : XCs P1,
            (True →
            (brS (decide ((↑x.j : Int) < (↑ml.length : Int)))
              ((brS (decide ((↑x.j : Int) < 20))
                ((((0 ≤ (↑x.j : Int)) ∧
                ((↑x.j : Int) < (↑ml.length : Int)) ∧
                (((false = false) ∧
                ((x.c.closed) = false) ∧
                ((L20 raw).length ≤ 1000000) ∧
                (∃ hs1 : List Int,
                  (∃ t1 : Tr,
                    ((Wf x.S hs1) ∧
                    (Rep x.S t1 x.c.root) ∧
                    (Asc t1.list) ∧
                    ((W20 raw) = (betE t1.list x.c.lo x.c.hi)) ∧
                    (relC (W20 raw) x.c x.k) ∧
                    (t1.size ≤ 1000000) ∧
                    (x.S.reads + (↑t1.size : Int) ≤ 3000000000000000000) ∧
                    (∀ S'2 : Arn,
                      (∀ m : Nat,
                        (∀ c' : Cur,
                          (∀ k' : Int,
                            (((S'2) = (rdS x.S m)) →
                            ((m ≤ t1.size) →
                            ((relC (W20 raw) c' k') →
                            ((keepC x.c c') →
                            (∃ x1 : XCs P2,
                              ((((↑x.j : Int)) = ((↑x1.j : Int))) ∧
                              (True ∧
                              ((Value.int IntKind.i64 (key)) = (Value.int IntKind.i64 (key))) ∧
                              True ∧
                              True ∧
                              ((Value.int IntKind.u32 (x.c.root)) = (Value.int IntKind.u32 (x1.c.root))) ∧
                              True ∧
                              True ∧
                              ((Value.int IntKind.i64 ((↑x.j : Int))) = (Value.int IntKind.i64 ((↑x1.j : Int)))) ∧
                              True ∧
                              ((Value.bool true) = (Value.bool true)) ∧
                              True) ∧
                              ((raw) = (raw)) ∧
                              ((ml) = (ml)) ∧
                              ((L20 raw) = (L20 raw)) ∧
                              (True ∧
                              ((Value.int IntKind.u32 (c'.root)) = (Value.int IntKind.u32 (x1.c.root))) ∧
                              ((Value.int IntKind.i64 (c'.lo)) = (Value.int IntKind.i64 (x1.c.lo))) ∧
                              ((Value.int IntKind.i64 (c'.hi)) = (Value.int IntKind.i64 (x1.c.hi))) ∧
                              ((Value.int IntKind.i64 (c'.place)) = (Value.int IntKind.i64 (x1.c.place))) ∧
                              ((Value.int IntKind.i64 (c'.ek)) = (Value.int IntKind.i64 (x1.c.ek))) ∧
                              ((Value.int IntKind.i64 (c'.ev)) = (Value.int IntKind.i64 (x1.c.ev))) ∧
                              ((Value.bool (c'.closed)) = (Value.bool (x1.c.closed))) ∧
                              True) ∧
                              (True ∧
                              True ∧
                              True ∧
                              ((Value.int IntKind.u64 (S'2.reads)) = (Value.int IntKind.u64 (x1.S.reads))) ∧
                              True) ∧
                              (True ∧
                              True ∧
                              True ∧
                              ((Value.int IntKind.u32 (S'2.fresh)) = (Value.int IntKind.u32 (x1.S.fresh))) ∧
                              True) ∧
                              ((S'2.nodes) = (x1.S.nodes)) ∧
                              ((S'2.counts) = (x1.S.counts)) ∧
                              ((S'2.used) = (x1.S.used)) ∧
                              ((S'2.gen) = (x1.S.gen)) ∧
                              ((S'2.rel) = (x1.S.rel)) ∧
                              ((W20 raw) = (W20 raw)) ∧
                              True ∧
                              (True ∧
                              ((Value.int IntKind.i64 (k')) = (Value.int IntKind.i64 (x1.k))) ∧
                              ((Value.bool false) = (Value.bool false)) ∧
                              True) ∧
                              True)))))))))))))) ∧
                (false = false) ∧
                ((x.c.closed) = false) ∧
                ((L20 raw).length ≤ 1000000) ∧
                (∃ hs1 : List Int,
                  (∃ t1 : Tr,
                    ((Wf x.S hs1) ∧
                    (Rep x.S t1 x.c.root) ∧
                    (Asc t1.list) ∧
                    ((W20 raw) = (betE t1.list x.c.lo x.c.hi)) ∧
                    (relC (W20 raw) x.c x.k) ∧
                    (t1.size ≤ 1000000) ∧
                    (x.S.reads + (↑t1.size : Int) ≤ 3000000000000000000) ∧
                    (∀ S'2 : Arn,
                      (∀ m : Nat,
                        (∀ c' : Cur,
                          (∀ k' : Int,
                            (((S'2) = (rdS x.S m)) →
                            ((m ≤ t1.size) →
                            ((relC (W20 raw) c' k') →
                            ((keepC x.c c') →
                            (∃ x1 : XCs P2,
                              ((((↑x.j : Int)) = ((↑x1.j : Int))) ∧
                              (True ∧
                              ((Value.int IntKind.i64 (key)) = (Value.int IntKind.i64 (key))) ∧
                              True ∧
                              True ∧
                              ((Value.int IntKind.u32 (x.c.root)) = (Value.int IntKind.u32 (x1.c.root))) ∧
                              True ∧
                              True ∧
                              ((Value.int IntKind.i64 ((↑x.j : Int))) = (Value.int IntKind.i64 ((↑x1.j : Int)))) ∧
                              True ∧
                              ((Value.bool true) = (Value.bool true)) ∧
                              True) ∧
                              ((raw) = (raw)) ∧
                              ((ml) = (ml)) ∧
                              ((L20 raw) = (L20 raw)) ∧
                              (True ∧
                              ((Value.int IntKind.u32 (c'.root)) = (Value.int IntKind.u32 (x1.c.root))) ∧
                              ((Value.int IntKind.i64 (c'.lo)) = (Value.int IntKind.i64 (x1.c.lo))) ∧
                              ((Value.int IntKind.i64 (c'.hi)) = (Value.int IntKind.i64 (x1.c.hi))) ∧
                              ((Value.int IntKind.i64 (c'.place)) = (Value.int IntKind.i64 (x1.c.place))) ∧
                              ((Value.int IntKind.i64 (c'.ek)) = (Value.int IntKind.i64 (x1.c.ek))) ∧
                              ((Value.int IntKind.i64 (c'.ev)) = (Value.int IntKind.i64 (x1.c.ev))) ∧
                              ((Value.bool (c'.closed)) = (Value.bool (x1.c.closed))) ∧
                              True) ∧
                              (True ∧
                              True ∧
                              True ∧
                              ((Value.int IntKind.u64 (S'2.reads)) = (Value.int IntKind.u64 (x1.S.reads))) ∧
                              True) ∧
                              (True ∧
                              True ∧
                              True ∧
                              ((Value.int IntKind.u32 (S'2.fresh)) = (Value.int IntKind.u32 (x1.S.fresh))) ∧
                              True) ∧
                              ((S'2.nodes) = (x1.S.nodes)) ∧
                              ((S'2.counts) = (x1.S.counts)) ∧
                              ((S'2.used) = (x1.S.used)) ∧
                              ((S'2.gen) = (x1.S.gen)) ∧
                              ((S'2.rel) = (x1.S.rel)) ∧
                              ((W20 raw) = (W20 raw)) ∧
                              True ∧
                              (True ∧
                              ((Value.int IntKind.i64 (k')) = (Value.int IntKind.i64 (x1.k))) ∧
                              ((Value.bool false) = (Value.bool false)) ∧
                              True) ∧
                              True)))))))))))))) ∧
                (false = false) ∧
                ((x.c.closed) = false) ∧
                ((L20 raw).length ≤ 1000000) ∧
                (∃ hs1 : List Int,
                  (∃ t1 : Tr,
                    ((Wf x.S hs1) ∧
                    (Rep x.S t1 x.c.root) ∧
                    (Asc t1.list) ∧
                    ((W20 raw) = (betE t1.list x.c.lo x.c.hi)) ∧
                    (relC (W20 raw) x.c x.k) ∧
                    (t1.size ≤ 1000000) ∧
                    (x.S.reads + (↑t1.size : Int) ≤ 3000000000000000000) ∧
                    (∀ S'2 : Arn,
                      (∀ m : Nat,
                        (∀ c' : Cur,
                          (∀ k' : Int,
                            (((S'2) = (rdS x.S m)) →
                            ((m ≤ t1.size) →
                            ((relC (W20 raw) c' k') →
                            ((keepC x.c c') →
                            (∃ x1 : XCs P2,
                              ((((↑x.j : Int)) = ((↑x1.j : Int))) ∧
                              (True ∧
                              ((Value.int IntKind.i64 (key)) = (Value.int IntKind.i64 (key))) ∧
                              True ∧
                              True ∧
                              ((Value.int IntKind.u32 (x.c.root)) = (Value.int IntKind.u32 (x1.c.root))) ∧
                              True ∧
                              True ∧
                              ((Value.int IntKind.i64 ((↑x.j : Int))) = (Value.int IntKind.i64 ((↑x1.j : Int)))) ∧
                              True ∧
                              ((Value.bool true) = (Value.bool true)) ∧
                              True) ∧
                              ((raw) = (raw)) ∧
                              ((ml) = (ml)) ∧
                              ((L20 raw) = (L20 raw)) ∧
                              (True ∧
                              ((Value.int IntKind.u32 (c'.root)) = (Value.int IntKind.u32 (x1.c.root))) ∧
                              ((Value.int IntKind.i64 (c'.lo)) = (Value.int IntKind.i64 (x1.c.lo))) ∧
                              ((Value.int IntKind.i64 (c'.hi)) = (Value.int IntKind.i64 (x1.c.hi))) ∧
                              ((Value.int IntKind.i64 (c'.place)) = (Value.int IntKind.i64 (x1.c.place))) ∧
                              ((Value.int IntKind.i64 (c'.ek)) = (Value.int IntKind.i64 (x1.c.ek))) ∧
                              ((Value.int IntKind.i64 (c'.ev)) = (Value.int IntKind.i64 (x1.c.ev))) ∧
                              ((Value.bool (c'.closed)) = (Value.bool (x1.c.closed))) ∧
                              True) ∧
                              (True ∧
                              True ∧
                              True ∧
                              ((Value.int IntKind.u64 (S'2.reads)) = (Value.int IntKind.u64 (x1.S.reads))) ∧
                              True) ∧
                              (True ∧
                              True ∧
                              True ∧
                              ((Value.int IntKind.u32 (S'2.fresh)) = (Value.int IntKind.u32 (x1.S.fresh))) ∧
                              True) ∧
                              ((S'2.nodes) = (x1.S.nodes)) ∧
                              ((S'2.counts) = (x1.S.counts)) ∧
                              ((S'2.used) = (x1.S.used)) ∧
                              ((S'2.gen) = (x1.S.gen)) ∧
                              ((S'2.rel) = (x1.S.rel)) ∧
                              ((W20 raw) = (W20 raw)) ∧
                              True ∧
                              (True ∧
                              ((Value.int IntKind.i64 (k')) = (Value.int IntKind.i64 (x1.k))) ∧
                              ((Value.bool false) = (Value.bool false)) ∧
                              True) ∧
                              True)))))))))))))) ∧
                (∀ x1 : XCs P2,
                  ((((↑x.j : Int)) = ((↑x1.j : Int))) →
                  (∃ x' : XCs P1,
                    (True ∧
                    ((True ∧
                    ((Value.int IntKind.i64 (key)) = (Value.int IntKind.i64 (key))) ∧
                    True ∧
                    True ∧
                    ((Value.int IntKind.u32 (x1.c.root)) = (Value.int IntKind.u32 (x'.c.root))) ∧
                    True ∧
                    True ∧
                    ((Value.int IntKind.i64 (IntKind.i64.wrap ((↑x1.j : Int) + 1))) = (Value.int IntKind.i64 ((↑x'.j : Int)))) ∧
                    True) ∧
                    ((raw) = (raw)) ∧
                    ((ml) = (ml)) ∧
                    ((L20 raw) = (L20 raw)) ∧
                    (True ∧
                    ((Value.int IntKind.u32 (x1.c.root)) = (Value.int IntKind.u32 (x'.c.root))) ∧
                    ((Value.int IntKind.i64 (x1.c.lo)) = (Value.int IntKind.i64 (x'.c.lo))) ∧
                    ((Value.int IntKind.i64 (x1.c.hi)) = (Value.int IntKind.i64 (x'.c.hi))) ∧
                    ((Value.int IntKind.i64 (x1.c.place)) = (Value.int IntKind.i64 (x'.c.place))) ∧
                    ((Value.int IntKind.i64 (x1.c.ek)) = (Value.int IntKind.i64 (x'.c.ek))) ∧
                    ((Value.int IntKind.i64 (x1.c.ev)) = (Value.int IntKind.i64 (x'.c.ev))) ∧
                    ((Value.bool (x1.c.closed)) = (Value.bool (x'.c.closed))) ∧
                    True) ∧
                    (True ∧
                    True ∧
                    True ∧
                    ((Value.int IntKind.u64 (x1.S.reads)) = (Value.int IntKind.u64 (x'.S.reads))) ∧
                    True) ∧
                    (True ∧
                    True ∧
                    True ∧
                    ((Value.int IntKind.u32 (x1.S.fresh)) = (Value.int IntKind.u32 (x'.S.fresh))) ∧
                    True) ∧
                    ((x1.S.nodes) = (x'.S.nodes)) ∧
                    ((x1.S.counts) = (x'.S.counts)) ∧
                    ((x1.S.used) = (x'.S.used)) ∧
                    ((x1.S.gen) = (x'.S.gen)) ∧
                    ((x1.S.rel) = (x'.S.rel)) ∧
                    ((W20 raw) = (W20 raw)) ∧
                    (True ∧
                    ((Value.int IntKind.i64 (x1.k)) = (Value.int IntKind.i64 (x'.k))) ∧
                    ((Value.bool false) = (Value.bool false)) ∧
                    True) ∧
                    True) ∧
                    (20 - x'.j < 20 - x.j)))))))
                ((∃ hs1 : List Int,
                  ((Wf x.S (x.c.root :: hs1)) ∧
                  (∀ S'2 : Arn,
                    (∀ fr : Int,
                      ((Wf S'2 hs1) →
                      ((Kept x.S S'2) →
                      (((fr + (↑S'2.nu : Int)) = ((↑x.S.nu : Int))) →
                      (((1 < x.S.ct x.c.root) →
                      (((x.S.us x.c.root) = true) →
                      ((S'2) = (decS x.S x.c.root)))) →
                      ((((x.S.us x.c.root) = false) →
                      ((S'2) = (x.S))) →
                      ((((x.c.closed) = true) →
                      (K (SV.one (TV.at (At.val (Value.bool false)))) [(Chunk.row false (EC.ent) (raw)), (Chunk.row false (EC.move) (ml))] [])) ∧
                      (((x.c.closed) = false) →
                      (∃ hs2 : List Int,
                        ((Wf S'2 (x.c.root :: hs2)) ∧
                        (∀ c' : Cur,
                          (∀ S'3 : Arn,
                            (((c') = ({ root := x.c.root, lo := x.c.lo, hi := x.c.hi, place := x.c.place, ek := x.c.ek, ev := x.c.ev, closed := true : Cur })) →
                            ((Wf S'3 hs2) →
                            ((Kept S'2 S'3) →
                            ((exW S'3) ∧
                            (exW S'3) ∧
                            (brS (S'3.free != S'3.cap)
                              ((K (SV.one (TV.at (At.val (Value.bool false)))) [(Chunk.row false (EC.ent) (raw)), (Chunk.row false (EC.move) (ml))] []))
                              ((((c'.closed) = true) ∧
                              ((c'.closed) = true) ∧
                              ((c'.closed) = true) ∧
                              (((c'.closed) = true) →
                              ((((c'.closed) = true) →
                              ((((c'.closed) = true) →
                              ((exW S'3) ∧
                              (exW S'3) ∧
                              (K (SV.one (TV.at (At.val (Value.bool (S'3.free == S'3.cap))))) [(Chunk.row false (EC.ent) (raw)), (Chunk.row false (EC.move) (ml))] []))) ∧
                              (((c'.closed) = false) →
                              (∃ hs3 : List Int,
                                ((Wf S'3 (c'.root :: hs3)) ∧
                                (∀ c'1 : Cur,
                                  (∀ S'4 : Arn,
                                    (((c'1) = ({ root := c'.root, lo := c'.lo, hi := c'.hi, place := c'.place, ek := c'.ek, ev := c'.ev, closed := true : Cur })) →
                                    ((Wf S'4 hs3) →
                                    ((Kept S'3 S'4) →
                                    (K (SV.one (TV.at (At.val (Value.bool false)))) [(Chunk.row false (EC.ent) (raw)), (Chunk.row false (EC.move) (ml))] []))))))))))) ∧
                              (((c'.closed) = false) →
                              (∀ c'1 : Cur,
                                (((c'1) = (mvC c' none 0)) →
                                (K (SV.one (TV.at (At.val (Value.bool false)))) [(Chunk.row false (EC.ent) (raw)), (Chunk.row false (EC.move) (ml))] [])))))) ∧
                              (((c'.closed) = false) →
                              (∀ o : Option Ent,
                                (((o) = (entC c')) →
                                (brS (errE o == 6)
                                  ((brS ((o.getD (0, 0)).fst == 0 && ((o.getD (0, 0)).snd == 0 && true))
                                    (((((c'.closed) = true) →
                                    ((((c'.closed) = true) →
                                    ((exW S'3) ∧
                                    (exW S'3) ∧
                                    (K (SV.one (TV.at (At.val (Value.bool (S'3.free == S'3.cap))))) [(Chunk.row false (EC.ent) (raw)), (Chunk.row false (EC.move) (ml))] []))) ∧
                                    (((c'.closed) = false) →
                                    (∃ hs3 : List Int,
                                      ((Wf S'3 (c'.root :: hs3)) ∧
                                      (∀ c'1 : Cur,
                                        (∀ S'4 : Arn,
                                          (((c'1) = ({ root := c'.root, lo := c'.lo, hi := c'.hi, place := c'.place, ek := c'.ek, ev := c'.ev, closed := true : Cur })) →
                                          ((Wf S'4 hs3) →
                                          ((Kept S'3 S'4) →
                                          (K (SV.one (TV.at (At.val (Value.bool false)))) [(Chunk.row false (EC.ent) (raw)), (Chunk.row false (EC.move) (ml))] []))))))))))) ∧
                                    (((c'.closed) = false) →
                                    (∀ c'1 : Cur,
                                      (((c'1) = (mvC c' none 0)) →
                                      (K (SV.one (TV.at (At.val (Value.bool false)))) [(Chunk.row false (EC.ent) (raw)), (Chunk.row false (EC.move) (ml))] []))))))
                                    ((K (SV.one (TV.at (At.val (Value.bool false)))) [(Chunk.row false (EC.ent) (raw)), (Chunk.row false (EC.move) (ml))] []))))
                                  ((K (SV.one (TV.at (At.val (Value.bool false)))) [(Chunk.row false (EC.ent) (raw)), (Chunk.row false (EC.move) (ml))] [])))))))))))))))))))))))))))))))
              ((∃ hs1 : List Int,
                ((Wf x.S (x.c.root :: hs1)) ∧
                (∀ S'2 : Arn,
                  (∀ fr : Int,
                    ((Wf S'2 hs1) →
                    ((Kept x.S S'2) →
                    (((fr + (↑S'2.nu : Int)) = ((↑x.S.nu : Int))) →
                    (((1 < x.S.ct x.c.root) →
                    (((x.S.us x.c.root) = true) →
                    ((S'2) = (decS x.S x.c.root)))) →
                    ((((x.S.us x.c.root) = false) →
                    ((S'2) = (x.S))) →
                    ((((x.c.closed) = true) →
                    (K (SV.one (TV.at (At.val (Value.bool false)))) [(Chunk.row false (EC.ent) (raw)), (Chunk.row false (EC.move) (ml))] [])) ∧
                    (((x.c.closed) = false) →
                    (∃ hs2 : List Int,
                      ((Wf S'2 (x.c.root :: hs2)) ∧
                      (∀ c' : Cur,
                        (∀ S'3 : Arn,
                          (((c') = ({ root := x.c.root, lo := x.c.lo, hi := x.c.hi, place := x.c.place, ek := x.c.ek, ev := x.c.ev, closed := true : Cur })) →
                          ((Wf S'3 hs2) →
                          ((Kept S'2 S'3) →
                          ((exW S'3) ∧
                          (exW S'3) ∧
                          (brS (S'3.free != S'3.cap)
                            ((K (SV.one (TV.at (At.val (Value.bool false)))) [(Chunk.row false (EC.ent) (raw)), (Chunk.row false (EC.move) (ml))] []))
                            ((((c'.closed) = true) ∧
                            ((c'.closed) = true) ∧
                            ((c'.closed) = true) ∧
                            (((c'.closed) = true) →
                            ((((c'.closed) = true) →
                            ((((c'.closed) = true) →
                            ((exW S'3) ∧
                            (exW S'3) ∧
                            (K (SV.one (TV.at (At.val (Value.bool (S'3.free == S'3.cap))))) [(Chunk.row false (EC.ent) (raw)), (Chunk.row false (EC.move) (ml))] []))) ∧
                            (((c'.closed) = false) →
                            (∃ hs3 : List Int,
                              ((Wf S'3 (c'.root :: hs3)) ∧
                              (∀ c'1 : Cur,
                                (∀ S'4 : Arn,
                                  (((c'1) = ({ root := c'.root, lo := c'.lo, hi := c'.hi, place := c'.place, ek := c'.ek, ev := c'.ev, closed := true : Cur })) →
                                  ((Wf S'4 hs3) →
                                  ((Kept S'3 S'4) →
                                  (K (SV.one (TV.at (At.val (Value.bool false)))) [(Chunk.row false (EC.ent) (raw)), (Chunk.row false (EC.move) (ml))] []))))))))))) ∧
                            (((c'.closed) = false) →
                            (∀ c'1 : Cur,
                              (((c'1) = (mvC c' none 0)) →
                              (K (SV.one (TV.at (At.val (Value.bool false)))) [(Chunk.row false (EC.ent) (raw)), (Chunk.row false (EC.move) (ml))] [])))))) ∧
                            (((c'.closed) = false) →
                            (∀ o : Option Ent,
                              (((o) = (entC c')) →
                              (brS (errE o == 6)
                                ((brS ((o.getD (0, 0)).fst == 0 && ((o.getD (0, 0)).snd == 0 && true))
                                  (((((c'.closed) = true) →
                                  ((((c'.closed) = true) →
                                  ((exW S'3) ∧
                                  (exW S'3) ∧
                                  (K (SV.one (TV.at (At.val (Value.bool (S'3.free == S'3.cap))))) [(Chunk.row false (EC.ent) (raw)), (Chunk.row false (EC.move) (ml))] []))) ∧
                                  (((c'.closed) = false) →
                                  (∃ hs3 : List Int,
                                    ((Wf S'3 (c'.root :: hs3)) ∧
                                    (∀ c'1 : Cur,
                                      (∀ S'4 : Arn,
                                        (((c'1) = ({ root := c'.root, lo := c'.lo, hi := c'.hi, place := c'.place, ek := c'.ek, ev := c'.ev, closed := true : Cur })) →
                                        ((Wf S'4 hs3) →
                                        ((Kept S'3 S'4) →
                                        (K (SV.one (TV.at (At.val (Value.bool false)))) [(Chunk.row false (EC.ent) (raw)), (Chunk.row false (EC.move) (ml))] []))))))))))) ∧
                                  (((c'.closed) = false) →
                                  (∀ c'1 : Cur,
                                    (((c'1) = (mvC c' none 0)) →
                                    (K (SV.one (TV.at (At.val (Value.bool false)))) [(Chunk.row false (EC.ent) (raw)), (Chunk.row false (EC.move) (ml))] []))))))
                                  ((K (SV.one (TV.at (At.val (Value.bool false)))) [(Chunk.row false (EC.ent) (raw)), (Chunk.row false (EC.move) (ml))] []))))
                                ((K (SV.one (TV.at (At.val (Value.bool false)))) [(Chunk.row false (EC.ent) (raw)), (Chunk.row false (EC.move) (ml))] [])))))))))))))))))))))))))))))))))))))))))))) = _ by kernel_rfl) ?_
  subst hP1 hP2
  have e60 : Int.toNat 60 = 60 := rfl
  rw [e60]
  obtain ⟨la, ll⟩ := listE_spec raw 60
  refine ⟨by decide, by decide, h0, by decide, by decide, by omega, fun S1 i hp => ?_⟩
  obtain ⟨tr, r1, r2, _⟩ := hp.rep
  have hrd : S1.reads = 0 := by rw [hp.rds]; rfl
  refine ⟨⟨_, hp.wf⟩, r1.us, fun S2 e2 => ?_⟩
  have w2 : Wf S2 [i, i] := by rw [e2]; exact opS_wf2 hp.wf r1.us
  have p2 : Rep S2 tr i := by rw [e2]; exact opS_rep r1 i
  have d2 : S2.reads = 0 := by rw [e2, opS_reads, hrd]
  refine ⟨_, w2, List.Perm.refl _, by simp, by omega, fun W eW => ⟨?_, fun x _ => ?_⟩⟩
  · refine ⟨⟨S2, ⟨i, -9223372036854775808, 9223372036854775807, 0, 0, 0, false⟩, 0, 0, ⟨tr, w2, p2, r2⟩, rfl, rfl, rfl, .inl ⟨rfl, rfl⟩, by omega, by omega, by omega⟩, ?_⟩
    (repeat' first | exact trivial | exact rfl | exact eW | refine And.intro ?_ ?_)
  obtain ⟨⟨t1, w1, p1, q1⟩, hc, hlo, hhi, hrel, hr0, hr, hj⟩ := x.h
  have s1 : t1.size ≤ 60 := by rw [← t1.list_len, q1]; exact ll
  have xE : (∃ hs1 : List Int,
                  ((Wf x.S (x.c.root :: hs1)) ∧
                  (∀ S'2 : Arn,
                    (∀ fr : Int,
                      ((Wf S'2 hs1) →
                      ((Kept x.S S'2) →
                      (((fr + (↑S'2.nu : Int)) = ((↑x.S.nu : Int))) →
                      (((1 < x.S.ct x.c.root) →
                      (((x.S.us x.c.root) = true) →
                      ((S'2) = (decS x.S x.c.root)))) →
                      ((((x.S.us x.c.root) = false) →
                      ((S'2) = (x.S))) →
                      ((((x.c.closed) = true) →
                      (K (SV.one (TV.at (At.val (Value.bool false)))) [(Chunk.row false (EC.ent) (raw)), (Chunk.row false (EC.move) (ml))] [])) ∧
                      (((x.c.closed) = false) →
                      (∃ hs2 : List Int,
                        ((Wf S'2 (x.c.root :: hs2)) ∧
                        (∀ c' : Cur,
                          (∀ S'3 : Arn,
                            (((c') = ({ root := x.c.root, lo := x.c.lo, hi := x.c.hi, place := x.c.place, ek := x.c.ek, ev := x.c.ev, closed := true : Cur })) →
                            ((Wf S'3 hs2) →
                            ((Kept S'2 S'3) →
                            ((exW S'3) ∧
                            (exW S'3) ∧
                            (brS (S'3.free != S'3.cap)
                              ((K (SV.one (TV.at (At.val (Value.bool false)))) [(Chunk.row false (EC.ent) (raw)), (Chunk.row false (EC.move) (ml))] []))
                              ((((c'.closed) = true) ∧
                              ((c'.closed) = true) ∧
                              ((c'.closed) = true) ∧
                              (((c'.closed) = true) →
                              ((((c'.closed) = true) →
                              ((((c'.closed) = true) →
                              ((exW S'3) ∧
                              (exW S'3) ∧
                              (K (SV.one (TV.at (At.val (Value.bool (S'3.free == S'3.cap))))) [(Chunk.row false (EC.ent) (raw)), (Chunk.row false (EC.move) (ml))] []))) ∧
                              (((c'.closed) = false) →
                              (∃ hs3 : List Int,
                                ((Wf S'3 (c'.root :: hs3)) ∧
                                (∀ c'1 : Cur,
                                  (∀ S'4 : Arn,
                                    (((c'1) = ({ root := c'.root, lo := c'.lo, hi := c'.hi, place := c'.place, ek := c'.ek, ev := c'.ev, closed := true : Cur })) →
                                    ((Wf S'4 hs3) →
                                    ((Kept S'3 S'4) →
                                    (K (SV.one (TV.at (At.val (Value.bool false)))) [(Chunk.row false (EC.ent) (raw)), (Chunk.row false (EC.move) (ml))] []))))))))))) ∧
                              (((c'.closed) = false) →
                              (∀ c'1 : Cur,
                                (((c'1) = (mvC c' none 0)) →
                                (K (SV.one (TV.at (At.val (Value.bool false)))) [(Chunk.row false (EC.ent) (raw)), (Chunk.row false (EC.move) (ml))] [])))))) ∧
                              (((c'.closed) = false) →
                              (∀ o : Option Ent,
                                (((o) = (entC c')) →
                                (brS (errE o == 6)
                                  ((brS ((o.getD (0, 0)).fst == 0 && ((o.getD (0, 0)).snd == 0 && true))
                                    (((((c'.closed) = true) →
                                    ((((c'.closed) = true) →
                                    ((exW S'3) ∧
                                    (exW S'3) ∧
                                    (K (SV.one (TV.at (At.val (Value.bool (S'3.free == S'3.cap))))) [(Chunk.row false (EC.ent) (raw)), (Chunk.row false (EC.move) (ml))] []))) ∧
                                    (((c'.closed) = false) →
                                    (∃ hs3 : List Int,
                                      ((Wf S'3 (c'.root :: hs3)) ∧
                                      (∀ c'1 : Cur,
                                        (∀ S'4 : Arn,
                                          (((c'1) = ({ root := c'.root, lo := c'.lo, hi := c'.hi, place := c'.place, ek := c'.ek, ev := c'.ev, closed := true : Cur })) →
                                          ((Wf S'4 hs3) →
                                          ((Kept S'3 S'4) →
                                          (K (SV.one (TV.at (At.val (Value.bool false)))) [(Chunk.row false (EC.ent) (raw)), (Chunk.row false (EC.move) (ml))] []))))))))))) ∧
                                    (((c'.closed) = false) →
                                    (∀ c'1 : Cur,
                                      (((c'1) = (mvC c' none 0)) →
                                      (K (SV.one (TV.at (At.val (Value.bool false)))) [(Chunk.row false (EC.ent) (raw)), (Chunk.row false (EC.move) (ml))] []))))))
                                    ((K (SV.one (TV.at (At.val (Value.bool false)))) [(Chunk.row false (EC.ent) (raw)), (Chunk.row false (EC.move) (ml))] []))))
                                  ((K (SV.one (TV.at (At.val (Value.bool false)))) [(Chunk.row false (EC.ent) (raw)), (Chunk.row false (EC.move) (ml))] [])))))))))))))))))))))))))))) := by
    refine ⟨[x.c.root], w1, fun S3 _ w3 k3 _ _ _ => ⟨fun z => absurd z (by rw [hc]; decide), fun _ => ⟨[], w3, fun c' S4 ec w4 k4 => ?_⟩⟩⟩
    have hc' : c'.closed = true := by rw [ec]
    have xw : exW S4 := ⟨_, w4⟩
    have fe : S4.free = S4.cap := w4.empty.2
    have kf : ∀ b, b = (S4.free == S4.cap) → K (.one (.at (vB b))) [.row false EC.ent raw, .row false EC.move ml] [] := fun b hb => by
      have : b = true := by rw [hb, fe]; simp
      rw [this]; exact h
    refine ⟨xw, xw, bf2 (by rw [fe]; simp) ?_⟩
    (repeat' first | exact hc' | exact xw | exact kf _ rfl | refine And.intro ?_ ?_ | exact (fun z => absurd hc' (by rw [z]; decide)) | refine fun _ => ?_)
  refine brS_of (fun c => brS_of (fun d => ?_) fun _ => xE) fun _ => xE
  have c : x.j < ml.length := by have := of_decide_eq_true c; omega
  have d : x.j < 20 := by have := of_decide_eq_true d; omega
  have hl : (L20 raw).length ≤ 1000000 := by have : (L20 raw).length ≤ 60 := ll; omega
  have xM : (∃ hs1 : List Int,
                  (∃ t1 : Tr,
                    ((Wf x.S hs1) ∧
                    (Rep x.S t1 x.c.root) ∧
                    (Asc t1.list) ∧
                    ((W20 raw) = (betE t1.list x.c.lo x.c.hi)) ∧
                    (relC (W20 raw) x.c x.k) ∧
                    (t1.size ≤ 1000000) ∧
                    (x.S.reads + (↑t1.size : Int) ≤ 3000000000000000000) ∧
                    (∀ S'2 : Arn,
                      (∀ m : Nat,
                        (∀ c' : Cur,
                          (∀ k' : Int,
                            (((S'2) = (rdS x.S m)) →
                            ((m ≤ t1.size) →
                            ((relC (W20 raw) c' k') →
                            ((keepC x.c c') →
                            (∃ x1 : XCs (PCt raw),
                              ((((↑x.j : Int)) = ((↑x1.j : Int))) ∧
                              (True ∧
                              ((Value.int IntKind.i64 (key)) = (Value.int IntKind.i64 (key))) ∧
                              True ∧
                              True ∧
                              ((Value.int IntKind.u32 (x.c.root)) = (Value.int IntKind.u32 (x1.c.root))) ∧
                              True ∧
                              True ∧
                              ((Value.int IntKind.i64 ((↑x.j : Int))) = (Value.int IntKind.i64 ((↑x1.j : Int)))) ∧
                              True ∧
                              ((Value.bool true) = (Value.bool true)) ∧
                              True) ∧
                              ((raw) = (raw)) ∧
                              ((ml) = (ml)) ∧
                              ((L20 raw) = (L20 raw)) ∧
                              (True ∧
                              ((Value.int IntKind.u32 (c'.root)) = (Value.int IntKind.u32 (x1.c.root))) ∧
                              ((Value.int IntKind.i64 (c'.lo)) = (Value.int IntKind.i64 (x1.c.lo))) ∧
                              ((Value.int IntKind.i64 (c'.hi)) = (Value.int IntKind.i64 (x1.c.hi))) ∧
                              ((Value.int IntKind.i64 (c'.place)) = (Value.int IntKind.i64 (x1.c.place))) ∧
                              ((Value.int IntKind.i64 (c'.ek)) = (Value.int IntKind.i64 (x1.c.ek))) ∧
                              ((Value.int IntKind.i64 (c'.ev)) = (Value.int IntKind.i64 (x1.c.ev))) ∧
                              ((Value.bool (c'.closed)) = (Value.bool (x1.c.closed))) ∧
                              True) ∧
                              (True ∧
                              True ∧
                              True ∧
                              ((Value.int IntKind.u64 (S'2.reads)) = (Value.int IntKind.u64 (x1.S.reads))) ∧
                              True) ∧
                              (True ∧
                              True ∧
                              True ∧
                              ((Value.int IntKind.u32 (S'2.fresh)) = (Value.int IntKind.u32 (x1.S.fresh))) ∧
                              True) ∧
                              ((S'2.nodes) = (x1.S.nodes)) ∧
                              ((S'2.counts) = (x1.S.counts)) ∧
                              ((S'2.used) = (x1.S.used)) ∧
                              ((S'2.gen) = (x1.S.gen)) ∧
                              ((S'2.rel) = (x1.S.rel)) ∧
                              ((W20 raw) = (W20 raw)) ∧
                              True ∧
                              (True ∧
                              ((Value.int IntKind.i64 (k')) = (Value.int IntKind.i64 (x1.k))) ∧
                              ((Value.bool false) = (Value.bool false)) ∧
                              True) ∧
                              True))))))))))))) := by
    refine ⟨_, t1, w1, p1, by rw [q1]; exact la, by rw [q1, hlo, hhi], hrel, by omega, by omega, fun S3 m c' k' e1 e3 e4 e5 => ?_⟩
    obtain ⟨g1, g2, g3, g4⟩ := e5
    refine ⟨⟨S3, c', k', x.j, ⟨t1, by rw [g1, e1]; exact w1.rd (by omega), by rw [g1, e1]; exact rep_rd24 p1 _, q1⟩, g4.trans hc, g2.trans hlo, g3.trans hhi, e4, by rw [e1, rdS_reads]; omega, by rw [e1, rdS_reads]; omega, d⟩, ?_⟩
    (repeat' first | exact trivial | exact rfl | exact congrArg (Value.int IntKind.u32) g1.symm | refine And.intro ?_ ?_)
  refine ⟨?_, fun x1 e => ?_⟩
  · have a1 : (0 : Int) ≤ (x.j : Int) := by omega
    have a2 : (x.j : Int) < (ml.length : Int) := by omega
    (repeat' first | exact xM | exact hc | exact hl | exact a1 | exact a2 | exact rfl | refine And.intro ?_ ?_)
  · obtain ⟨f1, f2, f3, f4, f5, f6, f7, f8⟩ := x1.h
    have e : (x.j : Int) = (x1.j : Int) := e
    refine ⟨⟨x1.S, x1.c, x1.k, x1.j + 1, f1, f2, f3, f4, f5, f6, by omega, f8⟩, ?_⟩
    have v : IntKind.i64.wrap ((x1.j : Int) + 1) = ((x1.j + 1 : Nat) : Int) := by rw [wrap_id (by omega) (by omega)]; rfl
    (repeat' first | exact trivial | exact rfl | exact congrArg (Value.int IntKind.i64) v | refine And.intro ?_ ?_)
    show 20 - (x1.j + 1) < 20 - x.j
    omega
theorem s_cs : SoundT C0 12 tCs := by
  refine .of Try.func12 (by decide) rfl fun args H K h hB => ?_
  unfold tCs at h
  split at h <;> try exact h.elim
  rename_i t key raw ml
  exact ⟨aCs (PCs raw) (PCt raw) raw ml, ⟨frame C0.ok s_lst _, frame C0.ok s_grow _, frame C0.ok s_awake24 _, frame C0.ok s_openL _, frame C0.ok s_sound _, frame C0.ok s_o24 _, frame C0.ok s_mv _, frame C0.ok s_release _, frame C0.ok s_cu_close _, frame C0.ok s_free _, frame C0.ok s_cap _, frame C0.ok s_cl_next _, frame C0.ok s_cl_prev _, frame C0.ok s_cl_find _, frame C0.ok s_cu_entry _, frame C0.ok s_cu_rew _, trivial⟩, vc_cs raw ml t key K h.1 h.2⟩
end Go.Proofs.Ytacdmmomkngpkaa.Sx
