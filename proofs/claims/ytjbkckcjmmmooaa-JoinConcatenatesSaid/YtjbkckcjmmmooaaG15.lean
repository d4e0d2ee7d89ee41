/- A part of the proof. -/
import Derived.Test.YtjbkckcjmmmooaaG14
import Derived.Test.YtjbkckcjmmmooaaProg
import Derived.Test.YtjbkckcjmmmooaaChecked
import Derived.WalkKit
import Derived.ProofKit
import Derived.OpenShut
import Derived.SizedLaws
import Derived.Carry
import Derived.Test.YtjbkckcjmmmooaaG4
import Derived.Deep.Slices
import Derived.Lib.SmallJoins
import Derived.Test.YtjbkckcjmmmooaaRows
section
/- The law that Concat concatenates. -/
namespace Go.Proofs.Ytjbkckcjmmmooaa.Sx
open Go

/-KEEP Wf exW inU live Arn.cap Arn.free Rep rdS retL Tr.size Tr.list Tr.Bal balN balB cB gN TrR Got flt getE Asc Hn ht PairR newS slotsOf orderOf RepD jnM listE Kept List.Perm keptD-/
structure JcA where
  S : Arn
  x : Int
  y : Int
  lx : List Ent
  ly : List Ent
  l : List Ent
structure XCa (P : JcA → Prop) where
  z : JcA
  h : P z
structure JcS where
  S0 : Arn
  a : JcA
  d : List SlotT
  o : List Int
  r : Int
  i : Int
  f : Int
structure XCb (P : JcS → Prop) where
  z : JcS
  h : P z
structure XCc (P : JcS → Int → Prop) where
  z : JcS
  w : Int
  h : P z w
abbrev chCa (raw : List Ent) (z : JcA) : List (Chunk C0) := [.row false EC.ent raw] ++ chSk 1 z.S ++ [.row false EC.ent z.lx, .row false EC.ent z.ly, .row false EC.ent z.l]
abbrev chCs (raw : List Ent) (z : JcS) : List (Chunk C0) := chCa raw z.a ++ [.box [.slc 12, .slc 13], .row true EC.slot z.d, .row true EC.u32 z.o]
noncomputable def aJcl (raw : List Ent) (P : JcA → Prop) (P2 P4 : JcS → Prop) (P3 : JcS → Int → Prop) : Ann C0 := { quiet := [30, 38, 22, 31, 39, 44, 45], Γ := [(34, frameT [] tLst), (45, frameT [] tRes2), (47, frameT [] tSpare), (46, tPair13), (41, frameT [] tAw13), (30, frameT [] tDump), (19, frameT [] tReads), (55, frameT [] tJc), (24, frameT [] tMh), (23, frameT [] tWi), (38, frameT [] tSameD), (44, frameT [] tTree13), (22, frameT [] tFree), (39, frameT [] tKept), (31, frameT [] tSound)], inv := fun n => match n with
  | 1007 => some { X := XCa P, sl := [14, 15, 16, 17, 18, 13], tf := fun x => [.one (.at (.ptr 1 0)), vi .u32 x.z.x, vi .u32 x.z.y, .one (.at (.slc 8)), .one (.at (.slc 9)), .one (.at (.slc 10))], hf := fun x => chCa raw x.z }
  | 1009 => some { X := XCb P2, sl := [14, 15, 16, 17, 18, 13, 20, 21, 22, 23], tf := fun x => [.one (.at (.ptr 1 0)), vi .u32 x.z.a.x, vi .u32 x.z.a.y, .one (.at (.slc 8)), .one (.at (.slc 9)), .one (.at (.slc 10)), .one (.at (.ptr 11 0)), vi .u64 x.z.r, vi .u32 x.z.i, vi .i64 x.z.f], hf := fun x => chCs raw x.z }
  | 1018 => some { X := XCc P3, sl := [14, 15, 16, 17, 18, 20, 22, 23, 24], tf := fun x => [.one (.at (.ptr 1 0)), vi .u32 x.z.a.x, vi .u32 x.z.a.y, .one (.at (.slc 8)), .one (.at (.slc 9)), .one (.at (.ptr 10 0)), vi .u32 x.z.i, vi .i64 x.z.f, vi .i64 x.w], hf := fun x => [.row false EC.ent raw] ++ chSk 1 x.z.a.S ++ [.row false EC.ent x.z.a.lx, .row false EC.ent x.z.a.ly, .box [.slc 11, .slc 12], .row true EC.slot x.z.d, .row true EC.u32 x.z.o] }
  | 1013 => some { X := XCb P4, sl := [14, 15, 16, 17, 18, 20, 22, 23], tf := fun x => [.one (.at (.ptr 1 0)), vi .u32 x.z.a.x, vi .u32 x.z.a.y, .one (.at (.slc 8)), .one (.at (.slc 9)), .one (.at (.ptr 10 0)), vi .u32 x.z.i, vi .i64 x.z.f], hf := fun x => [.row false EC.ent raw] ++ chSk 1 x.z.a.S ++ [.row false EC.ent x.z.a.lx, .row false EC.ent x.z.a.ly, .box [.slc 11, .slc 12], .row true EC.slot x.z.d, .row true EC.u32 x.z.o] }
  | _ => none }
def tJcl : Tfm C0 := fun args H K => match args, H with
  | [.at (.slc 0), .at (.val (.int .i64 _)), .at (.val (.int .i64 _)), .at (.val (.int .u64 t)), .at (.val (.bool _)), .at (.val (.int .u16 f))], [.row false .ent raw] => 0 ≤ t ∧ 0 ≤ f ∧ f ≤ 65535 ∧ K (.one (.at (vB true))) [.row false EC.ent raw] []
  | _, _ => False
def geC (L R : List Ent) : Prop := (L.getLast?.getD (0, 0)).1 ≥ (R.head?.getD (0, 0)).1
def coreO (z : JcS) : Prop := (geC z.a.lx z.a.ly ∧ z.f = 7 ∧ z.i = 0 ∧ ∃ m, z.a.S = rdS z.S0 m) ∨
  (¬ geC z.a.lx z.a.ly ∧ z.S0.free < 4 * (Hn ((z.a.lx.length : Int) + z.a.ly.length + 1) + 2) ∧ z.f = 2 ∧ z.i = 0 ∧ ∃ m, z.a.S = rdS z.S0 m) ∨
  (¬ geC z.a.lx z.a.ly ∧ 4 * (Hn ((z.a.lx.length : Int) + z.a.ly.length + 1) + 2) ≤ z.S0.free ∧ z.f = 0 ∧ ∃ m r, TrR z.S0 [z.a.x, z.a.y] (z.a.lx ++ z.a.ly) m r z.a.S z.i)
def PCa (z : JcA) : Prop := (∃ tx ty, trees z.S z.x z.y z.lx z.ly tx ty) ∧ z.lx.length + z.ly.length ≤ z.l.length ∧ z.l.length ≤ 150
def PCb (z : JcS) : Prop := ∃ tx ty, trees z.S0 z.a.x z.a.y z.a.lx z.a.ly tx ty ∧ z.r = 0 ∧ z.d = slotsOf z.S0 ∧ z.o = orderOf z.S0 ∧ 0 ≤ z.a.S.reads ∧ z.a.S.reads ≤ 60 * (Hn ((z.a.l.length : Int) + 1) + 2) ∧ z.a.l.length ≤ 150 ∧
  ((z.a.lx.length = 0 ∧ z.a.x = 0 ∧ z.i = z.a.y ∧ z.f = 0 ∧ z.a.S = retL z.S0 z.a.y) ∨ (z.a.lx.length ≠ 0 ∧ z.a.ly.length = 0 ∧ z.a.y = 0 ∧ z.i = z.a.x ∧ z.f = 0 ∧ z.a.S = retL z.S0 z.a.x) ∨ (z.a.lx.length ≠ 0 ∧ z.a.ly.length ≠ 0 ∧ coreO z))
def PCd (z : JcS) : Prop := ∃ tx ty, trees z.S0 z.a.x z.a.y z.a.lx z.a.ly tx ty ∧ z.d = slotsOf z.S0 ∧ z.o = orderOf z.S0 ∧ z.a.S.reads ≤ 20000 ∧ z.a.lx.length ≠ 0 ∧ z.a.ly.length ≠ 0 ∧ coreO z
def PCc (z : JcS) (w : Int) : Prop := PCd z ∧ w = z.f
theorem trees_swap {S : Arn} {x y : Int} {lx ly : List Ent} {tx ty : Tr} (h : trees S x y lx ly tx ty) : trees S y x ly lx ty tx := by
  obtain ⟨⟨w, r1, r2, b1, b2, s, hl, rd⟩, l1, l2, z1, z2, zl, a1, a2, r0⟩ := h
  exact ⟨⟨w.perm (List.Perm.swap _ _ _), r2, r1, b2, b1, by omega, by simp, rd⟩, l2, l1, z2, z1, by omega, a2, a1, r0⟩
theorem rep_z {S : Arn} {hs : List Int} {t : Tr} {i : Int} (w : Wf S hs) (h : Rep S t i) : i = 0 ↔ t.size = 0 := by
  constructor
  · intro e
    rw [e] at h
    rw [h.zero w]; rfl
  · intro e
    cases t with
    | nil => exact h
    | node a k v b => simp [Tr.size] at e
theorem asc_cat {L R : List Ent} (hl : Asc L) (hr : Asc R) (h : ¬ geC L R) (hn : R.length ≠ 0) : Asc (L ++ R) := by
  cases R with
  | nil => exact absurd rfl hn
  | cons y R =>
    have h : (L.getLast?.getD (0, 0)).1 < y.1 := by unfold geC at h; show (L.getLast?.getD (0, 0)).1 < y.1; exact Int.not_le.1 h
    refine List.pairwise_append.2 ⟨hl, hr, fun a ha b hb => ?_⟩
    have h1 := all_lt hl h a ha
    show a.1 < b.1
    rcases List.mem_cons.1 hb with rfl | hb
    · exact h1
    · have : y.1 < b.1 := (List.pairwise_cons.1 hr).1 b hb
      omega
theorem vc_jcl (raw : List Ent) (t at' sk f : Int) (sw : Bool) (K : KT) (h0 : 0 ≤ t) (f1 : 0 ≤ f) (f2 : f ≤ 65535) (h : K (.one (.at (vB true))) [.row false EC.ent raw] []) :
    vc C0 (aJcl raw PCa PCb PCd PCc) Try.f12 [.at (.slc 0), .at (vI at'), .at (vI sk), .at (vU64 t), .at (vB sw), .at (.val (.int .u16 f))] [.row false EC.ent raw] (normK 1 K) := by
  generalize hP : PCa = P
  generalize hP2 : PCb = P2
  generalize hP3 : PCc = P3
  generalize hP4 : PCd = P4
  refine Eq.mp (show (((0 : Int) ≤ 150) ∧
((150 : Int) ≤ 1000000) ∧
(0 ≤ (↑(listE raw (Int.toNat 150)).length : Int)) ∧
((↑(listE raw (Int.toNat 150)).length : Int) ≤ 65536) ∧
((0 : Int) ≤ 0) ∧
((0 : Int) ≤ 65536) ∧
(∀ p : Int, (((p) = (4 * (Hn ((↑(listE raw (Int.toNat 150)).length : Int) + 0 + 1) + 2))) → ((0 ≤ f) ∧ (f ≤ 65535) ∧ (0 ≤ p) ∧ (p ≤ 60000) ∧ (∀ s : Int, ((0 ≤ s) → ((s ≤ p + 8) → (((listE raw (Int.toNat 150)).length ≤ 1000) ∧ (0 ≤ t) ∧ (0 ≤ s) ∧ (s ≤ 20000) ∧ (∀ S : Arn, (∀ x : Int, (∀ y : Int, (∀ p1 : Nat, (∀ q : Nat, ((p1 ≤ q) → ((q ≤ (listE raw (Int.toNat 150)).length) → ((PairR ((↑(listE raw (Int.toNat 150)).length : Int) + 1 + s).toNat (List.take p1 (listE raw (Int.toNat 150))) (List.drop q (listE raw (Int.toNat 150))) S x y) → ((brS (sw) ((∃ x1 : XCa P, (True ∧ (True ∧ True ∧ ((Value.int IntKind.u32 (y)) = (Value.int IntKind.u32 (x1.z.x))) ∧ ((Value.int IntKind.u32 (x)) = (Value.int IntKind.u32 (x1.z.y))) ∧ True ∧ True ∧ True) ∧ ((raw) = (raw)) ∧ (True ∧ True ∧ True ∧ ((Value.int IntKind.u64 (S.reads)) = (Value.int IntKind.u64 (x1.z.S.reads))) ∧ True) ∧ (True ∧ True ∧ True ∧ ((Value.int IntKind.u32 (S.fresh)) = (Value.int IntKind.u32 (x1.z.S.fresh))) ∧ True) ∧ ((S.nodes) = (x1.z.S.nodes)) ∧ ((S.counts) = (x1.z.S.counts)) ∧ ((S.used) = (x1.z.S.used)) ∧ ((S.gen) = (x1.z.S.gen)) ∧ ((S.rel) = (x1.z.S.rel)) ∧ ((List.drop q (listE raw (Int.toNat 150))) = (x1.z.lx)) ∧ ((List.take p1 (listE raw (Int.toNat 150))) = (x1.z.ly)) ∧ ((listE raw (Int.toNat 150)) = (x1.z.l)) ∧ True)))
    ((∃ x1 : XCa P, (True ∧ (True ∧ True ∧ ((Value.int IntKind.u32 (x)) = (Value.int IntKind.u32 (x1.z.x))) ∧ ((Value.int IntKind.u32 (y)) = (Value.int IntKind.u32 (x1.z.y))) ∧ True ∧ True ∧ True) ∧ ((raw) = (raw)) ∧ (True ∧ True ∧ True ∧ ((Value.int IntKind.u64 (S.reads)) = (Value.int IntKind.u64 (x1.z.S.reads))) ∧ True) ∧ (True ∧ True ∧ True ∧ ((Value.int IntKind.u32 (S.fresh)) = (Value.int IntKind.u32 (x1.z.S.fresh))) ∧ True) ∧ ((S.nodes) = (x1.z.S.nodes)) ∧ ((S.counts) = (x1.z.S.counts)) ∧ ((S.used) = (x1.z.S.used)) ∧ ((S.gen) = (x1.z.S.gen)) ∧ ((S.rel) = (x1.z.S.rel)) ∧ ((List.take p1 (listE raw (Int.toNat 150))) = (x1.z.lx)) ∧ ((List.drop q (listE raw (Int.toNat 150))) = (x1.z.ly)) ∧ ((listE raw (Int.toNat 150)) = (x1.z.l)) ∧ True)))) ∧ (∀ x1 : XCa P, (True → ((exW x1.z.S) ∧ (∀ d : List SlotT, (∀ o : List Int, (((d) = (slotsOf x1.z.S)) → (((o) = (orderOf x1.z.S)) → ((∃ hs : List Int, (∃ tl : Tr, (∃ tr : Tr, ((jnM x1.z.S hs tl tr x1.z.x x1.z.y) ∧ (x1.z.S.reads ≤ 900000000000000000) ∧ (((x1.z.x) = 0) → (∀ S' : Arn, (((S') = (retL x1.z.S x1.z.y)) → (∃ x2 : XCb P2, (True ∧ (True ∧ True ∧ ((Value.int IntKind.u32 (x1.z.x)) = (Value.int IntKind.u32 (x2.z.a.x))) ∧ ((Value.int IntKind.u32 (x1.z.y)) = (Value.int IntKind.u32 (x2.z.a.y))) ∧ True ∧ True ∧ True ∧ ((Value.int IntKind.u64 (x1.z.S.reads)) = (Value.int IntKind.u64 (x2.z.r))) ∧ ((Value.int IntKind.u32 (x1.z.y)) = (Value.int IntKind.u32 (x2.z.i))) ∧ ((Value.int IntKind.i64 0) = (Value.int IntKind.i64 (x2.z.f))) ∧ True) ∧
    ((raw) = (raw)) ∧ (True ∧ True ∧ True ∧ ((Value.int IntKind.u64 (S'.reads)) = (Value.int IntKind.u64 (x2.z.a.S.reads))) ∧ True) ∧ (True ∧ True ∧ True ∧ ((Value.int IntKind.u32 (S'.fresh)) = (Value.int IntKind.u32 (x2.z.a.S.fresh))) ∧ True) ∧ ((S'.nodes) = (x2.z.a.S.nodes)) ∧ ((S'.counts) = (x2.z.a.S.counts)) ∧ ((S'.used) = (x2.z.a.S.used)) ∧ ((S'.gen) = (x2.z.a.S.gen)) ∧ ((S'.rel) = (x2.z.a.S.rel)) ∧ ((x1.z.lx) = (x2.z.a.lx)) ∧ ((x1.z.ly) = (x2.z.a.ly)) ∧ ((x1.z.l) = (x2.z.a.l)) ∧ (True ∧ True ∧ True) ∧ ((d) = (x2.z.d)) ∧ ((o) = (x2.z.o)) ∧ True))))) ∧ ((x1.z.x ≠ 0) → (((x1.z.y) = 0) → (∀ S' : Arn, (((S') = (retL x1.z.S x1.z.x)) → (∃ x2 : XCb P2, (True ∧ (True ∧ True ∧ ((Value.int IntKind.u32 (x1.z.x)) = (Value.int IntKind.u32 (x2.z.a.x))) ∧ ((Value.int IntKind.u32 (x1.z.y)) = (Value.int IntKind.u32 (x2.z.a.y))) ∧ True ∧ True ∧ True ∧ ((Value.int IntKind.u64 (x1.z.S.reads)) = (Value.int IntKind.u64 (x2.z.r))) ∧ ((Value.int IntKind.u32 (x1.z.x)) = (Value.int IntKind.u32 (x2.z.i))) ∧ ((Value.int IntKind.i64 0) = (Value.int IntKind.i64 (x2.z.f))) ∧ True) ∧ ((raw) = (raw)) ∧ (True ∧ True ∧ True ∧ ((Value.int IntKind.u64 (S'.reads)) = (Value.int IntKind.u64 (x2.z.a.S.reads))) ∧ True) ∧ (True ∧ True ∧ True ∧ ((Value.int IntKind.u32 (S'.fresh)) = (Value.int IntKind.u32 (x2.z.a.S.fresh))) ∧ True) ∧ ((S'.nodes) = (x2.z.a.S.nodes)) ∧ ((S'.counts) = (x2.z.a.S.counts)) ∧ ((S'.used) = (x2.z.a.S.used)) ∧ ((S'.gen) = (x2.z.a.S.gen)) ∧ ((S'.rel) = (x2.z.a.S.rel)) ∧ ((x1.z.lx) = (x2.z.a.lx)) ∧
    ((x1.z.ly) = (x2.z.a.ly)) ∧ ((x1.z.l) = (x2.z.a.l)) ∧ (True ∧ True ∧ True) ∧ ((d) = (x2.z.d)) ∧ ((o) = (x2.z.o)) ∧ True)))))) ∧ ((x1.z.x ≠ 0) → ((x1.z.y ≠ 0) → (((tl.list.getLast?.getD (0, 0)).fst ≥ (tr.list.head?.getD (0, 0)).fst) → (∀ S' : Arn, (∀ m : Nat, (((S') = (rdS x1.z.S m)) → ((m ≤ ht tl + ht tr) → (∃ x2 : XCb P2, (True ∧ (True ∧ True ∧ ((Value.int IntKind.u32 (x1.z.x)) = (Value.int IntKind.u32 (x2.z.a.x))) ∧ ((Value.int IntKind.u32 (x1.z.y)) = (Value.int IntKind.u32 (x2.z.a.y))) ∧ True ∧ True ∧ True ∧ ((Value.int IntKind.u64 (x1.z.S.reads)) = (Value.int IntKind.u64 (x2.z.r))) ∧ ((Value.int IntKind.u32 0) = (Value.int IntKind.u32 (x2.z.i))) ∧ ((Value.int IntKind.i64 7) = (Value.int IntKind.i64 (x2.z.f))) ∧ True) ∧ ((raw) = (raw)) ∧ (True ∧ True ∧ True ∧ ((Value.int IntKind.u64 (S'.reads)) = (Value.int IntKind.u64 (x2.z.a.S.reads))) ∧ True) ∧ (True ∧ True ∧ True ∧ ((Value.int IntKind.u32 (S'.fresh)) = (Value.int IntKind.u32 (x2.z.a.S.fresh))) ∧ True) ∧ ((S'.nodes) = (x2.z.a.S.nodes)) ∧ ((S'.counts) = (x2.z.a.S.counts)) ∧ ((S'.used) = (x2.z.a.S.used)) ∧ ((S'.gen) = (x2.z.a.S.gen)) ∧ ((S'.rel) = (x2.z.a.S.rel)) ∧ ((x1.z.lx) = (x2.z.a.lx)) ∧ ((x1.z.ly) = (x2.z.a.ly)) ∧ ((x1.z.l) = (x2.z.a.l)) ∧ (True ∧ True ∧ True) ∧ ((d) = (x2.z.d)) ∧ ((o) = (x2.z.o)) ∧ True))))))))) ∧ ((x1.z.x ≠ 0) → ((x1.z.y ≠ 0) → ((¬(tl.list.getLast?.getD (0, 0)).fst ≥ (tr.list.head?.getD (0, 0)).fst) → ((x1.z.S.free < 4 * (Hn ((↑tl.size : Int) + (↑tr.size : Int) + 1) + 2)) → (∀ S' : Arn, (∀ m : Nat,
    (((S') = (rdS x1.z.S m)) → ((m ≤ ht tl + ht tr + 2) → (∃ x2 : XCb P2, (True ∧ (True ∧ True ∧ ((Value.int IntKind.u32 (x1.z.x)) = (Value.int IntKind.u32 (x2.z.a.x))) ∧ ((Value.int IntKind.u32 (x1.z.y)) = (Value.int IntKind.u32 (x2.z.a.y))) ∧ True ∧ True ∧ True ∧ ((Value.int IntKind.u64 (x1.z.S.reads)) = (Value.int IntKind.u64 (x2.z.r))) ∧ ((Value.int IntKind.u32 0) = (Value.int IntKind.u32 (x2.z.i))) ∧ ((Value.int IntKind.i64 2) = (Value.int IntKind.i64 (x2.z.f))) ∧ True) ∧ ((raw) = (raw)) ∧ (True ∧ True ∧ True ∧ ((Value.int IntKind.u64 (S'.reads)) = (Value.int IntKind.u64 (x2.z.a.S.reads))) ∧ True) ∧ (True ∧ True ∧ True ∧ ((Value.int IntKind.u32 (S'.fresh)) = (Value.int IntKind.u32 (x2.z.a.S.fresh))) ∧ True) ∧ ((S'.nodes) = (x2.z.a.S.nodes)) ∧ ((S'.counts) = (x2.z.a.S.counts)) ∧ ((S'.used) = (x2.z.a.S.used)) ∧ ((S'.gen) = (x2.z.a.S.gen)) ∧ ((S'.rel) = (x2.z.a.S.rel)) ∧ ((x1.z.lx) = (x2.z.a.lx)) ∧ ((x1.z.ly) = (x2.z.a.ly)) ∧ ((x1.z.l) = (x2.z.a.l)) ∧ (True ∧ True ∧ True) ∧ ((d) = (x2.z.d)) ∧ ((o) = (x2.z.o)) ∧ True)))))))))) ∧ ((x1.z.x ≠ 0) → ((x1.z.y ≠ 0) → ((¬(tl.list.getLast?.getD (0, 0)).fst ≥ (tr.list.head?.getD (0, 0)).fst) → ((4 * (Hn ((↑tl.size : Int) + (↑tr.size : Int) + 1) + 2) ≤ x1.z.S.free) → (∀ S' : Arn, (∀ i : Int, ((TrR x1.z.S hs (tl.list ++ tr.list) (cB tl.size tr.size) (5 * cB tl.size tr.size + ht tl + ht tr + 2) S' i) → (∃ x2 : XCb P2, (True ∧ (True ∧ True ∧ ((Value.int IntKind.u32 (x1.z.x)) = (Value.int IntKind.u32 (x2.z.a.x))) ∧
    ((Value.int IntKind.u32 (x1.z.y)) = (Value.int IntKind.u32 (x2.z.a.y))) ∧ True ∧ True ∧ True ∧ ((Value.int IntKind.u64 (x1.z.S.reads)) = (Value.int IntKind.u64 (x2.z.r))) ∧ ((Value.int IntKind.u32 (i)) = (Value.int IntKind.u32 (x2.z.i))) ∧ ((Value.int IntKind.i64 0) = (Value.int IntKind.i64 (x2.z.f))) ∧ True) ∧ ((raw) = (raw)) ∧ (True ∧ True ∧ True ∧ ((Value.int IntKind.u64 (S'.reads)) = (Value.int IntKind.u64 (x2.z.a.S.reads))) ∧ True) ∧ (True ∧ True ∧ True ∧ ((Value.int IntKind.u32 (S'.fresh)) = (Value.int IntKind.u32 (x2.z.a.S.fresh))) ∧ True) ∧ ((S'.nodes) = (x2.z.a.S.nodes)) ∧ ((S'.counts) = (x2.z.a.S.counts)) ∧ ((S'.used) = (x2.z.a.S.used)) ∧ ((S'.gen) = (x2.z.a.S.gen)) ∧ ((S'.rel) = (x2.z.a.S.rel)) ∧ ((x1.z.lx) = (x2.z.a.lx)) ∧ ((x1.z.ly) = (x2.z.a.ly)) ∧ ((x1.z.l) = (x2.z.a.l)) ∧ (True ∧ True ∧ True) ∧ ((d) = (x2.z.d)) ∧ ((o) = (x2.z.o)) ∧ True))))))))))))) ∧ (∀ x2 : XCb P2, (True → ((0 ≤ IntKind.i64.wrap ((↑x2.z.a.l.length : Int) + 1)) ∧ (IntKind.i64.wrap ((↑x2.z.a.l.length : Int) + 1) ≤ 2147483647) ∧ (∀ h : Int, (((h) = (Hn (IntKind.i64.wrap ((↑x2.z.a.l.length : Int) + 1)))) → ((0 ≤ x2.z.r) ∧ (x2.z.r ≤ x2.z.a.S.reads) ∧ (x2.z.a.S.reads ≤ 4000000000000000000) ∧ (x2.z.a.S.reads - x2.z.r ≤ IntKind.i64.wrap (60 * IntKind.i64.wrap (h + 2))) ∧ (IntKind.i64.wrap (60 * IntKind.i64.wrap (h + 2)) ≤ 4000000000000000000) ∧ (brS ((↑x2.z.a.lx.length : Int) == 0) ((brS (x2.z.f == 0) ((brS (x2.z.i == IntKind.u32.wrap (x2.z.a.x + x2.z.a.y)) (((exW x2.z.a.S) ∧
    (brS (x2.z.a.S.free == (↑x2.z.o.length : Int)) ((∃ hs : List Int, ((Wf x2.z.a.S hs) ∧ ([x2.z.a.x, x2.z.a.y, x2.z.i].Perm hs) ∧ ([x2.z.a.x, x2.z.a.y, x2.z.i].length ≤ 1000000) ∧ (K (SV.one (TV.at (At.val (Value.bool true)))) [(Chunk.row false (EC.ent) (raw))] [])))) ((K (SV.one (TV.at (At.val (Value.bool false)))) [(Chunk.row false (EC.ent) (raw))] []))))) ((K (SV.one (TV.at (At.val (Value.bool false)))) [(Chunk.row false (EC.ent) (raw))] [])))) ((K (SV.one (TV.at (At.val (Value.bool false)))) [(Chunk.row false (EC.ent) (raw))] [])))) ((brS ((↑x2.z.a.ly.length : Int) == 0) ((brS (x2.z.f == 0) ((brS (x2.z.i == IntKind.u32.wrap (x2.z.a.x + x2.z.a.y)) (((exW x2.z.a.S) ∧ (brS (x2.z.a.S.free == (↑x2.z.o.length : Int)) ((∃ hs : List Int, ((Wf x2.z.a.S hs) ∧ ([x2.z.a.x, x2.z.a.y, x2.z.i].Perm hs) ∧ ([x2.z.a.x, x2.z.a.y, x2.z.i].length ≤ 1000000) ∧ (K (SV.one (TV.at (At.val (Value.bool true)))) [(Chunk.row false (EC.ent) (raw))] [])))) ((K (SV.one (TV.at (At.val (Value.bool false)))) [(Chunk.row false (EC.ent) (raw))] []))))) ((K (SV.one (TV.at (At.val (Value.bool false)))) [(Chunk.row false (EC.ent) (raw))] [])))) ((K (SV.one (TV.at (At.val (Value.bool false)))) [(Chunk.row false (EC.ent) (raw))] [])))) ((∃ x3 : XCb P4, (True ∧ (True ∧ ((Value.int IntKind.u32 (x2.z.a.x)) = (Value.int IntKind.u32 (x3.z.a.x))) ∧ ((Value.int IntKind.u32 (x2.z.a.y)) = (Value.int IntKind.u32 (x3.z.a.y))) ∧ True ∧ True ∧ True ∧ ((Value.int IntKind.u32 (x2.z.i)) = (Value.int IntKind.u32 (x3.z.i))) ∧
    ((Value.int IntKind.i64 (x2.z.f)) = (Value.int IntKind.i64 (x3.z.f))) ∧ True) ∧ ((raw) = (raw)) ∧ (True ∧ True ∧ True ∧ ((Value.int IntKind.u64 (x2.z.a.S.reads)) = (Value.int IntKind.u64 (x3.z.a.S.reads))) ∧ True) ∧ (True ∧ True ∧ True ∧ ((Value.int IntKind.u32 (x2.z.a.S.fresh)) = (Value.int IntKind.u32 (x3.z.a.S.fresh))) ∧ True) ∧ ((x2.z.a.S.nodes) = (x3.z.a.S.nodes)) ∧ ((x2.z.a.S.counts) = (x3.z.a.S.counts)) ∧ ((x2.z.a.S.used) = (x3.z.a.S.used)) ∧ ((x2.z.a.S.gen) = (x3.z.a.S.gen)) ∧ ((x2.z.a.S.rel) = (x3.z.a.S.rel)) ∧ ((x2.z.a.lx) = (x3.z.a.lx)) ∧ ((x2.z.a.ly) = (x3.z.a.ly)) ∧ (True ∧ True ∧ True) ∧ ((x2.z.d) = (x3.z.d)) ∧ ((x2.z.o) = (x3.z.o)) ∧ True)))))) ∧ (∀ x3 : XCb P4, (True → (((0 ≤ IntKind.i64.wrap ((↑x3.z.a.lx.length : Int) - 1)) ∧ (IntKind.i64.wrap ((↑x3.z.a.lx.length : Int) - 1) < (↑x3.z.a.lx.length : Int)) ∧ ((0 : Int) ≤ 0) ∧ (0 < (↑x3.z.a.ly.length : Int)) ∧ (brS (decide ((x3.z.a.lx.getD (IntKind.i64.wrap ((↑x3.z.a.lx.length : Int) - 1)).toNat (0, 0)).fst ≥ (x3.z.a.ly.getD (Int.toNat 0) (0, 0)).fst)) ((∃ x4 : XCc P3, (True ∧ (True ∧ ((Value.int IntKind.u32 (x3.z.a.x)) = (Value.int IntKind.u32 (x4.z.a.x))) ∧ ((Value.int IntKind.u32 (x3.z.a.y)) = (Value.int IntKind.u32 (x4.z.a.y))) ∧ True ∧ True ∧ True ∧ ((Value.int IntKind.u32 (x3.z.i)) = (Value.int IntKind.u32 (x4.z.i))) ∧ ((Value.int IntKind.i64 (x3.z.f)) = (Value.int IntKind.i64 (x4.z.f))) ∧ ((Value.int IntKind.i64 7) = (Value.int IntKind.i64 (x4.w))) ∧ True) ∧ ((raw) = (raw)) ∧ (True ∧ True ∧ True ∧
    ((Value.int IntKind.u64 (x3.z.a.S.reads)) = (Value.int IntKind.u64 (x4.z.a.S.reads))) ∧ True) ∧ (True ∧ True ∧ True ∧ ((Value.int IntKind.u32 (x3.z.a.S.fresh)) = (Value.int IntKind.u32 (x4.z.a.S.fresh))) ∧ True) ∧ ((x3.z.a.S.nodes) = (x4.z.a.S.nodes)) ∧ ((x3.z.a.S.counts) = (x4.z.a.S.counts)) ∧ ((x3.z.a.S.used) = (x4.z.a.S.used)) ∧ ((x3.z.a.S.gen) = (x4.z.a.S.gen)) ∧ ((x3.z.a.S.rel) = (x4.z.a.S.rel)) ∧ ((x3.z.a.lx) = (x4.z.a.lx)) ∧ ((x3.z.a.ly) = (x4.z.a.ly)) ∧ (True ∧ True ∧ True) ∧ ((x3.z.d) = (x4.z.d)) ∧ ((x3.z.o) = (x4.z.o)) ∧ True))) (((0 ≤ (↑x3.z.a.lx.length : Int)) ∧ ((↑x3.z.a.lx.length : Int) ≤ 65536) ∧ (0 ≤ (↑x3.z.a.ly.length : Int)) ∧ ((↑x3.z.a.ly.length : Int) ≤ 65536) ∧ (∀ p2 : Int, (((p2) = (4 * (Hn ((↑x3.z.a.lx.length : Int) + (↑x3.z.a.ly.length : Int) + 1) + 2))) → (brS (decide ((↑x3.z.o.length : Int) < p2)) ((∃ x4 : XCc P3, (True ∧ (True ∧ ((Value.int IntKind.u32 (x3.z.a.x)) = (Value.int IntKind.u32 (x4.z.a.x))) ∧ ((Value.int IntKind.u32 (x3.z.a.y)) = (Value.int IntKind.u32 (x4.z.a.y))) ∧ True ∧ True ∧ True ∧ ((Value.int IntKind.u32 (x3.z.i)) = (Value.int IntKind.u32 (x4.z.i))) ∧ ((Value.int IntKind.i64 (x3.z.f)) = (Value.int IntKind.i64 (x4.z.f))) ∧ ((Value.int IntKind.i64 2) = (Value.int IntKind.i64 (x4.w))) ∧ True) ∧ ((raw) = (raw)) ∧ (True ∧ True ∧ True ∧ ((Value.int IntKind.u64 (x3.z.a.S.reads)) = (Value.int IntKind.u64 (x4.z.a.S.reads))) ∧ True) ∧ (True ∧ True ∧ True ∧ ((Value.int IntKind.u32 (x3.z.a.S.fresh)) = (Value.int IntKind.u32 (x4.z.a.S.fresh))) ∧
    True) ∧ ((x3.z.a.S.nodes) = (x4.z.a.S.nodes)) ∧ ((x3.z.a.S.counts) = (x4.z.a.S.counts)) ∧ ((x3.z.a.S.used) = (x4.z.a.S.used)) ∧ ((x3.z.a.S.gen) = (x4.z.a.S.gen)) ∧ ((x3.z.a.S.rel) = (x4.z.a.S.rel)) ∧ ((x3.z.a.lx) = (x4.z.a.lx)) ∧ ((x3.z.a.ly) = (x4.z.a.ly)) ∧ (True ∧ True ∧ True) ∧ ((x3.z.d) = (x4.z.d)) ∧ ((x3.z.o) = (x4.z.o)) ∧ True))) ((∃ x4 : XCc P3, (True ∧ (True ∧ ((Value.int IntKind.u32 (x3.z.a.x)) = (Value.int IntKind.u32 (x4.z.a.x))) ∧ ((Value.int IntKind.u32 (x3.z.a.y)) = (Value.int IntKind.u32 (x4.z.a.y))) ∧ True ∧ True ∧ True ∧ ((Value.int IntKind.u32 (x3.z.i)) = (Value.int IntKind.u32 (x4.z.i))) ∧ ((Value.int IntKind.i64 (x3.z.f)) = (Value.int IntKind.i64 (x4.z.f))) ∧ ((Value.int IntKind.i64 0) = (Value.int IntKind.i64 (x4.w))) ∧ True) ∧ ((raw) = (raw)) ∧ (True ∧ True ∧ True ∧ ((Value.int IntKind.u64 (x3.z.a.S.reads)) = (Value.int IntKind.u64 (x4.z.a.S.reads))) ∧ True) ∧ (True ∧ True ∧ True ∧ ((Value.int IntKind.u32 (x3.z.a.S.fresh)) = (Value.int IntKind.u32 (x4.z.a.S.fresh))) ∧ True) ∧ ((x3.z.a.S.nodes) = (x4.z.a.S.nodes)) ∧ ((x3.z.a.S.counts) = (x4.z.a.S.counts)) ∧ ((x3.z.a.S.used) = (x4.z.a.S.used)) ∧ ((x3.z.a.S.gen) = (x4.z.a.S.gen)) ∧ ((x3.z.a.S.rel) = (x4.z.a.S.rel)) ∧ ((x3.z.a.lx) = (x4.z.a.lx)) ∧ ((x3.z.a.ly) = (x4.z.a.ly)) ∧ (True ∧ True ∧ True) ∧ ((x3.z.d) = (x4.z.d)) ∧ ((x3.z.o) = (x4.z.o)) ∧ True)))))))))) ∧ (∀ x4 : XCc P3, (True → (brS (x4.z.f != x4.w) ((K (SV.one (TV.at (At.val (Value.bool false)))) [(Chunk.row false (EC.ent) (raw))] []))
    ((brS (x4.z.f != 0) ((brS (x4.z.i == 0) (((exW x4.z.a.S) ∧ (∀ d1 : List SlotT, (∀ o1 : List Int, (((d1) = (slotsOf x4.z.a.S)) → (((o1) = (orderOf x4.z.a.S)) → (((d1) = (x4.z.d)) ∧ ((o1) = (x4.z.o)) ∧ (d1.length ≤ 1000000) ∧ (o1.length ≤ 1000000) ∧ (K (SV.one (TV.at (At.val (Value.bool true)))) [(Chunk.row false (EC.ent) (raw))] [])))))))) ((K (SV.one (TV.at (At.val (Value.bool false)))) [(Chunk.row false (EC.ent) (raw))] [])))) ((((([] : List Ent).length + x4.z.a.lx.length) * bytesOf C0 EC.ent ≤ 140737488355328) ∧ ((([] ++ x4.z.a.lx).length + x4.z.a.ly.length) * bytesOf C0 EC.ent ≤ 140737488355328) ∧ (∃ hs : List Int, (∃ t1 : Tr, ((Wf x4.z.a.S hs) ∧ (Rep x4.z.a.S t1 x4.z.i) ∧ ((t1.list) = ([] ++ x4.z.a.lx ++ x4.z.a.ly)) ∧ (t1.Bal) ∧ (Asc ([] ++ x4.z.a.lx ++ x4.z.a.ly))))) ∧ (exW x4.z.a.S) ∧ (∀ d1 : List SlotT, (∀ o1 : List Int, (((d1) = (slotsOf x4.z.a.S)) → (((o1) = (orderOf x4.z.a.S)) → ((keptD x4.z.d d1) ∧ (x4.z.d.length ≤ 1000000) ∧ (∃ hs : List Int, ((Wf x4.z.a.S hs) ∧ ([x4.z.a.x, x4.z.a.y, x4.z.i].Perm hs) ∧ ([x4.z.a.x, x4.z.a.y, x4.z.i].length ≤ 1000000) ∧ (K (SV.one (TV.at (At.val (Value.bool true)))) [(Chunk.row false (EC.ent) (raw))] []))))))))))))))))))))))))))))))))))))))))))))))))) = _ by kernel_rfl) ?_
  subst hP hP2 hP3 hP4
  obtain ⟨la, ll⟩ := listE_spec raw 150
  have e150 : Int.toNat 150 = 150 := rfl
  rw [e150]
  generalize listE raw 150 = l at *
  have hH := Hn_rng ((l.length : Int) + 0 + 1)
  refine ⟨by decide, by decide, by omega, by omega, by decide, by decide, fun p ep => ⟨f1, f2, by omega, by omega, fun s s1 s2 => ⟨by omega, h0, s1, by omega, fun S x y p1 q hpq hq hp => ?_⟩⟩⟩
  obtain ⟨tx, ty, tt⟩ := pair_trees hp la hpq hq ll
  have n1 : (l.take p1).length + (l.drop q).length ≤ l.length := by simp; omega
  refine ⟨brS_of (fun _ => ⟨⟨⟨S, y, x, l.drop q, l.take p1, l⟩, ⟨ty, tx, trees_swap tt⟩, by dsimp only; omega, ll⟩, ?_⟩) fun _ => ⟨⟨⟨S, x, y, l.take p1, l.drop q, l⟩, ⟨tx, ty, tt⟩, n1, ll⟩, ?_⟩, fun z _ => ?_⟩
  · (repeat' first | exact trivial | exact rfl | refine And.intro ?_ ?_)
  · (repeat' first | exact trivial | exact rfl | refine And.intro ?_ ?_)
  clear n1 tt tx ty hp hpq hq q p1 x y S s2 s1 s ep p hH la ll l
  obtain ⟨z, ⟨tx, ty, tt⟩, zn, zll⟩ := z
  dsimp only
  obtain ⟨jm, lx, ly, zx, zy, zl, ax, ay, rd0⟩ := id tt
  obtain ⟨w, rx, ry, bx, bY, sz, hl, rd⟩ := id jm
  have hbx := Bal.height bx (by omega)
  have hby := Bal.height bY (by omega)
  have hH := Hn_rng ((z.l.length : Int) + 1)
  have hm1 := Hn_ge tx.size (z.l.length + 1) (by omega)
  have hm2 := Hn_ge ty.size (z.l.length + 1) (by omega)
  have hm3 := Hn_ge (tx.size + ty.size + 1) (z.l.length + 1) (by omega)
  have hj := cB_Hn (a := tx.size) (b := ty.size) (by omega)
  rw [show ((tx.size + ty.size + 1 : Nat) : Int) = (tx.size : Int) + ty.size + 1 by omega] at hm3
  rw [show ((z.l.length + 1 : Nat) : Int) = (z.l.length : Int) + 1 by omega] at hm1 hm2 hm3
  have ix := rep_z w rx
  have iy := rep_z w ry
  refine ⟨⟨_, w⟩, fun d o ed eo => ⟨⟨[z.x, z.y], tx, ty, jm, by omega, fun c S1 es => ?_, fun c c2 S1 es => ?_, fun c c2 hg S1 m es hm => ?_, fun c c2 hg hf S1 m es hm => ?_, fun c c2 hg hf S1 i tj => ?_⟩, fun z2 _ => ?_⟩⟩
  · have q1 : S1.reads = z.S.reads := by rw [es]; exact (retL_flds _ _).1
    refine ⟨⟨⟨z.S, ⟨S1, z.x, z.y, z.lx, z.ly, z.l⟩, d, o, z.S.reads, z.y, 0⟩, tx, ty, tt, rd0, ed, eo, by dsimp only; omega, by dsimp only; omega, zll, .inl ⟨by dsimp only; omega, c, rfl, rfl, es⟩⟩, ?_⟩
    (repeat' first | exact trivial | exact rfl | refine And.intro ?_ ?_)
  · have q1 : S1.reads = z.S.reads := by rw [es]; exact (retL_flds _ _).1
    refine ⟨⟨⟨z.S, ⟨S1, z.x, z.y, z.lx, z.ly, z.l⟩, d, o, z.S.reads, z.x, 0⟩, tx, ty, tt, rd0, ed, eo, by dsimp only; omega, by dsimp only; omega, zll, .inr (.inl ⟨by dsimp only; omega, by dsimp only; omega, c2, rfl, rfl, es⟩)⟩, ?_⟩
    (repeat' first | exact trivial | exact rfl | refine And.intro ?_ ?_)
  · have q1 : S1.reads = z.S.reads + m := by rw [es]; rfl
    rw [lx, ly] at hg
    refine ⟨⟨⟨z.S, ⟨S1, z.x, z.y, z.lx, z.ly, z.l⟩, d, o, z.S.reads, 0, 7⟩, tx, ty, tt, rd0, ed, eo, by dsimp only; omega, by dsimp only; omega, zll, .inr (.inr ⟨by dsimp only; omega, by dsimp only; omega, .inl ⟨hg, rfl, rfl, m, es⟩⟩)⟩, ?_⟩
    (repeat' first | exact trivial | exact rfl | refine And.intro ?_ ?_)
  · have q1 : S1.reads = z.S.reads + m := by rw [es]; rfl
    rw [lx, ly] at hg
    rw [zx, zy] at hf
    refine ⟨⟨⟨z.S, ⟨S1, z.x, z.y, z.lx, z.ly, z.l⟩, d, o, z.S.reads, 0, 2⟩, tx, ty, tt, rd0, ed, eo, by dsimp only; omega, by dsimp only; omega, zll, .inr (.inr ⟨by dsimp only; omega, by dsimp only; omega, .inr (.inl ⟨hg, hf, rfl, rfl, m, es⟩)⟩)⟩, ?_⟩
    (repeat' first | exact trivial | exact rfl | refine And.intro ?_ ?_)
  · have q0 := tj.got.rd0
    have q1 := tj.got.rd
    rw [lx, ly] at hg
    rw [zx, zy] at hf
    refine ⟨⟨⟨z.S, ⟨S1, z.x, z.y, z.lx, z.ly, z.l⟩, d, o, z.S.reads, i, 0⟩, tx, ty, tt, rd0, ed, eo, by dsimp only; omega, by dsimp only; omega, zll, .inr (.inr ⟨by dsimp only; omega, by dsimp only; omega, .inr (.inr ⟨hg, hf, rfl, _, _, by rw [lx, ly] at tj; exact tj⟩)⟩)⟩, ?_⟩
    (repeat' first | exact trivial | exact rfl | refine And.intro ?_ ?_)
  clear ix iy hj hm3 hm2 hm1 hH hby hbx ed eo d o w rx ry bx bY sz hl rd jm lx ly zx zy zl ax ay rd0 tt tx ty zn zll z
  obtain ⟨z, tx, ty, tt, er, ed, eo, r0, r1, zll, oc⟩ := z2
  dsimp only
  obtain ⟨jm, lx, ly, zx, zy, zl, ax, ay, rd0⟩ := id tt
  obtain ⟨w, rx, ry, bx, bY, sz, hl, rd⟩ := id jm
  have hH := Hn_rng ((z.a.l.length : Int) + 1)
  have ol : (z.o.length : Int) = z.S0.free := by rw [eo]; exact order_free w
  rw [wrap_id (x := (z.a.l.length : Int) + 1) (by omega) (by omega)]
  refine ⟨by omega, by omega, fun hh eh => ?_⟩
  rw [wrap_id (x := hh + 2) (by omega) (by omega), wrap_id (x := 60 * (hh + 2)) (by omega) (by omega)]
  have ux := inU_of w rx.us
  have uy := inU_of w ry.us
  have uu : ∀ i : Int, inU i → IntKind.u32.wrap i = i := fun i hi => wrap_u32 hi.1 (by have := hi.2; omega)
  have gx := (retL_got (hs := [z.a.x, z.a.y]) w rx.us (by simp)).wf
  have gy := (retL_got (hs := [z.a.x, z.a.y]) w ry.us (by simp)).wf
  refine ⟨by omega, by omega, by omega, by omega, by omega, brS_of (fun c => ?_) fun c => brS_of (fun c2 => ?_) fun c2 => ⟨⟨z, tx, ty, tt, ed, eo, by omega, ?_, ?_, ?_⟩, ?_⟩, fun x3 _ => ?_⟩
  · have c : z.a.lx.length = 0 := by simpa using c
    obtain ⟨_, q1, q2, q3, q4⟩ := oc.resolve_right (fun q => by rcases q with q | q <;> exact q.1 c)
    have wS : Wf z.a.S (z.a.y :: [z.a.x, z.a.y]) := by rw [q4]; exact gy
    refine bt7 (by rw [q3]; rfl) (bt7 (by rw [q1, q2, Int.zero_add, uu _ uy]; simp) ⟨⟨_, wS⟩, bt7 (by rw [q4, retL_free, ol]; simp) ⟨_, wS, ?_, by simp, h⟩⟩)
    rw [q2]
    exact List.Perm.swap _ _ _
  · have c : z.a.lx.length ≠ 0 := by simpa using c
    have c2 : z.a.ly.length = 0 := by simpa using c2
    obtain ⟨_, _, q1, q2, q3, q4⟩ := (oc.resolve_left (fun q => c q.1)).resolve_right (fun q => q.2.1 c2)
    have wS : Wf z.a.S (z.a.x :: [z.a.x, z.a.y]) := by rw [q4]; exact gx
    refine bt7 (by rw [q3]; rfl) (bt7 (by rw [q1, q2, Int.add_zero, uu _ ux]; simp) ⟨⟨_, wS⟩, bt7 (by rw [q4, retL_free, ol]; simp) ⟨_, wS, ?_, by simp, h⟩⟩)
    rw [q2]
    exact (List.Perm.swap _ _ _).cons _
  · simpa using c
  · simpa using c2
  · have c : z.a.lx.length ≠ 0 := by simpa using c
    have c2 : z.a.ly.length ≠ 0 := by simpa using c2
    exact ((oc.resolve_left (fun q => c q.1)).resolve_left (fun q => c2 q.2.1)).2.2
  · (repeat' first | exact trivial | exact rfl | refine And.intro ?_ ?_)
  clear gx gy uu ux uy eh hh ol hH w rx ry bx bY sz hl rd jm lx ly zx zy zl ax ay rd0 tt er ed eo r0 r1 zll oc tx ty z
  obtain ⟨z, hP⟩ := x3
  dsimp only
  obtain ⟨tx, ty, tt, ed, eo, r1, nx, ny, oc⟩ := id hP
  obtain ⟨jm, lx, ly, zx, zy, zl, ax, ay, rd0⟩ := id tt
  have ol : (z.o.length : Int) = z.S0.free := by rw [eo]; exact order_free jm.1
  have hidx : IntKind.i64.wrap ((z.a.lx.length : Int) - 1) = (z.a.lx.length : Int) - 1 := wrap_id (by omega) (by omega)
  have en : (IntKind.i64.wrap ((z.a.lx.length : Int) - 1)).toNat = z.a.lx.length - 1 := by rw [hidx]; omega
  have ge : geC z.a.lx z.a.ly ↔ (z.a.lx.getD (IntKind.i64.wrap ((z.a.lx.length : Int) - 1)).toNat (0, 0)).1 ≥ (z.a.ly.getD (Int.toNat 0) (0, 0)).1 := by
    unfold geC
    rw [last_get (by omega), head_get (by omega), en]
    exact Iff.rfl
  refine ⟨⟨by rw [hidx]; omega, by rw [hidx]; omega, by decide, by omega, brS_of (fun c => ⟨⟨z, 7, hP, ?_⟩, ?_⟩) fun c => ⟨by omega, by omega, by omega, by omega, fun p2 ep2 => brS_of (fun c5 => ⟨⟨z, 2, hP, ?_⟩, ?_⟩) fun c5 => ⟨⟨z, 0, hP, ?_⟩, ?_⟩⟩⟩, fun x4 _ => ?_⟩
  · have c := ge.2 (of_decide_eq_true c)
    rcases oc with q | q | q
    · exact q.2.1.symm
    · exact absurd c q.1
    · exact absurd c q.1
  · (repeat' first | exact trivial | exact rfl | refine And.intro ?_ ?_)
  · have c : ¬ geC z.a.lx z.a.ly := fun q => of_decide_eq_false c (ge.1 q)
    have c5 := of_decide_eq_true c5
    rcases oc with q | q | q
    · exact absurd q.1 c
    · exact q.2.2.1.symm
    · omega
  · (repeat' first | exact trivial | exact rfl | refine And.intro ?_ ?_)
  · have c : ¬ geC z.a.lx z.a.ly := fun q => of_decide_eq_false c (ge.1 q)
    have c5 := of_decide_eq_false c5
    rcases oc with q | q | q
    · exact absurd q.1 c
    · omega
    · exact q.2.2.1.symm
  · (repeat' first | exact trivial | exact rfl | refine And.intro ?_ ?_)
  clear ge en hidx ol jm lx ly zx zy zl ax ay rd0 tt ed eo r1 nx ny oc tx ty hP z
  obtain ⟨z, want, ⟨tx, ty, tt, ed, eo, r1, nx, ny, oc⟩, hw⟩ := x4
  dsimp only
  obtain ⟨jm, lx, ly, zx, zy, zl, ax, ay, rd0⟩ := id tt
  obtain ⟨w, rx, ry, bx, bY, sz, hl, rd⟩ := id jm
  have sl := slots_le w
  refine bf7 (by rw [hw]; simp) ?_
  have same : ∀ m, z.a.S = rdS z.S0 m → exW z.a.S ∧ (∀ d1 o1, d1 = slotsOf z.a.S → o1 = orderOf z.a.S → d1 = z.d ∧ o1 = z.o ∧ d1.length ≤ 1000000 ∧ o1.length ≤ 1000000 ∧ K (.one (.at (vB true))) [.row false EC.ent raw] []) := fun m e => by
    have w1 : Wf z.a.S [z.a.x, z.a.y] := by
      have q : z.a.S.reads = z.S0.reads + m := by rw [e]; rfl
      rw [e]; exact w.rd (by omega)
    exact ⟨⟨_, w1⟩, fun d1 o1 e2 e3 => ⟨by rw [e2, ed, e]; rfl, by rw [e3, eo, e]; rfl, by rw [e2]; have := slots_le w1; omega, by rw [e3]; have := order_len w1; omega, h⟩⟩
  rcases oc with ⟨_, q2, q3, m, q5⟩ | ⟨_, _, q2, q3, m, q5⟩ | ⟨ho, q0, q2, m, r, tj⟩
  · exact bt7 (by rw [q2]; rfl) (bt7 (by rw [q3]; rfl) (same m q5))
  · exact bt7 (by rw [q2]; rfl) (bt7 (by rw [q3]; rfl) (same m q5))
  have w1 := tj.got.wf
  obtain ⟨u, ru, lu, bu⟩ := tj.tree
  rw [bytes_ent]
  refine bf7 (by rw [q2]; rfl) ⟨by simp; omega, by simp; omega, ⟨_, u, w1, ru, lu, bu, asc_cat ax ay ho ny⟩, ⟨_, w1⟩, fun d1 o1 e1 _ => ⟨?_, by rw [ed]; omega, [z.i, z.a.x, z.a.y], w1, (perm_tor z.a.x z.a.y z.i []).trans (perm_tor z.a.y z.i z.a.x []), by simp, h⟩⟩
  rw [ed, e1]; exact kept_of w tj.got.stay tj.got.len
theorem s_jcl : SoundT C0 12 tJcl := by
  refine .of Try.func12 (by decide) rfl fun args H K h hB => ?_
  unfold tJcl at h
  split at h <;> try exact h.elim
  rename_i at' sk t sw f raw
  exact ⟨aJcl raw PCa PCb PCd PCc, ⟨frame C0.ok s_lst _, frame C0.ok s_nJn _, frame C0.ok s_spare13 _, s_pair13, frame C0.ok s_aw13 _, frame C0.ok s_dump _, frame C0.ok s_rds _, frame C0.ok s_jc _, frame C0.ok s_ht _, frame C0.ok s_wi _, frame C0.ok s_sameD _, frame C0.ok s_tree13 _, frame C0.ok s_free _, frame C0.ok s_kept _, frame C0.ok s_sound _, trivial⟩, vc_jcl raw t at' sk f sw K h.1 h.2.1 h.2.2.1 h.2.2.2⟩
end Go.Proofs.Ytjbkckcjmmmooaa.Sx
end
section
/- What every law's last step leans on. -/
namespace Go.Proofs.Ytjbkckcjmmmooaa
open Go.ChangeShapes Go.WideShapes Go.ChangeAt Go.RowKit

theorem ownK : ownKnob Try.prog.godebug = none := by kernel_rfl
theorem laidO : laidOutB Try.prog = true := by kernel_rfl

theorem lit_i64 {a : Int} (h : (Lit.int .i64 a).wf = true) : -9223372036854775808 ≤ a ∧ a ≤ 9223372036854775807 := by
  have h1 : IntKind.i64.min = -9223372036854775808 := rfl
  have h2 : IntKind.i64.max = 9223372036854775807 := rfl
  simp only [Lit.wf, Bool.and_eq_true, decide_eq_true_eq] at h
  omega
theorem lit_u64 {a : Int} (h : (Lit.int .u64 a).wf = true) : 0 ≤ a ∧ a ≤ 18446744073709551615 := by
  have h1 : IntKind.u64.min = 0 := rfl
  have h2 : IntKind.u64.max = 18446744073709551615 := rfl
  simp only [Lit.wf, Bool.and_eq_true, decide_eq_true_eq] at h
  omega
theorem lit_u32 {a : Int} (h : (Lit.int .u32 a).wf = true) : 0 ≤ a ∧ a ≤ 4294967295 := by
  have h1 : IntKind.u32.min = 0 := rfl
  have h2 : IntKind.u32.max = 4294967295 := rfl
  simp only [Lit.wf, Bool.and_eq_true, decide_eq_true_eq] at h
  omega
theorem lit_u16 {a : Int} (h : (Lit.int .u16 a).wf = true) : 0 ≤ a ∧ a ≤ 65535 := by
  have h1 : IntKind.u16.min = 0 := rfl
  have h2 : IntKind.u16.max = 65535 := rfl
  simp only [Lit.wf, Bool.and_eq_true, decide_eq_true_eq] at h
  omega
end Go.Proofs.Ytjbkckcjmmmooaa
end
section
/- From contracts to laws: the arguments as they come, what a law's call leaves. -/
namespace Go.Proofs.Ytjbkckcjmmmooaa.Sx
open Go Go.Joins Go.ChangeShapes Go.WideShapes Go.ChangeAt Go.RowKit

theorem Sat.imms {C : Ctx} {w : World} (vs : List Value) (H : List (Chunk C)) (h : ∀ (n : Nat) (c : Chunk C), H[n]? = some c → ∃ e l, c = .row false e l ∧ Imm C w (vs.getD n undef) e l) : Sat C (fun n => vs.getD n undef) (fun _ _ => False) w H where
  holds n c hc := by
    obtain ⟨e, l, rfl, hi⟩ := h n c hc
    exact ⟨hi, fun _ hh => hh⟩
  dis _ _ _ hh := hh.elim
  bd _ _ hh := hh.elim
  imm _ _ _ _ _ _ _ _ hh := hh
  out _ _ _ hh := hh
  cl n c hc m hm := by
    obtain ⟨e, l, rfl, _⟩ := h n c hc
    simp [Chunk.names] at hm

theorem lawOf {f : FuncId} {t : Tfm C0} (hs : SoundT C0 f t) {args : List TV} {H : List (Chunk C0)} {vs : List Value} {σ : Nat → Value} {w : World} (ht : ∀ K : KT, K (.one (.at (vB true))) H [] → t args H K)
    (hsat : Sat C0 σ (fun _ _ => False) w H) (hr : Rels (TV.rel σ) args vs) (hn : ∀ x ∈ args, ∀ m ∈ x.names, m < H.length) : Calls Try.prog f vs.toArray w (fun e w' => e = .returned (.bool true) ∧ Below w.heap.size w w') := by
  have hc := hs.call args H (fun r _ _ => r = .one (.at (vB true))) (ht _ rfl) σ _ w vs hsat hr hn
  refine Calls.mono hc fun e w' hh => ?_
  cases e with
  | panicked ch => exact hh.elim
  | outgrown => exact hh.elim
  | returned v =>
    obtain ⟨r, H', ts, σ', φ', hout, rfl⟩ := hh
    have hv : v = .bool true := hout.rel
    exact ⟨by rw [hv], hout.adv.os, hout.adv.tape, hout.adv.output, hout.adv.size, fun k hk => hout.adv.fr k hk fun n hh => hh⟩

section
variable {HH : Type} {enc : TypeId × Value → HH} {P : Program} {w : World} {base b0 : Nat} {spare : Nat → Bool} {held : Bool} {r : Reach}
theorem openRowQ {α : Type} [Inhabited α] {t e : TypeId} {f : α → List Value} {Q : α → Prop} {sz : Nat} {v : Value} {d : DataW HH} {p : List MemPlace} (ht : P.underlying t = some (.slice e)) (hC : P.cellsOf e = sz) (hpos : 0 < sz) (hf : ∀ x, (f x).length = sz)
    (hel : ∀ {n : Nat} {cs : List Value} {x : DataW HH × List MemPlace}, DataW.trod enc P w base spare held n e cs = some x → ∃ a, cs = f a ∧ Q a) (hv : Value.okWide P w r b0 t v) (h : DataW.Trod enc P w base spare held t v d p) :
    ∃ A n c l, v = .slice A n c ∧ Rd f sz w A n c l ∧ ∀ x ∈ l, Q x := by
  obtain ⟨A, n, c, rfl⟩ := okWide_slice ht hv
  obtain ⟨fuel, hh⟩ := h
  have hh : DataW.trod enc P w base spare held fuel t [.slice A n c] = some (d, p) := by simpa [Value.cells] using hh
  rcases Go.Deep.open_slice ht hh with ⟨h1, _⟩ | ⟨a, len, cap, m, k, D, Pl, h1, hb, hle, hm, hmm, hx, hall⟩
  · simp only [List.cons.injEq, Value.slice.injEq, and_true] at h1
    obtain ⟨rfl, rfl, rfl⟩ := h1
    exact ⟨none, 0, 0, [], rfl, Rd.nil hf, fun x hx => by simp at hx⟩
  · simp only [List.cons.injEq, Value.slice.injEq, and_true] at h1
    obtain ⟨rfl, rfl, rfl⟩ := h1
    have hlm : n ≤ m := by rw [hmm]; split <;> omega
    have hel' : ∀ i, i < n → ∃ x : α, w.cells? base (a.add (i * P.cellsOf e)) (P.cellsOf e) = some (f x) ∧ Q x := fun i hi => by
      obtain ⟨cs', hc1, hc2⟩ := hall i (by omega)
      obtain ⟨x, rfl, hq⟩ := hel hc2
      exact ⟨x, hc1, hq⟩
    obtain ⟨F, hF⟩ := Go.Deep.choose_lt hel'
    have cell : ∀ i, i < n → ∀ j, j < sz → w.cell? ((a.add (i * sz)).add j) = (f (F i))[j]? := fun i hi j hj => by
      have h2 := (hF i hi).1
      rw [hC] at h2
      unfold World.cells? at h2
      split at h2
      · exact mapM_some_get h2 j j (by simp [hj])
      · cases h2
    refine ⟨some a, n, c, (List.range n).map F, rfl, ⟨by simp, hle, hm, hf, fun h => (by cases h), fun hn => ?_⟩, fun x hx => by obtain ⟨i, hi, rfl⟩ := List.mem_map.1 hx; exact (hF i (List.mem_range.1 hi)).2⟩
    obtain ⟨b, o, sp⟩ := a
    have hsome : ∀ i, i < n → ∀ j, j < sz → ∃ u, w.cell? (((⟨b, o, sp⟩ : Addr).add (i * sz)).add j) = some u := fun i hi j hj => by
      rw [cell i hi j hj]
      exact ⟨_, List.getElem?_eq_getElem (by rw [hf]; exact hj)⟩
    obtain ⟨u0, hu0⟩ := hsome 0 hn 0 hpos
    have hspot : sp = none := by simpa [Addr.add] using World.cell?_spot hu0
    subst hspot
    refine ⟨b, o, rfl, ?_, fun k x hx j u hu => ?_⟩
    · have hu1 : w.cell? ⟨b, o, none⟩ = some u0 := by simpa [Addr.add] using hu0
      unfold World.cell? at hu1
      split at hu1
      · rename_i hb2
        exact (Array.getElem?_eq_some_iff.1 hb2).1
      · cases hu1
    · rw [List.getElem?_map] at hx
      have hk : k < n := by
        rcases Nat.lt_or_ge k n with h2 | h2
        · exact h2
        · rw [List.getElem?_eq_none (by simpa using h2)] at hx; cases hx
      rw [List.getElem?_range hk] at hx
      simp only [Option.map_some, Option.some.injEq] at hx
      subst hx
      have hj : j < sz := by
        have := (List.getElem?_eq_some_iff.1 hu).1
        rwa [hf] at this
      have h3 := cell k hk j hj
      rw [hu] at h3
      rw [← h3]
      congr 1
      rw [Go.WideShapes.add_plain, Go.WideShapes.add_plain]
theorem openRow {α : Type} [Inhabited α] {t e : TypeId} {f : α → List Value} {sz : Nat} {v : Value} {d : DataW HH} {p : List MemPlace} (ht : P.underlying t = some (.slice e)) (hC : P.cellsOf e = sz) (hpos : 0 < sz) (hf : ∀ x, (f x).length = sz)
    (hel : ∀ {n : Nat} {cs : List Value} {x : DataW HH × List MemPlace}, DataW.trod enc P w base spare held n e cs = some x → ∃ a, cs = f a) (hv : Value.okWide P w r b0 t v) (h : DataW.Trod enc P w base spare held t v d p) :
    ∃ A n c l, v = .slice A n c ∧ Rd f sz w A n c l := by
  obtain ⟨A, n, c, l, h1, h2, _⟩ := openRowQ (Q := fun _ => True) ht hC hpos hf (fun h => by obtain ⟨a, e⟩ := hel h; exact ⟨a, e, trivial⟩) hv h
  exact ⟨A, n, c, l, h1, h2⟩
end

section
variable {HH : Type} {enc : TypeId × Value → HH} {w : World} {base b0 : Nat} {spare : Nat → Bool} {held : Bool} {r : Reach}
set_option maxRecDepth 100000 in
theorem elE {n : Nat} {cs : List Value} {x : DataW HH × List MemPlace} (h : DataW.trod enc Try.prog w base spare held n 26 cs = some x) : ∃ a : Ent, cs = EC.enc .ent a := by
  obtain ⟨y0, y1, m, _, hl, h0, h1⟩ := trod_struct2 Try.underlying26 h
  obtain ⟨k, e0, _⟩ := DataW.trod_int Try.underlying2 h0
  obtain ⟨v, e1, _⟩ := DataW.trod_int Try.underlying2 h1
  have hl : cs.length = 2 := hl.trans (by kernel_rfl)
  have c1 : Try.prog.cellsOf 2 = 1 := by kernel_rfl
  match cs, hl with
  | [a, b], _ =>
    simp [c1] at e0 e1
    exact ⟨(k, v), by rw [e0, e1]; rfl⟩
set_option maxRecDepth 100000 in
theorem elEw {n : Nat} {cs : List Value} {x : DataW HH × List MemPlace} (h : DataW.trod enc Try.prog w base spare held n 26 cs = some x) :
    ∃ a : Ent, cs = EC.enc .ent a ∧ ((-9223372036854775808 ≤ a.1 ∧ a.1 ≤ 9223372036854775807) ∧ (-9223372036854775808 ≤ a.2 ∧ a.2 ≤ 9223372036854775807)) := by
  obtain ⟨y0, y1, m, _, hl, h0, h1⟩ := trod_struct2 Try.underlying26 h
  obtain ⟨k, e0, _, w0⟩ := DataW.trod_int Try.underlying2 h0
  obtain ⟨v, e1, _, w1⟩ := DataW.trod_int Try.underlying2 h1
  have hl : cs.length = 2 := hl.trans (by kernel_rfl)
  have c1 : Try.prog.cellsOf 2 = 1 := by kernel_rfl
  match cs, hl with
  | [a, b], _ =>
    simp [c1] at e0 e1
    exact ⟨(k, v), by rw [e0, e1]; rfl, lit_i64 w0, lit_i64 w1⟩
set_option maxRecDepth 100000 in
theorem openE {v : Value} {d : DataW HH} {p : List MemPlace} (hv : Value.okWide Try.prog w r b0 24 v) (h : DataW.Trod enc Try.prog w base spare held 24 v d p) :
    ∃ (l : List Ent), Imm C0 w v EC.ent l := by
  obtain ⟨A, n, c, l, rfl, hr⟩ := openRow (α := Ent) (f := fun x => EC.enc .ent x) (sz := 2) Try.underlying24 (by kernel_rfl) (by decide) (fun _ => rfl) (fun h => elE h) hv h
  obtain rfl := hr.len
  exact ⟨l, A, c, rfl, hr⟩
set_option maxRecDepth 100000 in
/-- The same with what the entries' numbers are. -/
theorem openEw {v : Value} {d : DataW HH} {p : List MemPlace} (hv : Value.okWide Try.prog w r b0 24 v) (h : DataW.Trod enc Try.prog w base spare held 24 v d p) :
    ∃ (l : List Ent), Imm C0 w v EC.ent l ∧ ∀ x ∈ l, (-9223372036854775808 ≤ x.1 ∧ x.1 ≤ 9223372036854775807) ∧ (-9223372036854775808 ≤ x.2 ∧ x.2 ≤ 9223372036854775807) := by
  obtain ⟨A, n, c, l, rfl, hr, hq⟩ := openRowQ (α := Ent) (f := fun x => EC.enc .ent x) (sz := 2) Try.underlying24 (by kernel_rfl) (by decide) (fun _ => rfl) (fun h => elEw h) hv h
  obtain rfl := hr.len
  exact ⟨l, ⟨A, c, rfl, hr⟩, hq⟩
set_option maxRecDepth 100000 in
/-- An entry that comes by value. -/
theorem open_e {v : Value} {d : DataW HH} {p : List MemPlace} (hv : Value.okWide Try.prog w r b0 26 v) (h : DataW.Trod enc Try.prog w base spare held 26 v d p) :
    ∃ a b : Int, v = .agg #[.int .i64 a, .int .i64 b] ∧ ((-9223372036854775808 ≤ a ∧ a ≤ 9223372036854775807) ∧ (-9223372036854775808 ≤ b ∧ b ≤ 9223372036854775807)) := by
  obtain ⟨cs, rfl, _⟩ := okWide_struct Try.underlying26 hv
  obtain ⟨fuel, hh⟩ := h
  obtain ⟨a, e, hb⟩ := elEw hh
  refine ⟨a.1, a.2, ?_, hb⟩
  have e : cs.toList = [.int .i64 a.1, .int .i64 a.2] := e
  congr 1
  apply Array.ext'
  rw [e]
instance : Inhabited Chg := ⟨⟨0, 0, 0, 0⟩⟩
end
end Go.Proofs.Ytjbkckcjmmmooaa.Sx
end
section
/- 'JoinConcatenates': the law returns true for every input, and its arguments read afterwards as they read before. -/
namespace Go.Proofs.Ytjbkckcjmmmooaa.joinConcatenates
open Go.ChangeShapes Go.WideShapes Go.ChangeAt Go.RowKit Sx

set_option maxRecDepth 100000 in
theorem lifted (os : Os) (started : os.Started) (H : Type) (enc : TypeId × Value → H) :
    ReturnsInHanded {} Try.checked os 12 .any (Rows.joinConcatenatesSpec.pre6 enc Try.prog Try.f12 Rows.joinConcatenatesRow.domain false) (Rows.joinConcatenatesSpec.post enc Try.prog Try.f12 false true false false) := by
  refine returnsInHanded_of_change (C := Try.checked) ownK started (by kernel_rfl) Try.func12
    (ChangeSpec.witness6 (enc := enc) (C := Try.checked) false ⟨#[], #[.slice none 0 0, .int .i64 0, .int .i64 0, .int .u64 0, .bool false, .int .u16 0], []⟩ 8 (by kernel_rfl) (by kernel_rfl) (by kernel_rfl) (by kernel_rfl)) ?_
  intro W base args ds gs before hval0 hW hcnd _
  have hval : ∀ (j : Nat) t v, Try.f12.params[j]? = some t → args[j]? = some v → Value.okWide Try.prog W .any base t v := hval0
  have hW' := hW
  obtain ⟨p, q, hA0, hV, rfl, hfz, hnd⟩ := hW
  have hA : DataW.TrodAll enc Try.prog W 0 (fun _ => true) true Try.f12.params.toList args.toList ds p := hA0
  rw [Try.params12] at hA hval
  obtain ⟨v0, vs0, d0, ds0, p0, q0, hargs, rfl, rfl, h0, r0⟩ := trodAll_cons hA
  obtain ⟨v1, vs1, d1, ds1, p1, q1, rfl, rfl, rfl, h1, r1⟩ := trodAll_cons r0
  obtain ⟨v2, vs2, d2, ds2, p2, q2, rfl, rfl, rfl, h2, r2⟩ := trodAll_cons r1
  obtain ⟨v3, vs3, d3, ds3, p3, q3, rfl, rfl, rfl, h3, r3⟩ := trodAll_cons r2
  obtain ⟨v4, vs4, d4, ds4, p4, q4, rfl, rfl, rfl, h4, r4⟩ := trodAll_cons r3
  obtain ⟨v5, vs5, d5, ds5, p5, q5, rfl, rfl, rfl, h5, r5⟩ := trodAll_cons r4
  obtain ⟨rfl, rfl, rfl⟩ := trodAll_nil r5
  obtain rfl : args = #[v0, v1, v2, v3, v4, v5] := by cases args; simp_all
  obtain ⟨rfl, rfl⟩ := trodVars_none hV
  have k0 := h0
  have k1 := h1
  have k2 := h2
  have k3 := h3
  have k4 := h4
  have k5 := h5
  clear hA0 hval0
  simp only [List.append_nil] at hW'
  have hlt : ∀ x ∈ p0 ++ (p1 ++ (p2 ++ (p3 ++ (p4 ++ (p5))))), x.block < W.heap.size := fun x hx => by simpa using hW'.lt x (by simpa using hx)
  have l0 : ∀ x ∈ p0, x.block < W.heap.size := fun x hx => hlt x (by simp [hx])
  have l1 : ∀ x ∈ p1, x.block < W.heap.size := fun x hx => hlt x (by simp [hx])
  have l2 : ∀ x ∈ p2, x.block < W.heap.size := fun x hx => hlt x (by simp [hx])
  have l3 : ∀ x ∈ p3, x.block < W.heap.size := fun x hx => hlt x (by simp [hx])
  have l4 : ∀ x ∈ p4, x.block < W.heap.size := fun x hx => hlt x (by simp [hx])
  have l5 : ∀ x ∈ p5, x.block < W.heap.size := fun x hx => hlt x (by simp [hx])
  obtain ⟨L0, R0⟩ := openE (hval 0 24 v0 rfl rfl) h0
  obtain ⟨a1, rfl, rfl, rfl, w1⟩ := open_int Try.underlying3 (hval 1 3 v1 rfl rfl) h1
  have b1 := lit_i64 w1
  obtain ⟨a2, rfl, rfl, rfl, w2⟩ := open_int Try.underlying3 (hval 2 3 v2 rfl rfl) h2
  have b2 := lit_i64 w2
  obtain ⟨a3, rfl, rfl, rfl, w3⟩ := open_int Try.underlying22 (hval 3 22 v3 rfl rfl) h3
  have b3 := lit_u64 w3
  obtain ⟨a4, rfl, rfl, rfl⟩ := open_bool Try.underlying4 (hval 4 4 v4 rfl rfl) h4
  obtain ⟨a5, rfl, rfl, rfl, w5⟩ := open_int Try.underlying67 (hval 5 67 v5 rfl rfl) h5
  have b5 := lit_u16 w5
  refine (lawOf s_jcl (args := [.at (.slc 0), .at (.val (.int .i64 a1)), .at (.val (.int .i64 a2)), .at (.val (.int .u64 a3)), .at (.val (.bool a4)), .at (.val (.int .u16 a5))]) (H := [Chunk.row false EC.ent L0]) (vs := [v0, .int .i64 a1, .int .i64 a2, .int .u64 a3, .bool a4, .int .u16 a5]) (σ := fun n => [v0].getD n undef) (w := W) (fun K h => ⟨b3.1, b5.1, by have := b5.2; omega, h⟩)
    (Sat.imms [v0] _ fun n c hc => by match n, hc with | 0, hc => exact ⟨_, _, (Option.some.inj hc).symm, R0⟩ | n + 1, hc => simp at hc) (Rels.cons rfl (Rels.cons rfl (Rels.cons rfl (Rels.cons rfl (Rels.cons rfl (Rels.cons rfl Rels.nil)))))) (by simp [TV.names, At.names])).mono fun e W' ⟨he, hg⟩ => ?_
  subst he
  exact ⟨_, rfl, _, _, _, [] ++ [], _, [], hW', (trodAll_cons_mk (shut_bool Try.underlying4 true) trodAll_mk0), (trodAll_cons_mk (Below.trod laidO (by kernel_rfl) (of_decide_eq_true (by kernel_rfl)) k0 hg l0) (trodAll_cons_mk (Below.trod laidO (by kernel_rfl) (of_decide_eq_true (by kernel_rfl)) k1 hg l1) (trodAll_cons_mk (Below.trod laidO (by kernel_rfl) (of_decide_eq_true (by kernel_rfl)) k2 hg l2) (trodAll_cons_mk (Below.trod laidO (by kernel_rfl) (of_decide_eq_true (by kernel_rfl)) k3 hg l3) (trodAll_cons_mk (Below.trod laidO (by kernel_rfl) (of_decide_eq_true (by kernel_rfl)) k4 hg l4) (trodAll_cons_mk (Below.trod laidO (by kernel_rfl) (of_decide_eq_true (by kernel_rfl)) k5 hg l5) trodAll_mk0)))))), rfl, hg.frame _, fun h => by cases h⟩

theorem over : Rows.joinConcatenatesRow.holds Try.pinned (OpenSpec.ofChange Rows.joinConcatenatesSpec) :=
  OpenClaim.holds_of_wide 12 Try.f12 rfl rfl rfl rfl rfl rfl rfl ⟨rfl, rfl, rfl, rfl, rfl⟩ rfl rfl rfl rfl rfl (by kernel_rfl) Try.func12 (by kernel_rfl)
    (of_decide_eq_true (by kernel_rfl)) (by unfold Func.isWrapper; first | (rw [if_pos (by decide +kernel)]; kernel_rfl) | (rw [if_neg (by decide +kernel)]; exact ⟨rfl, rfl⟩))
    (fun os started H enc _ => lifted os started H enc)

theorem proved : Rows.JoinConcatenatesSaid := over
#print axioms proved
end Go.Proofs.Ytjbkckcjmmmooaa.joinConcatenates
end
