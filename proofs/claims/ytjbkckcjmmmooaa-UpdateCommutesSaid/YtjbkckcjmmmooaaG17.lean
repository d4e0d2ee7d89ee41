/- A part of the proof. -/
import Derived.Test.YtjbkckcjmmmooaaG16
import Derived.Test.YtjbkckcjmmmooaaProg
import Derived.Test.YtjbkckcjmmmooaaChecked
import Derived.WalkKit
import Derived.ProofKit
import Derived.OpenShut
import Derived.SizedLaws
import Derived.Carry
import Derived.Test.YtjbkckcjmmmooaaG6
import Derived.Deep.Slices
import Derived.Lib.SmallJoins
section
/- The law that Delete deletes. -/
namespace Go.Proofs.Ytjbkckcjmmmooaa.Sx
open Go

/-KEEP Wf exW inU live Arn.cap Arn.free Rep rdS retL Tr.size Tr.list slotsOf orderOf PlantR newS insE outE listE getE TrR upM Hn keptD Asc Tr.Bal ht dB RepD List.Perm-/
structure XUe (P : Arn → Int → List Ent → Int → Prop) where
  S : Arn
  i : Int
  l : List Ent
  need : Int
  k : Int
  h : P S i l need
structure UdS where
  S0 : Arn
  S : Arn
  root : Int
  l : List Ent
  need : Int
  k : Int
  v : Int
  is : Bool
  d : List SlotT
  o : List Int
  r : Int
  i : Int
  w : Int
  f : Int
structure XUd (P : UdS → Prop) where
  z : UdS
  h : P z
structure XUw (P : UdS → Int → Prop) where
  z : UdS
  want : Int
  h : P z want
abbrev chUd (raw : List Ent) (z : UdS) : List (Chunk C0) := [.row false EC.ent raw] ++ chSk 1 z.S ++ [.row true EC.ent z.l, .box [.slc 10, .slc 11], .row true EC.slot z.d, .row true EC.u32 z.o]
noncomputable def aUd (raw : List Ent) (P : Arn → Int → List Ent → Int → Prop) (P2 : UdS → Prop) (P3 : UdS → Int → Prop) : Ann C0 := { quiet := [30, 38, 22, 31, 39, 32, 26], Γ := [(34, frameT [] tLst), (40, frameT [] (tRes1 4 0)), (37, frameT [] tSpare), (17, frameT [] tGrow), (18, frameT [] tAw14), (15, frameT [] tMod), (27, frameT [] tGet), (30, frameT [] tDump), (19, frameT [] tReads), (20, frameT [] tUpD), (24, frameT [] tMh), (23, frameT [] tWi), (31, frameT [] tSound), (38, frameT [] tSameD), (26, frameT [] tDel), (32, frameT [] tTr7), (39, frameT [] tKept)], inv := fun n => match n with
  | 1008 => some { X := XUe P, sl := [13, 14, 11, 12, 2], tf := fun x => [.one (.at (.ptr 1 0)), vi .u32 x.i, .one (.at (.slc 8)), vi .i64 x.need, vi .i64 x.k], hf := fun x => [.row false EC.ent raw] ++ chSk 1 x.S ++ [.row true EC.ent x.l] }
  | 1011 => some { X := XUd P2, sl := [13, 14, 11, 12, 2, 16, 17, 18, 19, 20, 21, 22], tf := fun x => [.one (.at (.ptr 1 0)), vi .u32 x.z.root, .one (.at (.slc 8)), vi .i64 x.z.need, vi .i64 x.z.k, vi .i64 x.z.v, vb x.z.is, .one (.at (.ptr 9 0)), vi .u64 x.z.r, vi .u32 x.z.i, vi .i64 x.z.w, vi .i64 x.z.f], hf := fun x => chUd raw x.z }
  | 1018 => some { X := XUw P3, sl := [13, 14, 11, 12, 2, 16, 18, 20, 21, 22, 23], tf := fun x => [.one (.at (.ptr 1 0)), vi .u32 x.z.root, .one (.at (.slc 8)), vi .i64 x.z.need, vi .i64 x.z.k, vi .i64 x.z.v, .one (.at (.ptr 9 0)), vi .u32 x.z.i, vi .i64 x.z.w, vi .i64 x.z.f, vi .i64 x.want], hf := fun x => chUd raw x.z }
  | _ => none }
def tUd : Tfm C0 := fun args H K => match args, H with
  | [.at (.slc 0), .at (.val (.int .u64 t)), .at (.val (.int .i64 _)), .at (.val (.int .i64 at')), .at (.val (.int .u16 f))], [.row false .ent raw] => 0 ≤ t ∧ -9223372036854775808 ≤ at' ∧ at' ≤ 9223372036854775807 ∧ 0 ≤ f ∧ f ≤ 65535 ∧ K (.one (.at (vB true))) [.row false EC.ent raw] []
  | _, _ => False
theorem outE_flt (l : List Ent) (k : Int) : outE l k k = flt (neK k) l := by
  unfold outE flt neK
  congr 1
  funext x
  by_cases h : x.1 = k
  · simp [h]
  · rw [decide_eq_true (show x.1 ≠ k from h)]
    simp; omega
def PUe (S : Arn) (i : Int) (l : List Ent) (need : Int) : Prop := ∃ t, upM S [i] t i ∧ t.list = l ∧ t.size = l.length ∧ l.length ≤ 150 ∧ need = 4 * (Hn (l.length : Int) + 2) ∧ S.reads = 0
/-- What Delete comes to. -/
def PUd (z : UdS) : Prop := ∃ t, upM z.S0 [z.root] t z.root ∧ t.list = z.l ∧ t.size = z.l.length ∧ z.l.length ≤ 150 ∧ z.need = 4 * (Hn (z.l.length : Int) + 2) ∧ z.r = 0 ∧ z.d = slotsOf z.S0 ∧ z.o = orderOf z.S0 ∧ 0 ≤ z.S.reads ∧ z.S.reads ≤ 60 * (Hn ((z.l.length : Int) + 1) + 2) ∧ z.v = (getE z.l z.k).getD 0 ∧ z.is = (getE z.l z.k).isSome ∧
  ((getE z.l z.k = none ∧ z.f = 4 ∧ z.i = 0 ∧ z.w = 0 ∧ ∃ m, z.S = rdS z.S0 m) ∨
   ((getE z.l z.k).isSome = true ∧ z.S0.free < z.need ∧ z.f = 2 ∧ z.i = 0 ∧ z.w = 0 ∧ ∃ m, z.S = rdS z.S0 m) ∨
   ((getE z.l z.k).isSome = true ∧ z.need ≤ z.S0.free ∧ z.f = 0 ∧ z.w = z.v ∧ ∃ (m r : Nat), (m : Int) ≤ z.need ∧ TrR z.S0 [z.root] (flt (neK z.k) z.l) m r z.S z.i))
def PUw (z : UdS) (want : Int) : Prop := PUd z ∧ want = z.f
theorem vc_ud (raw : List Ent) (t k at' f : Int) (K : KT) (h0 : 0 ≤ t) (f1 : 0 ≤ f) (f2 : f ≤ 65535) (h : K (.one (.at (vB true))) [.row false EC.ent raw] []) :
    vc C0 (aUd raw PUe PUd PUw) Try.f7 [.at (.slc 0), .at (vU64 t), .at (vI k), .at (vI at'), .at (.val (.int .u16 f))] [.row false EC.ent raw] (normK 1 K) := by
  generalize hP : PUe = P
  generalize hP2 : PUd = P2
  generalize hP3 : PUw = P3
  refine Eq.mp (show (((0 : Int) ≤ 150) ∧
((150 : Int) ≤ 1000000) ∧
(0 ≤ (↑(listE raw (Int.toNat 150)).length : Int)) ∧
((↑(listE raw (Int.toNat 150)).length : Int) ≤ 65536) ∧
(∀ p : Int,
  (((p) = (4 * (Hn ((↑(listE raw (Int.toNat 150)).length : Int) + 0) + 2))) →
  ((0 ≤ f) ∧
  (f ≤ 65535) ∧
  (0 ≤ p) ∧
  (p ≤ 60000) ∧
  (∀ s : Int,
    ((0 ≤ s) →
    ((s ≤ p + 8) →
    ((0 ≤ t) ∧
    (1 ≤ IntKind.i64.wrap (1 + s)) ∧
    (IntKind.i64.wrap (1 + s) ≤ 30000) ∧
    ((listE raw (Int.toNat 150)).length ≤ 30000) ∧
    (∀ S' : Arn,
      (∀ i : Int,
        ((PlantR (newS ((↑(listE raw (Int.toNat 150)).length : Int) + IntKind.i64.wrap (1 + s)).toNat) [] (listE raw (Int.toNat 150)) S' i) →
        ((brS (decide ((↑(listE raw (Int.toNat 150)).length : Int) > 0))
          ((brS (at'.tmod 4 != 0)
            (((0 < (↑(listE raw (Int.toNat 150)).length : Int)) ∧
            ((↑(listE raw (Int.toNat 150)).length : Int) ≤ 9223372036854775807) ∧
            (∀ x : Int,
              (((x) = (at' % (↑(listE raw (Int.toNat 150)).length : Int))) →
              ((0 ≤ x) ∧
              (x < (↑(listE raw (Int.toNat 150)).length : Int)) ∧
              (∃ x1 : XUe P,
                (True ∧
                (((Value.int IntKind.i64 (((listE raw (Int.toNat 150)).getD x.toNat (0, 0)).fst)) = (Value.int IntKind.i64 (x1.k))) ∧
                True ∧
                ((Value.int IntKind.i64 (p)) = (Value.int IntKind.i64 (x1.need))) ∧
                True ∧
                ((Value.int IntKind.u32 (i)) = (Value.int IntKind.u32 (x1.i))) ∧
                True) ∧
                ((raw) = (raw)) ∧
                (True ∧
                True ∧
                True ∧
                ((Value.int IntKind.u64 (S'.reads)) = (Value.int IntKind.u64 (x1.S.reads))) ∧
                True) ∧
                (True ∧
                True ∧
                True ∧
                ((Value.int IntKind.u32 (S'.fresh)) = (Value.int IntKind.u32 (x1.S.fresh))) ∧
                True) ∧
                ((S'.nodes) = (x1.S.nodes)) ∧
                ((S'.counts) = (x1.S.counts)) ∧
                ((S'.used) = (x1.S.used)) ∧
                ((S'.gen) = (x1.S.gen)) ∧
                ((S'.rel) = (x1.S.rel)) ∧
                ((listE raw (Int.toNat 150)) = (x1.l)) ∧
                True)))))))
            ((∃ x : XUe P,
              (True ∧
              (((Value.int IntKind.i64 (k)) = (Value.int IntKind.i64 (x.k))) ∧
              True ∧
              ((Value.int IntKind.i64 (p)) = (Value.int IntKind.i64 (x.need))) ∧
              True ∧
              ((Value.int IntKind.u32 (i)) = (Value.int IntKind.u32 (x.i))) ∧
              True) ∧
              ((raw) = (raw)) ∧
              (True ∧
              True ∧
              True ∧
              ((Value.int IntKind.u64 (S'.reads)) = (Value.int IntKind.u64 (x.S.reads))) ∧
              True) ∧
              (True ∧
              True ∧
              True ∧
              ((Value.int IntKind.u32 (S'.fresh)) = (Value.int IntKind.u32 (x.S.fresh))) ∧
              True) ∧
              ((S'.nodes) = (x.S.nodes)) ∧
              ((S'.counts) = (x.S.counts)) ∧
              ((S'.used) = (x.S.used)) ∧
              ((S'.gen) = (x.S.gen)) ∧
              ((S'.rel) = (x.S.rel)) ∧
              ((listE raw (Int.toNat 150)) = (x.l)) ∧
              True)))))
          ((∃ x : XUe P,
            (True ∧
            (((Value.int IntKind.i64 (k)) = (Value.int IntKind.i64 (x.k))) ∧
            True ∧
            ((Value.int IntKind.i64 (p)) = (Value.int IntKind.i64 (x.need))) ∧
            True ∧
            ((Value.int IntKind.u32 (i)) = (Value.int IntKind.u32 (x.i))) ∧
            True) ∧
            ((raw) = (raw)) ∧
            (True ∧
            True ∧
            True ∧
            ((Value.int IntKind.u64 (S'.reads)) = (Value.int IntKind.u64 (x.S.reads))) ∧
            True) ∧
            (True ∧
            True ∧
            True ∧
            ((Value.int IntKind.u32 (S'.fresh)) = (Value.int IntKind.u32 (x.S.fresh))) ∧
            True) ∧
            ((S'.nodes) = (x.S.nodes)) ∧
            ((S'.counts) = (x.S.counts)) ∧
            ((S'.used) = (x.S.used)) ∧
            ((S'.gen) = (x.S.gen)) ∧
            ((S'.rel) = (x.S.rel)) ∧
            ((listE raw (Int.toNat 150)) = (x.l)) ∧
            True)))) ∧
        (∀ x : XUe P,
          (True →
          (∀ x1 : Option Int,
            (((x1) = (getE x.l x.k)) →
            ((exW x.S) ∧
            (∀ d : List SlotT,
              (∀ o : List Int,
                (((d) = (slotsOf x.S)) →
                (((o) = (orderOf x.S)) →
                ((∃ hs : List Int,
                  (∃ t1 : Tr,
                    ((upM x.S hs t1 x.i) ∧
                    (((getE t1.list x.k) = none) →
                    (∀ S'1 : Arn,
                      (∀ m : Nat,
                        (((S'1) = (rdS x.S m)) →
                        ((m ≤ ht t1) →
                        (∃ x2 : XUd P2,
                          (True ∧
                          (((Value.int IntKind.i64 (x.k)) = (Value.int IntKind.i64 (x2.z.k))) ∧
                          True ∧
                          ((Value.int IntKind.i64 (x.need)) = (Value.int IntKind.i64 (x2.z.need))) ∧
                          True ∧
                          ((Value.int IntKind.u32 (x.i)) = (Value.int IntKind.u32 (x2.z.root))) ∧
                          ((Value.int IntKind.i64 (x1.getD 0)) = (Value.int IntKind.i64 (x2.z.v))) ∧
                          ((Value.bool (x1.isSome)) = (Value.bool (x2.z.is))) ∧
                          True ∧
                          ((Value.int IntKind.u64 (x.S.reads)) = (Value.int IntKind.u64 (x2.z.r))) ∧
                          ((Value.int IntKind.u32 0) = (Value.int IntKind.u32 (x2.z.i))) ∧
                          ((Value.int IntKind.i64 0) = (Value.int IntKind.i64 (x2.z.w))) ∧
                          ((Value.int IntKind.i64 4) = (Value.int IntKind.i64 (x2.z.f))) ∧
                          True) ∧
                          ((raw) = (raw)) ∧
                          (True ∧
                          True ∧
                          True ∧
                          ((Value.int IntKind.u64 (S'1.reads)) = (Value.int IntKind.u64 (x2.z.S.reads))) ∧
                          True) ∧
                          (True ∧
                          True ∧
                          True ∧
                          ((Value.int IntKind.u32 (S'1.fresh)) = (Value.int IntKind.u32 (x2.z.S.fresh))) ∧
                          True) ∧
                          ((S'1.nodes) = (x2.z.S.nodes)) ∧
                          ((S'1.counts) = (x2.z.S.counts)) ∧
                          ((S'1.used) = (x2.z.S.used)) ∧
                          ((S'1.gen) = (x2.z.S.gen)) ∧
                          ((S'1.rel) = (x2.z.S.rel)) ∧
                          ((x.l) = (x2.z.l)) ∧
                          (True ∧
                          True ∧
                          True) ∧
                          ((d) = (x2.z.d)) ∧
                          ((o) = (x2.z.o)) ∧
                          True))))))) ∧
                    (∀ v : Int,
                      (((getE t1.list x.k) = (some (v))) →
                      ((x.S.free < 4 * (Hn (↑t1.size : Int) + 2)) →
                      (∀ S'1 : Arn,
                        (∀ m : Nat,
                          (((S'1) = (rdS x.S m)) →
                          ((m ≤ ht t1 + 1) →
                          (∃ x2 : XUd P2,
                            (True ∧
                            (((Value.int IntKind.i64 (x.k)) = (Value.int IntKind.i64 (x2.z.k))) ∧
                            True ∧
                            ((Value.int IntKind.i64 (x.need)) = (Value.int IntKind.i64 (x2.z.need))) ∧
                            True ∧
                            ((Value.int IntKind.u32 (x.i)) = (Value.int IntKind.u32 (x2.z.root))) ∧
                            ((Value.int IntKind.i64 (x1.getD 0)) = (Value.int IntKind.i64 (x2.z.v))) ∧
                            ((Value.bool (x1.isSome)) = (Value.bool (x2.z.is))) ∧
                            True ∧
                            ((Value.int IntKind.u64 (x.S.reads)) = (Value.int IntKind.u64 (x2.z.r))) ∧
                            ((Value.int IntKind.u32 0) = (Value.int IntKind.u32 (x2.z.i))) ∧
                            ((Value.int IntKind.i64 0) = (Value.int IntKind.i64 (x2.z.w))) ∧
                            ((Value.int IntKind.i64 2) = (Value.int IntKind.i64 (x2.z.f))) ∧
                            True) ∧
                            ((raw) = (raw)) ∧
                            (True ∧
                            True ∧
                            True ∧
                            ((Value.int IntKind.u64 (S'1.reads)) = (Value.int IntKind.u64 (x2.z.S.reads))) ∧
                            True) ∧
                            (True ∧
                            True ∧
                            True ∧
                            ((Value.int IntKind.u32 (S'1.fresh)) = (Value.int IntKind.u32 (x2.z.S.fresh))) ∧
                            True) ∧
                            ((S'1.nodes) = (x2.z.S.nodes)) ∧
                            ((S'1.counts) = (x2.z.S.counts)) ∧
                            ((S'1.used) = (x2.z.S.used)) ∧
                            ((S'1.gen) = (x2.z.S.gen)) ∧
                            ((S'1.rel) = (x2.z.S.rel)) ∧
                            ((x.l) = (x2.z.l)) ∧
                            (True ∧
                            True ∧
                            True) ∧
                            ((d) = (x2.z.d)) ∧
                            ((o) = (x2.z.o)) ∧
                            True))))))))) ∧
                    (∀ v : Int,
                      (((getE t1.list x.k) = (some (v))) →
                      ((4 * (Hn (↑t1.size : Int) + 2) ≤ x.S.free) →
                      (∀ S'1 : Arn,
                        (∀ j : Int,
                          ((TrR x.S hs (flt (neK x.k) t1.list) (dB t1.size) (5 * dB t1.size + ht t1 + 1) S'1 j) →
                          (∃ x2 : XUd P2,
                            (True ∧
                            (((Value.int IntKind.i64 (x.k)) = (Value.int IntKind.i64 (x2.z.k))) ∧
                            True ∧
                            ((Value.int IntKind.i64 (x.need)) = (Value.int IntKind.i64 (x2.z.need))) ∧
                            True ∧
                            ((Value.int IntKind.u32 (x.i)) = (Value.int IntKind.u32 (x2.z.root))) ∧
                            ((Value.int IntKind.i64 (x1.getD 0)) = (Value.int IntKind.i64 (x2.z.v))) ∧
                            ((Value.bool (x1.isSome)) = (Value.bool (x2.z.is))) ∧
                            True ∧
                            ((Value.int IntKind.u64 (x.S.reads)) = (Value.int IntKind.u64 (x2.z.r))) ∧
                            ((Value.int IntKind.u32 (j)) = (Value.int IntKind.u32 (x2.z.i))) ∧
                            ((Value.int IntKind.i64 (v)) = (Value.int IntKind.i64 (x2.z.w))) ∧
                            ((Value.int IntKind.i64 0) = (Value.int IntKind.i64 (x2.z.f))) ∧
                            True) ∧
                            ((raw) = (raw)) ∧
                            (True ∧
                            True ∧
                            True ∧
                            ((Value.int IntKind.u64 (S'1.reads)) = (Value.int IntKind.u64 (x2.z.S.reads))) ∧
                            True) ∧
                            (True ∧
                            True ∧
                            True ∧
                            ((Value.int IntKind.u32 (S'1.fresh)) = (Value.int IntKind.u32 (x2.z.S.fresh))) ∧
                            True) ∧
                            ((S'1.nodes) = (x2.z.S.nodes)) ∧
                            ((S'1.counts) = (x2.z.S.counts)) ∧
                            ((S'1.used) = (x2.z.S.used)) ∧
                            ((S'1.gen) = (x2.z.S.gen)) ∧
                            ((S'1.rel) = (x2.z.S.rel)) ∧
                            ((x.l) = (x2.z.l)) ∧
                            (True ∧
                            True ∧
                            True) ∧
                            ((d) = (x2.z.d)) ∧
                            ((o) = (x2.z.o)) ∧
                            True))))))))))) ∧
                (∀ x2 : XUd P2,
                  (True →
                  ((0 ≤ IntKind.i64.wrap ((↑x2.z.l.length : Int) + 1)) ∧
                  (IntKind.i64.wrap ((↑x2.z.l.length : Int) + 1) ≤ 2147483647) ∧
                  (∀ h : Int,
                    (((h) = (Hn (IntKind.i64.wrap ((↑x2.z.l.length : Int) + 1)))) →
                    ((0 ≤ x2.z.r) ∧
                    (x2.z.r ≤ x2.z.S.reads) ∧
                    (x2.z.S.reads ≤ 4000000000000000000) ∧
                    (x2.z.S.reads - x2.z.r ≤ IntKind.i64.wrap (60 * IntKind.i64.wrap (h + 2))) ∧
                    (IntKind.i64.wrap (60 * IntKind.i64.wrap (h + 2)) ≤ 4000000000000000000) ∧
                    (brS (!x2.z.is)
                      ((∃ x3 : XUw P3,
                        (True ∧
                        (((Value.int IntKind.i64 (x2.z.k)) = (Value.int IntKind.i64 (x3.z.k))) ∧
                        True ∧
                        ((Value.int IntKind.i64 (x2.z.need)) = (Value.int IntKind.i64 (x3.z.need))) ∧
                        True ∧
                        ((Value.int IntKind.u32 (x2.z.root)) = (Value.int IntKind.u32 (x3.z.root))) ∧
                        ((Value.int IntKind.i64 (x2.z.v)) = (Value.int IntKind.i64 (x3.z.v))) ∧
                        True ∧
                        ((Value.int IntKind.u32 (x2.z.i)) = (Value.int IntKind.u32 (x3.z.i))) ∧
                        ((Value.int IntKind.i64 (x2.z.w)) = (Value.int IntKind.i64 (x3.z.w))) ∧
                        ((Value.int IntKind.i64 (x2.z.f)) = (Value.int IntKind.i64 (x3.z.f))) ∧
                        ((Value.int IntKind.i64 4) = (Value.int IntKind.i64 (x3.want))) ∧
                        True) ∧
                        ((raw) = (raw)) ∧
                        (True ∧
                        True ∧
                        True ∧
                        ((Value.int IntKind.u64 (x2.z.S.reads)) = (Value.int IntKind.u64 (x3.z.S.reads))) ∧
                        True) ∧
                        (True ∧
                        True ∧
                        True ∧
                        ((Value.int IntKind.u32 (x2.z.S.fresh)) = (Value.int IntKind.u32 (x3.z.S.fresh))) ∧
                        True) ∧
                        ((x2.z.S.nodes) = (x3.z.S.nodes)) ∧
                        ((x2.z.S.counts) = (x3.z.S.counts)) ∧
                        ((x2.z.S.used) = (x3.z.S.used)) ∧
                        ((x2.z.S.gen) = (x3.z.S.gen)) ∧
                        ((x2.z.S.rel) = (x3.z.S.rel)) ∧
                        ((x2.z.l) = (x3.z.l)) ∧
                        (True ∧
                        True ∧
                        True) ∧
                        ((x2.z.d) = (x3.z.d)) ∧
                        ((x2.z.o) = (x3.z.o)) ∧
                        True)))
                      ((brS (decide ((↑x2.z.o.length : Int) < x2.z.need))
                        ((∃ x3 : XUw P3,
                          (True ∧
                          (((Value.int IntKind.i64 (x2.z.k)) = (Value.int IntKind.i64 (x3.z.k))) ∧
                          True ∧
                          ((Value.int IntKind.i64 (x2.z.need)) = (Value.int IntKind.i64 (x3.z.need))) ∧
                          True ∧
                          ((Value.int IntKind.u32 (x2.z.root)) = (Value.int IntKind.u32 (x3.z.root))) ∧
                          ((Value.int IntKind.i64 (x2.z.v)) = (Value.int IntKind.i64 (x3.z.v))) ∧
                          True ∧
                          ((Value.int IntKind.u32 (x2.z.i)) = (Value.int IntKind.u32 (x3.z.i))) ∧
                          ((Value.int IntKind.i64 (x2.z.w)) = (Value.int IntKind.i64 (x3.z.w))) ∧
                          ((Value.int IntKind.i64 (x2.z.f)) = (Value.int IntKind.i64 (x3.z.f))) ∧
                          ((Value.int IntKind.i64 2) = (Value.int IntKind.i64 (x3.want))) ∧
                          True) ∧
                          ((raw) = (raw)) ∧
                          (True ∧
                          True ∧
                          True ∧
                          ((Value.int IntKind.u64 (x2.z.S.reads)) = (Value.int IntKind.u64 (x3.z.S.reads))) ∧
                          True) ∧
                          (True ∧
                          True ∧
                          True ∧
                          ((Value.int IntKind.u32 (x2.z.S.fresh)) = (Value.int IntKind.u32 (x3.z.S.fresh))) ∧
                          True) ∧
                          ((x2.z.S.nodes) = (x3.z.S.nodes)) ∧
                          ((x2.z.S.counts) = (x3.z.S.counts)) ∧
                          ((x2.z.S.used) = (x3.z.S.used)) ∧
                          ((x2.z.S.gen) = (x3.z.S.gen)) ∧
                          ((x2.z.S.rel) = (x3.z.S.rel)) ∧
                          ((x2.z.l) = (x3.z.l)) ∧
                          (True ∧
                          True ∧
                          True) ∧
                          ((x2.z.d) = (x3.z.d)) ∧
                          ((x2.z.o) = (x3.z.o)) ∧
                          True)))
                        ((∃ x3 : XUw P3,
                          (True ∧
                          (((Value.int IntKind.i64 (x2.z.k)) = (Value.int IntKind.i64 (x3.z.k))) ∧
                          True ∧
                          ((Value.int IntKind.i64 (x2.z.need)) = (Value.int IntKind.i64 (x3.z.need))) ∧
                          True ∧
                          ((Value.int IntKind.u32 (x2.z.root)) = (Value.int IntKind.u32 (x3.z.root))) ∧
                          ((Value.int IntKind.i64 (x2.z.v)) = (Value.int IntKind.i64 (x3.z.v))) ∧
                          True ∧
                          ((Value.int IntKind.u32 (x2.z.i)) = (Value.int IntKind.u32 (x3.z.i))) ∧
                          ((Value.int IntKind.i64 (x2.z.w)) = (Value.int IntKind.i64 (x3.z.w))) ∧
                          ((Value.int IntKind.i64 (x2.z.f)) = (Value.int IntKind.i64 (x3.z.f))) ∧
                          ((Value.int IntKind.i64 0) = (Value.int IntKind.i64 (x3.want))) ∧
                          True) ∧
                          ((raw) = (raw)) ∧
                          (True ∧
                          True ∧
                          True ∧
                          ((Value.int IntKind.u64 (x2.z.S.reads)) = (Value.int IntKind.u64 (x3.z.S.reads))) ∧
                          True) ∧
                          (True ∧
                          True ∧
                          True ∧
                          ((Value.int IntKind.u32 (x2.z.S.fresh)) = (Value.int IntKind.u32 (x3.z.S.fresh))) ∧
                          True) ∧
                          ((x2.z.S.nodes) = (x3.z.S.nodes)) ∧
                          ((x2.z.S.counts) = (x3.z.S.counts)) ∧
                          ((x2.z.S.used) = (x3.z.S.used)) ∧
                          ((x2.z.S.gen) = (x3.z.S.gen)) ∧
                          ((x2.z.S.rel) = (x3.z.S.rel)) ∧
                          ((x2.z.l) = (x3.z.l)) ∧
                          (True ∧
                          True ∧
                          True) ∧
                          ((x2.z.d) = (x3.z.d)) ∧
                          ((x2.z.o) = (x3.z.o)) ∧
                          True)))))) ∧
                    (∀ x3 : XUw P3,
                      (True →
                      (brS (x3.z.f != x3.want)
                        ((K (SV.one (TV.at (At.val (Value.bool false)))) [(Chunk.row false (EC.ent) (raw))] []))
                        ((brS (x3.z.f != 0)
                          ((brS (x3.z.i == 0)
                            ((brS (x3.z.w == 0)
                              (((exW x3.z.S) ∧
                              (∀ d1 : List SlotT,
                                (∀ o1 : List Int,
                                  (((d1) = (slotsOf x3.z.S)) →
                                  (((o1) = (orderOf x3.z.S)) →
                                  (((d1) = (x3.z.d)) ∧
                                  ((o1) = (x3.z.o)) ∧
                                  (d1.length ≤ 1000000) ∧
                                  (o1.length ≤ 1000000) ∧
                                  (K (SV.one (TV.at (At.val (Value.bool true)))) [(Chunk.row false (EC.ent) (raw))] []))))))))
                              ((K (SV.one (TV.at (At.val (Value.bool false)))) [(Chunk.row false (EC.ent) (raw))] []))))
                            ((K (SV.one (TV.at (At.val (Value.bool false)))) [(Chunk.row false (EC.ent) (raw))] []))))
                          (((exW x3.z.S) ∧
                          (∀ d1 : List SlotT,
                            (∀ o1 : List Int,
                              (((d1) = (slotsOf x3.z.S)) →
                              (((o1) = (orderOf x3.z.S)) →
                              (brS (x3.z.w == x3.z.v)
                                (((x3.z.l.length ≤ 1000000) ∧
                                (d1.length ≤ 1000000) ∧
                                (∃ t1 : Tr,
                                  ((RepD d1 t1 x3.z.i) ∧
                                  (Asc t1.list) ∧
                                  (t1.Bal) ∧
                                  (t1.size ≤ 2 * d1.length + 2) ∧
                                  (t1.size ≤ 1000000) ∧
                                  ((t1.list) = (outE x3.z.l x3.z.k x3.z.k)))) ∧
                                (keptD x3.z.d d1) ∧
                                (x3.z.d.length ≤ 1000000) ∧
                                (∃ hs : List Int,
                                  ((Wf x3.z.S hs) ∧
                                  ([x3.z.root, x3.z.i].Perm hs) ∧
                                  ([x3.z.root, x3.z.i].length ≤ 1000000) ∧
                                  (K (SV.one (TV.at (At.val (Value.bool (decide (IntKind.i64.wrap ((↑x3.z.o.length : Int) - (↑o1.length : Int)) ≤ x3.z.need)))))) [(Chunk.row false (EC.ent) (raw))] [])))))
                                ((K (SV.one (TV.at (At.val (Value.bool false)))) [(Chunk.row false (EC.ent) (raw))] [])))))))))))))))))))))))))))))))))))))))))) = _ by kernel_rfl) ?_
  subst hP hP2 hP3
  obtain ⟨la, ll⟩ := listE_spec raw 150
  have e150 : Int.toNat 150 = 150 := rfl
  rw [e150]
  generalize listE raw 150 = l at *
  have hH := Hn_rng (l.length : Int)
  rw [Int.add_zero]
  refine ⟨by decide, by decide, by omega, by omega, fun p ep => ⟨f1, f2, by omega, by omega, fun s s1 s2 => ?_⟩⟩
  rw [wrap_id (x := 1 + s) (by omega) (by omega)]
  refine ⟨h0, by omega, by omega, by omega, fun S1 i hp => ?_⟩
  obtain ⟨t1, up, lt, zt⟩ := plant_up hp la (by omega)
  have rd0 : S1.reads = 0 := by rw [hp.rds]; rfl
  have hP : PUe S1 i l p := ⟨t1, up, lt, zt, ll, ep, rd0⟩
  refine ⟨brS_of (fun c => brS_of (fun _ => ⟨by have := of_decide_eq_true c; omega, by omega, fun x ex => ⟨?_, ?_, ⟨S1, i, l, p, (l.getD x.toNat (0, 0)).1, hP⟩, ?_⟩⟩) fun _ => ⟨⟨S1, i, l, p, k, hP⟩, ?_⟩) fun _ => ⟨⟨S1, i, l, p, k, hP⟩, ?_⟩, fun x _ => ?_⟩
  · exact (mod_rng (of_decide_eq_true c) ex).1
  · exact (mod_rng (of_decide_eq_true c) ex).2
  iterate 3 (· (repeat' first | exact trivial | exact rfl | refine And.intro ?_ ?_))
  clear hP hp up lt zt rd0 hH ep s1 s2 la ll t1 S1 i k
  obtain ⟨S, i, m, need, k, ⟨t, up, lt, zt, ll, en, rd0⟩⟩ := x
  dsimp only
  obtain ⟨w, rp, bal, asc, sz, hl, rd⟩ := id up
  have xw : exW S := ⟨_, w⟩
  have hb := Bal.height bal (by omega)
  have hH := Hn_rng t.size
  have hH1 := Hn_rng ((m.length : Int) + 1)
  have hmo := Hn_mono1 t.size
  have hi := dB_Hn t.size
  have fn := w.free_nonneg
  rw [zt] at hmo hH hi hb
  intro x1 e1
  refine ⟨xw, fun d o ed eo => ⟨⟨[i], t, up, fun hs S1 n es hm => ?_, fun v hs hf S1 n es hm => ?_, fun v hs hf S1 j tr => ?_⟩, fun z _ => ?_⟩⟩
  · have q1 : S1.reads = n := by rw [es]; show S.reads + (n : Int) = n; omega
    rw [lt] at hs
    refine ⟨⟨⟨S, S1, i, m, need, k, x1.getD 0, x1.isSome, d, o, S.reads, 0, 0, 4⟩, t, up, lt, zt, ll, en, rd0, ed, eo, by dsimp only; omega, by dsimp only; omega, by dsimp only; rw [e1], by dsimp only; rw [e1], .inl ⟨hs, rfl, rfl, rfl, n, es⟩⟩, ?_⟩
    (repeat' first | exact trivial | exact rfl | refine And.intro ?_ ?_)
  · have q1 : S1.reads = n := by rw [es]; show S.reads + (n : Int) = n; omega
    rw [lt] at hs
    rw [zt] at hf
    refine ⟨⟨⟨S, S1, i, m, need, k, x1.getD 0, x1.isSome, d, o, S.reads, 0, 0, 2⟩, t, up, lt, zt, ll, en, rd0, ed, eo, by dsimp only; omega, by dsimp only; omega, by dsimp only; rw [e1], by dsimp only; rw [e1], .inr (.inl ⟨by dsimp only; rw [hs]; rfl, by dsimp only; omega, rfl, rfl, rfl, n, es⟩)⟩, ?_⟩
    (repeat' first | exact trivial | exact rfl | refine And.intro ?_ ?_)
  · have q0 := tr.got.rd0
    have q1 := tr.got.rd
    rw [zt] at hf q1
    rw [lt] at hs
    refine ⟨⟨⟨S, S1, i, m, need, k, x1.getD 0, x1.isSome, d, o, S.reads, j, v, 0⟩, t, up, lt, zt, ll, en, rd0, ed, eo, by dsimp only; omega, by dsimp only; omega, by dsimp only; rw [e1], by dsimp only; rw [e1], .inr (.inr ⟨by dsimp only; rw [hs]; rfl, by dsimp only; omega, rfl, by dsimp only; rw [e1, hs]; rfl, dB t.size, _, by dsimp only; rw [zt]; omega, by rw [lt] at tr; exact tr⟩)⟩, ?_⟩
    (repeat' first | exact trivial | exact rfl | refine And.intro ?_ ?_)
  clear w rp bal asc sz hl rd xw hb hH hH1 hmo hi fn up lt zt ll en rd0 e1 x1 ed eo d o t k need m i S
  obtain ⟨z, t, up, lt, zt, ll, en, er, ed, eo, r0, r1, ev, ei, oc⟩ := z
  dsimp only
  obtain ⟨w, rp, bal, asc, sz, hl, rd⟩ := id up
  have hH := Hn_rng ((z.l.length : Int) + 1)
  have ol := order_free w
  have fn := w.free_nonneg
  have sl := slots_le w
  have ol' : (z.o.length : Int) = z.S0.free := by rw [eo]; exact ol
  have hP : PUd z := ⟨t, up, lt, zt, ll, en, er, ed, eo, r0, r1, ev, ei, oc⟩
  rw [wrap_id (x := (z.l.length : Int) + 1) (by omega) (by omega)]
  refine ⟨by omega, by omega, fun hh eh => ?_⟩
  rw [wrap_id (x := hh + 2) (by omega) (by omega), wrap_id (x := 60 * (hh + 2)) (by omega) (by omega)]
  refine ⟨by omega, by omega, by omega, by omega, by omega, brS_of (fun c => ⟨⟨z, 4, hP, ?_⟩, ?_⟩) fun c => brS_of (fun c2 => ⟨⟨z, 2, hP, ?_⟩, ?_⟩) fun c2 => ⟨⟨z, 0, hP, ?_⟩, ?_⟩, fun x3 _ => ?_⟩
  · have c : z.is = false := by simpa using c
    rw [ei] at c
    rcases oc with q | q | q
    · exact q.2.1.symm
    · rw [q.1] at c; cases c
    · rw [q.1] at c; cases c
  · (repeat' first | exact trivial | exact rfl | refine And.intro ?_ ?_)
  · have c : z.is = true := by simpa using c
    have c2 : (z.o.length : Int) < z.need := of_decide_eq_true c2
    rw [ei] at c
    rcases oc with q | q | q
    · rw [q.1] at c; cases c
    · exact q.2.2.1.symm
    · omega
  · (repeat' first | exact trivial | exact rfl | refine And.intro ?_ ?_)
  · have c : z.is = true := by simpa using c
    have c2 : ¬ (z.o.length : Int) < z.need := of_decide_eq_false c2
    rw [ei] at c
    rcases oc with q | q | q
    · rw [q.1] at c; cases c
    · omega
    · exact q.2.2.1.symm
  · (repeat' first | exact trivial | exact rfl | refine And.intro ?_ ?_)
  clear ol' hP oc ei ev r0 r1 er ed eo en ll zt lt up w rp bal asc sz hl rd hH ol fn sl eh hh t z
  obtain ⟨z, want, ⟨t, up, lt, zt, ll, en, er, ed, eo, r0, r1, ev, ei, oc⟩, hw⟩ := x3
  dsimp only
  obtain ⟨w, rp, bal, asc, sz, hl, rd⟩ := id up
  have ol := order_free w
  have fn := w.free_nonneg
  have sl := slots_le w
  have same : ∀ m, z.S = rdS z.S0 m → z.S.reads ≤ 5000 → exW z.S ∧ (∀ d1 o1, d1 = slotsOf z.S → o1 = orderOf z.S → d1 = z.d ∧ o1 = z.o ∧ d1.length ≤ 1000000 ∧ o1.length ≤ 1000000 ∧ K (.one (.at (vB true))) [.row false EC.ent raw] []) := fun m e hr => by
    have w1 : Wf z.S [z.root] := by
      have q : z.S.reads = z.S0.reads + m := by rw [e]; rfl
      rw [e]; exact w.rd (by omega)
    exact ⟨⟨_, w1⟩, fun d1 o1 e2 e3 => ⟨by rw [e2, ed, e]; rfl, by rw [e3, eo, e]; rfl, by rw [e2]; have := slots_le w1; omega, by rw [e3]; have := order_len w1; omega, h⟩⟩
  have hH := Hn_rng ((z.l.length : Int) + 1)
  refine bf7 (by rw [hw]; simp) ?_
  rcases oc with ⟨_, q2, q3, q4, m, q5⟩ | ⟨_, _, q2, q3, q4, m, q5⟩ | ⟨_, q0, q2, q3, m, r, q4, tr⟩
  · exact bt7 (by rw [q2]; rfl) (bt7 (by rw [q3]; rfl) (bt7 (by rw [q4]; rfl) (same m q5 (by omega))))
  · exact bt7 (by rw [q2]; rfl) (bt7 (by rw [q3]; rfl) (bt7 (by rw [q4]; rfl) (same m q5 (by omega))))
  · have w1 := tr.got.wf
    have f1 := tr.got.free w
    have fn1 := w1.free_nonneg
    have ol1 := order_free w1
    obtain ⟨u, ru, lu, bu⟩ := tr.tree
    have asc' : Asc z.l := by rw [← lt]; exact asc
    have ut := tr_tree w1 ru lu bu (flt_asc asc')
    refine bf7 (by rw [q2]; rfl) ⟨⟨_, w1⟩, fun d1 o2 e2 e3 => bt7 (by rw [q3]; simp) ⟨by omega, by rw [e2]; have := slots_le w1; omega, ?_, ?_, by rw [ed]; omega, [z.i, z.root], w1, List.Perm.swap _ _ _, by simp, ?_⟩⟩
    · rw [e2, outE_flt]; exact ut
    · rw [ed, e2]; exact kept_of w tr.got.stay tr.got.len
    · have g1 : (z.o.length : Int) = z.S0.free := by rw [eo]; exact ol
      have g2 : (o2.length : Int) = z.S.free := by rw [e3]; exact ol1
      rw [g1, g2, wrap_id (x := z.S0.free - z.S.free) (by omega) (by omega), decide_eq_true (by omega)]
      exact h
theorem s_ud : SoundT C0 7 tUd := by
  refine .of Try.func7 (by decide) rfl fun args H K h hB => ?_
  unfold tUd at h
  split at h <;> try exact h.elim
  rename_i t k at' f raw
  obtain ⟨h1, _, _, h2, h3, h⟩ := h
  exact ⟨aUd raw PUe PUd PUw, ⟨frame C0.ok s_lst _, frame C0.ok s_nDel _, frame C0.ok s_spare14 _, frame C0.ok s_grow _, frame C0.ok s_aw14 _, frame C0.ok s_mod _, frame C0.ok s_get _, frame C0.ok s_dump _, frame C0.ok s_rds _, frame C0.ok s_upD _, frame C0.ok s_ht _, frame C0.ok s_wi _, frame C0.ok s_sound _, frame C0.ok s_sameD _, frame C0.ok s_del _, frame C0.ok s_tr7 _, frame C0.ok s_kept _, trivial⟩, vc_ud raw t k at' f K h1 h2 h3 h⟩
end Go.Proofs.Ytjbkckcjmmmooaa.Sx
end
section
/- update.Increase, and the laws that updates increase, commute and share. -/
namespace Go.Proofs.Ytjbkckcjmmmooaa.Sx
open Go

/-KEEP Wf exW inU live Arn.cap Arn.free Rep rdS retL Tr.size Tr.list slotsOf orderOf PlantR newS insE outE listE getE TrR upM Hn keptD Asc Tr.Bal ht dB iB RepD List.Perm flt neK-/
noncomputable def aInc : Ann C0 := { Γ := [(65, frameT [] tGetT), (21, frameT [] tUpIn)] }
def tInc : Tfm C0 := fun args H K => match args with
  | [.at (.ptr 0 0), .at (.val (.int .u32 r)), .at (.val (.int .i64 k)), .at (.val (.int .i64 n))] => arM H fun S => ∃ hs t, upM S hs t r ∧ S.reads ≤ 900000000000000000 ∧ 4 * (Hn (t.size + 1) + 2) ≤ S.free ∧
    ∀ S' j w, w = IntKind.i64.wrap ((getE t.list k).getD 0 + n) → TrR S hs (insE t.list (k, w)) (iB t.size) (5 * iB t.size + 2 * ht t + 1) S' j → K (.tup [.at (vU j), .at (vI w), .at (vI 0)]) (chS S') W7
  | _ => False
structure XUc (P : Arn → Int → List Ent → Prop) where
  S : Arn
  i : Int
  l : List Ent
  k : Int
  h : P S i l
noncomputable def aUc (raw : List Ent) (P : Arn → Int → List Ent → Prop) : Ann C0 := { quiet := [30, 31, 32, 28], Γ := [(34, frameT [] tLst), (17, frameT [] tGrow), (18, frameT [] tAw14), (15, frameT [] tMod), (27, frameT [] tGet), (30, frameT [] tDump), (54, frameT [] tInc), (31, frameT [] tSound), (28, frameT [] tIns), (32, frameT [] tTr7)], inv := fun n => match n with
  | 1007 => some { X := XUc P, sl := [12, 13, 11, 2], tf := fun x => [.one (.at (.ptr 1 0)), vi .u32 x.i, .one (.at (.slc 8)), vi .i64 x.k], hf := fun x => [.row false EC.ent raw] ++ chSk 1 x.S ++ [.row true EC.ent x.l] }
  | _ => none }
def tUc : Tfm C0 := fun args H K => match args, H with
  | [.at (.slc 0), .at (.val (.int .u64 t)), .at (.val (.int .i64 _)), .at (.val (.int .i64 n)), .at (.val (.int .i64 at'))], [.row false .ent raw] => 0 ≤ t ∧ (-9223372036854775808 ≤ n ∧ n ≤ 9223372036854775807) ∧ (-9223372036854775808 ≤ at' ∧ at' ≤ 9223372036854775807) ∧ (∀ x ∈ raw, -9223372036854775808 ≤ x.2 ∧ x.2 ≤ 9223372036854775807) ∧ K (.one (.at (vB true))) [.row false EC.ent raw] []
  | _, _ => False
theorem vc_inc (S : Arn) (r k n : Int) (K : KT) (hs : List Int) (t : Tr) (hm : upM S hs t r) (hr : S.reads ≤ 900000000000000000) (hf : 4 * (Hn (t.size + 1) + 2) ≤ S.free)
    (h : ∀ S' j w, w = IntKind.i64.wrap ((getE t.list k).getD 0 + n) → TrR S hs (insE t.list (k, w)) (iB t.size) (5 * iB t.size + 2 * ht t + 1) S' j → K (.tup [.at (vU j), .at (vI w), .at (vI 0)]) (chS S') W7) :
    vc C0 aInc Try.f54 [.at (.ptr 0 0), .at (vU r), .at (vI k), .at (vI n)] (chS S) (normK 7 (wideK W7 K)) := by
  refine Eq.mp (show (∃ hs : List Int,
  (∃ t : Tr,
    ((Wf S hs) ∧
    (Rep S t r) ∧
    (Asc t.list) ∧
    (t.size ≤ 1000000) ∧
    (S.reads + (↑t.size : Int) ≤ 3000000000000000000) ∧
    (∀ S' : Arn,
      (∀ m : Nat,
        (∀ o : Option Int,
          (((S') = (rdS S m)) →
          ((m ≤ ht t) →
          (((o) = (getE t.list k)) →
          (∃ hs1 : List Int,
            (∃ t1 : Tr,
              ((upM S' hs1 t1 r) ∧
              (4 * (Hn ((↑t1.size : Int) + 1) + 2) ≤ S'.free) ∧
              (∀ S'1 : Arn,
                (∀ j : Int,
                  (∀ o1 : Option Int,
                    (((o1) = (getE t1.list k)) →
                    ((TrR S' hs1 (insE t1.list (k, IntKind.i64.wrap (o.getD 0 + n))) (iB t1.size) (5 * iB t1.size + ht t1 + 1) S'1 j) →
                    (K (SV.tup [(TV.at (At.val (Value.int IntKind.u32 (j)))), (TV.at (At.val (Value.int IntKind.i64 (IntKind.i64.wrap (o.getD 0 + n))))), (TV.at (At.val (Value.int IntKind.i64 0)))]) [(Chunk.box [(At.ptr 1 0), (At.slc 2), (At.slc 3), (At.val (Value.int IntKind.u64 (S'1.reads)))]), (Chunk.box [(At.slc 4), (At.slc 5), (At.slc 6), (At.val (Value.int IntKind.u32 (S'1.fresh)))]), (Chunk.row true (EC.node) (S'1.nodes)), (Chunk.row true (EC.int) (S'1.counts)), (Chunk.row true (EC.bool) (S'1.used)), (Chunk.row true (EC.u32) (S'1.gen)), (Chunk.row true (EC.u32) (S'1.rel))] [0, 1, 2, 3, 4, 5, 6])))))))))))))))))) = _ by kernel_rfl) ?_
  obtain ⟨w, rp, bal, asc, sz, hl, rd⟩ := hm
  have hrd := w.rds
  have hb := Bal.height bal (by omega)
  have hH := Hn_rng t.size
  refine ⟨hs, t, w, rp, asc, by omega, by omega, fun S1 m o e1 hm1 eo => ?_⟩
  have wl : Wf S1 hs := by rw [e1]; exact w.rd (by omega)
  have rp1 : Rep S1 t r := by rw [e1]; exact rep_rd rp m
  have q1 : S1.reads = S.reads + m := by rw [e1]; rfl
  have f1 : S1.free = S.free := by rw [e1]; rfl
  refine ⟨hs, t, ⟨wl, rp1, bal, asc, sz, hl, by omega⟩, by omega, fun S2 j o2 _ tr => h S2 j _ (by rw [eo]) ⟨?_, tr.tree⟩⟩
  rw [e1] at tr
  exact ((Got.rds (hs := hs) w (by omega)).seq tr.got (fun _ h => h) (fun _ h => h)).mono (by omega) (by omega)
theorem s_inc : SoundT C0 54 tInc := by
  refine .ofW W7 Try.func54 (by decide) rfl fun args H K h hB => ?_
  unfold tInc at h
  split at h <;> try exact h.elim
  unfold arM at h
  split at h <;> try exact h.elim
  rename_i r k n _ rd fr nd ct us gn rl
  obtain ⟨hs, t, h1, h2, h3, h4⟩ := h
  exact ⟨aInc, ⟨frame C0.ok s_getT _, frame C0.ok s_upIn _, trivial⟩, vc_inc ⟨us, gn, rl, fr, nd, ct, rd⟩ r k n K hs t h1 h2 h3 h4⟩
/-! ### The law that Increase increases -/
theorem Hn_le {n m : Nat} (h : n ≤ m) : Hn n ≤ Hn m := by
  have a := gN_size n
  have b := gN_size m
  have c := gN_mono (v := n + 1) (w := m + 1) (by omega) (by omega)
  omega
theorem gN_top {w v g : Nat} (h8 : v ≤ w) (hg : g < 80) (hw : (w : Int) < wt (g + 1)) : gN v ≤ g := by
  by_cases c : gN v ≤ g
  · exact c
  · by_cases z : 1 ≤ v
    · have h1 := gN_wt z
      have h2 := wt_mono (show g + 1 ≤ gN v by omega) (gN_rng v)
      omega
    · have : v = 0 := by omega
      subst this
      exact absurd (show gN 0 ≤ g by have : gN 0 = 0 := by decide
                                     omega) c
theorem Hn_104 {n : Nat} (h : n ≤ 112) : Hn n ≤ 13 := by
  have a := gN_size n
  have b := gN_top (w := 113) (v := n + 1) (g := 13) (by omega) (by omega) (by have : wt (13 + 1) = 115 := by decide
                                                                               omega)
  omega
theorem insE_over {l : List Ent} {k a b : Int} (h : Asc l) : insE (insE l (k, a)) (k, b) = insE l (k, b) :=
  Asc.ext (insE_asc _ (insE_asc _ h)) (insE_asc _ h) fun q => by
    rw [insE_get _ (insE_asc _ h), insE_get _ h, insE_get _ h]
    show (if k = q then some b else if k = q then some a else getE l q) = if k = q then some b else getE l q
    split <;> rfl
theorem wrap_back {v n : Int} (h1 : -9223372036854775808 ≤ v) (h2 : v ≤ 9223372036854775807) : IntKind.i64.wrap (IntKind.i64.wrap (v + n) + IntKind.i64.wrap (0 - n)) = v := by
  unfold IntKind.wrap
  simp [IntKind.signed, IntKind.bits]
  omega
theorem listE_mem' (raw : List Ent) (n : Nat) : ∀ x ∈ listE raw n, x ∈ raw := by
  have key : ∀ (L acc : List Ent), Asc acc → ∀ x ∈ L.foldl insE acc, x ∈ L ∨ x ∈ acc := by
    intro L
    induction L with
    | nil => intro acc _ x hx; exact .inr hx
    | cons y L ih =>
      intro acc ha x hx
      rcases ih (insE acc y) (insE_asc _ ha) x hx with h | h
      · exact .inl (by simp [h])
      · rcases insE_mem ha h with h | h
        · exact .inl (by simp [h])
        · exact .inr h
  intro x hx
  rcases key (raw.take n) [] List.Pairwise.nil x hx with h | h
  · exact List.mem_of_mem_take h
  · simp at h
theorem getE_mem {l : List Ent} {k v : Int} (h : getE l k = some v) : (k, v) ∈ l := by
  induction l with
  | nil => cases h
  | cons x l ih =>
    obtain ⟨a, b⟩ := x
    unfold getE at h
    split at h
    · rename_i e
      rw [← e, ← Option.some.inj h]; simp
    · exact List.mem_cons_of_mem _ (ih h)
def PUc (S : Arn) (i : Int) (l : List Ent) : Prop := ∃ t, upM S [i] t i ∧ t.list = l ∧ t.size = l.length ∧ l.length ≤ 100 ∧ S.free = 200 ∧ S.reads = 0 ∧ ∀ x ∈ l, -9223372036854775808 ≤ x.2 ∧ x.2 ≤ 9223372036854775807
theorem vc_uc (raw : List Ent) (t k n at' : Int) (K : KT) (h0 : 0 ≤ t) (hw : ∀ x ∈ raw, -9223372036854775808 ≤ x.2 ∧ x.2 ≤ 9223372036854775807) (h : K (.one (.at (vB true))) [.row false EC.ent raw] []) :
    vc C0 (aUc raw PUc) Try.f11 [.at (.slc 0), .at (vU64 t), .at (vI k), .at (vI n), .at (vI at')] [.row false EC.ent raw] (normK 1 K) := by
  generalize hP : PUc = P
  refine Eq.mp (show (((0 : Int) ≤ 100) ∧
((100 : Int) ≤ 1000000) ∧
(0 ≤ t) ∧
((1 : Int) ≤ 200) ∧
((200 : Int) ≤ 30000) ∧
((listE raw (Int.toNat 100)).length ≤ 30000) ∧
(∀ S' : Arn,
  (∀ i : Int,
    ((PlantR (newS ((↑(listE raw (Int.toNat 100)).length : Int) + 200).toNat) [] (listE raw (Int.toNat 100)) S' i) →
    ((brS (decide ((↑(listE raw (Int.toNat 100)).length : Int) > 0))
      ((brS (at'.tmod 2 == 0)
        (((0 < (↑(listE raw (Int.toNat 100)).length : Int)) ∧
        ((↑(listE raw (Int.toNat 100)).length : Int) ≤ 9223372036854775807) ∧
        (∀ x : Int,
          (((x) = (IntKind.i64.wrap (at'.tdiv 2) % (↑(listE raw (Int.toNat 100)).length : Int))) →
          ((0 ≤ x) ∧
          (x < (↑(listE raw (Int.toNat 100)).length : Int)) ∧
          (∃ x1 : XUc P,
            (True ∧
            (((Value.int IntKind.i64 (((listE raw (Int.toNat 100)).getD x.toNat (0, 0)).fst)) = (Value.int IntKind.i64 (x1.k))) ∧
            ((Value.int IntKind.i64 (n)) = (Value.int IntKind.i64 (n))) ∧
            True ∧
            True ∧
            ((Value.int IntKind.u32 (i)) = (Value.int IntKind.u32 (x1.i))) ∧
            True) ∧
            ((raw) = (raw)) ∧
            (True ∧
            True ∧
            True ∧
            ((Value.int IntKind.u64 (S'.reads)) = (Value.int IntKind.u64 (x1.S.reads))) ∧
            True) ∧
            (True ∧
            True ∧
            True ∧
            ((Value.int IntKind.u32 (S'.fresh)) = (Value.int IntKind.u32 (x1.S.fresh))) ∧
            True) ∧
            ((S'.nodes) = (x1.S.nodes)) ∧
            ((S'.counts) = (x1.S.counts)) ∧
            ((S'.used) = (x1.S.used)) ∧
            ((S'.gen) = (x1.S.gen)) ∧
            ((S'.rel) = (x1.S.rel)) ∧
            ((listE raw (Int.toNat 100)) = (x1.l)) ∧
            True)))))))
        ((∃ x : XUc P,
          (True ∧
          (((Value.int IntKind.i64 (k)) = (Value.int IntKind.i64 (x.k))) ∧
          ((Value.int IntKind.i64 (n)) = (Value.int IntKind.i64 (n))) ∧
          True ∧
          True ∧
          ((Value.int IntKind.u32 (i)) = (Value.int IntKind.u32 (x.i))) ∧
          True) ∧
          ((raw) = (raw)) ∧
          (True ∧
          True ∧
          True ∧
          ((Value.int IntKind.u64 (S'.reads)) = (Value.int IntKind.u64 (x.S.reads))) ∧
          True) ∧
          (True ∧
          True ∧
          True ∧
          ((Value.int IntKind.u32 (S'.fresh)) = (Value.int IntKind.u32 (x.S.fresh))) ∧
          True) ∧
          ((S'.nodes) = (x.S.nodes)) ∧
          ((S'.counts) = (x.S.counts)) ∧
          ((S'.used) = (x.S.used)) ∧
          ((S'.gen) = (x.S.gen)) ∧
          ((S'.rel) = (x.S.rel)) ∧
          ((listE raw (Int.toNat 100)) = (x.l)) ∧
          True)))))
      ((∃ x : XUc P,
        (True ∧
        (((Value.int IntKind.i64 (k)) = (Value.int IntKind.i64 (x.k))) ∧
        ((Value.int IntKind.i64 (n)) = (Value.int IntKind.i64 (n))) ∧
        True ∧
        True ∧
        ((Value.int IntKind.u32 (i)) = (Value.int IntKind.u32 (x.i))) ∧
        True) ∧
        ((raw) = (raw)) ∧
        (True ∧
        True ∧
        True ∧
        ((Value.int IntKind.u64 (S'.reads)) = (Value.int IntKind.u64 (x.S.reads))) ∧
        True) ∧
        (True ∧
        True ∧
        True ∧
        ((Value.int IntKind.u32 (S'.fresh)) = (Value.int IntKind.u32 (x.S.fresh))) ∧
        True) ∧
        ((S'.nodes) = (x.S.nodes)) ∧
        ((S'.counts) = (x.S.counts)) ∧
        ((S'.used) = (x.S.used)) ∧
        ((S'.gen) = (x.S.gen)) ∧
        ((S'.rel) = (x.S.rel)) ∧
        ((listE raw (Int.toNat 100)) = (x.l)) ∧
        True)))) ∧
    (∀ x : XUc P,
      (True →
      (∀ x1 : Option Int,
        (((x1) = (getE x.l x.k)) →
        (∃ hs : List Int,
          (∃ t1 : Tr,
            ((upM x.S hs t1 x.i) ∧
            (x.S.reads ≤ 900000000000000000) ∧
            (4 * (Hn ((↑t1.size : Int) + 1) + 2) ≤ x.S.free) ∧
            (∀ S'1 : Arn,
              (∀ j : Int,
                (∀ w : Int,
                  (((w) = (IntKind.i64.wrap ((getE t1.list x.k).getD 0 + n))) →
                  ((TrR x.S hs (insE t1.list (x.k, w)) (iB t1.size) (5 * iB t1.size + 2 * ht t1 + 1) S'1 j) →
                  (∃ hs1 : List Int,
                    (∃ t2 : Tr,
                      ((upM S'1 hs1 t2 j) ∧
                      (S'1.reads ≤ 900000000000000000) ∧
                      (4 * (Hn ((↑t2.size : Int) + 1) + 2) ≤ S'1.free) ∧
                      (∀ S'2 : Arn,
                        (∀ j1 : Int,
                          (∀ w1 : Int,
                            (((w1) = (IntKind.i64.wrap ((getE t2.list x.k).getD 0 + IntKind.i64.wrap (0 - n)))) →
                            ((TrR S'1 hs1 (insE t2.list (x.k, w1)) (iB t2.size) (5 * iB t2.size + 2 * ht t2 + 1) S'2 j1) →
                            ((x.l.length ≤ 1000000) ∧
                            (brS (w == IntKind.i64.wrap (x1.getD 0 + n))
                              ((brS (w1 == x1.getD 0)
                                (((exW S'2) ∧
                                (∀ d : List SlotT,
                                  (∀ o : List Int,
                                    (((d) = (slotsOf S'2)) →
                                    (((o) = (orderOf S'2)) →
                                    ((x.l.length ≤ 1000000) ∧
                                    (d.length ≤ 1000000) ∧
                                    (∃ t3 : Tr,
                                      ((RepD d t3 j) ∧
                                      (Asc t3.list) ∧
                                      (t3.Bal) ∧
                                      (t3.size ≤ 2 * d.length + 2) ∧
                                      (t3.size ≤ 1000000) ∧
                                      ((t3.list) = (insE x.l (x.k, IntKind.i64.wrap (x1.getD 0 + n)))))) ∧
                                    (exW S'2) ∧
                                    (∀ d1 : List SlotT,
                                      (∀ o1 : List Int,
                                        (((d1) = (slotsOf S'2)) →
                                        (((o1) = (orderOf S'2)) →
                                        ((d1.length ≤ 1000000) ∧
                                        (∃ t3 : Tr,
                                          ((RepD d1 t3 j1) ∧
                                          (Asc t3.list) ∧
                                          (t3.Bal) ∧
                                          (t3.size ≤ 2 * d1.length + 2) ∧
                                          (t3.size ≤ 1000000) ∧
                                          ((t3.list) = (insE x.l (x.k, x1.getD 0))))) ∧
                                        (∃ hs2 : List Int,
                                          ((Wf S'2 hs2) ∧
                                          ([x.i, j, j1].Perm hs2) ∧
                                          ([x.i, j, j1].length ≤ 1000000) ∧
                                          (K (SV.one (TV.at (At.val (Value.bool true)))) [(Chunk.row false (EC.ent) (raw))] [])))))))))))))))
                                ((K (SV.one (TV.at (At.val (Value.bool false)))) [(Chunk.row false (EC.ent) (raw))] []))))
                              ((K (SV.one (TV.at (At.val (Value.bool false)))) [(Chunk.row false (EC.ent) (raw))] []))))))))))))))))))))))))))))) = _ by kernel_rfl) ?_
  subst hP
  obtain ⟨la, ll⟩ := listE_spec raw 100
  have lm := listE_mem' raw 100
  have e100 : Int.toNat 100 = 100 := rfl
  rw [e100]
  generalize listE raw 100 = l at *
  refine ⟨by decide, by decide, h0, by decide, by decide, by omega, fun S1 i hp => ?_⟩
  obtain ⟨t1, up, lt, zt⟩ := plant_up hp la (by omega)
  have rd0 : S1.reads = 0 := by rw [hp.rds]; rfl
  have fr := plant_free hp
  have hP : PUc S1 i l := ⟨t1, up, lt, zt, ll, by omega, rd0, fun x hx => hw x (lm x hx)⟩
  refine ⟨brS_of (fun c => brS_of (fun _ => ⟨by have := of_decide_eq_true c; omega, by omega, fun x ex => ⟨?_, ?_, ⟨S1, i, l, (l.getD x.toNat (0, 0)).1, hP⟩, ?_⟩⟩) fun _ => ⟨⟨S1, i, l, k, hP⟩, ?_⟩) fun _ => ⟨⟨S1, i, l, k, hP⟩, ?_⟩, fun x _ => ?_⟩
  · exact (mod_rng (of_decide_eq_true c) ex).1
  · exact (mod_rng (of_decide_eq_true c) ex).2
  iterate 3 (· (repeat' first | exact trivial | exact rfl | refine And.intro ?_ ?_))
  clear hP hp up lt zt rd0 fr lm la ll t1 S1 i k
  obtain ⟨S, i, m, k, ⟨t, up, lt, zt, ll, fr, rd0, hv⟩⟩ := x
  dsimp only
  obtain ⟨w, rp, bal, asc, sz, hl, rd⟩ := id up
  have am : Asc m := by rw [← lt]; exact asc
  have hH := Hn_104 (n := m.length + 1) (by omega)
  have hH0 := Hn_104 (n := m.length) (by omega)
  have hH2 := Hn_104 (n := m.length + 2) (by omega)
  rw [show ((m.length + 1 : Nat) : Int) = (m.length : Int) + 1 by omega] at hH
  have hi := iB_Hn m.length
  have hb := Bal.height bal (by omega)
  rw [zt] at hb
  intro x1 e1
  refine ⟨[i], t, up, by omega, by rw [zt]; omega, fun S1 j w ew tr => ?_⟩
  have f1 := tr.got.free up.1
  have q1 := tr.got.rd
  have q0 := tr.got.rd0
  rw [zt] at f1 q1
  obtain ⟨t1, rp1, lt1, bal1⟩ := tr.tree
  rw [lt] at lt1 ew
  have asc1 : Asc t1.list := by rw [lt1]; exact insE_asc _ am
  have z1 : t1.size ≤ m.length + 1 := by rw [← t1.list_len, lt1]; exact insE_len _ _
  have hm1 := Hn_le (n := t1.size + 1) (m := m.length + 2) (by omega)
  rw [show ((t1.size + 1 : Nat) : Int) = (t1.size : Int) + 1 by omega] at hm1
  have w1 := tr.got.wf
  refine ⟨[j, i], t1, ⟨w1, rp1, bal1, asc1, by omega, by simp, by omega⟩, by omega, by omega, fun S2 j2 w2 ew2 tr2 => ⟨by omega, ?_⟩⟩
  have hv0 : -9223372036854775808 ≤ (getE m k).getD 0 ∧ (getE m k).getD 0 ≤ 9223372036854775807 := by
    cases hg : getE m k with
    | none => exact ⟨by decide, by decide⟩
    | some v => exact hv _ (getE_mem hg)
  have eg : getE t1.list k = some w := by rw [lt1, insE_get _ am]; exact if_pos rfl
  have ew3 : w2 = (getE m k).getD 0 := by
    rw [ew2, eg, ew]
    exact wrap_back hv0.1 hv0.2
  have e2 := tr2.got.wf
  obtain ⟨t2, rp2, lt2, bal2⟩ := tr2.tree
  rw [lt1, insE_over am, ew3] at lt2
  have rp1' : Rep S2 t1 j := rp1.held w1 tr2.got.stay (.inr (by simp))
  have u1 := tr_tree e2 rp1' lt1 bal1 (insE_asc _ am)
  have u2 := tr_tree e2 rp2 lt2 bal2 (insE_asc _ am)
  have sl := slots_le e2
  refine bt7 (by rw [ew, e1]; simp) (bt7 (by rw [ew3, e1]; simp) ⟨⟨_, e2⟩, fun d o ed _ => ⟨by omega, by rw [ed]; omega, ?_, ⟨_, e2⟩, fun d1 o1 ed1 _ => ⟨by rw [ed1]; omega, ?_, [j2, j, i], e2, List.reverse_perm [j2, j, i], by simp, h⟩⟩⟩)
  · rw [ed, e1, ← ew]; exact u1
  · rw [ed1, e1]; exact u2
theorem s_uc : SoundT C0 11 tUc := by
  refine .of Try.func11 (by decide) rfl fun args H K h hB => ?_
  unfold tUc at h
  split at h <;> try exact h.elim
  rename_i t k n at' raw
  obtain ⟨h1, _, _, h2, h⟩ := h
  exact ⟨aUc raw PUc, ⟨frame C0.ok s_lst _, frame C0.ok s_grow _, frame C0.ok s_aw14 _, frame C0.ok s_mod _, frame C0.ok s_get _, frame C0.ok s_dump _, frame C0.ok s_inc _, frame C0.ok s_sound _, frame C0.ok s_ins _, frame C0.ok s_tr7 _, trivial⟩, vc_uc raw t k n at' K h1 h2 h⟩
end Go.Proofs.Ytjbkckcjmmmooaa.Sx
end
section
/- The law that updates of different keys commute. -/
namespace Go.Proofs.Ytjbkckcjmmmooaa.Sx
open Go

/-KEEP Wf exW inU live Arn.cap Arn.free Rep rdS retL Tr.size Tr.list slotsOf orderOf PlantR newS insE outE listE getE TrR upM Hn keptD Asc Tr.Bal ht dB iB RepD List.Perm flt neK sameB-/
structure XUm (P : Arn → Int → List Ent → Prop) where
  S : Arn
  i : Int
  l : List Ent
  k : Int
  v : Int
  k2 : Int
  v2 : Int
  h : P S i l
noncomputable def aUm (raw : List Ent) (P : Arn → Int → List Ent → Prop) : Ann C0 := { quiet := [30, 32, 36, 35], Γ := [(34, frameT [] tLst), (17, frameT [] tGrow), (18, frameT [] tAw14), (15, frameT [] tMod), (21, frameT [] tUpIn), (30, frameT [] tDump), (36, frameT [] (tLi7 1000001)), (35, frameT [] tSame_ent), (27, frameT [] tGet), (20, frameT [] tUpDe), (32, frameT [] tTr7)], inv := fun n => match n with
  | 1007 => some { X := XUm P, sl := [12, 13, 11, 7, 8], tf := fun x => [.one (.at (.ptr 1 0)), vi .u32 x.i, .one (.at (.slc 8)), .one (.at (.ptr 9 0)), .one (.at (.ptr 10 0))], hf := fun x => [.row false EC.ent raw] ++ chSk 1 x.S ++ [.row true EC.ent x.l, .box [vI x.k, vI x.v], .box [vI x.k2, vI x.v2]] }
  | _ => none }
def tUm : Tfm C0 := fun args H K => match args, H with
  | [.at (.slc 0), .at (.val (.int .u64 t)), .agg [.val (.int .i64 _), .val (.int .i64 _)], .agg [.val (.int .i64 _), .val (.int .i64 _)], .at (.val (.int .i64 _))], [.row false .ent raw] => 0 ≤ t ∧ K (.one (.at (vB true))) [.row false EC.ent raw] []
  | _, _ => False
theorem flt_get (l : List Ent) (k q : Int) : getE (flt (neK k) l) q = if q = k then none else getE l q := by
  induction l with
  | nil => simp [flt, getE]
  | cons x l ih =>
    obtain ⟨a, b⟩ := x
    have e : flt (neK k) ((a, b) :: l) = (if neK k a = true then [(a, b)] else []) ++ flt (neK k) l := by
      unfold flt
      rw [List.filter_cons]
      split <;> rfl
    rw [e]
    by_cases h : a = k
    · have hn : neK k a = false := by simp [neK, h]
      rw [hn]
      show getE (flt (neK k) l) q = _
      rw [ih]
      by_cases hq : q = k
      · rw [if_pos hq, if_pos hq]
      · rw [if_neg hq, if_neg hq, getE, if_neg (by omega)]
    · have hn : neK k a = true := by simp [neK, h]
      rw [hn]
      show getE ((a, b) :: flt (neK k) l) q = _
      rw [getE, getE, ih]
      by_cases hq : q = k
      · rw [if_pos hq, if_pos hq, if_neg (by omega)]
      · rw [if_neg hq, if_neg hq]
theorem flt_ins_none {l : List Ent} {k v : Int} (h : Asc l) (hn : getE l k = none) : flt (neK k) (insE l (k, v)) = l :=
  Asc.ext (flt_asc (insE_asc _ h)) h fun q => by
    rw [flt_get, insE_get _ h]
    by_cases e : q = k
    · rw [if_pos e, e, hn]
    · rw [if_neg e]
      show (if k = q then some v else getE l q) = _
      rw [if_neg (by omega)]
theorem insE_comm {l : List Ent} {k v k2 v2 : Int} (h : Asc l) (hk : k ≠ k2) : insE (insE l (k, v)) (k2, v2) = insE (insE l (k2, v2)) (k, v) :=
  Asc.ext (insE_asc _ (insE_asc _ h)) (insE_asc _ (insE_asc _ h)) fun q => by
    rw [insE_get _ (insE_asc _ h), insE_get _ h, insE_get _ (insE_asc _ h), insE_get _ h]
    show (if k2 = q then some v2 else if k = q then some v else getE l q) = if k = q then some v else if k2 = q then some v2 else getE l q
    by_cases e : k = q
    · rw [if_pos e, if_neg (by omega), if_pos e]
    · rw [if_neg e, if_neg e]
theorem nums {t : Tr} (h : t.size ≤ 110) (bal : t.Bal) : iB t.size ≤ 53 ∧ 5 * iB t.size + ht t + 1 ≤ 300 ∧ 4 * (Hn ((t.size : Int) + 1) + 2) ≤ 60 ∧ dB t.size ≤ 56 ∧ 5 * dB t.size + ht t + 1 ≤ 300 ∧ 4 * (Hn (t.size : Int) + 2) ≤ 60 := by
  have a := iB_Hn t.size
  have b := dB_Hn t.size
  have c := Bal.height bal (by omega)
  have d := Hn_104 (n := t.size) (by omega)
  have e := Hn_104 (n := t.size + 1) (by omega)
  rw [show ((t.size + 1 : Nat) : Int) = (t.size : Int) + 1 by omega] at e
  omega
/-- What an update leaves: a further held tree, little is used up. -/
theorem step_up {S S' : Arn} {hs : List Int} {L : List Ent} {a r : Nat} {j : Int} (w : Wf S hs) (tr : TrR S hs L a r S' j) (asc : Asc L) (hL : L.length ≤ 60000) (hl : hs.length ≤ 1000000) (hr : S.reads + r ≤ 900000000000000000) :
    Wf S' (j :: hs) ∧ S.free ≤ S'.free + a ∧ S'.reads ≤ S.reads + r ∧ ∃ t, upM S' (j :: hs) t j ∧ t.list = L ∧ t.size = L.length := by
  obtain ⟨t, rp, lt, bt⟩ := tr.tree
  have sz : t.size = L.length := by rw [← t.list_len, lt]
  have := tr.got.rd
  exact ⟨tr.got.wf, tr.got.free w, this, t, ⟨tr.got.wf, rp, bt, by rw [lt]; exact asc, by omega, by simp; omega, by omega⟩, lt, sz⟩
def PUm (S : Arn) (i : Int) (l : List Ent) : Prop := ∃ t, upM S [i] t i ∧ t.list = l ∧ t.size = l.length ∧ l.length ≤ 100 ∧ S.free = 500 ∧ S.reads = 0
theorem vc_um (raw : List Ent) (t k v k2 v2 at' : Int) (K : KT) (h0 : 0 ≤ t) (h : K (.one (.at (vB true))) [.row false EC.ent raw] []) :
    vc C0 (aUm raw PUm) Try.f5 [.at (.slc 0), .at (vU64 t), .agg [vI k, vI v], .agg [vI k2, vI v2], .at (vI at')] [.row false EC.ent raw] (normK 1 K) := by
  generalize hP : PUm = P
  refine Eq.mp (show (((0 : Int) ≤ 100) ∧
((100 : Int) ≤ 1000000) ∧
(0 ≤ t) ∧
((1 : Int) ≤ 500) ∧
((500 : Int) ≤ 30000) ∧
((listE raw (Int.toNat 100)).length ≤ 30000) ∧
(∀ S' : Arn,
  (∀ i : Int,
    ((PlantR (newS ((↑(listE raw (Int.toNat 100)).length : Int) + 500).toNat) [] (listE raw (Int.toNat 100)) S' i) →
    ((brS (decide ((↑(listE raw (Int.toNat 100)).length : Int) > 0))
      ((brS (at'.tmod 2 == 0)
        (((0 < (↑(listE raw (Int.toNat 100)).length : Int)) ∧
        ((↑(listE raw (Int.toNat 100)).length : Int) ≤ 9223372036854775807) ∧
        (∀ x : Int,
          (((x) = (IntKind.i64.wrap (at'.tdiv 2) % (↑(listE raw (Int.toNat 100)).length : Int))) →
          ((0 ≤ x) ∧
          (x < (↑(listE raw (Int.toNat 100)).length : Int)) ∧
          (∃ x1 : XUm P,
            (True ∧
            (True ∧
            True ∧
            True ∧
            True ∧
            ((Value.int IntKind.u32 (i)) = (Value.int IntKind.u32 (x1.i))) ∧
            True) ∧
            ((raw) = (raw)) ∧
            (True ∧
            True ∧
            True ∧
            ((Value.int IntKind.u64 (S'.reads)) = (Value.int IntKind.u64 (x1.S.reads))) ∧
            True) ∧
            (True ∧
            True ∧
            True ∧
            ((Value.int IntKind.u32 (S'.fresh)) = (Value.int IntKind.u32 (x1.S.fresh))) ∧
            True) ∧
            ((S'.nodes) = (x1.S.nodes)) ∧
            ((S'.counts) = (x1.S.counts)) ∧
            ((S'.used) = (x1.S.used)) ∧
            ((S'.gen) = (x1.S.gen)) ∧
            ((S'.rel) = (x1.S.rel)) ∧
            ((listE raw (Int.toNat 100)) = (x1.l)) ∧
            (((Value.int IntKind.i64 (k)) = (Value.int IntKind.i64 (x1.k))) ∧
            ((Value.int IntKind.i64 (v)) = (Value.int IntKind.i64 (x1.v))) ∧
            True) ∧
            (((Value.int IntKind.i64 (((listE raw (Int.toNat 100)).getD x.toNat (0, 0)).fst)) = (Value.int IntKind.i64 (x1.k2))) ∧
            ((Value.int IntKind.i64 (v2)) = (Value.int IntKind.i64 (x1.v2))) ∧
            True) ∧
            True)))))))
        ((∃ x : XUm P,
          (True ∧
          (True ∧
          True ∧
          True ∧
          True ∧
          ((Value.int IntKind.u32 (i)) = (Value.int IntKind.u32 (x.i))) ∧
          True) ∧
          ((raw) = (raw)) ∧
          (True ∧
          True ∧
          True ∧
          ((Value.int IntKind.u64 (S'.reads)) = (Value.int IntKind.u64 (x.S.reads))) ∧
          True) ∧
          (True ∧
          True ∧
          True ∧
          ((Value.int IntKind.u32 (S'.fresh)) = (Value.int IntKind.u32 (x.S.fresh))) ∧
          True) ∧
          ((S'.nodes) = (x.S.nodes)) ∧
          ((S'.counts) = (x.S.counts)) ∧
          ((S'.used) = (x.S.used)) ∧
          ((S'.gen) = (x.S.gen)) ∧
          ((S'.rel) = (x.S.rel)) ∧
          ((listE raw (Int.toNat 100)) = (x.l)) ∧
          (((Value.int IntKind.i64 (k)) = (Value.int IntKind.i64 (x.k))) ∧
          ((Value.int IntKind.i64 (v)) = (Value.int IntKind.i64 (x.v))) ∧
          True) ∧
          (((Value.int IntKind.i64 (k2)) = (Value.int IntKind.i64 (x.k2))) ∧
          ((Value.int IntKind.i64 (v2)) = (Value.int IntKind.i64 (x.v2))) ∧
          True) ∧
          True)))))
      ((∃ x : XUm P,
        (True ∧
        (True ∧
        True ∧
        True ∧
        True ∧
        ((Value.int IntKind.u32 (i)) = (Value.int IntKind.u32 (x.i))) ∧
        True) ∧
        ((raw) = (raw)) ∧
        (True ∧
        True ∧
        True ∧
        ((Value.int IntKind.u64 (S'.reads)) = (Value.int IntKind.u64 (x.S.reads))) ∧
        True) ∧
        (True ∧
        True ∧
        True ∧
        ((Value.int IntKind.u32 (S'.fresh)) = (Value.int IntKind.u32 (x.S.fresh))) ∧
        True) ∧
        ((S'.nodes) = (x.S.nodes)) ∧
        ((S'.counts) = (x.S.counts)) ∧
        ((S'.used) = (x.S.used)) ∧
        ((S'.gen) = (x.S.gen)) ∧
        ((S'.rel) = (x.S.rel)) ∧
        ((listE raw (Int.toNat 100)) = (x.l)) ∧
        (((Value.int IntKind.i64 (k)) = (Value.int IntKind.i64 (x.k))) ∧
        ((Value.int IntKind.i64 (v)) = (Value.int IntKind.i64 (x.v))) ∧
        True) ∧
        (((Value.int IntKind.i64 (k2)) = (Value.int IntKind.i64 (x.k2))) ∧
        ((Value.int IntKind.i64 (v2)) = (Value.int IntKind.i64 (x.v2))) ∧
        True) ∧
        True)))) ∧
    (∀ x : XUm P,
      (True →
      (brS (x.k == x.k2)
        ((K (SV.one (TV.at (At.val (Value.bool true)))) [(Chunk.row false (EC.ent) (raw))] []))
        ((∃ hs : List Int,
          (∃ t1 : Tr,
            ((upM x.S hs t1 x.i) ∧
            (4 * (Hn ((↑t1.size : Int) + 1) + 2) ≤ x.S.free) ∧
            (∀ S'1 : Arn,
              (∀ j : Int,
                (∀ o : Option Int,
                  (((o) = (getE t1.list x.k)) →
                  ((TrR x.S hs (insE t1.list (x.k, x.v)) (iB t1.size) (5 * iB t1.size + ht t1 + 1) S'1 j) →
                  (∃ hs1 : List Int,
                    (∃ t2 : Tr,
                      ((upM S'1 hs1 t2 j) ∧
                      (4 * (Hn ((↑t2.size : Int) + 1) + 2) ≤ S'1.free) ∧
                      (∀ S'2 : Arn,
                        (∀ j1 : Int,
                          (∀ o1 : Option Int,
                            (((o1) = (getE t2.list x.k2)) →
                            ((TrR S'1 hs1 (insE t2.list (x.k2, x.v2)) (iB t2.size) (5 * iB t2.size + ht t2 + 1) S'2 j1) →
                            (∃ hs2 : List Int,
                              (∃ t3 : Tr,
                                ((upM S'2 hs2 t3 x.i) ∧
                                (4 * (Hn ((↑t3.size : Int) + 1) + 2) ≤ S'2.free) ∧
                                (∀ S'3 : Arn,
                                  (∀ j2 : Int,
                                    (∀ o2 : Option Int,
                                      (((o2) = (getE t3.list x.k2)) →
                                      ((TrR S'2 hs2 (insE t3.list (x.k2, x.v2)) (iB t3.size) (5 * iB t3.size + ht t3 + 1) S'3 j2) →
                                      (∃ hs3 : List Int,
                                        (∃ t4 : Tr,
                                          ((upM S'3 hs3 t4 j2) ∧
                                          (4 * (Hn ((↑t4.size : Int) + 1) + 2) ≤ S'3.free) ∧
                                          (∀ S'4 : Arn,
                                            (∀ j3 : Int,
                                              (∀ o3 : Option Int,
                                                (((o3) = (getE t4.list x.k)) →
                                                ((TrR S'3 hs3 (insE t4.list (x.k, x.v)) (iB t4.size) (5 * iB t4.size + ht t4 + 1) S'4 j3) →
                                                ((exW S'4) ∧
                                                (∀ d : List SlotT,
                                                  (∀ o4 : List Int,
                                                    (((d) = (slotsOf S'4)) →
                                                    (((o4) = (orderOf S'4)) →
                                                    ((d.length ≤ 1000000) ∧
                                                    (∃ t5 : Tr,
                                                      ((RepD d t5 j1) ∧
                                                      (t5.size < 1000001) ∧
                                                      (t5.size ≤ 1000000) ∧
                                                      (∀ r : List Ent,
                                                        (((r) = (t5.list)) →
                                                        ((d.length ≤ 1000000) ∧
                                                        (∃ t6 : Tr,
                                                          ((RepD d t6 j3) ∧
                                                          (t6.size < 1000001) ∧
                                                          (t6.size ≤ 1000000) ∧
                                                          (∀ r1 : List Ent,
                                                            (((r1) = (t6.list)) →
                                                            (brS (!sameB r r1)
                                                              ((K (SV.one (TV.at (At.val (Value.bool false)))) [(Chunk.row false (EC.ent) (raw))] []))
                                                              ((∀ x1 : Option Int,
                                                                (((x1) = (getE x.l x.k)) →
                                                                (brS (x1.isSome)
                                                                  ((K (SV.one (TV.at (At.val (Value.bool true)))) [(Chunk.row false (EC.ent) (raw))] []))
                                                                  ((∃ hs4 : List Int,
                                                                    (∃ t7 : Tr,
                                                                      (∃ v1 : Int,
                                                                        ((upM S'4 hs4 t7 j) ∧
                                                                        ((getE t7.list x.k) = (some (v1))) ∧
                                                                        (4 * (Hn (↑t7.size : Int) + 2) ≤ S'4.free) ∧
                                                                        (∀ S'5 : Arn,
                                                                          (∀ j4 : Int,
                                                                            ((TrR S'4 hs4 (flt (neK x.k) t7.list) (dB t7.size) (5 * dB t7.size + ht t7 + 1) S'5 j4) →
                                                                            (brS (v1 == x.v)
                                                                              (((exW S'5) ∧
                                                                              (∀ d1 : List SlotT,
                                                                                (∀ o5 : List Int,
                                                                                  (((d1) = (slotsOf S'5)) →
                                                                                  (((o5) = (orderOf S'5)) →
                                                                                  ((d1.length ≤ 1000000) ∧
                                                                                  (∃ t8 : Tr,
                                                                                    ((RepD d1 t8 j4) ∧
                                                                                    (Asc t8.list) ∧
                                                                                    (t8.Bal) ∧
                                                                                    (t8.size ≤ 2 * d1.length + 2) ∧
                                                                                    (t8.size ≤ 1000000) ∧
                                                                                    ((t8.list) = (x.l)))) ∧
                                                                                  (K (SV.one (TV.at (At.val (Value.bool true)))) [(Chunk.row false (EC.ent) (raw))] []))))))))
                                                                              ((K (SV.one (TV.at (At.val (Value.bool false)))) [(Chunk.row false (EC.ent) (raw))] [])))))))))))))))))))))))))))))))))))))))))))))))))))))))))))))))))))))))) = _ by kernel_rfl) ?_
  subst hP
  obtain ⟨la, ll⟩ := listE_spec raw 100
  have e100 : Int.toNat 100 = 100 := rfl
  rw [e100]
  generalize listE raw 100 = l at *
  refine ⟨by decide, by decide, h0, by decide, by decide, by omega, fun S1 i hp => ?_⟩
  obtain ⟨t1, up, lt, zt⟩ := plant_up hp la (by omega)
  have rd0 : S1.reads = 0 := by rw [hp.rds]; rfl
  have fr := plant_free hp
  have hP : PUm S1 i l := ⟨t1, up, lt, zt, ll, by omega, rd0⟩
  refine ⟨brS_of (fun c => brS_of (fun _ => ⟨by have := of_decide_eq_true c; omega, by omega, fun x ex => ⟨?_, ?_, ⟨S1, i, l, k, v, (l.getD x.toNat (0, 0)).1, v2, hP⟩, ?_⟩⟩) fun _ => ⟨⟨S1, i, l, k, v, k2, v2, hP⟩, ?_⟩) fun _ => ⟨⟨S1, i, l, k, v, k2, v2, hP⟩, ?_⟩, fun x _ => ?_⟩
  · exact (mod_rng (of_decide_eq_true c) ex).1
  · exact (mod_rng (of_decide_eq_true c) ex).2
  iterate 3 (· (repeat' first | exact trivial | exact rfl | refine And.intro ?_ ?_))
  clear hP hp up lt zt rd0 fr la ll t1 S1 i k v k2 v2
  obtain ⟨S, i, m, k, v, k2, v2, ⟨t, up, lt, zt, ll, fr, rd0⟩⟩ := x
  dsimp only
  refine brS_of (fun _ => h) fun c => ?_
  have ne : k ≠ k2 := fun e => by rw [e] at c; simp at c
  obtain ⟨w, rp, bal, asc, sz, hl, rd⟩ := id up
  have am : Asc m := by rw [← lt]; exact asc
  have n0 := nums (t := t) (by omega) bal
  have b1 := insE_len m (k, v)
  have b2 := insE_len (insE m (k, v)) (k2, v2)
  have b3 := insE_len m (k2, v2)
  have b4 := insE_len (insE m (k2, v2)) (k, v)
  have a1 := insE_asc (k, v) am
  have a2 := insE_asc (k2, v2) a1
  have a3 := insE_asc (k2, v2) am
  have a4 := insE_asc (k, v) a3
  refine ⟨[i], t, up, by omega, fun S1 j1 _ _ tr1 => ?_⟩
  rw [lt] at tr1
  obtain ⟨w1, f1, r1, t1, up1, lt1, zt1⟩ := step_up w tr1 a1 (by omega) (by simp) (by omega)
  have n1 := nums (t := t1) (by omega) up1.2.2.1
  refine ⟨[j1, i], t1, up1, by omega, fun S2 j2 _ _ tr2 => ?_⟩
  rw [lt1] at tr2
  obtain ⟨w2, f2, r2, t2, up2, lt2, zt2⟩ := step_up w1 tr2 a2 (by omega) (by simp) (by omega)
  have rpi2 : Rep S2 t i := (rp.held w tr1.got.stay (.inr (by simp))).held w1 tr2.got.stay (.inr (by simp))
  have rp12 : Rep S2 t1 j1 := up1.2.1.held w1 tr2.got.stay (.inr (by simp))
  refine ⟨[j2, j1, i], t, ⟨w2, rpi2, bal, asc, sz, by simp, by omega⟩, by omega, fun S3 j3 _ _ tr3 => ?_⟩
  rw [lt] at tr3
  obtain ⟨w3, f3, r3, t3, up3, lt3, zt3⟩ := step_up w2 tr3 a3 (by omega) (by simp) (by omega)
  have n3 := nums (t := t3) (by omega) up3.2.2.1
  have rp13 : Rep S3 t1 j1 := rp12.held w2 tr3.got.stay (.inr (by simp))
  have rp23 : Rep S3 t2 j2 := up2.2.1.held w2 tr3.got.stay (.inr (by simp))
  refine ⟨[j3, j2, j1, i], t3, up3, by omega, fun S4 j4 _ _ tr4 => ?_⟩
  rw [lt3] at tr4
  obtain ⟨w4, f4, r4, t4, up4, lt4, zt4⟩ := step_up w3 tr4 a4 (by omega) (by simp) (by omega)
  have rp14 : Rep S4 t1 j1 := rp13.held w3 tr4.got.stay (.inr (by simp))
  have rp24 : Rep S4 t2 j2 := rp23.held w3 tr4.got.stay (.inr (by simp))
  have sl := slots_le w4
  refine ⟨⟨_, w4⟩, fun d o ed _ => ⟨by rw [ed]; omega, t2, by rw [ed]; exact repD_of w4 rp24, by omega, by omega, fun x ex => ⟨by rw [ed]; omega, t4, by rw [ed]; exact repD_of w4 up4.2.1, by omega, by omega, fun y ey => bf7 ?_ fun x1 e1 => brS_of (fun _ => h) fun c1 => ?_⟩⟩⟩
  · rw [ex, ey, lt2, lt4, insE_comm am ne]
    simp [sameB]
  have hn : getE m k = none := by rw [← e1]; simpa using c1
  have eg : getE t1.list k = some v := by rw [lt1, insE_get _ am]; exact if_pos rfl
  refine ⟨[j4, j3, j2, j1, i], t1, v, ⟨w4, rp14, up1.2.2.1, up1.2.2.2.1, by omega, by simp, by omega⟩, eg, by omega, fun S5 j5 tr5 => bt7 (by simp) ?_⟩
  obtain ⟨t5, rp5, lt5, bt5⟩ := tr5.tree
  rw [lt1, flt_ins_none am hn] at lt5
  have w5 := tr5.got.wf
  have u5 := tr_tree w5 rp5 lt5 bt5 am
  have sl5 := slots_le w5
  exact ⟨⟨_, w5⟩, fun d1 o5 e1 _ => ⟨by rw [e1]; omega, by rw [e1]; exact u5, h⟩⟩
theorem s_um : SoundT C0 5 tUm := by
  refine .of Try.func5 (by decide) rfl fun args H K h hB => ?_
  unfold tUm at h
  split at h <;> try exact h.elim
  rename_i t k v k2 v2 at' raw
  exact ⟨aUm raw PUm, ⟨frame C0.ok s_lst _, frame C0.ok s_grow _, frame C0.ok s_aw14 _, frame C0.ok s_mod _, frame C0.ok s_upIn _, frame C0.ok s_dump _, frame C0.ok (s_li7 _) _, frame C0.ok s_same9 _, frame C0.ok s_get _, frame C0.ok s_upDe _, frame C0.ok s_tr7 _, trivial⟩, vc_um raw t k v k2 v2 at' K h.1 h.2⟩
end Go.Proofs.Ytjbkckcjmmmooaa.Sx
end
section
/- What every law's last step leans on. -/
namespace Go.Proofs.Ytjbkckcjmmmooaa
open Go.ChangeShapes Go.WideShapes Go.ChangeAt Go.RowKit

theorem ownK : ownKnob Try.prog.godebug = none := by kernel_rfl
theorem laidO : laidOutB Try.prog = true := by kernel_rfl

theorem lit_i64 {a : Int} (h : (Lit.int .i64 a).wf = true) : -9223372036854775808 ≤ a ∧ a ≤ 9223372036854775807 := by
  have h1 : IntKind.i64.min = -9223372036854775808 := rfl
  have h2 : IntKind.i64.max = 9223372036854775807 := rfl
  simp only [Lit.wf, Bool.and_eq_true, decide_eq_true_eq] at h
  omega
theorem lit_u64 {a : Int} (h : (Lit.int .u64 a).wf = true) : 0 ≤ a ∧ a ≤ 18446744073709551615 := by
  have h1 : IntKind.u64.min = 0 := rfl
  have h2 : IntKind.u64.max = 18446744073709551615 := rfl
  simp only [Lit.wf, Bool.and_eq_true, decide_eq_true_eq] at h
  omega
theorem lit_u32 {a : Int} (h : (Lit.int .u32 a).wf = true) : 0 ≤ a ∧ a ≤ 4294967295 := by
  have h1 : IntKind.u32.min = 0 := rfl
  have h2 : IntKind.u32.max = 4294967295 := rfl
  simp only [Lit.wf, Bool.and_eq_true, decide_eq_true_eq] at h
  omega
theorem lit_u16 {a : Int} (h : (Lit.int .u16 a).wf = true) : 0 ≤ a ∧ a ≤ 65535 := by
  have h1 : IntKind.u16.min = 0 := rfl
  have h2 : IntKind.u16.max = 65535 := rfl
  simp only [Lit.wf, Bool.and_eq_true, decide_eq_true_eq] at h
  omega
end Go.Proofs.Ytjbkckcjmmmooaa
end
section
/- From contracts to laws: the arguments as they come, what a law's call leaves. -/
namespace Go.Proofs.Ytjbkckcjmmmooaa.Sx
open Go Go.Joins Go.ChangeShapes Go.WideShapes Go.ChangeAt Go.RowKit

theorem Sat.imms {C : Ctx} {w : World} (vs : List Value) (H : List (Chunk C)) (h : ∀ (n : Nat) (c : Chunk C), H[n]? = some c → ∃ e l, c = .row false e l ∧ Imm C w (vs.getD n undef) e l) : Sat C (fun n => vs.getD n undef) (fun _ _ => False) w H where
  holds n c hc := by
    obtain ⟨e, l, rfl, hi⟩ := h n c hc
    exact ⟨hi, fun _ hh => hh⟩
  dis _ _ _ hh := hh.elim
  bd _ _ hh := hh.elim
  imm _ _ _ _ _ _ _ _ hh := hh
  out _ _ _ hh := hh
  cl n c hc m hm := by
    obtain ⟨e, l, rfl, _⟩ := h n c hc
    simp [Chunk.names] at hm

theorem lawOf {f : FuncId} {t : Tfm C0} (hs : SoundT C0 f t) {args : List TV} {H : List (Chunk C0)} {vs : List Value} {σ : Nat → Value} {w : World} (ht : ∀ K : KT, K (.one (.at (vB true))) H [] → t args H K)
    (hsat : Sat C0 σ (fun _ _ => False) w H) (hr : Rels (TV.rel σ) args vs) (hn : ∀ x ∈ args, ∀ m ∈ x.names, m < H.length) : Calls Try.prog f vs.toArray w (fun e w' => e = .returned (.bool true) ∧ Below w.heap.size w w') := by
  have hc := hs.call args H (fun r _ _ => r = .one (.at (vB true))) (ht _ rfl) σ _ w vs hsat hr hn
  refine Calls.mono hc fun e w' hh => ?_
  cases e with
  | panicked ch => exact hh.elim
  | outgrown => exact hh.elim
  | returned v =>
    obtain ⟨r, H', ts, σ', φ', hout, rfl⟩ := hh
    have hv : v = .bool true := hout.rel
    exact ⟨by rw [hv], hout.adv.os, hout.adv.tape, hout.adv.output, hout.adv.size, fun k hk => hout.adv.fr k hk fun n hh => hh⟩

section
variable {HH : Type} {enc : TypeId × Value → HH} {P : Program} {w : World} {base b0 : Nat} {spare : Nat → Bool} {held : Bool} {r : Reach}
theorem openRowQ {α : Type} [Inhabited α] {t e : TypeId} {f : α → List Value} {Q : α → Prop} {sz : Nat} {v : Value} {d : DataW HH} {p : List MemPlace} (ht : P.underlying t = some (.slice e)) (hC : P.cellsOf e = sz) (hpos : 0 < sz) (hf : ∀ x, (f x).length = sz)
    (hel : ∀ {n : Nat} {cs : List Value} {x : DataW HH × List MemPlace}, DataW.trod enc P w base spare held n e cs = some x → ∃ a, cs = f a ∧ Q a) (hv : Value.okWide P w r b0 t v) (h : DataW.Trod enc P w base spare held t v d p) :
    ∃ A n c l, v = .slice A n c ∧ Rd f sz w A n c l ∧ ∀ x ∈ l, Q x := by
  obtain ⟨A, n, c, rfl⟩ := okWide_slice ht hv
  obtain ⟨fuel, hh⟩ := h
  have hh : DataW.trod enc P w base spare held fuel t [.slice A n c] = some (d, p) := by simpa [Value.cells] using hh
  rcases Go.Deep.open_slice ht hh with ⟨h1, _⟩ | ⟨a, len, cap, m, k, D, Pl, h1, hb, hle, hm, hmm, hx, hall⟩
  · simp only [List.cons.injEq, Value.slice.injEq, and_true] at h1
    obtain ⟨rfl, rfl, rfl⟩ := h1
    exact ⟨none, 0, 0, [], rfl, Rd.nil hf, fun x hx => by simp at hx⟩
  · simp only [List.cons.injEq, Value.slice.injEq, and_true] at h1
    obtain ⟨rfl, rfl, rfl⟩ := h1
    have hlm : n ≤ m := by rw [hmm]; split <;> omega
    have hel' : ∀ i, i < n → ∃ x : α, w.cells? base (a.add (i * P.cellsOf e)) (P.cellsOf e) = some (f x) ∧ Q x := fun i hi => by
      obtain ⟨cs', hc1, hc2⟩ := hall i (by omega)
      obtain ⟨x, rfl, hq⟩ := hel hc2
      exact ⟨x, hc1, hq⟩
    obtain ⟨F, hF⟩ := Go.Deep.choose_lt hel'
    have cell : ∀ i, i < n → ∀ j, j < sz → w.cell? ((a.add (i * sz)).add j) = (f (F i))[j]? := fun i hi j hj => by
      have h2 := (hF i hi).1
      rw [hC] at h2
      unfold World.cells? at h2
      split at h2
      · exact mapM_some_get h2 j j (by simp [hj])
      · cases h2
    refine ⟨some a, n, c, (List.range n).map F, rfl, ⟨by simp, hle, hm, hf, fun h => (by cases h), fun hn => ?_⟩, fun x hx => by obtain ⟨i, hi, rfl⟩ := List.mem_map.1 hx; exact (hF i (List.mem_range.1 hi)).2⟩
    obtain ⟨b, o, sp⟩ := a
    have hsome : ∀ i, i < n → ∀ j, j < sz → ∃ u, w.cell? (((⟨b, o, sp⟩ : Addr).add (i * sz)).add j) = some u := fun i hi j hj => by
      rw [cell i hi j hj]
      exact ⟨_, List.getElem?_eq_getElem (by rw [hf]; exact hj)⟩
    obtain ⟨u0, hu0⟩ := hsome 0 hn 0 hpos
    have hspot : sp = none := by simpa [Addr.add] using World.cell?_spot hu0
    subst hspot
    refine ⟨b, o, rfl, ?_, fun k x hx j u hu => ?_⟩
    · have hu1 : w.cell? ⟨b, o, none⟩ = some u0 := by simpa [Addr.add] using hu0
      unfold World.cell? at hu1
      split at hu1
      · rename_i hb2
        exact (Array.getElem?_eq_some_iff.1 hb2).1
      · cases hu1
    · rw [List.getElem?_map] at hx
      have hk : k < n := by
        rcases Nat.lt_or_ge k n with h2 | h2
        · exact h2
        · rw [List.getElem?_eq_none (by simpa using h2)] at hx; cases hx
      rw [List.getElem?_range hk] at hx
      simp only [Option.map_some, Option.some.injEq] at hx
      subst hx
      have hj : j < sz := by
        have := (List.getElem?_eq_some_iff.1 hu).1
        rwa [hf] at this
      have h3 := cell k hk j hj
      rw [hu] at h3
      rw [← h3]
      congr 1
      rw [Go.WideShapes.add_plain, Go.WideShapes.add_plain]
theorem openRow {α : Type} [Inhabited α] {t e : TypeId} {f : α → List Value} {sz : Nat} {v : Value} {d : DataW HH} {p : List MemPlace} (ht : P.underlying t = some (.slice e)) (hC : P.cellsOf e = sz) (hpos : 0 < sz) (hf : ∀ x, (f x).length = sz)
    (hel : ∀ {n : Nat} {cs : List Value} {x : DataW HH × List MemPlace}, DataW.trod enc P w base spare held n e cs = some x → ∃ a, cs = f a) (hv : Value.okWide P w r b0 t v) (h : DataW.Trod enc P w base spare held t v d p) :
    ∃ A n c l, v = .slice A n c ∧ Rd f sz w A n c l := by
  obtain ⟨A, n, c, l, h1, h2, _⟩ := openRowQ (Q := fun _ => True) ht hC hpos hf (fun h => by obtain ⟨a, e⟩ := hel h; exact ⟨a, e, trivial⟩) hv h
  exact ⟨A, n, c, l, h1, h2⟩
end

section
variable {HH : Type} {enc : TypeId × Value → HH} {w : World} {base b0 : Nat} {spare : Nat → Bool} {held : Bool} {r : Reach}
set_option maxRecDepth 100000 in
theorem elE {n : Nat} {cs : List Value} {x : DataW HH × List MemPlace} (h : DataW.trod enc Try.prog w base spare held n 26 cs = some x) : ∃ a : Ent, cs = EC.enc .ent a := by
  obtain ⟨y0, y1, m, _, hl, h0, h1⟩ := trod_struct2 Try.underlying26 h
  obtain ⟨k, e0, _⟩ := DataW.trod_int Try.underlying2 h0
  obtain ⟨v, e1, _⟩ := DataW.trod_int Try.underlying2 h1
  have hl : cs.length = 2 := hl.trans (by kernel_rfl)
  have c1 : Try.prog.cellsOf 2 = 1 := by kernel_rfl
  match cs, hl with
  | [a, b], _ =>
    simp [c1] at e0 e1
    exact ⟨(k, v), by rw [e0, e1]; rfl⟩
set_option maxRecDepth 100000 in
theorem elEw {n : Nat} {cs : List Value} {x : DataW HH × List MemPlace} (h : DataW.trod enc Try.prog w base spare held n 26 cs = some x) :
    ∃ a : Ent, cs = EC.enc .ent a ∧ ((-9223372036854775808 ≤ a.1 ∧ a.1 ≤ 9223372036854775807) ∧ (-9223372036854775808 ≤ a.2 ∧ a.2 ≤ 9223372036854775807)) := by
  obtain ⟨y0, y1, m, _, hl, h0, h1⟩ := trod_struct2 Try.underlying26 h
  obtain ⟨k, e0, _, w0⟩ := DataW.trod_int Try.underlying2 h0
  obtain ⟨v, e1, _, w1⟩ := DataW.trod_int Try.underlying2 h1
  have hl : cs.length = 2 := hl.trans (by kernel_rfl)
  have c1 : Try.prog.cellsOf 2 = 1 := by kernel_rfl
  match cs, hl with
  | [a, b], _ =>
    simp [c1] at e0 e1
    exact ⟨(k, v), by rw [e0, e1]; rfl, lit_i64 w0, lit_i64 w1⟩
set_option maxRecDepth 100000 in
theorem openE {v : Value} {d : DataW HH} {p : List MemPlace} (hv : Value.okWide Try.prog w r b0 24 v) (h : DataW.Trod enc Try.prog w base spare held 24 v d p) :
    ∃ (l : List Ent), Imm C0 w v EC.ent l := by
  obtain ⟨A, n, c, l, rfl, hr⟩ := openRow (α := Ent) (f := fun x => EC.enc .ent x) (sz := 2) Try.underlying24 (by kernel_rfl) (by decide) (fun _ => rfl) (fun h => elE h) hv h
  obtain rfl := hr.len
  exact ⟨l, A, c, rfl, hr⟩
set_option maxRecDepth 100000 in
/-- The same with what the entries' numbers are. -/
theorem openEw {v : Value} {d : DataW HH} {p : List MemPlace} (hv : Value.okWide Try.prog w r b0 24 v) (h : DataW.Trod enc Try.prog w base spare held 24 v d p) :
    ∃ (l : List Ent), Imm C0 w v EC.ent l ∧ ∀ x ∈ l, (-9223372036854775808 ≤ x.1 ∧ x.1 ≤ 9223372036854775807) ∧ (-9223372036854775808 ≤ x.2 ∧ x.2 ≤ 9223372036854775807) := by
  obtain ⟨A, n, c, l, rfl, hr, hq⟩ := openRowQ (α := Ent) (f := fun x => EC.enc .ent x) (sz := 2) Try.underlying24 (by kernel_rfl) (by decide) (fun _ => rfl) (fun h => elEw h) hv h
  obtain rfl := hr.len
  exact ⟨l, ⟨A, c, rfl, hr⟩, hq⟩
set_option maxRecDepth 100000 in
/-- An entry that comes by value. -/
theorem open_e {v : Value} {d : DataW HH} {p : List MemPlace} (hv : Value.okWide Try.prog w r b0 26 v) (h : DataW.Trod enc Try.prog w base spare held 26 v d p) :
    ∃ a b : Int, v = .agg #[.int .i64 a, .int .i64 b] ∧ ((-9223372036854775808 ≤ a ∧ a ≤ 9223372036854775807) ∧ (-9223372036854775808 ≤ b ∧ b ≤ 9223372036854775807)) := by
  obtain ⟨cs, rfl, _⟩ := okWide_struct Try.underlying26 hv
  obtain ⟨fuel, hh⟩ := h
  obtain ⟨a, e, hb⟩ := elEw hh
  refine ⟨a.1, a.2, ?_, hb⟩
  have e : cs.toList = [.int .i64 a.1, .int .i64 a.2] := e
  congr 1
  apply Array.ext'
  rw [e]
instance : Inhabited Chg := ⟨⟨0, 0, 0, 0⟩⟩
end
end Go.Proofs.Ytjbkckcjmmmooaa.Sx
end
