/- A part of the proof. -/
import Derived.Test.YtjbkckcjmmmooaaG13
import Derived.Test.YtjbkckcjmmmooaaG6
section
/- The law that Join joins. -/
namespace Go.Proofs.Ytjbkckcjmmmooaa.Sx
open Go

/-KEEP Wf exW inU live Arn.cap Arn.free Rep rdS retL Tr.size Tr.list Tr.Bal balN balB jB gN TrR Got flt getE Asc Hn ht PairR newS slotsOf orderOf RepD jnM ordB listE Kept List.Perm keptD-/
structure JkA where
  S : Arn
  x : Int
  y : Int
  lx : List Ent
  ly : List Ent
  k : Int
  v : Int
structure XKa (P : JkA → Prop) where
  z : JkA
  h : P z
structure JkS where
  S0 : Arn
  a : JkA
  d : List SlotT
  o : List Int
  r : Int
  i : Int
  f : Int
structure XKb (P : JkS → Prop) where
  z : JkS
  h : P z
structure XKc (P : JkS → Int → Prop) where
  z : JkS
  w : Int
  h : P z w
structure XKd (P : JkS → List Ent → Prop) where
  z : JkS
  all : List Ent
  h : P z all
abbrev chJa (raw : List Ent) (z : JkA) : List (Chunk C0) := [.row false EC.ent raw] ++ chSk 1 z.S ++ [.row false EC.ent z.lx, .row false EC.ent z.ly, .box [vI z.k, vI z.v]]
abbrev chJs (raw : List Ent) (z : JkS) : List (Chunk C0) := chJa raw z.a ++ [.box [.slc 12, .slc 13], .row true EC.slot z.d, .row true EC.u32 z.o]
noncomputable def aJk (raw : List Ent) (P : JkA → Prop) (P2 : JkS → Prop) (P3 : JkS → Int → Prop) (P4 : JkS → List Ent → Prop) : Ann C0 := { quiet := [30, 38, 22, 31, 39, 44, 45, 48], Γ := [(34, frameT [] tLst), (45, frameT [] tRes2), (47, frameT [] tSpare), (46, tPairE), (41, frameT [] tAw13), (30, frameT [] tDump), (19, frameT [] tReads), (43, frameT [] tJj), (24, frameT [] tMh), (23, frameT [] tWi), (38, frameT [] tSameD), (48, frameT [] tBal), (49, frameT [] tNode), (44, frameT [] tTree13), (22, frameT [] tFree), (39, frameT [] tKept), (31, frameT [] tSound)], inv := fun n => match n with
  | 1008 => some { X := XKa P, sl := [17, 18, 19, 20, 21, 11], tf := fun x => [.one (.at (.ptr 1 0)), vi .u32 x.z.x, vi .u32 x.z.y, .one (.at (.slc 8)), .one (.at (.slc 9)), .one (.at (.ptr 10 0))], hf := fun x => chJa raw x.z }
  | 1010 => some { X := XKb P2, sl := [17, 18, 19, 20, 21, 11, 23, 24, 25, 26], tf := fun x => [.one (.at (.ptr 1 0)), vi .u32 x.z.a.x, vi .u32 x.z.a.y, .one (.at (.slc 8)), .one (.at (.slc 9)), .one (.at (.ptr 10 0)), .one (.at (.ptr 11 0)), vi .u64 x.z.r, vi .u32 x.z.i, vi .i64 x.z.f], hf := fun x => chJs raw x.z }
  | 1015 => some { X := XKc P3, sl := [17, 18, 19, 20, 21, 11, 23, 24, 25, 26, 27], tf := fun x => [.one (.at (.ptr 1 0)), vi .u32 x.z.a.x, vi .u32 x.z.a.y, .one (.at (.slc 8)), .one (.at (.slc 9)), .one (.at (.ptr 10 0)), .one (.at (.ptr 11 0)), vi .u64 x.z.r, vi .u32 x.z.i, vi .i64 x.z.f, vi .i64 x.w], hf := fun x => chJs raw x.z }
  | 1020 => some { X := XKd P4, sl := [17, 18, 19, 20, 21, 23, 25, 28], tf := fun x => [.one (.at (.ptr 1 0)), vi .u32 x.z.a.x, vi .u32 x.z.a.y, .one (.at (.slc 8)), .one (.at (.slc 9)), .one (.at (.ptr 10 0)), vi .u32 x.z.i, .one (.at (.slc 13))], hf := fun x => [.row false EC.ent raw] ++ chSk 1 x.z.a.S ++ [.row false EC.ent x.z.a.lx, .row false EC.ent x.z.a.ly, .box [.slc 11, .slc 12], .row true EC.slot x.z.d, .row true EC.u32 x.z.o, .row true EC.ent x.all] }
  | 1024 => some { X := XKd P4, sl := [17, 18, 19, 23, 25, 28], tf := fun x => [.one (.at (.ptr 1 0)), vi .u32 x.z.a.x, vi .u32 x.z.a.y, .one (.at (.ptr 8 0)), vi .u32 x.z.i, .one (.at (.slc 11))], hf := fun x => [.row false EC.ent raw] ++ chSk 1 x.z.a.S ++ [.box [.slc 9, .slc 10], .row true EC.slot x.z.d, .row true EC.u32 x.z.o, .row true EC.ent x.all] }
  | _ => none }
def tJk : Tfm C0 := fun args H K => match args, H with
  | [.at (.slc 0), .at (.val (.int .i64 _)), .at (.val (.int .i64 _)), .at (.val (.int .u64 t)), .agg [.val (.int .i64 _), .val (.int .i64 _)], .at (.val (.bool _)), .at (.val (.int .u16 f))], [.row false .ent raw] => 0 ≤ t ∧ 0 ≤ f ∧ f ≤ 65535 ∧ K (.one (.at (vB true))) [.row false EC.ent raw] []
  | _, _ => False
theorem last_get {l : List Ent} (h : 0 < l.length) : l.getLast? = some (l.getD (l.length - 1) (0, 0)) := by
  rw [List.getLast?_eq_getElem?, List.getD_eq_getElem?_getD, List.getElem?_eq_getElem (by omega)]; rfl
theorem head_get {l : List Ent} (h : 0 < l.length) : l.head? = some (l.getD 0 (0, 0)) := by
  rw [List.head?_eq_getElem?, List.getD_eq_getElem?_getD, List.getElem?_eq_getElem (by omega)]; rfl
theorem ordB_val (L : List Ent) (k : Int) (R : List Ent) : ordB L k R = ((decide (0 < L.length) && decide ((L.getD (L.length - 1) (0, 0)).1 ≥ k)) || (decide (0 < R.length) && decide ((R.getD 0 (0, 0)).1 ≤ k))) := by
  have e1 : (L.getLast?.isSome && decide ((L.getLast?.getD (0, 0)).1 ≥ k)) = (decide (0 < L.length) && decide ((L.getD (L.length - 1) (0, 0)).1 ≥ k)) := by
    by_cases h : 0 < L.length
    · rw [last_get h, decide_eq_true h]; rfl
    · have : L = [] := List.length_eq_zero_iff.1 (by omega)
      subst this; rfl
  have e2 : (R.head?.isSome && decide ((R.head?.getD (0, 0)).1 ≤ k)) = (decide (0 < R.length) && decide ((R.getD 0 (0, 0)).1 ≤ k)) := by
    by_cases h : 0 < R.length
    · rw [head_get h, decide_eq_true h]; rfl
    · have : R = [] := List.length_eq_zero_iff.1 (by omega)
      subst this; rfl
  unfold ordB
  rw [e1, e2]
theorem ordB_asc {L R : List Ent} {k v : Int} (hl : Asc L) (hr : Asc R) (h : ordB L k R = false) : Asc (L ++ (k, v) :: R) := by
  unfold ordB at h
  rw [Bool.or_eq_false_iff] at h
  obtain ⟨h1, h2⟩ := h
  refine asc_join hl hr ?_ ?_
  · by_cases e : L = []
    · rw [e]; intro x hx; simp at hx
    · have hs : L.getLast?.isSome = true := by rw [List.getLast?_eq_some_getLast e]; rfl
      rw [hs, Bool.true_and] at h1
      have := of_decide_eq_false h1
      exact all_lt hl (by omega)
  · cases R with
    | nil => intro x hx; simp at hx
    | cons y R =>
      have h2 : (true && decide (y.1 ≤ k)) = false := h2
      rw [Bool.true_and] at h2
      have := of_decide_eq_false h2
      exact all_gt hr (.inr (by show y.1 > k; omega))
def trees (S : Arn) (x y : Int) (lx ly : List Ent) (tx ty : Tr) : Prop := jnM S [x, y] tx ty x y ∧ tx.list = lx ∧ ty.list = ly ∧ tx.size = lx.length ∧ ty.size = ly.length ∧ lx.length + ly.length ≤ 150 ∧ Asc lx ∧ Asc ly ∧ S.reads = 0
def PKa (z : JkA) : Prop := ∃ tx ty, trees z.S z.x z.y z.lx z.ly tx ty
def PKb (z : JkS) : Prop := ∃ tx ty, trees z.S0 z.a.x z.a.y z.a.lx z.a.ly tx ty ∧ z.r = 0 ∧ z.d = slotsOf z.S0 ∧ z.o = orderOf z.S0 ∧ 0 ≤ z.a.S.reads ∧ z.a.S.reads ≤ 60 * (Hn ((z.a.lx.length : Int) + z.a.ly.length + 1) + 2) ∧
  ((ordB z.a.lx z.a.k z.a.ly = true ∧ z.f = 7 ∧ z.i = 0 ∧ ∃ m, z.a.S = rdS z.S0 m) ∨
   (ordB z.a.lx z.a.k z.a.ly = false ∧ z.S0.free < 4 * (Hn ((z.a.lx.length : Int) + z.a.ly.length + 1) + 2) ∧ z.f = 2 ∧ z.i = 0 ∧ ∃ m, z.a.S = rdS z.S0 m) ∨
   (ordB z.a.lx z.a.k z.a.ly = false ∧ 4 * (Hn ((z.a.lx.length : Int) + z.a.ly.length + 1) + 2) ≤ z.S0.free ∧ z.f = 0 ∧ (∃ m r, TrR z.S0 [z.a.x, z.a.y] (z.a.lx ++ (z.a.k, z.a.v) :: z.a.ly) m r z.a.S z.i) ∧ (balN z.a.lx.length z.a.ly.length → (z.a.S.nd z.i).left = z.a.x ∧ (z.a.S.nd z.i).right = z.a.y ∧ z.a.S.free = z.S0.free - 1)))
def PKc (z : JkS) (w : Int) : Prop := PKb z ∧ w = z.f
def PKd (z : JkS) (all : List Ent) : Prop := Wf z.a.S [z.i, z.a.x, z.a.y] ∧ keptD z.d (slotsOf z.a.S) ∧ z.d.length ≤ 70000 ∧ (∃ t, Rep z.a.S t z.i ∧ t.list = all ∧ t.Bal) ∧ Asc all ∧ z.a.lx.length + z.a.ly.length ≤ 150 ∧ z.o.length ≤ 70000 ∧
  (balN z.a.lx.length z.a.ly.length → z.a.S.reads ≤ 20000 ∧ (z.a.S.nd z.i).left = z.a.x ∧ (z.a.S.nd z.i).right = z.a.y ∧ z.a.S.free = (z.o.length : Int) - 1)
theorem pair_trees {c : Nat} {l : List Ent} {p q : Nat} {S : Arn} {x y : Int} (h : PairR c (l.take p) (l.drop q) S x y) (ha : Asc l) (hpq : p ≤ q) (hq : q ≤ l.length) (hl : l.length ≤ 150) : ∃ tx ty, trees S x y (l.take p) (l.drop q) tx ty := by
  obtain ⟨tx, r1, l1, b1⟩ := h.rx
  obtain ⟨ty, r2, l2, b2⟩ := h.ry
  have z1 : tx.size = (l.take p).length := by rw [← tx.list_len, l1]
  have z2 : ty.size = (l.drop q).length := by rw [← ty.list_len, l2]
  have n1 : (l.take p).length = p := by simp; omega
  have n2 : (l.drop q).length = l.length - q := by simp
  exact ⟨tx, ty, ⟨h.wf, r1, r2, b1, b2, by omega, by simp, by rw [h.rds]; decide⟩, l1, l2, z1, z2, by omega, List.Pairwise.sublist (List.take_sublist p l) ha, List.Pairwise.sublist (List.drop_sublist q l) ha, h.rds⟩
theorem free_nu {S S' : Arn} {hs hs' : List Int} (w : Wf S hs) (w' : Wf S' hs') (hl : S'.used.length = S.used.length) (h : S'.nu = S.nu + 1) : S'.free = S.free - 1 := by
  have a := w.free_nonneg.2.2.2
  have b := w'.free_nonneg.2.2.2
  have c : S'.cap = S.cap := by unfold Arn.cap; rw [hl]
  omega
theorem vc_jk (raw : List Ent) (t k v at' sk f : Int) (bt : Bool) (K : KT) (h0 : 0 ≤ t) (f1 : 0 ≤ f) (f2 : f ≤ 65535) (h : K (.one (.at (vB true))) [.row false EC.ent raw] []) :
    vc C0 (aJk raw PKa PKb PKc PKd) Try.f9 [.at (.slc 0), .at (vI at'), .at (vI sk), .at (vU64 t), .agg [vI k, vI v], .at (vB bt), .at (.val (.int .u16 f))] [.row false EC.ent raw] (normK 1 K) := by
  generalize hP : PKa = P
  generalize hP2 : PKb = P2
  generalize hP3 : PKc = P3
  generalize hP4 : PKd = P4
  refine Eq.mp (show (((0 : Int) ≤ 150) ∧
((150 : Int) ≤ 1000000) ∧
(0 ≤ (↑(listE raw (Int.toNat 150)).length : Int)) ∧
((↑(listE raw (Int.toNat 150)).length : Int) ≤ 65536) ∧
((0 : Int) ≤ 0) ∧
((0 : Int) ≤ 65536) ∧
(∀ p : Int, (((p) = (4 * (Hn ((↑(listE raw (Int.toNat 150)).length : Int) + 0 + 1) + 2))) → ((0 ≤ f) ∧ (f ≤ 65535) ∧ (0 ≤ p) ∧ (p ≤ 60000) ∧ (∀ s : Int, ((0 ≤ s) → ((s ≤ p + 8) → (((listE raw (Int.toNat 150)).length ≤ 1000) ∧ (0 ≤ t) ∧ (0 ≤ s) ∧ (s ≤ 20000) ∧ (∀ S : Arn, (∀ x : Int, (∀ y : Int, (∀ p1 : Nat, (∀ q : Nat, ((p1 ≤ q) → ((q ≤ (listE raw (Int.toNat 150)).length) → ((PairR ((↑(listE raw (Int.toNat 150)).length : Int) + 1 + s).toNat (List.take p1 (listE raw (Int.toNat 150))) (List.drop q (listE raw (Int.toNat 150))) S x y) → ((brS (bt) ((brS (decide ((↑(List.take p1 (listE raw (Int.toNat 150))).length : Int) > 0)) (((0 ≤ IntKind.i64.wrap ((↑(List.take p1 (listE raw (Int.toNat 150))).length : Int) - 1)) ∧ (IntKind.i64.wrap ((↑(List.take p1 (listE raw (Int.toNat 150))).length : Int) - 1) < (↑(List.take p1 (listE raw (Int.toNat 150))).length : Int)) ∧ (brS (decide (((List.take p1 (listE raw (Int.toNat 150))).getD (IntKind.i64.wrap ((↑(List.take p1 (listE raw (Int.toNat 150))).length : Int) - 1)).toNat (0, 0)).fst < 9223372036854775807)) (((0 ≤ IntKind.i64.wrap ((↑(List.take p1 (listE raw (Int.toNat 150))).length : Int) - 1)) ∧ (IntKind.i64.wrap ((↑(List.take p1 (listE raw (Int.toNat 150))).length : Int) - 1) < (↑(List.take p1 (listE raw (Int.toNat 150))).length : Int)) ∧
    (∃ x1 : XKa P, (True ∧ (True ∧ True ∧ ((Value.int IntKind.u32 (x)) = (Value.int IntKind.u32 (x1.z.x))) ∧ ((Value.int IntKind.u32 (y)) = (Value.int IntKind.u32 (x1.z.y))) ∧ True ∧ True ∧ True) ∧ ((raw) = (raw)) ∧ (True ∧ True ∧ True ∧ ((Value.int IntKind.u64 (S.reads)) = (Value.int IntKind.u64 (x1.z.S.reads))) ∧ True) ∧ (True ∧ True ∧ True ∧ ((Value.int IntKind.u32 (S.fresh)) = (Value.int IntKind.u32 (x1.z.S.fresh))) ∧ True) ∧ ((S.nodes) = (x1.z.S.nodes)) ∧ ((S.counts) = (x1.z.S.counts)) ∧ ((S.used) = (x1.z.S.used)) ∧ ((S.gen) = (x1.z.S.gen)) ∧ ((S.rel) = (x1.z.S.rel)) ∧ ((List.take p1 (listE raw (Int.toNat 150))) = (x1.z.lx)) ∧ ((List.drop q (listE raw (Int.toNat 150))) = (x1.z.ly)) ∧ (((Value.int IntKind.i64 (IntKind.i64.wrap (((List.take p1 (listE raw (Int.toNat 150))).getD (IntKind.i64.wrap ((↑(List.take p1 (listE raw (Int.toNat 150))).length : Int) - 1)).toNat (0, 0)).fst + 1))) = (Value.int IntKind.i64 (x1.z.k))) ∧ ((Value.int IntKind.i64 (v)) = (Value.int IntKind.i64 (x1.z.v))) ∧ True) ∧ True)))) ((∃ x1 : XKa P, (True ∧ (True ∧ True ∧ ((Value.int IntKind.u32 (x)) = (Value.int IntKind.u32 (x1.z.x))) ∧ ((Value.int IntKind.u32 (y)) = (Value.int IntKind.u32 (x1.z.y))) ∧ True ∧ True ∧ True) ∧ ((raw) = (raw)) ∧ (True ∧ True ∧ True ∧ ((Value.int IntKind.u64 (S.reads)) = (Value.int IntKind.u64 (x1.z.S.reads))) ∧ True) ∧ (True ∧ True ∧ True ∧ ((Value.int IntKind.u32 (S.fresh)) = (Value.int IntKind.u32 (x1.z.S.fresh))) ∧ True) ∧ ((S.nodes) = (x1.z.S.nodes)) ∧
    ((S.counts) = (x1.z.S.counts)) ∧ ((S.used) = (x1.z.S.used)) ∧ ((S.gen) = (x1.z.S.gen)) ∧ ((S.rel) = (x1.z.S.rel)) ∧ ((List.take p1 (listE raw (Int.toNat 150))) = (x1.z.lx)) ∧ ((List.drop q (listE raw (Int.toNat 150))) = (x1.z.ly)) ∧ (((Value.int IntKind.i64 (k)) = (Value.int IntKind.i64 (x1.z.k))) ∧ ((Value.int IntKind.i64 (v)) = (Value.int IntKind.i64 (x1.z.v))) ∧ True) ∧ True)))))) ((∃ x1 : XKa P, (True ∧ (True ∧ True ∧ ((Value.int IntKind.u32 (x)) = (Value.int IntKind.u32 (x1.z.x))) ∧ ((Value.int IntKind.u32 (y)) = (Value.int IntKind.u32 (x1.z.y))) ∧ True ∧ True ∧ True) ∧ ((raw) = (raw)) ∧ (True ∧ True ∧ True ∧ ((Value.int IntKind.u64 (S.reads)) = (Value.int IntKind.u64 (x1.z.S.reads))) ∧ True) ∧ (True ∧ True ∧ True ∧ ((Value.int IntKind.u32 (S.fresh)) = (Value.int IntKind.u32 (x1.z.S.fresh))) ∧ True) ∧ ((S.nodes) = (x1.z.S.nodes)) ∧ ((S.counts) = (x1.z.S.counts)) ∧ ((S.used) = (x1.z.S.used)) ∧ ((S.gen) = (x1.z.S.gen)) ∧ ((S.rel) = (x1.z.S.rel)) ∧ ((List.take p1 (listE raw (Int.toNat 150))) = (x1.z.lx)) ∧ ((List.drop q (listE raw (Int.toNat 150))) = (x1.z.ly)) ∧ (((Value.int IntKind.i64 (k)) = (Value.int IntKind.i64 (x1.z.k))) ∧ ((Value.int IntKind.i64 (v)) = (Value.int IntKind.i64 (x1.z.v))) ∧ True) ∧ True))))) ((∃ x1 : XKa P, (True ∧ (True ∧ True ∧ ((Value.int IntKind.u32 (x)) = (Value.int IntKind.u32 (x1.z.x))) ∧ ((Value.int IntKind.u32 (y)) = (Value.int IntKind.u32 (x1.z.y))) ∧ True ∧ True ∧ True) ∧ ((raw) = (raw)) ∧ (True ∧ True ∧ True ∧
    ((Value.int IntKind.u64 (S.reads)) = (Value.int IntKind.u64 (x1.z.S.reads))) ∧ True) ∧ (True ∧ True ∧ True ∧ ((Value.int IntKind.u32 (S.fresh)) = (Value.int IntKind.u32 (x1.z.S.fresh))) ∧ True) ∧ ((S.nodes) = (x1.z.S.nodes)) ∧ ((S.counts) = (x1.z.S.counts)) ∧ ((S.used) = (x1.z.S.used)) ∧ ((S.gen) = (x1.z.S.gen)) ∧ ((S.rel) = (x1.z.S.rel)) ∧ ((List.take p1 (listE raw (Int.toNat 150))) = (x1.z.lx)) ∧ ((List.drop q (listE raw (Int.toNat 150))) = (x1.z.ly)) ∧ (((Value.int IntKind.i64 (k)) = (Value.int IntKind.i64 (x1.z.k))) ∧ ((Value.int IntKind.i64 (v)) = (Value.int IntKind.i64 (x1.z.v))) ∧ True) ∧ True)))) ∧ (∀ x1 : XKa P, (True → ((exW x1.z.S) ∧ (∀ d : List SlotT, (∀ o : List Int, (((d) = (slotsOf x1.z.S)) → (((o) = (orderOf x1.z.S)) → ((∃ hs : List Int, (∃ tl : Tr, (∃ tr : Tr, ((jnM x1.z.S hs tl tr x1.z.x x1.z.y) ∧ (x1.z.S.reads ≤ 900000000000000000) ∧ (((ordB tl.list x1.z.k tr.list) = true) → (∀ S' : Arn, (∀ m : Nat, (((S') = (rdS x1.z.S m)) → ((m ≤ ht tl + ht tr) → (∃ x2 : XKb P2, (True ∧ (True ∧ True ∧ ((Value.int IntKind.u32 (x1.z.x)) = (Value.int IntKind.u32 (x2.z.a.x))) ∧ ((Value.int IntKind.u32 (x1.z.y)) = (Value.int IntKind.u32 (x2.z.a.y))) ∧ True ∧ True ∧ True ∧ ((Value.int IntKind.u64 (x1.z.S.reads)) = (Value.int IntKind.u64 (x2.z.r))) ∧ ((Value.int IntKind.u32 0) = (Value.int IntKind.u32 (x2.z.i))) ∧ ((Value.int IntKind.i64 7) = (Value.int IntKind.i64 (x2.z.f))) ∧ True) ∧ ((raw) = (raw)) ∧ (True ∧ True ∧ True ∧
    ((Value.int IntKind.u64 (S'.reads)) = (Value.int IntKind.u64 (x2.z.a.S.reads))) ∧ True) ∧ (True ∧ True ∧ True ∧ ((Value.int IntKind.u32 (S'.fresh)) = (Value.int IntKind.u32 (x2.z.a.S.fresh))) ∧ True) ∧ ((S'.nodes) = (x2.z.a.S.nodes)) ∧ ((S'.counts) = (x2.z.a.S.counts)) ∧ ((S'.used) = (x2.z.a.S.used)) ∧ ((S'.gen) = (x2.z.a.S.gen)) ∧ ((S'.rel) = (x2.z.a.S.rel)) ∧ ((x1.z.lx) = (x2.z.a.lx)) ∧ ((x1.z.ly) = (x2.z.a.ly)) ∧ (((Value.int IntKind.i64 (x1.z.k)) = (Value.int IntKind.i64 (x2.z.a.k))) ∧ ((Value.int IntKind.i64 (x1.z.v)) = (Value.int IntKind.i64 (x2.z.a.v))) ∧ True) ∧ (True ∧ True ∧ True) ∧ ((d) = (x2.z.d)) ∧ ((o) = (x2.z.o)) ∧ True))))))) ∧ (((ordB tl.list x1.z.k tr.list) = false) → ((x1.z.S.free < 4 * (Hn ((↑tl.size : Int) + (↑tr.size : Int) + 1) + 2)) → (∀ S' : Arn, (∀ m : Nat, (((S') = (rdS x1.z.S m)) → ((m ≤ ht tl + ht tr + 2) → (∃ x2 : XKb P2, (True ∧ (True ∧ True ∧ ((Value.int IntKind.u32 (x1.z.x)) = (Value.int IntKind.u32 (x2.z.a.x))) ∧ ((Value.int IntKind.u32 (x1.z.y)) = (Value.int IntKind.u32 (x2.z.a.y))) ∧ True ∧ True ∧ True ∧ ((Value.int IntKind.u64 (x1.z.S.reads)) = (Value.int IntKind.u64 (x2.z.r))) ∧ ((Value.int IntKind.u32 0) = (Value.int IntKind.u32 (x2.z.i))) ∧ ((Value.int IntKind.i64 2) = (Value.int IntKind.i64 (x2.z.f))) ∧ True) ∧ ((raw) = (raw)) ∧ (True ∧ True ∧ True ∧ ((Value.int IntKind.u64 (S'.reads)) = (Value.int IntKind.u64 (x2.z.a.S.reads))) ∧ True) ∧ (True ∧ True ∧ True ∧
    ((Value.int IntKind.u32 (S'.fresh)) = (Value.int IntKind.u32 (x2.z.a.S.fresh))) ∧ True) ∧ ((S'.nodes) = (x2.z.a.S.nodes)) ∧ ((S'.counts) = (x2.z.a.S.counts)) ∧ ((S'.used) = (x2.z.a.S.used)) ∧ ((S'.gen) = (x2.z.a.S.gen)) ∧ ((S'.rel) = (x2.z.a.S.rel)) ∧ ((x1.z.lx) = (x2.z.a.lx)) ∧ ((x1.z.ly) = (x2.z.a.ly)) ∧ (((Value.int IntKind.i64 (x1.z.k)) = (Value.int IntKind.i64 (x2.z.a.k))) ∧ ((Value.int IntKind.i64 (x1.z.v)) = (Value.int IntKind.i64 (x2.z.a.v))) ∧ True) ∧ (True ∧ True ∧ True) ∧ ((d) = (x2.z.d)) ∧ ((o) = (x2.z.o)) ∧ True)))))))) ∧ (((ordB tl.list x1.z.k tr.list) = false) → ((4 * (Hn ((↑tl.size : Int) + (↑tr.size : Int) + 1) + 2) ≤ x1.z.S.free) → (∀ S' : Arn, (∀ i : Int, ((TrR x1.z.S hs (tl.list ++ (x1.z.k, x1.z.v) :: tr.list) (jB tl.size tr.size) (4 * jB tl.size tr.size + ht tl + ht tr + 2) S' i) → (((balN (↑tl.size : Int) (↑tr.size : Int)) → ((((S'.nd i).left) = (x1.z.x)) ∧ (((S'.nd i).right) = (x1.z.y)) ∧ ((S'.nu) = (x1.z.S.nu + 1)))) → (∃ x2 : XKb P2, (True ∧ (True ∧ True ∧ ((Value.int IntKind.u32 (x1.z.x)) = (Value.int IntKind.u32 (x2.z.a.x))) ∧ ((Value.int IntKind.u32 (x1.z.y)) = (Value.int IntKind.u32 (x2.z.a.y))) ∧ True ∧ True ∧ True ∧ ((Value.int IntKind.u64 (x1.z.S.reads)) = (Value.int IntKind.u64 (x2.z.r))) ∧ ((Value.int IntKind.u32 (i)) = (Value.int IntKind.u32 (x2.z.i))) ∧ ((Value.int IntKind.i64 0) = (Value.int IntKind.i64 (x2.z.f))) ∧ True) ∧ ((raw) = (raw)) ∧ (True ∧ True ∧ True ∧
    ((Value.int IntKind.u64 (S'.reads)) = (Value.int IntKind.u64 (x2.z.a.S.reads))) ∧ True) ∧ (True ∧ True ∧ True ∧ ((Value.int IntKind.u32 (S'.fresh)) = (Value.int IntKind.u32 (x2.z.a.S.fresh))) ∧ True) ∧ ((S'.nodes) = (x2.z.a.S.nodes)) ∧ ((S'.counts) = (x2.z.a.S.counts)) ∧ ((S'.used) = (x2.z.a.S.used)) ∧ ((S'.gen) = (x2.z.a.S.gen)) ∧ ((S'.rel) = (x2.z.a.S.rel)) ∧ ((x1.z.lx) = (x2.z.a.lx)) ∧ ((x1.z.ly) = (x2.z.a.ly)) ∧ (((Value.int IntKind.i64 (x1.z.k)) = (Value.int IntKind.i64 (x2.z.a.k))) ∧ ((Value.int IntKind.i64 (x1.z.v)) = (Value.int IntKind.i64 (x2.z.a.v))) ∧ True) ∧ (True ∧ True ∧ True) ∧ ((d) = (x2.z.d)) ∧ ((o) = (x2.z.o)) ∧ True)))))))))))) ∧ (∀ x2 : XKb P2, (True → ((brS (decide ((↑x2.z.a.lx.length : Int) > 0)) (((0 ≤ IntKind.i64.wrap ((↑x2.z.a.lx.length : Int) - 1)) ∧ (IntKind.i64.wrap ((↑x2.z.a.lx.length : Int) - 1) < (↑x2.z.a.lx.length : Int)) ∧ (brS (decide ((x2.z.a.lx.getD (IntKind.i64.wrap ((↑x2.z.a.lx.length : Int) - 1)).toNat (0, 0)).fst ≥ x2.z.a.k)) ((∃ x3 : XKc P3, (True ∧ (True ∧ True ∧ ((Value.int IntKind.u32 (x2.z.a.x)) = (Value.int IntKind.u32 (x3.z.a.x))) ∧ ((Value.int IntKind.u32 (x2.z.a.y)) = (Value.int IntKind.u32 (x3.z.a.y))) ∧ True ∧ True ∧ True ∧ ((Value.int IntKind.u64 (x2.z.r)) = (Value.int IntKind.u64 (x3.z.r))) ∧ ((Value.int IntKind.u32 (x2.z.i)) = (Value.int IntKind.u32 (x3.z.i))) ∧ ((Value.int IntKind.i64 (x2.z.f)) = (Value.int IntKind.i64 (x3.z.f))) ∧ ((Value.int IntKind.i64 7) = (Value.int IntKind.i64 (x3.w))) ∧ True) ∧ ((raw) = (raw)) ∧
    (True ∧ True ∧ True ∧ ((Value.int IntKind.u64 (x2.z.a.S.reads)) = (Value.int IntKind.u64 (x3.z.a.S.reads))) ∧ True) ∧ (True ∧ True ∧ True ∧ ((Value.int IntKind.u32 (x2.z.a.S.fresh)) = (Value.int IntKind.u32 (x3.z.a.S.fresh))) ∧ True) ∧ ((x2.z.a.S.nodes) = (x3.z.a.S.nodes)) ∧ ((x2.z.a.S.counts) = (x3.z.a.S.counts)) ∧ ((x2.z.a.S.used) = (x3.z.a.S.used)) ∧ ((x2.z.a.S.gen) = (x3.z.a.S.gen)) ∧ ((x2.z.a.S.rel) = (x3.z.a.S.rel)) ∧ ((x2.z.a.lx) = (x3.z.a.lx)) ∧ ((x2.z.a.ly) = (x3.z.a.ly)) ∧ (((Value.int IntKind.i64 (x2.z.a.k)) = (Value.int IntKind.i64 (x3.z.a.k))) ∧ ((Value.int IntKind.i64 (x2.z.a.v)) = (Value.int IntKind.i64 (x3.z.a.v))) ∧ True) ∧ (True ∧ True ∧ True) ∧ ((x2.z.d) = (x3.z.d)) ∧ ((x2.z.o) = (x3.z.o)) ∧ True))) ((brS (decide ((↑x2.z.a.ly.length : Int) > 0)) ((((0 : Int) ≤ 0) ∧ (0 < (↑x2.z.a.ly.length : Int)) ∧ (brS (decide ((x2.z.a.ly.getD (Int.toNat 0) (0, 0)).fst ≤ x2.z.a.k)) ((∃ x3 : XKc P3, (True ∧ (True ∧ True ∧ ((Value.int IntKind.u32 (x2.z.a.x)) = (Value.int IntKind.u32 (x3.z.a.x))) ∧ ((Value.int IntKind.u32 (x2.z.a.y)) = (Value.int IntKind.u32 (x3.z.a.y))) ∧ True ∧ True ∧ True ∧ ((Value.int IntKind.u64 (x2.z.r)) = (Value.int IntKind.u64 (x3.z.r))) ∧ ((Value.int IntKind.u32 (x2.z.i)) = (Value.int IntKind.u32 (x3.z.i))) ∧ ((Value.int IntKind.i64 (x2.z.f)) = (Value.int IntKind.i64 (x3.z.f))) ∧ ((Value.int IntKind.i64 7) = (Value.int IntKind.i64 (x3.w))) ∧ True) ∧ ((raw) = (raw)) ∧ (True ∧ True ∧ True ∧
    ((Value.int IntKind.u64 (x2.z.a.S.reads)) = (Value.int IntKind.u64 (x3.z.a.S.reads))) ∧ True) ∧ (True ∧ True ∧ True ∧ ((Value.int IntKind.u32 (x2.z.a.S.fresh)) = (Value.int IntKind.u32 (x3.z.a.S.fresh))) ∧ True) ∧ ((x2.z.a.S.nodes) = (x3.z.a.S.nodes)) ∧ ((x2.z.a.S.counts) = (x3.z.a.S.counts)) ∧ ((x2.z.a.S.used) = (x3.z.a.S.used)) ∧ ((x2.z.a.S.gen) = (x3.z.a.S.gen)) ∧ ((x2.z.a.S.rel) = (x3.z.a.S.rel)) ∧ ((x2.z.a.lx) = (x3.z.a.lx)) ∧ ((x2.z.a.ly) = (x3.z.a.ly)) ∧ (((Value.int IntKind.i64 (x2.z.a.k)) = (Value.int IntKind.i64 (x3.z.a.k))) ∧ ((Value.int IntKind.i64 (x2.z.a.v)) = (Value.int IntKind.i64 (x3.z.a.v))) ∧ True) ∧ (True ∧ True ∧ True) ∧ ((x2.z.d) = (x3.z.d)) ∧ ((x2.z.o) = (x3.z.o)) ∧ True))) (((0 ≤ (↑x2.z.a.lx.length : Int)) ∧ ((↑x2.z.a.lx.length : Int) ≤ 65536) ∧ (0 ≤ (↑x2.z.a.ly.length : Int)) ∧ ((↑x2.z.a.ly.length : Int) ≤ 65536) ∧ (∀ p2 : Int, (((p2) = (4 * (Hn ((↑x2.z.a.lx.length : Int) + (↑x2.z.a.ly.length : Int) + 1) + 2))) → (brS (decide ((↑x2.z.o.length : Int) < p2)) ((∃ x3 : XKc P3, (True ∧ (True ∧ True ∧ ((Value.int IntKind.u32 (x2.z.a.x)) = (Value.int IntKind.u32 (x3.z.a.x))) ∧ ((Value.int IntKind.u32 (x2.z.a.y)) = (Value.int IntKind.u32 (x3.z.a.y))) ∧ True ∧ True ∧ True ∧ ((Value.int IntKind.u64 (x2.z.r)) = (Value.int IntKind.u64 (x3.z.r))) ∧ ((Value.int IntKind.u32 (x2.z.i)) = (Value.int IntKind.u32 (x3.z.i))) ∧ ((Value.int IntKind.i64 (x2.z.f)) = (Value.int IntKind.i64 (x3.z.f))) ∧ ((Value.int IntKind.i64 2) = (Value.int IntKind.i64 (x3.w))) ∧ True) ∧
    ((raw) = (raw)) ∧ (True ∧ True ∧ True ∧ ((Value.int IntKind.u64 (x2.z.a.S.reads)) = (Value.int IntKind.u64 (x3.z.a.S.reads))) ∧ True) ∧ (True ∧ True ∧ True ∧ ((Value.int IntKind.u32 (x2.z.a.S.fresh)) = (Value.int IntKind.u32 (x3.z.a.S.fresh))) ∧ True) ∧ ((x2.z.a.S.nodes) = (x3.z.a.S.nodes)) ∧ ((x2.z.a.S.counts) = (x3.z.a.S.counts)) ∧ ((x2.z.a.S.used) = (x3.z.a.S.used)) ∧ ((x2.z.a.S.gen) = (x3.z.a.S.gen)) ∧ ((x2.z.a.S.rel) = (x3.z.a.S.rel)) ∧ ((x2.z.a.lx) = (x3.z.a.lx)) ∧ ((x2.z.a.ly) = (x3.z.a.ly)) ∧ (((Value.int IntKind.i64 (x2.z.a.k)) = (Value.int IntKind.i64 (x3.z.a.k))) ∧ ((Value.int IntKind.i64 (x2.z.a.v)) = (Value.int IntKind.i64 (x3.z.a.v))) ∧ True) ∧ (True ∧ True ∧ True) ∧ ((x2.z.d) = (x3.z.d)) ∧ ((x2.z.o) = (x3.z.o)) ∧ True))) ((∃ x3 : XKc P3, (True ∧ (True ∧ True ∧ ((Value.int IntKind.u32 (x2.z.a.x)) = (Value.int IntKind.u32 (x3.z.a.x))) ∧ ((Value.int IntKind.u32 (x2.z.a.y)) = (Value.int IntKind.u32 (x3.z.a.y))) ∧ True ∧ True ∧ True ∧ ((Value.int IntKind.u64 (x2.z.r)) = (Value.int IntKind.u64 (x3.z.r))) ∧ ((Value.int IntKind.u32 (x2.z.i)) = (Value.int IntKind.u32 (x3.z.i))) ∧ ((Value.int IntKind.i64 (x2.z.f)) = (Value.int IntKind.i64 (x3.z.f))) ∧ ((Value.int IntKind.i64 0) = (Value.int IntKind.i64 (x3.w))) ∧ True) ∧ ((raw) = (raw)) ∧ (True ∧ True ∧ True ∧ ((Value.int IntKind.u64 (x2.z.a.S.reads)) = (Value.int IntKind.u64 (x3.z.a.S.reads))) ∧ True) ∧ (True ∧ True ∧ True ∧ ((Value.int IntKind.u32 (x2.z.a.S.fresh)) = (Value.int IntKind.u32 (x3.z.a.S.fresh))) ∧ True) ∧
    ((x2.z.a.S.nodes) = (x3.z.a.S.nodes)) ∧ ((x2.z.a.S.counts) = (x3.z.a.S.counts)) ∧ ((x2.z.a.S.used) = (x3.z.a.S.used)) ∧ ((x2.z.a.S.gen) = (x3.z.a.S.gen)) ∧ ((x2.z.a.S.rel) = (x3.z.a.S.rel)) ∧ ((x2.z.a.lx) = (x3.z.a.lx)) ∧ ((x2.z.a.ly) = (x3.z.a.ly)) ∧ (((Value.int IntKind.i64 (x2.z.a.k)) = (Value.int IntKind.i64 (x3.z.a.k))) ∧ ((Value.int IntKind.i64 (x2.z.a.v)) = (Value.int IntKind.i64 (x3.z.a.v))) ∧ True) ∧ (True ∧ True ∧ True) ∧ ((x2.z.d) = (x3.z.d)) ∧ ((x2.z.o) = (x3.z.o)) ∧ True))))))))))) (((0 ≤ (↑x2.z.a.lx.length : Int)) ∧ ((↑x2.z.a.lx.length : Int) ≤ 65536) ∧ (0 ≤ (↑x2.z.a.ly.length : Int)) ∧ ((↑x2.z.a.ly.length : Int) ≤ 65536) ∧ (∀ p2 : Int, (((p2) = (4 * (Hn ((↑x2.z.a.lx.length : Int) + (↑x2.z.a.ly.length : Int) + 1) + 2))) → (brS (decide ((↑x2.z.o.length : Int) < p2)) ((∃ x3 : XKc P3, (True ∧ (True ∧ True ∧ ((Value.int IntKind.u32 (x2.z.a.x)) = (Value.int IntKind.u32 (x3.z.a.x))) ∧ ((Value.int IntKind.u32 (x2.z.a.y)) = (Value.int IntKind.u32 (x3.z.a.y))) ∧ True ∧ True ∧ True ∧ ((Value.int IntKind.u64 (x2.z.r)) = (Value.int IntKind.u64 (x3.z.r))) ∧ ((Value.int IntKind.u32 (x2.z.i)) = (Value.int IntKind.u32 (x3.z.i))) ∧ ((Value.int IntKind.i64 (x2.z.f)) = (Value.int IntKind.i64 (x3.z.f))) ∧ ((Value.int IntKind.i64 2) = (Value.int IntKind.i64 (x3.w))) ∧ True) ∧ ((raw) = (raw)) ∧ (True ∧ True ∧ True ∧ ((Value.int IntKind.u64 (x2.z.a.S.reads)) = (Value.int IntKind.u64 (x3.z.a.S.reads))) ∧ True) ∧ (True ∧ True ∧ True ∧
    ((Value.int IntKind.u32 (x2.z.a.S.fresh)) = (Value.int IntKind.u32 (x3.z.a.S.fresh))) ∧ True) ∧ ((x2.z.a.S.nodes) = (x3.z.a.S.nodes)) ∧ ((x2.z.a.S.counts) = (x3.z.a.S.counts)) ∧ ((x2.z.a.S.used) = (x3.z.a.S.used)) ∧ ((x2.z.a.S.gen) = (x3.z.a.S.gen)) ∧ ((x2.z.a.S.rel) = (x3.z.a.S.rel)) ∧ ((x2.z.a.lx) = (x3.z.a.lx)) ∧ ((x2.z.a.ly) = (x3.z.a.ly)) ∧ (((Value.int IntKind.i64 (x2.z.a.k)) = (Value.int IntKind.i64 (x3.z.a.k))) ∧ ((Value.int IntKind.i64 (x2.z.a.v)) = (Value.int IntKind.i64 (x3.z.a.v))) ∧ True) ∧ (True ∧ True ∧ True) ∧ ((x2.z.d) = (x3.z.d)) ∧ ((x2.z.o) = (x3.z.o)) ∧ True))) ((∃ x3 : XKc P3, (True ∧ (True ∧ True ∧ ((Value.int IntKind.u32 (x2.z.a.x)) = (Value.int IntKind.u32 (x3.z.a.x))) ∧ ((Value.int IntKind.u32 (x2.z.a.y)) = (Value.int IntKind.u32 (x3.z.a.y))) ∧ True ∧ True ∧ True ∧ ((Value.int IntKind.u64 (x2.z.r)) = (Value.int IntKind.u64 (x3.z.r))) ∧ ((Value.int IntKind.u32 (x2.z.i)) = (Value.int IntKind.u32 (x3.z.i))) ∧ ((Value.int IntKind.i64 (x2.z.f)) = (Value.int IntKind.i64 (x3.z.f))) ∧ ((Value.int IntKind.i64 0) = (Value.int IntKind.i64 (x3.w))) ∧ True) ∧ ((raw) = (raw)) ∧ (True ∧ True ∧ True ∧ ((Value.int IntKind.u64 (x2.z.a.S.reads)) = (Value.int IntKind.u64 (x3.z.a.S.reads))) ∧ True) ∧ (True ∧ True ∧ True ∧ ((Value.int IntKind.u32 (x2.z.a.S.fresh)) = (Value.int IntKind.u32 (x3.z.a.S.fresh))) ∧ True) ∧ ((x2.z.a.S.nodes) = (x3.z.a.S.nodes)) ∧ ((x2.z.a.S.counts) = (x3.z.a.S.counts)) ∧ ((x2.z.a.S.used) = (x3.z.a.S.used)) ∧ ((x2.z.a.S.gen) = (x3.z.a.S.gen)) ∧
    ((x2.z.a.S.rel) = (x3.z.a.S.rel)) ∧ ((x2.z.a.lx) = (x3.z.a.lx)) ∧ ((x2.z.a.ly) = (x3.z.a.ly)) ∧ (((Value.int IntKind.i64 (x2.z.a.k)) = (Value.int IntKind.i64 (x3.z.a.k))) ∧ ((Value.int IntKind.i64 (x2.z.a.v)) = (Value.int IntKind.i64 (x3.z.a.v))) ∧ True) ∧ (True ∧ True ∧ True) ∧ ((x2.z.d) = (x3.z.d)) ∧ ((x2.z.o) = (x3.z.o)) ∧ True))))))))))))) ((brS (decide ((↑x2.z.a.ly.length : Int) > 0)) ((((0 : Int) ≤ 0) ∧ (0 < (↑x2.z.a.ly.length : Int)) ∧ (brS (decide ((x2.z.a.ly.getD (Int.toNat 0) (0, 0)).fst ≤ x2.z.a.k)) ((∃ x3 : XKc P3, (True ∧ (True ∧ True ∧ ((Value.int IntKind.u32 (x2.z.a.x)) = (Value.int IntKind.u32 (x3.z.a.x))) ∧ ((Value.int IntKind.u32 (x2.z.a.y)) = (Value.int IntKind.u32 (x3.z.a.y))) ∧ True ∧ True ∧ True ∧ ((Value.int IntKind.u64 (x2.z.r)) = (Value.int IntKind.u64 (x3.z.r))) ∧ ((Value.int IntKind.u32 (x2.z.i)) = (Value.int IntKind.u32 (x3.z.i))) ∧ ((Value.int IntKind.i64 (x2.z.f)) = (Value.int IntKind.i64 (x3.z.f))) ∧ ((Value.int IntKind.i64 7) = (Value.int IntKind.i64 (x3.w))) ∧ True) ∧ ((raw) = (raw)) ∧ (True ∧ True ∧ True ∧ ((Value.int IntKind.u64 (x2.z.a.S.reads)) = (Value.int IntKind.u64 (x3.z.a.S.reads))) ∧ True) ∧ (True ∧ True ∧ True ∧ ((Value.int IntKind.u32 (x2.z.a.S.fresh)) = (Value.int IntKind.u32 (x3.z.a.S.fresh))) ∧ True) ∧ ((x2.z.a.S.nodes) = (x3.z.a.S.nodes)) ∧ ((x2.z.a.S.counts) = (x3.z.a.S.counts)) ∧ ((x2.z.a.S.used) = (x3.z.a.S.used)) ∧ ((x2.z.a.S.gen) = (x3.z.a.S.gen)) ∧ ((x2.z.a.S.rel) = (x3.z.a.S.rel)) ∧ ((x2.z.a.lx) = (x3.z.a.lx)) ∧
    ((x2.z.a.ly) = (x3.z.a.ly)) ∧ (((Value.int IntKind.i64 (x2.z.a.k)) = (Value.int IntKind.i64 (x3.z.a.k))) ∧ ((Value.int IntKind.i64 (x2.z.a.v)) = (Value.int IntKind.i64 (x3.z.a.v))) ∧ True) ∧ (True ∧ True ∧ True) ∧ ((x2.z.d) = (x3.z.d)) ∧ ((x2.z.o) = (x3.z.o)) ∧ True))) (((0 ≤ (↑x2.z.a.lx.length : Int)) ∧ ((↑x2.z.a.lx.length : Int) ≤ 65536) ∧ (0 ≤ (↑x2.z.a.ly.length : Int)) ∧ ((↑x2.z.a.ly.length : Int) ≤ 65536) ∧ (∀ p2 : Int, (((p2) = (4 * (Hn ((↑x2.z.a.lx.length : Int) + (↑x2.z.a.ly.length : Int) + 1) + 2))) → (brS (decide ((↑x2.z.o.length : Int) < p2)) ((∃ x3 : XKc P3, (True ∧ (True ∧ True ∧ ((Value.int IntKind.u32 (x2.z.a.x)) = (Value.int IntKind.u32 (x3.z.a.x))) ∧ ((Value.int IntKind.u32 (x2.z.a.y)) = (Value.int IntKind.u32 (x3.z.a.y))) ∧ True ∧ True ∧ True ∧ ((Value.int IntKind.u64 (x2.z.r)) = (Value.int IntKind.u64 (x3.z.r))) ∧ ((Value.int IntKind.u32 (x2.z.i)) = (Value.int IntKind.u32 (x3.z.i))) ∧ ((Value.int IntKind.i64 (x2.z.f)) = (Value.int IntKind.i64 (x3.z.f))) ∧ ((Value.int IntKind.i64 2) = (Value.int IntKind.i64 (x3.w))) ∧ True) ∧ ((raw) = (raw)) ∧ (True ∧ True ∧ True ∧ ((Value.int IntKind.u64 (x2.z.a.S.reads)) = (Value.int IntKind.u64 (x3.z.a.S.reads))) ∧ True) ∧ (True ∧ True ∧ True ∧ ((Value.int IntKind.u32 (x2.z.a.S.fresh)) = (Value.int IntKind.u32 (x3.z.a.S.fresh))) ∧ True) ∧ ((x2.z.a.S.nodes) = (x3.z.a.S.nodes)) ∧ ((x2.z.a.S.counts) = (x3.z.a.S.counts)) ∧ ((x2.z.a.S.used) = (x3.z.a.S.used)) ∧ ((x2.z.a.S.gen) = (x3.z.a.S.gen)) ∧
    ((x2.z.a.S.rel) = (x3.z.a.S.rel)) ∧ ((x2.z.a.lx) = (x3.z.a.lx)) ∧ ((x2.z.a.ly) = (x3.z.a.ly)) ∧ (((Value.int IntKind.i64 (x2.z.a.k)) = (Value.int IntKind.i64 (x3.z.a.k))) ∧ ((Value.int IntKind.i64 (x2.z.a.v)) = (Value.int IntKind.i64 (x3.z.a.v))) ∧ True) ∧ (True ∧ True ∧ True) ∧ ((x2.z.d) = (x3.z.d)) ∧ ((x2.z.o) = (x3.z.o)) ∧ True))) ((∃ x3 : XKc P3, (True ∧ (True ∧ True ∧ ((Value.int IntKind.u32 (x2.z.a.x)) = (Value.int IntKind.u32 (x3.z.a.x))) ∧ ((Value.int IntKind.u32 (x2.z.a.y)) = (Value.int IntKind.u32 (x3.z.a.y))) ∧ True ∧ True ∧ True ∧ ((Value.int IntKind.u64 (x2.z.r)) = (Value.int IntKind.u64 (x3.z.r))) ∧ ((Value.int IntKind.u32 (x2.z.i)) = (Value.int IntKind.u32 (x3.z.i))) ∧ ((Value.int IntKind.i64 (x2.z.f)) = (Value.int IntKind.i64 (x3.z.f))) ∧ ((Value.int IntKind.i64 0) = (Value.int IntKind.i64 (x3.w))) ∧ True) ∧ ((raw) = (raw)) ∧ (True ∧ True ∧ True ∧ ((Value.int IntKind.u64 (x2.z.a.S.reads)) = (Value.int IntKind.u64 (x3.z.a.S.reads))) ∧ True) ∧ (True ∧ True ∧ True ∧ ((Value.int IntKind.u32 (x2.z.a.S.fresh)) = (Value.int IntKind.u32 (x3.z.a.S.fresh))) ∧ True) ∧ ((x2.z.a.S.nodes) = (x3.z.a.S.nodes)) ∧ ((x2.z.a.S.counts) = (x3.z.a.S.counts)) ∧ ((x2.z.a.S.used) = (x3.z.a.S.used)) ∧ ((x2.z.a.S.gen) = (x3.z.a.S.gen)) ∧ ((x2.z.a.S.rel) = (x3.z.a.S.rel)) ∧ ((x2.z.a.lx) = (x3.z.a.lx)) ∧ ((x2.z.a.ly) = (x3.z.a.ly)) ∧ (((Value.int IntKind.i64 (x2.z.a.k)) = (Value.int IntKind.i64 (x3.z.a.k))) ∧ ((Value.int IntKind.i64 (x2.z.a.v)) = (Value.int IntKind.i64 (x3.z.a.v))) ∧
    True) ∧ (True ∧ True ∧ True) ∧ ((x2.z.d) = (x3.z.d)) ∧ ((x2.z.o) = (x3.z.o)) ∧ True))))))))))) (((0 ≤ (↑x2.z.a.lx.length : Int)) ∧ ((↑x2.z.a.lx.length : Int) ≤ 65536) ∧ (0 ≤ (↑x2.z.a.ly.length : Int)) ∧ ((↑x2.z.a.ly.length : Int) ≤ 65536) ∧ (∀ p2 : Int, (((p2) = (4 * (Hn ((↑x2.z.a.lx.length : Int) + (↑x2.z.a.ly.length : Int) + 1) + 2))) → (brS (decide ((↑x2.z.o.length : Int) < p2)) ((∃ x3 : XKc P3, (True ∧ (True ∧ True ∧ ((Value.int IntKind.u32 (x2.z.a.x)) = (Value.int IntKind.u32 (x3.z.a.x))) ∧ ((Value.int IntKind.u32 (x2.z.a.y)) = (Value.int IntKind.u32 (x3.z.a.y))) ∧ True ∧ True ∧ True ∧ ((Value.int IntKind.u64 (x2.z.r)) = (Value.int IntKind.u64 (x3.z.r))) ∧ ((Value.int IntKind.u32 (x2.z.i)) = (Value.int IntKind.u32 (x3.z.i))) ∧ ((Value.int IntKind.i64 (x2.z.f)) = (Value.int IntKind.i64 (x3.z.f))) ∧ ((Value.int IntKind.i64 2) = (Value.int IntKind.i64 (x3.w))) ∧ True) ∧ ((raw) = (raw)) ∧ (True ∧ True ∧ True ∧ ((Value.int IntKind.u64 (x2.z.a.S.reads)) = (Value.int IntKind.u64 (x3.z.a.S.reads))) ∧ True) ∧ (True ∧ True ∧ True ∧ ((Value.int IntKind.u32 (x2.z.a.S.fresh)) = (Value.int IntKind.u32 (x3.z.a.S.fresh))) ∧ True) ∧ ((x2.z.a.S.nodes) = (x3.z.a.S.nodes)) ∧ ((x2.z.a.S.counts) = (x3.z.a.S.counts)) ∧ ((x2.z.a.S.used) = (x3.z.a.S.used)) ∧ ((x2.z.a.S.gen) = (x3.z.a.S.gen)) ∧ ((x2.z.a.S.rel) = (x3.z.a.S.rel)) ∧ ((x2.z.a.lx) = (x3.z.a.lx)) ∧ ((x2.z.a.ly) = (x3.z.a.ly)) ∧ (((Value.int IntKind.i64 (x2.z.a.k)) = (Value.int IntKind.i64 (x3.z.a.k))) ∧
    ((Value.int IntKind.i64 (x2.z.a.v)) = (Value.int IntKind.i64 (x3.z.a.v))) ∧ True) ∧ (True ∧ True ∧ True) ∧ ((x2.z.d) = (x3.z.d)) ∧ ((x2.z.o) = (x3.z.o)) ∧ True))) ((∃ x3 : XKc P3, (True ∧ (True ∧ True ∧ ((Value.int IntKind.u32 (x2.z.a.x)) = (Value.int IntKind.u32 (x3.z.a.x))) ∧ ((Value.int IntKind.u32 (x2.z.a.y)) = (Value.int IntKind.u32 (x3.z.a.y))) ∧ True ∧ True ∧ True ∧ ((Value.int IntKind.u64 (x2.z.r)) = (Value.int IntKind.u64 (x3.z.r))) ∧ ((Value.int IntKind.u32 (x2.z.i)) = (Value.int IntKind.u32 (x3.z.i))) ∧ ((Value.int IntKind.i64 (x2.z.f)) = (Value.int IntKind.i64 (x3.z.f))) ∧ ((Value.int IntKind.i64 0) = (Value.int IntKind.i64 (x3.w))) ∧ True) ∧ ((raw) = (raw)) ∧ (True ∧ True ∧ True ∧ ((Value.int IntKind.u64 (x2.z.a.S.reads)) = (Value.int IntKind.u64 (x3.z.a.S.reads))) ∧ True) ∧ (True ∧ True ∧ True ∧ ((Value.int IntKind.u32 (x2.z.a.S.fresh)) = (Value.int IntKind.u32 (x3.z.a.S.fresh))) ∧ True) ∧ ((x2.z.a.S.nodes) = (x3.z.a.S.nodes)) ∧ ((x2.z.a.S.counts) = (x3.z.a.S.counts)) ∧ ((x2.z.a.S.used) = (x3.z.a.S.used)) ∧ ((x2.z.a.S.gen) = (x3.z.a.S.gen)) ∧ ((x2.z.a.S.rel) = (x3.z.a.S.rel)) ∧ ((x2.z.a.lx) = (x3.z.a.lx)) ∧ ((x2.z.a.ly) = (x3.z.a.ly)) ∧ (((Value.int IntKind.i64 (x2.z.a.k)) = (Value.int IntKind.i64 (x3.z.a.k))) ∧ ((Value.int IntKind.i64 (x2.z.a.v)) = (Value.int IntKind.i64 (x3.z.a.v))) ∧ True) ∧ (True ∧ True ∧ True) ∧ ((x2.z.d) = (x3.z.d)) ∧ ((x2.z.o) = (x3.z.o)) ∧ True))))))))))) ∧ (∀ x3 : XKc P3, (True → (brS (x3.z.f != x3.w)
    ((K (SV.one (TV.at (At.val (Value.bool false)))) [(Chunk.row false (EC.ent) (raw))] [])) (((0 ≤ IntKind.i64.wrap (IntKind.i64.wrap ((↑x3.z.a.lx.length : Int) + (↑x3.z.a.ly.length : Int)) + 1)) ∧ (IntKind.i64.wrap (IntKind.i64.wrap ((↑x3.z.a.lx.length : Int) + (↑x3.z.a.ly.length : Int)) + 1) ≤ 2147483647) ∧ (∀ h : Int, (((h) = (Hn (IntKind.i64.wrap (IntKind.i64.wrap ((↑x3.z.a.lx.length : Int) + (↑x3.z.a.ly.length : Int)) + 1)))) → ((0 ≤ x3.z.r) ∧ (x3.z.r ≤ x3.z.a.S.reads) ∧ (x3.z.a.S.reads ≤ 4000000000000000000) ∧ (x3.z.a.S.reads - x3.z.r ≤ IntKind.i64.wrap (60 * IntKind.i64.wrap (h + 2))) ∧ (IntKind.i64.wrap (60 * IntKind.i64.wrap (h + 2)) ≤ 4000000000000000000) ∧ (brS (x3.z.f != 0) ((brS (x3.z.i == 0) (((exW x3.z.a.S) ∧ (∀ d1 : List SlotT, (∀ o1 : List Int, (((d1) = (slotsOf x3.z.a.S)) → (((o1) = (orderOf x3.z.a.S)) → (((d1) = (x3.z.d)) ∧ ((o1) = (x3.z.o)) ∧ (d1.length ≤ 1000000) ∧ (o1.length ≤ 1000000) ∧ (K (SV.one (TV.at (At.val (Value.bool true)))) [(Chunk.row false (EC.ent) (raw))] [])))))))) ((K (SV.one (TV.at (At.val (Value.bool false)))) [(Chunk.row false (EC.ent) (raw))] [])))) ((((((([] : List Ent).length + x3.z.a.lx.length) * bytesOf C0 EC.ent ≤ 140737488355328) ∧ ((([] ++ x3.z.a.lx).length + [(x3.z.a.k, x3.z.a.v)].length) * bytesOf C0 EC.ent ≤ 140737488355328) ∧ ((([] ++ x3.z.a.lx ++ [(x3.z.a.k, x3.z.a.v)]).length + x3.z.a.ly.length) * bytesOf C0 EC.ent ≤ 140737488355328) ∧ (∃ x4 : XKd P4, (True ∧ (True ∧
    ((Value.int IntKind.u32 (x3.z.a.x)) = (Value.int IntKind.u32 (x4.z.a.x))) ∧ ((Value.int IntKind.u32 (x3.z.a.y)) = (Value.int IntKind.u32 (x4.z.a.y))) ∧ True ∧ True ∧ True ∧ ((Value.int IntKind.u32 (x3.z.i)) = (Value.int IntKind.u32 (x4.z.i))) ∧ True ∧ True) ∧ ((raw) = (raw)) ∧ (True ∧ True ∧ True ∧ ((Value.int IntKind.u64 (x3.z.a.S.reads)) = (Value.int IntKind.u64 (x4.z.a.S.reads))) ∧ True) ∧ (True ∧ True ∧ True ∧ ((Value.int IntKind.u32 (x3.z.a.S.fresh)) = (Value.int IntKind.u32 (x4.z.a.S.fresh))) ∧ True) ∧ ((x3.z.a.S.nodes) = (x4.z.a.S.nodes)) ∧ ((x3.z.a.S.counts) = (x4.z.a.S.counts)) ∧ ((x3.z.a.S.used) = (x4.z.a.S.used)) ∧ ((x3.z.a.S.gen) = (x4.z.a.S.gen)) ∧ ((x3.z.a.S.rel) = (x4.z.a.S.rel)) ∧ ((x3.z.a.lx) = (x4.z.a.lx)) ∧ ((x3.z.a.ly) = (x4.z.a.ly)) ∧ (True ∧ True ∧ True) ∧ ((x3.z.d) = (x4.z.d)) ∧ ((x3.z.o) = (x4.z.o)) ∧ (([] ++ x3.z.a.lx ++ [(x3.z.a.k, x3.z.a.v)] ++ x3.z.a.ly) = (x4.all)) ∧ True))) ∧ ((([] : List Ent).length + x3.z.a.lx.length) * bytesOf C0 EC.ent ≤ 140737488355328) ∧ ((([] ++ x3.z.a.lx).length + [(x3.z.a.k, x3.z.a.v)].length) * bytesOf C0 EC.ent ≤ 140737488355328) ∧ ((([] ++ x3.z.a.lx ++ [(x3.z.a.k, x3.z.a.v)]).length + x3.z.a.ly.length) * bytesOf C0 EC.ent ≤ 140737488355328) ∧ (∃ x4 : XKd P4, (True ∧ (True ∧ ((Value.int IntKind.u32 (x3.z.a.x)) = (Value.int IntKind.u32 (x4.z.a.x))) ∧ ((Value.int IntKind.u32 (x3.z.a.y)) = (Value.int IntKind.u32 (x4.z.a.y))) ∧ True ∧ True ∧ True ∧ ((Value.int IntKind.u32 (x3.z.i)) = (Value.int IntKind.u32 (x4.z.i))) ∧
    True ∧ True) ∧ ((raw) = (raw)) ∧ (True ∧ True ∧ True ∧ ((Value.int IntKind.u64 (x3.z.a.S.reads)) = (Value.int IntKind.u64 (x4.z.a.S.reads))) ∧ True) ∧ (True ∧ True ∧ True ∧ ((Value.int IntKind.u32 (x3.z.a.S.fresh)) = (Value.int IntKind.u32 (x4.z.a.S.fresh))) ∧ True) ∧ ((x3.z.a.S.nodes) = (x4.z.a.S.nodes)) ∧ ((x3.z.a.S.counts) = (x4.z.a.S.counts)) ∧ ((x3.z.a.S.used) = (x4.z.a.S.used)) ∧ ((x3.z.a.S.gen) = (x4.z.a.S.gen)) ∧ ((x3.z.a.S.rel) = (x4.z.a.S.rel)) ∧ ((x3.z.a.lx) = (x4.z.a.lx)) ∧ ((x3.z.a.ly) = (x4.z.a.ly)) ∧ (True ∧ True ∧ True) ∧ ((x3.z.d) = (x4.z.d)) ∧ ((x3.z.o) = (x4.z.o)) ∧ (([] ++ x3.z.a.lx ++ [(x3.z.a.k, x3.z.a.v)] ++ x3.z.a.ly) = (x4.all)) ∧ True))) ∧ (∀ x4 : XKd P4, (True → (((0 ≤ (↑x4.z.a.lx.length : Int)) ∧ ((↑x4.z.a.lx.length : Int) ≤ 1000000) ∧ (0 ≤ (↑x4.z.a.ly.length : Int)) ∧ ((↑x4.z.a.ly.length : Int) ≤ 1000000) ∧ (∀ b : Bool, (((b) = (balB (↑x4.z.a.lx.length : Int) (↑x4.z.a.ly.length : Int))) → (brS (b) (((inU x4.z.i) ∧ (exW x4.z.a.S) ∧ (x4.z.a.S.reads < 4000000000000000000) ∧ (∀ S' : Arn, (((S') = (rdS x4.z.a.S (x4.z.a.S.us x4.z.i).toNat)) → (brS ((x4.z.a.S.nd x4.z.i).left != x4.z.a.x) ((K (SV.one (TV.at (At.val (Value.bool false)))) [(Chunk.row false (EC.ent) (raw))] [])) ((brS ((x4.z.a.S.nd x4.z.i).right != x4.z.a.y) ((K (SV.one (TV.at (At.val (Value.bool false)))) [(Chunk.row false (EC.ent) (raw))] [])) (((exW S') ∧ (brS (S'.free != IntKind.i64.wrap ((↑x4.z.o.length : Int) - 1))
    ((K (SV.one (TV.at (At.val (Value.bool false)))) [(Chunk.row false (EC.ent) (raw))] [])) ((∃ x5 : XKd P4, (True ∧ (True ∧ ((Value.int IntKind.u32 (x4.z.a.x)) = (Value.int IntKind.u32 (x5.z.a.x))) ∧ ((Value.int IntKind.u32 (x4.z.a.y)) = (Value.int IntKind.u32 (x5.z.a.y))) ∧ True ∧ ((Value.int IntKind.u32 (x4.z.i)) = (Value.int IntKind.u32 (x5.z.i))) ∧ True ∧ True) ∧ ((raw) = (raw)) ∧ (True ∧ True ∧ True ∧ ((Value.int IntKind.u64 (S'.reads)) = (Value.int IntKind.u64 (x5.z.a.S.reads))) ∧ True) ∧ (True ∧ True ∧ True ∧ ((Value.int IntKind.u32 (S'.fresh)) = (Value.int IntKind.u32 (x5.z.a.S.fresh))) ∧ True) ∧ ((S'.nodes) = (x5.z.a.S.nodes)) ∧ ((S'.counts) = (x5.z.a.S.counts)) ∧ ((S'.used) = (x5.z.a.S.used)) ∧ ((S'.gen) = (x5.z.a.S.gen)) ∧ ((S'.rel) = (x5.z.a.S.rel)) ∧ (True ∧ True ∧ True) ∧ ((x4.z.d) = (x5.z.d)) ∧ ((x4.z.o) = (x5.z.o)) ∧ ((x4.all) = (x5.all)) ∧ True))))))))))))) ((∃ x5 : XKd P4, (True ∧ (True ∧ ((Value.int IntKind.u32 (x4.z.a.x)) = (Value.int IntKind.u32 (x5.z.a.x))) ∧ ((Value.int IntKind.u32 (x4.z.a.y)) = (Value.int IntKind.u32 (x5.z.a.y))) ∧ True ∧ ((Value.int IntKind.u32 (x4.z.i)) = (Value.int IntKind.u32 (x5.z.i))) ∧ True ∧ True) ∧ ((raw) = (raw)) ∧ (True ∧ True ∧ True ∧ ((Value.int IntKind.u64 (x4.z.a.S.reads)) = (Value.int IntKind.u64 (x5.z.a.S.reads))) ∧ True) ∧ (True ∧ True ∧ True ∧ ((Value.int IntKind.u32 (x4.z.a.S.fresh)) = (Value.int IntKind.u32 (x5.z.a.S.fresh))) ∧ True) ∧ ((x4.z.a.S.nodes) = (x5.z.a.S.nodes)) ∧ ((x4.z.a.S.counts) = (x5.z.a.S.counts)) ∧
    ((x4.z.a.S.used) = (x5.z.a.S.used)) ∧ ((x4.z.a.S.gen) = (x5.z.a.S.gen)) ∧ ((x4.z.a.S.rel) = (x5.z.a.S.rel)) ∧ (True ∧ True ∧ True) ∧ ((x4.z.d) = (x5.z.d)) ∧ ((x4.z.o) = (x5.z.o)) ∧ ((x4.all) = (x5.all)) ∧ True))))))) ∧ (∀ x5 : XKd P4, (True → ((∃ hs : List Int, (∃ t1 : Tr, ((Wf x5.z.a.S hs) ∧ (Rep x5.z.a.S t1 x5.z.i) ∧ ((t1.list) = (x5.all)) ∧ (t1.Bal) ∧ (Asc x5.all)))) ∧ (exW x5.z.a.S) ∧ (∀ d1 : List SlotT, (∀ o1 : List Int, (((d1) = (slotsOf x5.z.a.S)) → (((o1) = (orderOf x5.z.a.S)) → ((keptD x5.z.d d1) ∧ (x5.z.d.length ≤ 1000000) ∧ (∃ hs : List Int, ((Wf x5.z.a.S hs) ∧ ([x5.z.a.x, x5.z.a.y, x5.z.i].Perm hs) ∧ ([x5.z.a.x, x5.z.a.y, x5.z.i].length ≤ 1000000) ∧ (K (SV.one (TV.at (At.val (Value.bool true)))) [(Chunk.row false (EC.ent) (raw))] []))))))))))))))))))))))))))))))))))))))))))))))))))))) = _ by kernel_rfl) ?_
  subst hP hP2 hP3 hP4
  obtain ⟨la, ll⟩ := listE_spec raw 150
  have e150 : Int.toNat 150 = 150 := rfl
  rw [e150]
  generalize listE raw 150 = l at *
  have hH := Hn_rng ((l.length : Int) + 0 + 1)
  refine ⟨by decide, by decide, by omega, by omega, by decide, by decide, fun p ep => ⟨f1, f2, by omega, by omega, fun s s1 s2 => ⟨by omega, h0, s1, by omega, fun S x y p1 q hpq hq hp => ?_⟩⟩⟩
  obtain ⟨tx, ty, tt⟩ := pair_trees hp la hpq hq ll
  have hlx : (l.take p1).length ≤ 150 := by simp; omega
  generalize l.take p1 = lx at *
  generalize l.drop q = ly at *
  have mk : ∀ k' : Int, PKa ⟨S, x, y, lx, ly, k', v⟩ := fun k' => ⟨tx, ty, tt⟩
  have en : 0 < lx.length → (IntKind.i64.wrap ((lx.length : Int) - 1)) = (lx.length : Int) - 1 := fun hp => wrap_id (by omega) (by omega)
  refine ⟨brS_of (fun _ => brS_of (fun c1 => ?_) fun _ => ⟨⟨_, mk k⟩, ?_⟩) fun _ => ⟨⟨_, mk k⟩, ?_⟩, fun z _ => ?_⟩
  · have c1 : (lx.length : Int) > 0 := of_decide_eq_true c1
    rw [en (by omega)]
    refine ⟨by omega, by omega, brS_of (fun _ => ⟨by omega, by omega, ⟨_, mk (IntKind.i64.wrap ((lx.getD ((lx.length : Int) - 1).toNat (0, 0)).1 + 1))⟩, ?_⟩) fun _ => ⟨⟨_, mk k⟩, ?_⟩⟩
    · (repeat' first | exact trivial | exact rfl | refine And.intro ?_ ?_)
    · (repeat' first | exact trivial | exact rfl | refine And.intro ?_ ?_)
  · (repeat' first | exact trivial | exact rfl | refine And.intro ?_ ?_)
  · (repeat' first | exact trivial | exact rfl | refine And.intro ?_ ?_)
  clear mk en tt hp hpq hq hlx tx ty lx ly p1 q x y S s1 s2 s ep p hH la ll l k v
  obtain ⟨z, tx, ty, tt⟩ := z
  dsimp only
  obtain ⟨jm, lx, ly, zx, zy, zl, ax, ay, rd0⟩ := id tt
  obtain ⟨w, rx, ry, bx, bY, sz, hl, rd⟩ := id jm
  have hbx := Bal.height bx (by omega)
  have hby := Bal.height bY (by omega)
  have hH := Hn_rng ((z.lx.length : Int) + z.ly.length + 1)
  have hm1 := Hn_ge tx.size (tx.size + ty.size) (by omega)
  have hm2 := Hn_ge ty.size (tx.size + ty.size) (by omega)
  have hm3 := Hn_mono2 tx.size ty.size
  have hj := jB_Hn (a := tx.size) (b := ty.size) (by omega)
  simp only [zx, zy] at hm1 hm2 hm3 hj hbx hby
  refine ⟨⟨_, w⟩, fun d o ed eo => ⟨⟨[z.x, z.y], tx, ty, jm, by omega, fun ho S1 m es hm => ?_, fun ho hf S1 m es hm => ?_, fun ho hf S1 i tj hk => ?_⟩, fun z2 _ => ?_⟩⟩
  · have q1 : S1.reads = z.S.reads + m := by rw [es]; rfl
    refine ⟨⟨⟨z.S, ⟨S1, z.x, z.y, z.lx, z.ly, z.k, z.v⟩, d, o, z.S.reads, 0, 7⟩, tx, ty, tt, rd0, ed, eo, by dsimp only; omega, by dsimp only; omega, .inl ⟨by dsimp only; rw [← lx, ← ly]; exact ho, rfl, rfl, m, es⟩⟩, ?_⟩
    (repeat' first | exact trivial | exact rfl | refine And.intro ?_ ?_)
  · have q1 : S1.reads = z.S.reads + m := by rw [es]; rfl
    rw [zx, zy] at hf
    refine ⟨⟨⟨z.S, ⟨S1, z.x, z.y, z.lx, z.ly, z.k, z.v⟩, d, o, z.S.reads, 0, 2⟩, tx, ty, tt, rd0, ed, eo, by dsimp only; omega, by dsimp only; omega, .inr (.inl ⟨by dsimp only; rw [← lx, ← ly]; exact ho, hf, rfl, rfl, m, es⟩)⟩, ?_⟩
    (repeat' first | exact trivial | exact rfl | refine And.intro ?_ ?_)
  · have q0 := tj.got.rd0
    have q1 := tj.got.rd
    rw [zx, zy] at hf q1
    refine ⟨⟨⟨z.S, ⟨S1, z.x, z.y, z.lx, z.ly, z.k, z.v⟩, d, o, z.S.reads, i, 0⟩, tx, ty, tt, rd0, ed, eo, by dsimp only; omega, by dsimp only; omega, .inr (.inr ⟨by dsimp only; rw [← lx, ← ly]; exact ho, hf, rfl, ⟨_, _, by rw [lx, ly] at tj; exact tj⟩, fun hb => ?_⟩)⟩, ?_⟩
    · obtain ⟨k1, k2, k3⟩ := hk (by rw [zx, zy]; exact hb)
      exact ⟨k1, k2, free_nu w tj.got.wf tj.got.len k3⟩
    (repeat' first | exact trivial | exact rfl | refine And.intro ?_ ?_)
  clear hj hm3 hm2 hm1 hH hby hbx ed eo d o w rx ry bx bY sz hl rd jm lx ly zx zy zl ax ay rd0 tt tx ty z
  obtain ⟨z, hP⟩ := z2
  dsimp only
  obtain ⟨tx, ty, tt, er, ed, eo, r0, r1, oc⟩ := id hP
  obtain ⟨jm, lx, ly, zx, zy, zl, ax, ay, rd0⟩ := id tt
  obtain ⟨w, rx, ry, bx, bY, sz, hl, rd⟩ := id jm
  have ol : (z.o.length : Int) = z.S0.free := by rw [eo]; exact order_free w
  have en : 0 < z.a.lx.length → (IntKind.i64.wrap ((z.a.lx.length : Int) - 1)).toNat = z.a.lx.length - 1 := fun hp => by rw [wrap_id (by omega) (by omega)]; omega
  have ov := ordB_val z.a.lx z.a.k z.a.ly
  have lem7 : ordB z.a.lx z.a.k z.a.ly = true → (7 : Int) = z.f := fun ho => by
    rcases oc with q | q | q
    · exact q.2.1.symm
    · rw [q.1] at ho; cases ho
    · rw [q.1] at ho; cases ho
  have lem2 : ordB z.a.lx z.a.k z.a.ly = false → (z.o.length : Int) < 4 * (Hn ((z.a.lx.length : Int) + z.a.ly.length + 1) + 2) → (2 : Int) = z.f := fun ho hf => by
    rcases oc with q | q | q
    · rw [q.1] at ho; cases ho
    · exact q.2.2.1.symm
    · omega
  have lem0 : ordB z.a.lx z.a.k z.a.ly = false → ¬ (z.o.length : Int) < 4 * (Hn ((z.a.lx.length : Int) + z.a.ly.length + 1) + 2) → (0 : Int) = z.f := fun ho hf => by
    rcases oc with q | q | q
    · rw [q.1] at ho; cases ho
    · omega
    · exact q.2.2.1.symm
  have pos : ∀ {n : Nat}, decide ((n : Int) > 0) = true → decide (0 < n) = true := fun c => decide_eq_true (by have := of_decide_eq_true c; omega)
  have neg : ∀ {n : Nat}, decide ((n : Int) > 0) = false → decide (0 < n) = false := fun c => decide_eq_false (by have := of_decide_eq_false c; omega)
  refine ⟨brS_of (fun c1 => ⟨?_, ?_, brS_of (fun c2 => ⟨⟨z, 7, hP, lem7 ?_⟩, ?_⟩) fun c2 => brS_of (fun c3 => ⟨?_, ?_, brS_of (fun c4 => ⟨⟨z, 7, hP, lem7 ?_⟩, ?_⟩) fun c4 => ?_⟩) fun c3 => ?_⟩) fun c1 => brS_of (fun c3 => ⟨?_, ?_, brS_of (fun c4 => ⟨⟨z, 7, hP, lem7 ?_⟩, ?_⟩) fun c4 => ?_⟩) fun c3 => ?_, fun x3 _ => ?_⟩
  · have := of_decide_eq_true c1; rw [wrap_id (by omega) (by omega)]; omega
  · have := of_decide_eq_true c1; rw [wrap_id (by omega) (by omega)]; omega
  · rw [en (by have := of_decide_eq_true c1; omega)] at c2
    rw [ov, pos c1, c2]; rfl
  · (repeat' first | exact trivial | exact rfl | refine And.intro ?_ ?_)
  · decide
  · have := of_decide_eq_true c3; omega
  · have c4 : decide ((z.a.ly.getD 0 (0, 0)).1 ≤ z.a.k) = true := c4
    rw [ov, pos c3, c4]; simp
  · (repeat' first | exact trivial | exact rfl | refine And.intro ?_ ?_)
  · have c4 : decide ((z.a.ly.getD 0 (0, 0)).1 ≤ z.a.k) = false := c4
    rw [en (by have := of_decide_eq_true c1; omega)] at c2
    have ho : ordB z.a.lx z.a.k z.a.ly = false := by rw [ov, c2, c4]; simp
    refine ⟨by omega, by omega, by omega, by omega, fun p2 ep2 => brS_of (fun c5 => ⟨⟨z, 2, hP, lem2 ho (by have := of_decide_eq_true c5; omega)⟩, ?_⟩) fun c5 => ⟨⟨z, 0, hP, lem0 ho (by have := of_decide_eq_false c5; omega)⟩, ?_⟩⟩
    · (repeat' first | exact trivial | exact rfl | refine And.intro ?_ ?_)
    · (repeat' first | exact trivial | exact rfl | refine And.intro ?_ ?_)
  · rw [en (by have := of_decide_eq_true c1; omega)] at c2
    have ho : ordB z.a.lx z.a.k z.a.ly = false := by rw [ov, c2, neg c3]; simp
    refine ⟨by omega, by omega, by omega, by omega, fun p2 ep2 => brS_of (fun c5 => ⟨⟨z, 2, hP, lem2 ho (by have := of_decide_eq_true c5; omega)⟩, ?_⟩) fun c5 => ⟨⟨z, 0, hP, lem0 ho (by have := of_decide_eq_false c5; omega)⟩, ?_⟩⟩
    · (repeat' first | exact trivial | exact rfl | refine And.intro ?_ ?_)
    · (repeat' first | exact trivial | exact rfl | refine And.intro ?_ ?_)
  · decide
  · have := of_decide_eq_true c3; omega
  · have c4 : decide ((z.a.ly.getD 0 (0, 0)).1 ≤ z.a.k) = true := c4
    rw [ov, pos c3, c4]; simp
  · (repeat' first | exact trivial | exact rfl | refine And.intro ?_ ?_)
  · have c4 : decide ((z.a.ly.getD 0 (0, 0)).1 ≤ z.a.k) = false := c4
    have ho : ordB z.a.lx z.a.k z.a.ly = false := by rw [ov, neg c1, c4]; simp
    refine ⟨by omega, by omega, by omega, by omega, fun p2 ep2 => brS_of (fun c5 => ⟨⟨z, 2, hP, lem2 ho (by have := of_decide_eq_true c5; omega)⟩, ?_⟩) fun c5 => ⟨⟨z, 0, hP, lem0 ho (by have := of_decide_eq_false c5; omega)⟩, ?_⟩⟩
    · (repeat' first | exact trivial | exact rfl | refine And.intro ?_ ?_)
    · (repeat' first | exact trivial | exact rfl | refine And.intro ?_ ?_)
  · have ho : ordB z.a.lx z.a.k z.a.ly = false := by rw [ov, neg c1, neg c3]; simp
    refine ⟨by omega, by omega, by omega, by omega, fun p2 ep2 => brS_of (fun c5 => ⟨⟨z, 2, hP, lem2 ho (by have := of_decide_eq_true c5; omega)⟩, ?_⟩) fun c5 => ⟨⟨z, 0, hP, lem0 ho (by have := of_decide_eq_false c5; omega)⟩, ?_⟩⟩
    · (repeat' first | exact trivial | exact rfl | refine And.intro ?_ ?_)
    · (repeat' first | exact trivial | exact rfl | refine And.intro ?_ ?_)
  clear pos neg lem0 lem2 lem7 ov en ol w rx ry bx bY sz hl rd jm lx ly zx zy zl ax ay rd0 tt er ed eo r0 r1 oc tx ty hP z
  obtain ⟨z, want, ⟨tx, ty, tt, er, ed, eo, r0, r1, oc⟩, hw⟩ := x3
  dsimp only
  obtain ⟨jm, lx, ly, zx, zy, zl, ax, ay, rd0⟩ := id tt
  obtain ⟨w, rx, ry, bx, bY, sz, hl, rd⟩ := id jm
  have hH := Hn_rng ((z.a.lx.length : Int) + z.a.ly.length + 1)
  have ol : (z.o.length : Int) = z.S0.free := by rw [eo]; exact order_free w
  have sl := slots_le w
  have fn := w.free_nonneg
  refine bf7 (by rw [hw]; simp) ?_
  rw [wrap_id (x := (z.a.lx.length : Int) + z.a.ly.length) (by omega) (by omega), wrap_id (x := (z.a.lx.length : Int) + z.a.ly.length + 1) (by omega) (by omega)]
  refine ⟨by omega, by omega, fun hh eh => ?_⟩
  rw [wrap_id (x := hh + 2) (by omega) (by omega), wrap_id (x := 60 * (hh + 2)) (by omega) (by omega)]
  refine ⟨by omega, by omega, by omega, by omega, by omega, ?_⟩
  have same : ∀ m, z.a.S = rdS z.S0 m → exW z.a.S ∧ (∀ d1 o1, d1 = slotsOf z.a.S → o1 = orderOf z.a.S → d1 = z.d ∧ o1 = z.o ∧ d1.length ≤ 1000000 ∧ o1.length ≤ 1000000 ∧ K (.one (.at (vB true))) [.row false EC.ent raw] []) := fun m e => by
    have w1 : Wf z.a.S [z.a.x, z.a.y] := by
      have q : z.a.S.reads = z.S0.reads + m := by rw [e]; rfl
      rw [e]; exact w.rd (by omega)
    exact ⟨⟨_, w1⟩, fun d1 o1 e2 e3 => ⟨by rw [e2, ed, e]; rfl, by rw [e3, eo, e]; rfl, by rw [e2]; have := slots_le w1; omega, by rw [e3]; have := order_len w1; omega, h⟩⟩
  rcases oc with ⟨_, q2, q3, m, q5⟩ | ⟨_, _, q2, q3, m, q5⟩ | ⟨ho, q0, q2, ⟨m, r, tj⟩, hk⟩
  · exact bt7 (by rw [q2]; rfl) (bt7 (by rw [q3]; rfl) (same m q5))
  · exact bt7 (by rw [q2]; rfl) (bt7 (by rw [q3]; rfl) (same m q5))
  refine bf7 (by rw [q2]; rfl) ?_
  have w1 := tj.got.wf
  have hD : PKd z (z.a.lx ++ (z.a.k, z.a.v) :: z.a.ly) := ⟨w1, by rw [ed]; exact kept_of w tj.got.stay tj.got.len, by rw [ed]; omega, tj.tree, ordB_asc ax ay ho, zl, by omega, fun hb => by obtain ⟨k1, k2, k3⟩ := hk hb; exact ⟨by omega, k1, k2, by omega⟩⟩
  rw [bytes_ent]
  refine ⟨⟨⟨by simp; omega, by simp; omega, by simp; omega, ⟨z, _, hD⟩, ?_⟩, by simp; omega, by simp; omega, by simp; omega, ⟨z, _, hD⟩, ?_⟩, fun x4 _ => ?_⟩
  · (repeat' first | exact trivial | exact rfl | refine And.intro ?_ ?_)
    simp
  · (repeat' first | exact trivial | exact rfl | refine And.intro ?_ ?_)
    simp
  clear hD w1 tj hk q0 q2 ho m r same eh hh fn sl ol hH w rx ry bx bY sz hl rd jm lx ly zx zy zl ax ay rd0 hw tt er ed eo r0 r1 tx ty want z
  obtain ⟨z, all, w, kd, dl, rt, aa, zl, ol, hk⟩ := x4
  dsimp only
  have rd0 := w.rds
  refine ⟨⟨by omega, by omega, by omega, by omega, fun b eb => brS_of (fun c => ?_) fun c => ⟨⟨z, all, w, kd, dl, rt, aa, zl, ol, hk⟩, ?_⟩⟩, fun x5 _ => ?_⟩
  · obtain ⟨rd, k1, k2, k3⟩ := hk (by rw [c] at eb; unfold balB at eb; exact of_decide_eq_true eb.symm)
    obtain ⟨u, ru, lu, bu⟩ := rt
    refine ⟨inU_of w ru.us, ⟨_, w⟩, by omega, fun S1 e1 => ?_⟩
    have hu := us_one (z.a.S.us z.i)
    have w1 : Wf S1 [z.i, z.a.x, z.a.y] := by rw [e1]; exact w.rd (by omega)
    have fr : S1.free = z.a.S.free := by rw [e1]; rfl
    have q1 : S1.reads = z.a.S.reads + (z.a.S.us z.i).toNat := by rw [e1]; rfl
    refine bf7 (by rw [k1]; simp) (bf7 (by rw [k2]; simp) ⟨⟨_, w1⟩, bf7 (by rw [fr, k3, wrap_id (by omega) (by omega)]; simp) ⟨⟨⟨z.S0, ⟨S1, z.a.x, z.a.y, List.replicate 10 (0, 0), [], z.a.k, z.a.v⟩, z.d, z.o, z.r, z.i, z.f⟩, all, w1, by dsimp only; rw [e1]; exact kd, dl, ⟨u, by dsimp only; rw [e1]; exact rep_rd ru _, lu, bu⟩, aa, by simp, ol, fun hb => ?_⟩, ?_⟩⟩)
    · unfold balN at hb
      simp at hb
    (repeat' first | exact trivial | exact rfl | refine And.intro ?_ ?_)
  · (repeat' first | exact trivial | exact rfl | refine And.intro ?_ ?_)
  clear rd0 w kd dl rt aa zl ol hk all z
  obtain ⟨z, all, w, kd, dl, rt, aa, zl, ol, hk⟩ := x5
  dsimp only
  obtain ⟨u, ru, lu, bu⟩ := rt
  exact ⟨⟨_, u, w, ru, lu, bu, aa⟩, ⟨_, w⟩, fun d1 o1 e1 _ => ⟨by rw [e1]; exact kd, by omega, [z.i, z.a.x, z.a.y], w, perm_tor z.a.x z.a.y z.i [] |>.trans (perm_tor z.a.y z.i z.a.x []), by simp, h⟩⟩
theorem s_jk : SoundT C0 9 tJk := by
  refine .of Try.func9 (by decide) rfl fun args H K h hB => ?_
  unfold tJk at h
  split at h <;> try exact h.elim
  rename_i at' sk t k v bt f raw
  exact ⟨aJk raw PKa PKb PKc PKd, ⟨frame C0.ok s_lst _, frame C0.ok s_nJn _, frame C0.ok s_spare13 _, s_pairE, frame C0.ok s_aw13 _, frame C0.ok s_dump _, frame C0.ok s_rds _, frame C0.ok s_jj _, frame C0.ok s_ht _, frame C0.ok s_wi _, frame C0.ok s_sameD _, frame C0.ok s_bal _, frame C0.ok s_node _, frame C0.ok s_tree13 _, frame C0.ok s_free _, frame C0.ok s_kept _, frame C0.ok s_sound _, trivial⟩, vc_jk raw t k v at' sk f bt K h.1 h.2.1 h.2.2.1 h.2.2.2⟩
end Go.Proofs.Ytjbkckcjmmmooaa.Sx
end
