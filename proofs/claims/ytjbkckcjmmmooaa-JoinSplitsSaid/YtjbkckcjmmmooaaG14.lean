/- A part of the proof. -/
import Derived.Test.YtjbkckcjmmmooaaG13
import Derived.Test.YtjbkckcjmmmooaaG6
section
/- The law that Split splits. -/
namespace Go.Proofs.Ytjbkckcjmmmooaa.Sx
open Go

/-KEEP Wf exW inU live Arn.cap Arn.free Rep rdS retL Tr.size Tr.list Tr.Bal gN TrR Got flt ltK gtK getE Asc Hn ht entO List.head? List.getLast? PlantR newS slotsOf orderOf RepD upM listE Kept List.Perm keptD rkE outE-/
structure XSa (P : Arn → Int → List Ent → Prop) where
  S : Arn
  i : Int
  l : List Ent
  k : Int
  h : P S i l
structure SpS where
  S0 : Arn
  S : Arn
  root : Int
  l : List Ent
  k : Int
  low : List Ent
  high : List Ent
  v : Int
  is : Bool
  d : List SlotT
  o : List Int
  r : Int
  x : Int
  w : Int
  ws : Bool
  y : Int
  e : Int
structure XSb (P : SpS → Prop) where
  z : SpS
  h : P z
structure XSc (P : SpS → Bool → Prop) where
  z : SpS
  b : Bool
  h : P z b
abbrev chSp (raw : List Ent) (z : SpS) : List (Chunk C0) := [.row false EC.ent raw] ++ chSk 1 z.S ++ [.row true EC.ent z.l, .row true EC.ent z.low, .row true EC.ent z.high, .box [.slc 12, .slc 13], .row true EC.slot z.d, .row true EC.u32 z.o]
noncomputable def aJsp (raw : List Ent) (P : Arn → Int → List Ent → Prop) (P2 : SpS → Prop) (P3 : SpS → Bool → Prop) : Ann C0 := { quiet := [30, 38, 22, 31, 39, 44, 50, 51, 52, 53], Γ := [(34, frameT [] tLst), (50, frameT [] (tRes1 12 0)), (47, frameT [] tSpare), (17, frameT [] tGrow), (41, frameT [] tAw13), (15, frameT [] tMod), (52, frameT [] tRk9), (51, frameT [] tHd), (53, frameT [] tOut), (27, frameT [] tGet), (30, frameT [] tDump), (19, frameT [] tReads), (42, frameT [] tJs), (24, frameT [] tMh), (23, frameT [] tWi), (38, frameT [] tSameD), (44, frameT [] tTree13), (22, frameT [] tFree), (39, frameT [] tKept), (31, frameT [] tSound)], inv := fun n => match n with
  | 1007 => some { X := XSa P, sl := [12, 13, 11, 2], tf := fun x => [.one (.at (.ptr 1 0)), vi .u32 x.i, .one (.at (.slc 8)), vi .i64 x.k], hf := fun x => [.row false EC.ent raw] ++ chSk 1 x.S ++ [.row true EC.ent x.l] }
  | 1011 => some { X := XSb P2, sl := [12, 13, 11, 15, 16, 17, 18, 19, 20, 21, 22, 23, 24, 25], tf := fun x => [.one (.at (.ptr 1 0)), vi .u32 x.z.root, .one (.at (.slc 8)), .one (.at (.slc 9)), .one (.at (.slc 10)), vi .i64 x.z.v, vb x.z.is, .one (.at (.ptr 11 0)), vi .u64 x.z.r, vi .u32 x.z.x, vi .i64 x.z.w, vb x.z.ws, vi .u32 x.z.y, vi .i64 x.z.e], hf := fun x => chSp raw x.z }
  | 1014 => some { X := XSc P3, sl := [12, 13, 11, 15, 16, 17, 18, 19, 20, 21, 22, 23, 24, 25, 26], tf := fun x => [.one (.at (.ptr 1 0)), vi .u32 x.z.root, .one (.at (.slc 8)), .one (.at (.slc 9)), .one (.at (.slc 10)), vi .i64 x.z.v, vb x.z.is, .one (.at (.ptr 11 0)), vi .u64 x.z.r, vi .u32 x.z.x, vi .i64 x.z.w, vb x.z.ws, vi .u32 x.z.y, vi .i64 x.z.e, vb x.b], hf := fun x => chSp raw x.z }
  | _ => none }
def tJsp : Tfm C0 := fun args H K => match args, H with
  | [.at (.slc 0), .at (.val (.int .u64 t)), .at (.val (.int .i64 _)), .at (.val (.int .i64 _)), .at (.val (.int .u16 f))], [.row false .ent raw] => 0 ≤ t ∧ 0 ≤ f ∧ f ≤ 65535 ∧ (∀ x ∈ raw, -9223372036854775808 ≤ x.1 ∧ x.1 ≤ 9223372036854775807) ∧ K (.one (.at (vB true))) [.row false EC.ent raw] []
  | _, _ => False
theorem listE_memJ (raw : List Ent) (n : Nat) : ∀ x ∈ listE raw n, x ∈ raw := by
  have key : ∀ (L acc : List Ent), Asc acc → ∀ x ∈ L.foldl insE acc, x ∈ L ∨ x ∈ acc := by
    intro L
    induction L with
    | nil => intro acc _ x hx; exact .inr hx
    | cons y L ih =>
      intro acc ha x hx
      rcases ih (insE acc y) (insE_asc _ ha) x hx with h | h
      · exact .inl (by simp [h])
      · rcases insE_mem ha h with h | h
        · exact .inl (by simp [h])
        · exact .inr h
  intro x hx
  rcases key (raw.take n) [] List.Pairwise.nil x hx with h | h
  · exact List.mem_of_mem_take h
  · simp at h
theorem take_rk {l : List Ent} (h : Asc l) (k : Int) : l.take (rkE l k) = flt (ltK k) l := by
  induction l with
  | nil => rfl
  | cons x l ih =>
    have ih := ih h.tail
    have hd : ∀ y ∈ l, x.1 < y.1 := (List.pairwise_cons.1 h).1
    unfold rkE flt at ih ⊢
    rw [List.filter_cons, List.filter_cons]
    by_cases a : x.1 < k
    · rw [if_pos (by simp [a]), if_pos (by simp [ltK, a]), List.length_cons, List.take_succ_cons, ih]
    · have e : l.filter (fun x => decide (x.1 < k)) = [] := by
        rw [List.filter_eq_nil_iff]
        intro y hy
        have := hd y hy
        simp; omega
      have e2 : l.filter (fun x => ltK k x.1) = [] := by
        rw [List.filter_eq_nil_iff]
        intro y hy
        have := hd y hy
        simp [ltK]; omega
      rw [if_neg (by simp [a]), if_neg (by simp [ltK, a]), e, e2]; rfl
theorem out_gt {l : List Ent} (k : Int) (h : ∀ x ∈ l, -9223372036854775808 ≤ x.1) : outE l (-9223372036854775808) k = flt (gtK k) l := by
  unfold outE flt
  refine List.filter_congr fun x hx => ?_
  have := h x hx
  unfold gtK
  rw [decide_eq_false (show ¬ x.1 < -9223372036854775808 by omega), Bool.false_or]
def whl (z : SpS) : Prop := getE z.l z.k = none ∧ (z.low = [] ∨ z.high = [])
def SpD (z : SpS) (t : Tr) : Prop := upM z.S0 [z.root] t z.root ∧ t.list = z.l ∧ t.size = z.l.length ∧ z.l.length ≤ 150 ∧ z.S0.reads = 0 ∧ z.r = 0 ∧ z.d = slotsOf z.S0 ∧ z.o = orderOf z.S0 ∧ 0 ≤ z.S.reads ∧ z.S.reads ≤ 120 * (Hn (z.l.length : Int) + 2) ∧ z.low = flt (ltK z.k) z.l ∧ z.high = flt (gtK z.k) z.l ∧ z.v = (getE z.l z.k).getD 0 ∧ z.is = (getE z.l z.k).isSome
def SpO (z : SpS) : Prop := (¬ whl z ∧ z.S0.free < 12 * (Hn (z.l.length : Int) + 2) ∧ z.e = 2 ∧ z.x = 0 ∧ z.y = 0 ∧ z.w = 0 ∧ z.ws = false ∧ ∃ m, z.S = rdS z.S0 m) ∨
  ((whl z ∨ 12 * (Hn (z.l.length : Int) + 2) ≤ z.S0.free) ∧ z.e = 0 ∧ z.w = z.v ∧ z.ws = z.is ∧ Wf z.S [z.x, z.y, z.root] ∧ keptD z.d (slotsOf z.S) ∧ (∃ t, Rep z.S t z.x ∧ t.list = z.low ∧ t.Bal) ∧ (∃ t, Rep z.S t z.y ∧ t.list = z.high ∧ t.Bal) ∧ (whl z → (z.low ≠ [] → z.x = z.root) ∧ (z.high ≠ [] → z.y = z.root) ∧ z.S.free = z.S0.free))
def PSb (z : SpS) : Prop := ∃ t, SpD z t ∧ SpO z
def PSc (z : SpS) (b : Bool) : Prop := PSb z ∧ (b = true ↔ whl z)
def PSa (S : Arn) (i : Int) (l : List Ent) : Prop := ∃ t, upM S [i] t i ∧ t.list = l ∧ t.size = l.length ∧ l.length ≤ 150 ∧ S.reads = 0 ∧ ∀ x ∈ l, -9223372036854775808 ≤ x.1
theorem not_whole {l : List Ent} {k : Int} (ha : Asc l) (h1 : l.head?.isSome = true) (h2 : ¬ (l.head?.getD (0, 0)).1 > k) (h3 : ¬ (l.getLast?.getD (0, 0)).1 < k) (hn : getE l k = none) : flt (ltK k) l ≠ [] ∧ flt (gtK k) l ≠ [] := by
  have no : ∀ x ∈ l, x.1 ≠ k := fun x hx e => by
    obtain ⟨a, b⟩ := x
    have e : a = k := e
    subst e
    rw [(split_join ha hx).2] at hn
    cases hn
  have hne : l ≠ [] := fun e => by rw [e] at h1; cases h1
  constructor
  · cases l with
    | nil => exact absurd rfl hne
    | cons x l =>
      have h2 : ¬ x.1 > k := h2
      have := no x (by simp)
      intro e
      have hm : x ∈ flt (ltK k) (x :: l) := List.mem_filter.2 ⟨by simp, by simp [ltK]; omega⟩
      rw [e] at hm; simp at hm
  · rw [List.getLast?_eq_some_getLast hne] at h3
    have h3 : ¬ (l.getLast hne).1 < k := h3
    have hm0 := List.getLast_mem hne
    have := no _ hm0
    intro e
    have hm : l.getLast hne ∈ flt (gtK k) l := List.mem_filter.2 ⟨hm0, by simp [gtK]; omega⟩
    rw [e] at hm; simp at hm
theorem vc_jsp (raw : List Ent) (t k at' f : Int) (K : KT) (h0 : 0 ≤ t) (f1 : 0 ≤ f) (f2 : f ≤ 65535) (hw : ∀ x ∈ raw, -9223372036854775808 ≤ x.1 ∧ x.1 ≤ 9223372036854775807) (h : K (.one (.at (vB true))) [.row false EC.ent raw] []) :
    vc C0 (aJsp raw PSa PSb PSc) Try.f10 [.at (.slc 0), .at (vU64 t), .at (vI k), .at (vI at'), .at (.val (.int .u16 f))] [.row false EC.ent raw] (normK 1 K) := by
  generalize hP : PSa = P
  generalize hP2 : PSb = P2
  generalize hP3 : PSc = P3
  refine Eq.mp (show (((0 : Int) ≤ 150) ∧
((150 : Int) ≤ 1000000) ∧
(0 ≤ (↑(listE raw (Int.toNat 150)).length : Int)) ∧
((↑(listE raw (Int.toNat 150)).length : Int) ≤ 65536) ∧
(∀ p : Int, (((p) = (12 * (Hn ((↑(listE raw (Int.toNat 150)).length : Int) + 0) + 2))) → ((0 ≤ f) ∧ (f ≤ 65535) ∧ (0 ≤ p) ∧ (p ≤ 60000) ∧ (∀ s : Int, ((0 ≤ s) → ((s ≤ p + 8) → ((0 ≤ t) ∧ (1 ≤ IntKind.i64.wrap (1 + s)) ∧ (IntKind.i64.wrap (1 + s) ≤ 30000) ∧ ((listE raw (Int.toNat 150)).length ≤ 30000) ∧ (∀ S' : Arn, (∀ i : Int, ((PlantR (newS ((↑(listE raw (Int.toNat 150)).length : Int) + IntKind.i64.wrap (1 + s)).toNat) [] (listE raw (Int.toNat 150)) S' i) → ((brS (decide ((↑(listE raw (Int.toNat 150)).length : Int) > 0)) ((brS (at'.tmod 3 != 0) (((0 < (↑(listE raw (Int.toNat 150)).length : Int)) ∧ ((↑(listE raw (Int.toNat 150)).length : Int) ≤ 9223372036854775807) ∧ (∀ x : Int, (((x) = (at' % (↑(listE raw (Int.toNat 150)).length : Int))) → ((0 ≤ x) ∧ (x < (↑(listE raw (Int.toNat 150)).length : Int)) ∧ (∃ x1 : XSa P, (True ∧ (((Value.int IntKind.i64 (((listE raw (Int.toNat 150)).getD x.toNat (0, 0)).fst)) = (Value.int IntKind.i64 (x1.k))) ∧ True ∧ True ∧ ((Value.int IntKind.u32 (i)) = (Value.int IntKind.u32 (x1.i))) ∧ True) ∧ ((raw) = (raw)) ∧ (True ∧ True ∧ True ∧ ((Value.int IntKind.u64 (S'.reads)) = (Value.int IntKind.u64 (x1.S.reads))) ∧ True) ∧ (True ∧ True ∧ True ∧ ((Value.int IntKind.u32 (S'.fresh)) = (Value.int IntKind.u32 (x1.S.fresh))) ∧ True) ∧ ((S'.nodes) = (x1.S.nodes)) ∧ ((S'.counts) = (x1.S.counts)) ∧
    ((S'.used) = (x1.S.used)) ∧ ((S'.gen) = (x1.S.gen)) ∧ ((S'.rel) = (x1.S.rel)) ∧ ((listE raw (Int.toNat 150)) = (x1.l)) ∧ True))))))) ((∃ x : XSa P, (True ∧ (((Value.int IntKind.i64 (k)) = (Value.int IntKind.i64 (x.k))) ∧ True ∧ True ∧ ((Value.int IntKind.u32 (i)) = (Value.int IntKind.u32 (x.i))) ∧ True) ∧ ((raw) = (raw)) ∧ (True ∧ True ∧ True ∧ ((Value.int IntKind.u64 (S'.reads)) = (Value.int IntKind.u64 (x.S.reads))) ∧ True) ∧ (True ∧ True ∧ True ∧ ((Value.int IntKind.u32 (S'.fresh)) = (Value.int IntKind.u32 (x.S.fresh))) ∧ True) ∧ ((S'.nodes) = (x.S.nodes)) ∧ ((S'.counts) = (x.S.counts)) ∧ ((S'.used) = (x.S.used)) ∧ ((S'.gen) = (x.S.gen)) ∧ ((S'.rel) = (x.S.rel)) ∧ ((listE raw (Int.toNat 150)) = (x.l)) ∧ True))))) ((∃ x : XSa P, (True ∧ (((Value.int IntKind.i64 (k)) = (Value.int IntKind.i64 (x.k))) ∧ True ∧ True ∧ ((Value.int IntKind.u32 (i)) = (Value.int IntKind.u32 (x.i))) ∧ True) ∧ ((raw) = (raw)) ∧ (True ∧ True ∧ True ∧ ((Value.int IntKind.u64 (S'.reads)) = (Value.int IntKind.u64 (x.S.reads))) ∧ True) ∧ (True ∧ True ∧ True ∧ ((Value.int IntKind.u32 (S'.fresh)) = (Value.int IntKind.u32 (x.S.fresh))) ∧ True) ∧ ((S'.nodes) = (x.S.nodes)) ∧ ((S'.counts) = (x.S.counts)) ∧ ((S'.used) = (x.S.used)) ∧ ((S'.gen) = (x.S.gen)) ∧ ((S'.rel) = (x.S.rel)) ∧ ((listE raw (Int.toNat 150)) = (x.l)) ∧ True)))) ∧ (∀ x : XSa P, (True → ((x.l.length ≤ 1000000) ∧ (∀ n : Int, (((n) = ((↑(rkE x.l x.k) : Int))) → ((x.l.length ≤ 1000000) ∧ (∀ r : List Ent, (((r) = (List.take n.toNat x.l)) →
    ((x.l.length ≤ 1000000) ∧ (∀ x1 : Option Int, (((x1) = (getE x.l x.k)) → ((exW x.S) ∧ (∀ d : List SlotT, (∀ o : List Int, (((d) = (slotsOf x.S)) → (((o) = (orderOf x.S)) → ((∃ hs : List Int, (∃ t1 : Tr, ((upM x.S hs t1 x.i) ∧ ((t1.list.head?.isSome = false ∨ (t1.list.head?.getD (0, 0)).fst > x.k) → (∀ S'1 : Arn, (∀ m : Nat, (((S'1) = (retL (rdS x.S m) x.i)) → ((m ≤ ht t1) → (∃ x2 : XSb P2, (True ∧ (True ∧ True ∧ ((Value.int IntKind.u32 (x.i)) = (Value.int IntKind.u32 (x2.z.root))) ∧ True ∧ True ∧ ((Value.int IntKind.i64 (x1.getD 0)) = (Value.int IntKind.i64 (x2.z.v))) ∧ ((Value.bool (x1.isSome)) = (Value.bool (x2.z.is))) ∧ True ∧ ((Value.int IntKind.u64 (x.S.reads)) = (Value.int IntKind.u64 (x2.z.r))) ∧ ((Value.int IntKind.u32 0) = (Value.int IntKind.u32 (x2.z.x))) ∧ ((Value.int IntKind.i64 0) = (Value.int IntKind.i64 (x2.z.w))) ∧ ((Value.bool false) = (Value.bool (x2.z.ws))) ∧ ((Value.int IntKind.u32 (x.i)) = (Value.int IntKind.u32 (x2.z.y))) ∧ ((Value.int IntKind.i64 0) = (Value.int IntKind.i64 (x2.z.e))) ∧ True) ∧ ((raw) = (raw)) ∧ (True ∧ True ∧ True ∧ ((Value.int IntKind.u64 (S'1.reads)) = (Value.int IntKind.u64 (x2.z.S.reads))) ∧ True) ∧ (True ∧ True ∧ True ∧ ((Value.int IntKind.u32 (S'1.fresh)) = (Value.int IntKind.u32 (x2.z.S.fresh))) ∧ True) ∧ ((S'1.nodes) = (x2.z.S.nodes)) ∧ ((S'1.counts) = (x2.z.S.counts)) ∧ ((S'1.used) = (x2.z.S.used)) ∧ ((S'1.gen) = (x2.z.S.gen)) ∧ ((S'1.rel) = (x2.z.S.rel)) ∧ ((x.l) = (x2.z.l)) ∧ ((r) = (x2.z.low)) ∧
    ((outE x.l (-9223372036854775808) x.k) = (x2.z.high)) ∧ (True ∧ True ∧ True) ∧ ((d) = (x2.z.d)) ∧ ((o) = (x2.z.o)) ∧ True))))))) ∧ (((t1.list.head?.isSome) = true) → ((¬(t1.list.head?.getD (0, 0)).fst > x.k) → (((t1.list.getLast?.getD (0, 0)).fst < x.k) → (∀ S'1 : Arn, (∀ m : Nat, (((S'1) = (retL (rdS x.S m) x.i)) → ((m ≤ 2 * ht t1) → (∃ x2 : XSb P2, (True ∧ (True ∧ True ∧ ((Value.int IntKind.u32 (x.i)) = (Value.int IntKind.u32 (x2.z.root))) ∧ True ∧ True ∧ ((Value.int IntKind.i64 (x1.getD 0)) = (Value.int IntKind.i64 (x2.z.v))) ∧ ((Value.bool (x1.isSome)) = (Value.bool (x2.z.is))) ∧ True ∧ ((Value.int IntKind.u64 (x.S.reads)) = (Value.int IntKind.u64 (x2.z.r))) ∧ ((Value.int IntKind.u32 (x.i)) = (Value.int IntKind.u32 (x2.z.x))) ∧ ((Value.int IntKind.i64 0) = (Value.int IntKind.i64 (x2.z.w))) ∧ ((Value.bool false) = (Value.bool (x2.z.ws))) ∧ ((Value.int IntKind.u32 0) = (Value.int IntKind.u32 (x2.z.y))) ∧ ((Value.int IntKind.i64 0) = (Value.int IntKind.i64 (x2.z.e))) ∧ True) ∧ ((raw) = (raw)) ∧ (True ∧ True ∧ True ∧ ((Value.int IntKind.u64 (S'1.reads)) = (Value.int IntKind.u64 (x2.z.S.reads))) ∧ True) ∧ (True ∧ True ∧ True ∧ ((Value.int IntKind.u32 (S'1.fresh)) = (Value.int IntKind.u32 (x2.z.S.fresh))) ∧ True) ∧ ((S'1.nodes) = (x2.z.S.nodes)) ∧ ((S'1.counts) = (x2.z.S.counts)) ∧ ((S'1.used) = (x2.z.S.used)) ∧ ((S'1.gen) = (x2.z.S.gen)) ∧ ((S'1.rel) = (x2.z.S.rel)) ∧ ((x.l) = (x2.z.l)) ∧ ((r) = (x2.z.low)) ∧ ((outE x.l (-9223372036854775808) x.k) = (x2.z.high)) ∧ (True ∧
    True ∧ True) ∧ ((d) = (x2.z.d)) ∧ ((o) = (x2.z.o)) ∧ True))))))))) ∧ (((t1.list.head?.isSome) = true) → ((¬(t1.list.head?.getD (0, 0)).fst > x.k) → ((¬(t1.list.getLast?.getD (0, 0)).fst < x.k) → ((x.S.free < 12 * (Hn (↑t1.size : Int) + 2)) → (∀ S'1 : Arn, (∀ m : Nat, (((S'1) = (rdS x.S m)) → ((m ≤ 2 * ht t1 + 1) → (∃ x2 : XSb P2, (True ∧ (True ∧ True ∧ ((Value.int IntKind.u32 (x.i)) = (Value.int IntKind.u32 (x2.z.root))) ∧ True ∧ True ∧ ((Value.int IntKind.i64 (x1.getD 0)) = (Value.int IntKind.i64 (x2.z.v))) ∧ ((Value.bool (x1.isSome)) = (Value.bool (x2.z.is))) ∧ True ∧ ((Value.int IntKind.u64 (x.S.reads)) = (Value.int IntKind.u64 (x2.z.r))) ∧ ((Value.int IntKind.u32 0) = (Value.int IntKind.u32 (x2.z.x))) ∧ ((Value.int IntKind.i64 0) = (Value.int IntKind.i64 (x2.z.w))) ∧ ((Value.bool false) = (Value.bool (x2.z.ws))) ∧ ((Value.int IntKind.u32 0) = (Value.int IntKind.u32 (x2.z.y))) ∧ ((Value.int IntKind.i64 2) = (Value.int IntKind.i64 (x2.z.e))) ∧ True) ∧ ((raw) = (raw)) ∧ (True ∧ True ∧ True ∧ ((Value.int IntKind.u64 (S'1.reads)) = (Value.int IntKind.u64 (x2.z.S.reads))) ∧ True) ∧ (True ∧ True ∧ True ∧ ((Value.int IntKind.u32 (S'1.fresh)) = (Value.int IntKind.u32 (x2.z.S.fresh))) ∧ True) ∧ ((S'1.nodes) = (x2.z.S.nodes)) ∧ ((S'1.counts) = (x2.z.S.counts)) ∧ ((S'1.used) = (x2.z.S.used)) ∧ ((S'1.gen) = (x2.z.S.gen)) ∧ ((S'1.rel) = (x2.z.S.rel)) ∧ ((x.l) = (x2.z.l)) ∧ ((r) = (x2.z.low)) ∧ ((outE x.l (-9223372036854775808) x.k) = (x2.z.high)) ∧ (True ∧ True ∧ True) ∧
    ((d) = (x2.z.d)) ∧ ((o) = (x2.z.o)) ∧ True)))))))))) ∧ (((t1.list.head?.isSome) = true) → ((¬(t1.list.head?.getD (0, 0)).fst > x.k) → ((¬(t1.list.getLast?.getD (0, 0)).fst < x.k) → ((12 * (Hn (↑t1.size : Int) + 2) ≤ x.S.free) → (∀ S'1 : Arn, (∀ x2 : Int, (∀ y : Int, (∀ o1 : Option Int, ((Got x.S hs (7 * gN (t1.size + 1) + 1) (35 * gN (t1.size + 1) + 5 + 2 * ht t1 + 1) S'1 (x2 :: y :: hs)) → ((∃ t11 : Tr, ((Rep S'1 t11 x2) ∧ ((t11.list) = (flt (ltK x.k) t1.list)) ∧ (t11.Bal))) → ((∃ t2 : Tr, ((Rep S'1 t2 y) ∧ ((t2.list) = (flt (gtK x.k) t1.list)) ∧ (t2.Bal))) → (((o1) = (getE t1.list x.k)) → (∃ x3 : XSb P2, (True ∧ (True ∧ True ∧ ((Value.int IntKind.u32 (x.i)) = (Value.int IntKind.u32 (x3.z.root))) ∧ True ∧ True ∧ ((Value.int IntKind.i64 (x1.getD 0)) = (Value.int IntKind.i64 (x3.z.v))) ∧ ((Value.bool (x1.isSome)) = (Value.bool (x3.z.is))) ∧ True ∧ ((Value.int IntKind.u64 (x.S.reads)) = (Value.int IntKind.u64 (x3.z.r))) ∧ ((Value.int IntKind.u32 (x2)) = (Value.int IntKind.u32 (x3.z.x))) ∧ ((Value.int IntKind.i64 (o1.getD 0)) = (Value.int IntKind.i64 (x3.z.w))) ∧ ((Value.bool (o1.isSome)) = (Value.bool (x3.z.ws))) ∧ ((Value.int IntKind.u32 (y)) = (Value.int IntKind.u32 (x3.z.y))) ∧ ((Value.int IntKind.i64 0) = (Value.int IntKind.i64 (x3.z.e))) ∧ True) ∧ ((raw) = (raw)) ∧ (True ∧ True ∧ True ∧ ((Value.int IntKind.u64 (S'1.reads)) = (Value.int IntKind.u64 (x3.z.S.reads))) ∧ True) ∧ (True ∧ True ∧ True ∧
    ((Value.int IntKind.u32 (S'1.fresh)) = (Value.int IntKind.u32 (x3.z.S.fresh))) ∧ True) ∧ ((S'1.nodes) = (x3.z.S.nodes)) ∧ ((S'1.counts) = (x3.z.S.counts)) ∧ ((S'1.used) = (x3.z.S.used)) ∧ ((S'1.gen) = (x3.z.S.gen)) ∧ ((S'1.rel) = (x3.z.S.rel)) ∧ ((x.l) = (x3.z.l)) ∧ ((r) = (x3.z.low)) ∧ ((outE x.l (-9223372036854775808) x.k) = (x3.z.high)) ∧ (True ∧ True ∧ True) ∧ ((d) = (x3.z.d)) ∧ ((o) = (x3.z.o)) ∧ True))))))))))))))))) ∧ (∀ x2 : XSb P2, (True → ((0 ≤ (↑x2.z.l.length : Int)) ∧ ((↑x2.z.l.length : Int) ≤ 2147483647) ∧ (∀ h : Int, (((h) = (Hn (↑x2.z.l.length : Int))) → ((0 ≤ x2.z.r) ∧ (x2.z.r ≤ x2.z.S.reads) ∧ (x2.z.S.reads ≤ 4000000000000000000) ∧ (x2.z.S.reads - x2.z.r ≤ IntKind.i64.wrap (120 * IntKind.i64.wrap (h + 2))) ∧ (IntKind.i64.wrap (120 * IntKind.i64.wrap (h + 2)) ≤ 4000000000000000000) ∧ (brS (!x2.z.is) ((brS ((↑x2.z.low.length : Int) == 0) ((∃ x3 : XSc P3, (True ∧ (True ∧ True ∧ ((Value.int IntKind.u32 (x2.z.root)) = (Value.int IntKind.u32 (x3.z.root))) ∧ True ∧ True ∧ ((Value.int IntKind.i64 (x2.z.v)) = (Value.int IntKind.i64 (x3.z.v))) ∧ ((Value.bool (x2.z.is)) = (Value.bool (x3.z.is))) ∧ True ∧ ((Value.int IntKind.u64 (x2.z.r)) = (Value.int IntKind.u64 (x3.z.r))) ∧ ((Value.int IntKind.u32 (x2.z.x)) = (Value.int IntKind.u32 (x3.z.x))) ∧ ((Value.int IntKind.i64 (x2.z.w)) = (Value.int IntKind.i64 (x3.z.w))) ∧ ((Value.bool (x2.z.ws)) = (Value.bool (x3.z.ws))) ∧ ((Value.int IntKind.u32 (x2.z.y)) = (Value.int IntKind.u32 (x3.z.y))) ∧
    ((Value.int IntKind.i64 (x2.z.e)) = (Value.int IntKind.i64 (x3.z.e))) ∧ ((Value.bool true) = (Value.bool (x3.b))) ∧ True) ∧ ((raw) = (raw)) ∧ (True ∧ True ∧ True ∧ ((Value.int IntKind.u64 (x2.z.S.reads)) = (Value.int IntKind.u64 (x3.z.S.reads))) ∧ True) ∧ (True ∧ True ∧ True ∧ ((Value.int IntKind.u32 (x2.z.S.fresh)) = (Value.int IntKind.u32 (x3.z.S.fresh))) ∧ True) ∧ ((x2.z.S.nodes) = (x3.z.S.nodes)) ∧ ((x2.z.S.counts) = (x3.z.S.counts)) ∧ ((x2.z.S.used) = (x3.z.S.used)) ∧ ((x2.z.S.gen) = (x3.z.S.gen)) ∧ ((x2.z.S.rel) = (x3.z.S.rel)) ∧ ((x2.z.l) = (x3.z.l)) ∧ ((x2.z.low) = (x3.z.low)) ∧ ((x2.z.high) = (x3.z.high)) ∧ (True ∧ True ∧ True) ∧ ((x2.z.d) = (x3.z.d)) ∧ ((x2.z.o) = (x3.z.o)) ∧ True))) ((∃ x3 : XSc P3, (True ∧ (True ∧ True ∧ ((Value.int IntKind.u32 (x2.z.root)) = (Value.int IntKind.u32 (x3.z.root))) ∧ True ∧ True ∧ ((Value.int IntKind.i64 (x2.z.v)) = (Value.int IntKind.i64 (x3.z.v))) ∧ ((Value.bool (x2.z.is)) = (Value.bool (x3.z.is))) ∧ True ∧ ((Value.int IntKind.u64 (x2.z.r)) = (Value.int IntKind.u64 (x3.z.r))) ∧ ((Value.int IntKind.u32 (x2.z.x)) = (Value.int IntKind.u32 (x3.z.x))) ∧ ((Value.int IntKind.i64 (x2.z.w)) = (Value.int IntKind.i64 (x3.z.w))) ∧ ((Value.bool (x2.z.ws)) = (Value.bool (x3.z.ws))) ∧ ((Value.int IntKind.u32 (x2.z.y)) = (Value.int IntKind.u32 (x3.z.y))) ∧ ((Value.int IntKind.i64 (x2.z.e)) = (Value.int IntKind.i64 (x3.z.e))) ∧ ((Value.bool ((↑x2.z.high.length : Int) == 0)) = (Value.bool (x3.b))) ∧ True) ∧ ((raw) = (raw)) ∧ (True ∧ True ∧ True ∧
    ((Value.int IntKind.u64 (x2.z.S.reads)) = (Value.int IntKind.u64 (x3.z.S.reads))) ∧ True) ∧ (True ∧ True ∧ True ∧ ((Value.int IntKind.u32 (x2.z.S.fresh)) = (Value.int IntKind.u32 (x3.z.S.fresh))) ∧ True) ∧ ((x2.z.S.nodes) = (x3.z.S.nodes)) ∧ ((x2.z.S.counts) = (x3.z.S.counts)) ∧ ((x2.z.S.used) = (x3.z.S.used)) ∧ ((x2.z.S.gen) = (x3.z.S.gen)) ∧ ((x2.z.S.rel) = (x3.z.S.rel)) ∧ ((x2.z.l) = (x3.z.l)) ∧ ((x2.z.low) = (x3.z.low)) ∧ ((x2.z.high) = (x3.z.high)) ∧ (True ∧ True ∧ True) ∧ ((x2.z.d) = (x3.z.d)) ∧ ((x2.z.o) = (x3.z.o)) ∧ True))))) ((∃ x3 : XSc P3, (True ∧ (True ∧ True ∧ ((Value.int IntKind.u32 (x2.z.root)) = (Value.int IntKind.u32 (x3.z.root))) ∧ True ∧ True ∧ ((Value.int IntKind.i64 (x2.z.v)) = (Value.int IntKind.i64 (x3.z.v))) ∧ ((Value.bool (x2.z.is)) = (Value.bool (x3.z.is))) ∧ True ∧ ((Value.int IntKind.u64 (x2.z.r)) = (Value.int IntKind.u64 (x3.z.r))) ∧ ((Value.int IntKind.u32 (x2.z.x)) = (Value.int IntKind.u32 (x3.z.x))) ∧ ((Value.int IntKind.i64 (x2.z.w)) = (Value.int IntKind.i64 (x3.z.w))) ∧ ((Value.bool (x2.z.ws)) = (Value.bool (x3.z.ws))) ∧ ((Value.int IntKind.u32 (x2.z.y)) = (Value.int IntKind.u32 (x3.z.y))) ∧ ((Value.int IntKind.i64 (x2.z.e)) = (Value.int IntKind.i64 (x3.z.e))) ∧ ((Value.bool false) = (Value.bool (x3.b))) ∧ True) ∧ ((raw) = (raw)) ∧ (True ∧ True ∧ True ∧ ((Value.int IntKind.u64 (x2.z.S.reads)) = (Value.int IntKind.u64 (x3.z.S.reads))) ∧ True) ∧ (True ∧ True ∧ True ∧
    ((Value.int IntKind.u32 (x2.z.S.fresh)) = (Value.int IntKind.u32 (x3.z.S.fresh))) ∧ True) ∧ ((x2.z.S.nodes) = (x3.z.S.nodes)) ∧ ((x2.z.S.counts) = (x3.z.S.counts)) ∧ ((x2.z.S.used) = (x3.z.S.used)) ∧ ((x2.z.S.gen) = (x3.z.S.gen)) ∧ ((x2.z.S.rel) = (x3.z.S.rel)) ∧ ((x2.z.l) = (x3.z.l)) ∧ ((x2.z.low) = (x3.z.low)) ∧ ((x2.z.high) = (x3.z.high)) ∧ (True ∧ True ∧ True) ∧ ((x2.z.d) = (x3.z.d)) ∧ ((x2.z.o) = (x3.z.o)) ∧ True)))) ∧ (∀ x3 : XSc P3, (True → (brS (!x3.b) (((0 ≤ (↑x3.z.l.length : Int)) ∧ ((↑x3.z.l.length : Int) ≤ 65536) ∧ (∀ p1 : Int, (((p1) = (12 * (Hn ((↑x3.z.l.length : Int) + 0) + 2))) → (brS (decide ((↑x3.z.o.length : Int) < p1)) ((brS (x3.z.e == 2) ((brS (x3.z.x == 0) ((brS (x3.z.y == 0) ((brS (x3.z.w == 0) ((brS (!x3.z.ws) (((exW x3.z.S) ∧ (∀ d1 : List SlotT, (∀ o1 : List Int, (((d1) = (slotsOf x3.z.S)) → (((o1) = (orderOf x3.z.S)) → (((d1) = (x3.z.d)) ∧ ((o1) = (x3.z.o)) ∧ (d1.length ≤ 1000000) ∧ (o1.length ≤ 1000000) ∧ (K (SV.one (TV.at (At.val (Value.bool true)))) [(Chunk.row false (EC.ent) (raw))] [])))))))) ((K (SV.one (TV.at (At.val (Value.bool false)))) [(Chunk.row false (EC.ent) (raw))] [])))) ((K (SV.one (TV.at (At.val (Value.bool false)))) [(Chunk.row false (EC.ent) (raw))] [])))) ((K (SV.one (TV.at (At.val (Value.bool false)))) [(Chunk.row false (EC.ent) (raw))] [])))) ((K (SV.one (TV.at (At.val (Value.bool false)))) [(Chunk.row false (EC.ent) (raw))] [])))) ((K (SV.one (TV.at (At.val (Value.bool false)))) [(Chunk.row false (EC.ent) (raw))] []))))
    ((brS (x3.z.e != 0) ((K (SV.one (TV.at (At.val (Value.bool false)))) [(Chunk.row false (EC.ent) (raw))] [])) ((brS (x3.z.w != x3.z.v) ((K (SV.one (TV.at (At.val (Value.bool false)))) [(Chunk.row false (EC.ent) (raw))] [])) ((brS (!x3.z.ws == x3.z.is) ((K (SV.one (TV.at (At.val (Value.bool false)))) [(Chunk.row false (EC.ent) (raw))] [])) (((∃ hs : List Int, (∃ t1 : Tr, ((Wf x3.z.S hs) ∧ (Rep x3.z.S t1 x3.z.x) ∧ ((t1.list) = (x3.z.low)) ∧ (t1.Bal) ∧ (Asc x3.z.low)))) ∧ (∃ hs : List Int, (∃ t1 : Tr, ((Wf x3.z.S hs) ∧ (Rep x3.z.S t1 x3.z.y) ∧ ((t1.list) = (x3.z.high)) ∧ (t1.Bal) ∧ (Asc x3.z.high)))) ∧ (brS (x3.b) ((brS (decide ((↑x3.z.low.length : Int) > 0)) ((brS (x3.z.x != x3.z.root) ((K (SV.one (TV.at (At.val (Value.bool false)))) [(Chunk.row false (EC.ent) (raw))] [])) ((brS (decide ((↑x3.z.high.length : Int) > 0)) ((brS (x3.z.y != x3.z.root) ((K (SV.one (TV.at (At.val (Value.bool false)))) [(Chunk.row false (EC.ent) (raw))] [])) (((exW x3.z.S) ∧ (brS (x3.z.S.free != (↑x3.z.o.length : Int)) ((K (SV.one (TV.at (At.val (Value.bool false)))) [(Chunk.row false (EC.ent) (raw))] [])) (((exW x3.z.S) ∧ (∀ d1 : List SlotT, (∀ o1 : List Int, (((d1) = (slotsOf x3.z.S)) → (((o1) = (orderOf x3.z.S)) → ((keptD x3.z.d d1) ∧ (x3.z.d.length ≤ 1000000) ∧ (∃ hs : List Int, ((Wf x3.z.S hs) ∧ ([x3.z.root, x3.z.x, x3.z.y].Perm hs) ∧ ([x3.z.root, x3.z.x, x3.z.y].length ≤ 1000000) ∧ (K (SV.one (TV.at (At.val (Value.bool true)))) [(Chunk.row false (EC.ent) (raw))] []))))))))))))))) (((exW x3.z.S) ∧
    (brS (x3.z.S.free != (↑x3.z.o.length : Int)) ((K (SV.one (TV.at (At.val (Value.bool false)))) [(Chunk.row false (EC.ent) (raw))] [])) (((exW x3.z.S) ∧ (∀ d1 : List SlotT, (∀ o1 : List Int, (((d1) = (slotsOf x3.z.S)) → (((o1) = (orderOf x3.z.S)) → ((keptD x3.z.d d1) ∧ (x3.z.d.length ≤ 1000000) ∧ (∃ hs : List Int, ((Wf x3.z.S hs) ∧ ([x3.z.root, x3.z.x, x3.z.y].Perm hs) ∧ ([x3.z.root, x3.z.x, x3.z.y].length ≤ 1000000) ∧ (K (SV.one (TV.at (At.val (Value.bool true)))) [(Chunk.row false (EC.ent) (raw))] []))))))))))))))))) ((brS (decide ((↑x3.z.high.length : Int) > 0)) ((brS (x3.z.y != x3.z.root) ((K (SV.one (TV.at (At.val (Value.bool false)))) [(Chunk.row false (EC.ent) (raw))] [])) (((exW x3.z.S) ∧ (brS (x3.z.S.free != (↑x3.z.o.length : Int)) ((K (SV.one (TV.at (At.val (Value.bool false)))) [(Chunk.row false (EC.ent) (raw))] [])) (((exW x3.z.S) ∧ (∀ d1 : List SlotT, (∀ o1 : List Int, (((d1) = (slotsOf x3.z.S)) → (((o1) = (orderOf x3.z.S)) → ((keptD x3.z.d d1) ∧ (x3.z.d.length ≤ 1000000) ∧ (∃ hs : List Int, ((Wf x3.z.S hs) ∧ ([x3.z.root, x3.z.x, x3.z.y].Perm hs) ∧ ([x3.z.root, x3.z.x, x3.z.y].length ≤ 1000000) ∧ (K (SV.one (TV.at (At.val (Value.bool true)))) [(Chunk.row false (EC.ent) (raw))] []))))))))))))))) (((exW x3.z.S) ∧ (brS (x3.z.S.free != (↑x3.z.o.length : Int)) ((K (SV.one (TV.at (At.val (Value.bool false)))) [(Chunk.row false (EC.ent) (raw))] [])) (((exW x3.z.S) ∧ (∀ d1 : List SlotT, (∀ o1 : List Int, (((d1) = (slotsOf x3.z.S)) → (((o1) = (orderOf x3.z.S)) →
    ((keptD x3.z.d d1) ∧ (x3.z.d.length ≤ 1000000) ∧ (∃ hs : List Int, ((Wf x3.z.S hs) ∧ ([x3.z.root, x3.z.x, x3.z.y].Perm hs) ∧ ([x3.z.root, x3.z.x, x3.z.y].length ≤ 1000000) ∧ (K (SV.one (TV.at (At.val (Value.bool true)))) [(Chunk.row false (EC.ent) (raw))] []))))))))))))))))) (((exW x3.z.S) ∧ (∀ d1 : List SlotT, (∀ o1 : List Int, (((d1) = (slotsOf x3.z.S)) → (((o1) = (orderOf x3.z.S)) → ((keptD x3.z.d d1) ∧ (x3.z.d.length ≤ 1000000) ∧ (∃ hs : List Int, ((Wf x3.z.S hs) ∧ ([x3.z.root, x3.z.x, x3.z.y].Perm hs) ∧ ([x3.z.root, x3.z.x, x3.z.y].length ≤ 1000000) ∧ (K (SV.one (TV.at (At.val (Value.bool true)))) [(Chunk.row false (EC.ent) (raw))] [])))))))))))))))))))))))) ((brS (x3.z.e != 0) ((K (SV.one (TV.at (At.val (Value.bool false)))) [(Chunk.row false (EC.ent) (raw))] [])) ((brS (x3.z.w != x3.z.v) ((K (SV.one (TV.at (At.val (Value.bool false)))) [(Chunk.row false (EC.ent) (raw))] [])) ((brS (!x3.z.ws == x3.z.is) ((K (SV.one (TV.at (At.val (Value.bool false)))) [(Chunk.row false (EC.ent) (raw))] [])) (((∃ hs : List Int, (∃ t1 : Tr, ((Wf x3.z.S hs) ∧ (Rep x3.z.S t1 x3.z.x) ∧ ((t1.list) = (x3.z.low)) ∧ (t1.Bal) ∧ (Asc x3.z.low)))) ∧ (∃ hs : List Int, (∃ t1 : Tr, ((Wf x3.z.S hs) ∧ (Rep x3.z.S t1 x3.z.y) ∧ ((t1.list) = (x3.z.high)) ∧ (t1.Bal) ∧ (Asc x3.z.high)))) ∧ (brS (x3.b) ((brS (decide ((↑x3.z.low.length : Int) > 0)) ((brS (x3.z.x != x3.z.root) ((K (SV.one (TV.at (At.val (Value.bool false)))) [(Chunk.row false (EC.ent) (raw))] [])) ((brS (decide ((↑x3.z.high.length : Int) > 0))
    ((brS (x3.z.y != x3.z.root) ((K (SV.one (TV.at (At.val (Value.bool false)))) [(Chunk.row false (EC.ent) (raw))] [])) (((exW x3.z.S) ∧ (brS (x3.z.S.free != (↑x3.z.o.length : Int)) ((K (SV.one (TV.at (At.val (Value.bool false)))) [(Chunk.row false (EC.ent) (raw))] [])) (((exW x3.z.S) ∧ (∀ d1 : List SlotT, (∀ o1 : List Int, (((d1) = (slotsOf x3.z.S)) → (((o1) = (orderOf x3.z.S)) → ((keptD x3.z.d d1) ∧ (x3.z.d.length ≤ 1000000) ∧ (∃ hs : List Int, ((Wf x3.z.S hs) ∧ ([x3.z.root, x3.z.x, x3.z.y].Perm hs) ∧ ([x3.z.root, x3.z.x, x3.z.y].length ≤ 1000000) ∧ (K (SV.one (TV.at (At.val (Value.bool true)))) [(Chunk.row false (EC.ent) (raw))] []))))))))))))))) (((exW x3.z.S) ∧ (brS (x3.z.S.free != (↑x3.z.o.length : Int)) ((K (SV.one (TV.at (At.val (Value.bool false)))) [(Chunk.row false (EC.ent) (raw))] [])) (((exW x3.z.S) ∧ (∀ d1 : List SlotT, (∀ o1 : List Int, (((d1) = (slotsOf x3.z.S)) → (((o1) = (orderOf x3.z.S)) → ((keptD x3.z.d d1) ∧ (x3.z.d.length ≤ 1000000) ∧ (∃ hs : List Int, ((Wf x3.z.S hs) ∧ ([x3.z.root, x3.z.x, x3.z.y].Perm hs) ∧ ([x3.z.root, x3.z.x, x3.z.y].length ≤ 1000000) ∧ (K (SV.one (TV.at (At.val (Value.bool true)))) [(Chunk.row false (EC.ent) (raw))] []))))))))))))))))) ((brS (decide ((↑x3.z.high.length : Int) > 0)) ((brS (x3.z.y != x3.z.root) ((K (SV.one (TV.at (At.val (Value.bool false)))) [(Chunk.row false (EC.ent) (raw))] [])) (((exW x3.z.S) ∧ (brS (x3.z.S.free != (↑x3.z.o.length : Int))
    ((K (SV.one (TV.at (At.val (Value.bool false)))) [(Chunk.row false (EC.ent) (raw))] [])) (((exW x3.z.S) ∧ (∀ d1 : List SlotT, (∀ o1 : List Int, (((d1) = (slotsOf x3.z.S)) → (((o1) = (orderOf x3.z.S)) → ((keptD x3.z.d d1) ∧ (x3.z.d.length ≤ 1000000) ∧ (∃ hs : List Int, ((Wf x3.z.S hs) ∧ ([x3.z.root, x3.z.x, x3.z.y].Perm hs) ∧ ([x3.z.root, x3.z.x, x3.z.y].length ≤ 1000000) ∧ (K (SV.one (TV.at (At.val (Value.bool true)))) [(Chunk.row false (EC.ent) (raw))] []))))))))))))))) (((exW x3.z.S) ∧ (brS (x3.z.S.free != (↑x3.z.o.length : Int)) ((K (SV.one (TV.at (At.val (Value.bool false)))) [(Chunk.row false (EC.ent) (raw))] [])) (((exW x3.z.S) ∧ (∀ d1 : List SlotT, (∀ o1 : List Int, (((d1) = (slotsOf x3.z.S)) → (((o1) = (orderOf x3.z.S)) → ((keptD x3.z.d d1) ∧ (x3.z.d.length ≤ 1000000) ∧ (∃ hs : List Int, ((Wf x3.z.S hs) ∧ ([x3.z.root, x3.z.x, x3.z.y].Perm hs) ∧ ([x3.z.root, x3.z.x, x3.z.y].length ≤ 1000000) ∧ (K (SV.one (TV.at (At.val (Value.bool true)))) [(Chunk.row false (EC.ent) (raw))] []))))))))))))))))) (((exW x3.z.S) ∧ (∀ d1 : List SlotT, (∀ o1 : List Int, (((d1) = (slotsOf x3.z.S)) → (((o1) = (orderOf x3.z.S)) → ((keptD x3.z.d d1) ∧ (x3.z.d.length ≤ 1000000) ∧ (∃ hs : List Int, ((Wf x3.z.S hs) ∧ ([x3.z.root, x3.z.x, x3.z.y].Perm hs) ∧ ([x3.z.root, x3.z.x, x3.z.y].length ≤ 1000000) ∧ (K (SV.one (TV.at (At.val (Value.bool true)))) [(Chunk.row false (EC.ent) (raw))] []))))))))))))))))))))))))))))))))))))))))))))))))))))))))) = _ by kernel_rfl) ?_
  subst hP hP2 hP3
  obtain ⟨la, ll⟩ := listE_spec raw 150
  have lm := listE_memJ raw 150
  have e150 : Int.toNat 150 = 150 := rfl
  rw [e150]
  generalize listE raw 150 = l at *
  have hH := Hn_rng (l.length : Int)
  rw [Int.add_zero]
  refine ⟨by decide, by decide, by omega, by omega, fun p ep => ⟨f1, f2, by omega, by omega, fun s s1 s2 => ?_⟩⟩
  rw [wrap_id (x := 1 + s) (by omega) (by omega)]
  refine ⟨h0, by omega, by omega, by omega, fun S1 i hp => ?_⟩
  obtain ⟨t1, up, lt, zt⟩ := plant_up hp la (by omega)
  have rd0 : S1.reads = 0 := by rw [hp.rds]; rfl
  have hP : PSa S1 i l := ⟨t1, up, lt, zt, ll, rd0, fun x hx => (hw x (lm x hx)).1⟩
  refine ⟨brS_of (fun c => brS_of (fun _ => ⟨by have := of_decide_eq_true c; omega, by omega, fun x ex => ⟨?_, ?_, ⟨S1, i, l, (l.getD x.toNat (0, 0)).1, hP⟩, ?_⟩⟩) fun _ => ⟨⟨S1, i, l, k, hP⟩, ?_⟩) fun _ => ⟨⟨S1, i, l, k, hP⟩, ?_⟩, fun x _ => ?_⟩
  · exact (mod_rng2 (of_decide_eq_true c) ex).1
  · exact (mod_rng2 (of_decide_eq_true c) ex).2
  iterate 3 (· (repeat' first | exact trivial | exact rfl | refine And.intro ?_ ?_))
  clear hP hp up lt zt rd0 hH ep s1 s2 lm la ll t1 S1 i k
  obtain ⟨S, i, m, k, ⟨t, up, lt, zt, ll, rd0, hk⟩⟩ := x
  dsimp only
  obtain ⟨w, rp, bal, asc, sz, hl, rd⟩ := id up
  have am : Asc m := by rw [← lt]; exact asc
  have hb := Bal.height bal (by omega)
  have hH := Hn_rng t.size
  have hg := gN_size t.size
  rw [zt] at hH hb hg
  refine ⟨by omega, fun n en => ⟨by omega, fun low elow => ⟨by omega, fun x1 e1 => ⟨⟨_, w⟩, fun d o ed eo => ⟨⟨[i], t, up, fun hc S1 n1 es hm => ?_, fun hs hc hc2 S1 n1 es hm => ?_, fun hs hc hc2 hf S1 n1 es hm => ?_, fun hs hc hc2 hf S1 x y o2 g tx ty eo2 => ?_⟩, fun z _ => ?_⟩⟩⟩⟩⟩
  all_goals try
    have elow : low = flt (ltK k) m := by rw [elow, en]; exact take_rk am k
    have ehigh := out_gt k hk
  · rw [lt] at hc
    have tr := hold_tr (a := 0) (b := n1) w rp bal (by simp) (by omega) es (by omega) rfl
    obtain ⟨g1, g2, g3⟩ := spl_gt (all_gt am hc)
    have q0 := tr.got.rd0
    have q1 := tr.got.rd
    refine ⟨⟨⟨S, S1, i, m, k, low, outE m (-9223372036854775808) k, x1.getD 0, x1.isSome, d, o, S.reads, 0, 0, false, i, 0⟩, t, ⟨up, lt, zt, ll, rd0, rd0, ed, eo, by dsimp only; omega, by dsimp only; omega, elow, ehigh, by rw [e1], by rw [e1]⟩, .inr ⟨.inl ⟨g3, .inl (by dsimp only; rw [elow, g1])⟩, rfl, by rw [e1, g3]; rfl, by rw [e1, g3]; rfl, ?_, ?_, ⟨.nil, rfl, by dsimp only; rw [elow, g1]; rfl, trivial⟩, ?_, fun _ => ⟨fun c => ?_, fun _ => rfl, ?_⟩⟩⟩, ?_⟩
    · exact tr.got.wf.zero_cons (by simp)
    · rw [ed]; exact kept_of w tr.got.stay tr.got.len
    · obtain ⟨u, ru, lu, bu⟩ := tr.tree
      exact ⟨u, ru, by rw [lu, lt]; dsimp only; rw [ehigh, g2], bu⟩
    · exact absurd (by dsimp only; rw [elow, g1]) c
    · dsimp only; rw [es, retL_free]; rfl
    (repeat' first | exact trivial | exact rfl | refine And.intro ?_ ?_)
  · rw [lt] at hs hc hc2
    have tr := hold_tr (a := 0) (b := n1) w rp bal (by simp) (by omega) es (by omega) rfl
    obtain ⟨g1, g2, g3⟩ := spl_lt (all_lt am hc2)
    have q0 := tr.got.rd0
    have q1 := tr.got.rd
    refine ⟨⟨⟨S, S1, i, m, k, low, outE m (-9223372036854775808) k, x1.getD 0, x1.isSome, d, o, S.reads, i, 0, false, 0, 0⟩, t, ⟨up, lt, zt, ll, rd0, rd0, ed, eo, by dsimp only; omega, by dsimp only; omega, elow, ehigh, by rw [e1], by rw [e1]⟩, .inr ⟨.inl ⟨g3, .inr (by dsimp only; rw [ehigh, g2])⟩, rfl, by rw [e1, g3]; rfl, by rw [e1, g3]; rfl, ?_, ?_, ?_, ⟨.nil, rfl, by dsimp only; rw [ehigh, g2]; rfl, trivial⟩, fun _ => ⟨fun _ => rfl, fun c => ?_, ?_⟩⟩⟩, ?_⟩
    · exact (tr.got.wf.zero_cons (by simp)).perm (List.Perm.swap _ _ _)
    · rw [ed]; exact kept_of w tr.got.stay tr.got.len
    · obtain ⟨u, ru, lu, bu⟩ := tr.tree
      exact ⟨u, ru, by rw [lu, lt]; dsimp only; rw [elow, g1], bu⟩
    · exact absurd (by dsimp only; rw [ehigh, g2]) c
    · dsimp only; rw [es, retL_free]; rfl
    (repeat' first | exact trivial | exact rfl | refine And.intro ?_ ?_)
  · rw [lt] at hs hc hc2
    rw [zt] at hf
    have q1 : S1.reads = S.reads + n1 := by rw [es]; rfl
    refine ⟨⟨⟨S, S1, i, m, k, low, outE m (-9223372036854775808) k, x1.getD 0, x1.isSome, d, o, S.reads, 0, 0, false, 0, 2⟩, t, ⟨up, lt, zt, ll, rd0, rd0, ed, eo, by dsimp only; omega, by dsimp only; omega, elow, ehigh, by rw [e1], by rw [e1]⟩, .inl ⟨fun wh => ?_, hf, rfl, rfl, rfl, rfl, rfl, n1, es⟩⟩, ?_⟩
    · obtain ⟨a, b⟩ := not_whole am hs hc hc2 wh.1
      rcases wh.2 with c | c
      · exact a (elow.symm.trans c)
      · exact b (ehigh.symm.trans c)
    (repeat' first | exact trivial | exact rfl | refine And.intro ?_ ?_)
  · rw [lt] at hs hc hc2 tx ty eo2
    rw [zt] at hf
    have q0 := g.rd0
    have q1 := g.rd
    rw [zt] at q1
    refine ⟨⟨⟨S, S1, i, m, k, low, outE m (-9223372036854775808) k, x1.getD 0, x1.isSome, d, o, S.reads, x, o2.getD 0, o2.isSome, y, 0⟩, t, ⟨up, lt, zt, ll, rd0, rd0, ed, eo, by dsimp only; omega, by dsimp only; omega, elow, ehigh, by rw [e1], by rw [e1]⟩, .inr ⟨.inr hf, rfl, by rw [eo2, e1], by rw [eo2, e1], g.wf, ?_, ?_, ?_, fun wh => ?_⟩⟩, ?_⟩
    · rw [ed]; exact kept_of w g.stay g.len
    · dsimp only; rw [elow]; exact tx
    · dsimp only; rw [ehigh]; exact ty
    · obtain ⟨a, b⟩ := not_whole am hs hc hc2 wh.1
      rcases wh.2 with c | c
      · exact absurd (elow.symm.trans c) a
      · exact absurd (ehigh.symm.trans c) b
    (repeat' first | exact trivial | exact rfl | refine And.intro ?_ ?_)
  clear ehigh elow
  clear elow en low n ed eo d o e1 x1 hg hH hb am w rp bal asc sz hl rd up lt zt ll rd0 hk t k m i S
  obtain ⟨z, hP⟩ := z
  dsimp only
  obtain ⟨t, ⟨up, lt, zt, ll, rd0, er, ed, eo, r0, r1, el, eh, ev, ei⟩, oc⟩ := id hP
  have hH := Hn_rng (z.l.length : Int)
  have wsz := up.1.rds
  refine ⟨by omega, by omega, fun hh ehh => ?_⟩
  rw [wrap_id (x := hh + 2) (by omega) (by omega), wrap_id (x := 120 * (hh + 2)) (by omega) (by omega)]
  refine ⟨by omega, by omega, by omega, by omega, by omega, ?_, fun x3 _ => ?_⟩
  · refine brS_of (fun c => brS_of (fun c2 => ⟨⟨z, true, hP, ?_⟩, ?_⟩) fun c2 => ⟨⟨z, decide (z.high.length = 0), hP, ?_⟩, ?_⟩) fun c => ⟨⟨z, false, hP, ?_⟩, ?_⟩
    · have c : z.is = false := by simpa using c
      have c2 : z.low.length = 0 := by simpa using c2
      rw [ei] at c
      exact ⟨fun _ => ⟨by simpa using c, .inl (List.length_eq_zero_iff.1 c2)⟩, fun _ => rfl⟩
    · (repeat' first | exact trivial | exact rfl | refine And.intro ?_ ?_)
    · have c : z.is = false := by simpa using c
      have c2 : z.low.length ≠ 0 := by
        intro e
        rw [e] at c2; cases c2
      rw [ei] at c
      constructor
      · intro e
        exact ⟨by simpa using c, .inr (List.length_eq_zero_iff.1 (of_decide_eq_true e))⟩
      · rintro ⟨_, q | q⟩
        · rw [q] at c2; exact absurd rfl c2
        · rw [q]; rfl
    · (repeat' first | exact trivial | exact rfl | refine And.intro ?_ ?_)
      congr 1
      show ((z.high.length : Int) == 0) = decide (z.high.length = 0)
      by_cases q : z.high.length = 0
      · rw [decide_eq_true q, q]; rfl
      · rw [decide_eq_false q]
        exact beq_false_of_ne (by omega)
    · have c : z.is = true := by simpa using c
      rw [ei] at c
      constructor
      · intro e; cases e
      · rintro ⟨q, _⟩
        rw [q] at c; cases c
    · (repeat' first | exact trivial | exact rfl | refine And.intro ?_ ?_)
  clear hP up lt zt ll rd0 er ed eo r0 r1 el eh ev ei oc hH wsz ehh hh t z
  obtain ⟨z, b, ⟨t, ⟨up, lt, zt, ll, rd0, er, ed, eo, r0, r1, el, eh, ev, ei⟩, oc⟩, hb⟩ := x3
  dsimp only
  obtain ⟨w, rp, bal, asc, sz, hl, rd⟩ := id up
  have hH := Hn_rng (z.l.length : Int)
  have ol : (z.o.length : Int) = z.S0.free := by rw [eo]; exact order_free w
  have sl := slots_le w
  have am : Asc z.l := by rw [← lt]; exact asc
  have al : Asc z.low := by rw [el]; exact flt_asc am
  have ah : Asc z.high := by rw [eh]; exact flt_asc am
  rw [Int.add_zero]
  rcases oc with ⟨nw, hf, e1, e2, e3, e4, e5, m, e6⟩ | ⟨hor, e1, e2, e3, w1, kd, tx, ty, hwh⟩
  · have eb : b = false := by
      cases b with
      | false => rfl
      | true => exact absurd (hb.1 rfl) nw
    have w1 : Wf z.S [z.root] := by
      have q : z.S.reads = z.S0.reads + m := by rw [e6]; rfl
      rw [e6]; exact w.rd (by omega)
    exact bt7 (by rw [eb]; rfl) ⟨by omega, by omega, fun p1 ep1 => bt7 (decide_eq_true (by omega)) (bt7 (by rw [e1]; rfl) (bt7 (by rw [e2]; rfl) (bt7 (by rw [e3]; rfl) (bt7 (by rw [e4]; rfl) (bt7 (by rw [e5]; rfl) ⟨⟨_, w1⟩, fun d1 o1 g2 g3 => ⟨by rw [g2, ed, e6]; rfl, by rw [g3, eo, e6]; rfl, by rw [g2]; have := slots_le w1; omega, by rw [g3]; have := order_len w1; omega, h⟩⟩)))))⟩
  have xw : exW z.S := ⟨_, w1⟩
  have fin : exW z.S ∧ (∀ d1 : List SlotT, ∀ o1 : List Int, d1 = slotsOf z.S → o1 = orderOf z.S → keptD z.d d1 ∧ z.d.length ≤ 1000000 ∧ ∃ hs : List Int, Wf z.S hs ∧ [z.root, z.x, z.y].Perm hs ∧ [z.root, z.x, z.y].length ≤ 1000000 ∧ K (.one (.at (vB true))) [.row false EC.ent raw] []) :=
    ⟨xw, fun d1 o1 g1 _ => ⟨by rw [g1]; exact kd, by rw [ed]; omega, [z.x, z.y, z.root], w1, perm_tor z.root z.x z.y [], by simp, h⟩⟩
  obtain ⟨ux, rx, lx, bx⟩ := tx
  obtain ⟨uy, ry, ly, bY⟩ := ty
  refine brS_of (fun c => ⟨by omega, by omega, fun p1 ep1 => bf7 ?_ ?_⟩) fun c => ?_
  · have c : b = false := by simpa using c
    have nw : ¬ whl z := fun q => by rw [hb.2 q] at c; cases c
    exact decide_eq_false (by have := hor.resolve_left nw; omega)
  all_goals
    refine bf7 (by rw [e1]; rfl) (bf7 (by rw [e2]; simp) (bf7 (by rw [e3]; simp) ⟨⟨_, ux, w1, rx, lx, bx, al⟩, ⟨_, uy, w1, ry, ly, bY, ah⟩, brS_of (fun cb => ?_) fun _ => fin⟩))
    obtain ⟨k1, k2, k3⟩ := hwh (hb.1 cb)
    have kf : (z.S.free != (z.o.length : Int)) = false := by rw [k3, ol]; simp
    have kx : decide ((z.low.length : Int) > 0) = true → (z.x != z.root) = false := fun q => by
      rw [k1 (fun e => by rw [e] at q; cases q)]; simp
    have ky : decide ((z.high.length : Int) > 0) = true → (z.y != z.root) = false := fun q => by
      rw [k2 (fun e => by rw [e] at q; cases q)]; simp
    exact brS_of (fun c3 => bf7 (kx c3) (brS_of (fun c4 => bf7 (ky c4) ⟨xw, bf7 kf fin⟩) fun _ => ⟨xw, bf7 kf fin⟩)) fun _ => brS_of (fun c4 => bf7 (ky c4) ⟨xw, bf7 kf fin⟩) fun _ => ⟨xw, bf7 kf fin⟩
theorem s_jsp : SoundT C0 10 tJsp := by
  refine .of Try.func10 (by decide) rfl fun args H K h hB => ?_
  unfold tJsp at h
  split at h <;> try exact h.elim
  rename_i t k at' f raw
  obtain ⟨h1, h2, h3, h4, h⟩ := h
  exact ⟨aJsp raw PSa PSb PSc, ⟨frame C0.ok s_lst _, frame C0.ok s_nSpl _, frame C0.ok s_spare13 _, frame C0.ok s_grow _, frame C0.ok s_aw13 _, frame C0.ok s_mod _, frame C0.ok s_rk9 _, frame C0.ok s_hd _, frame C0.ok s_out _, frame C0.ok s_get _, frame C0.ok s_dump _, frame C0.ok s_rds _, frame C0.ok s_js _, frame C0.ok s_ht _, frame C0.ok s_wi _, frame C0.ok s_sameD _, frame C0.ok s_tree13 _, frame C0.ok s_free _, frame C0.ok s_kept _, frame C0.ok s_sound _, trivial⟩, vc_jsp raw t k at' f K h1 h2 h3 h4 h⟩
end Go.Proofs.Ytjbkckcjmmmooaa.Sx
end
