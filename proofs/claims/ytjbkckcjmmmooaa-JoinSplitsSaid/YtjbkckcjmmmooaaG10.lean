/- A part of the proof. -/
import Derived.Test.YtjbkckcjmmmooaaG6
import Derived.Test.YtjbkckcjmmmooaaG9
import Derived.Test.YtjbkckcjmmmooaaG4
section
/- join.room, Join, Concat, Split. -/
namespace Go.Proofs.Ytjbkckcjmmmooaa.Sx
open Go

/-KEEP Wf exW inU live Arn.cap Arn.free Rep rdS retL Tr.size Tr.list Tr.Bal balN jB cB gN TrR Got flt ltK gtK getE Asc Hn ht entO List.head? List.getLast?-/
/-- Whether an entry's key does not stand between two lists. -/
def ordB (L : List Ent) (k : Int) (R : List Ent) : Bool := (L.getLast?.isSome && decide ((L.getLast?.getD (0, 0)).1 ≥ k)) || (R.head?.isSome && decide ((R.head?.getD (0, 0)).1 ≤ k))
def jnM (S : Arn) (hs : List Int) (tl tr : Tr) (l r : Int) : Prop := Wf S hs ∧ Rep S tl l ∧ Rep S tr r ∧ tl.Bal ∧ tr.Bal ∧ tl.size + tr.size ≤ 60000 ∧ hs.length ≤ 100000000 ∧ S.reads ≤ 1000000000000000000
noncomputable def aJr : Ann C0 := { Γ := [(61, frameT [] tSize), (116, frameT [] tRes2), (66, frameT [] tRoom)] }
def tJr : Tfm C0 := fun args H K => match args with
  | [.at (.ptr 0 0), .at (.val (.int .u32 l)), .at (.val (.int .u32 r))] => arM H fun S => ∃ hs tl tr, jnM S hs tl tr l r ∧
    ∀ S' m b, S' = rdS S m → m ≤ 2 → b = decide (4 * (Hn ((tl.size : Int) + tr.size + 1) + 2) ≤ S.free) → K (.one (.at (vB b))) (chS S') [0]
  | _ => False
structure XJj (P : Arn → Prop) where
  S : Arn
  h : P S
noncomputable def aJj (P : Arn → Prop) (k v : Int) : Ann C0 := { Γ := [(86, frameT [] tLfst), (87, frameT [] tLlst), (90, frameT [] tJr), (69, frameT [] tHold), (91, frameT [] tJoin)], inv := fun n => match n with
  | 1005 => some { X := XJj P, sl := [6], tf := fun _ => [.one (.at (.ptr 7 0))], hf := fun x => chS x.S ++ [.box [vI k, vI v]], wr := W7 }
  | _ => none }
def tJj : Tfm C0 := fun args H K => match args with
  | [.at (.ptr 0 0), .at (.val (.int .u32 l)), .agg [.val (.int .i64 k), .val (.int .i64 v)], .at (.val (.int .u32 r))] => arM H fun S => ∃ hs tl tr, jnM S hs tl tr l r ∧ S.reads ≤ 900000000000000000 ∧
    (ordB tl.list k tr.list = true → ∀ S' m, S' = rdS S m → m ≤ ht tl + ht tr → K (.tup [.at (vU 0), .at (vI 7)]) (chS S') W7) ∧
    (ordB tl.list k tr.list = false → S.free < 4 * (Hn ((tl.size : Int) + tr.size + 1) + 2) → ∀ S' m, S' = rdS S m → m ≤ ht tl + ht tr + 2 → K (.tup [.at (vU 0), .at (vI 2)]) (chS S') W7) ∧
    (ordB tl.list k tr.list = false → 4 * (Hn ((tl.size : Int) + tr.size + 1) + 2) ≤ S.free → ∀ S' i, TrR S hs (tl.list ++ (k, v) :: tr.list) (jB tl.size tr.size) (4 * jB tl.size tr.size + ht tl + ht tr + 2) S' i → (balN tl.size tr.size → (S'.nd i).left = l ∧ (S'.nd i).right = r ∧ S'.nu = S.nu + 1) → K (.tup [.at (vU i), .at (vI 0)]) (chS S') W7)
  | _ => False
noncomputable def aJc : Ann C0 := { Γ := [(86, frameT [] tLfst), (87, frameT [] tLlst), (90, frameT [] tJr), (69, frameT [] tHold), (92, frameT [] tCat)] }
def tJc : Tfm C0 := fun args H K => match args with
  | [.at (.ptr 0 0), .at (.val (.int .u32 l)), .at (.val (.int .u32 r))] => arM H fun S => ∃ hs tl tr, jnM S hs tl tr l r ∧ S.reads ≤ 900000000000000000 ∧
    (l = 0 → ∀ S', S' = retL S r → K (.tup [.at (vU r), .at (vI 0)]) (chS S') W7) ∧
    (l ≠ 0 → r = 0 → ∀ S', S' = retL S l → K (.tup [.at (vU l), .at (vI 0)]) (chS S') W7) ∧
    (l ≠ 0 → r ≠ 0 → (tl.list.getLast?.getD (0, 0)).1 ≥ (tr.list.head?.getD (0, 0)).1 → ∀ S' m, S' = rdS S m → m ≤ ht tl + ht tr → K (.tup [.at (vU 0), .at (vI 7)]) (chS S') W7) ∧
    (l ≠ 0 → r ≠ 0 → ¬ (tl.list.getLast?.getD (0, 0)).1 ≥ (tr.list.head?.getD (0, 0)).1 → S.free < 4 * (Hn ((tl.size : Int) + tr.size + 1) + 2) → ∀ S' m, S' = rdS S m → m ≤ ht tl + ht tr + 2 → K (.tup [.at (vU 0), .at (vI 2)]) (chS S') W7) ∧
    (l ≠ 0 → r ≠ 0 → ¬ (tl.list.getLast?.getD (0, 0)).1 ≥ (tr.list.head?.getD (0, 0)).1 → 4 * (Hn ((tl.size : Int) + tr.size + 1) + 2) ≤ S.free → ∀ S' i, TrR S hs (tl.list ++ tr.list) (cB tl.size tr.size) (5 * cB tl.size tr.size + ht tl + ht tr + 2) S' i → K (.tup [.at (vU i), .at (vI 0)]) (chS S') W7)
  | _ => False
noncomputable def aJs : Ann C0 := { Γ := [(86, frameT [] tLfst), (87, frameT [] tLlst), (69, frameT [] tHold), (61, frameT [] tSize), (88, frameT [] (tRes1 12 0)), (66, frameT [] tRoom), (89, frameT [] (tSpl 1000000))] }
def tJs : Tfm C0 := fun args H K => match args with
  | [.at (.ptr 0 0), .at (.val (.int .u32 i)), .at (.val (.int .i64 key))] => arM H fun S => ∃ hs t, upM S hs t i ∧
    ((t.list.head?.isSome = false ∨ (t.list.head?.getD (0, 0)).1 > key) → ∀ S' m, S' = retL (rdS S m) i → m ≤ ht t → K (.tup [.at (vU 0), .at (vI 0), .at (vB false), .at (vU i), .at (vI 0)]) (chS S') W7) ∧
    (t.list.head?.isSome = true → ¬ (t.list.head?.getD (0, 0)).1 > key → (t.list.getLast?.getD (0, 0)).1 < key → ∀ S' m, S' = retL (rdS S m) i → m ≤ 2 * ht t → K (.tup [.at (vU i), .at (vI 0), .at (vB false), .at (vU 0), .at (vI 0)]) (chS S') W7) ∧
    (t.list.head?.isSome = true → ¬ (t.list.head?.getD (0, 0)).1 > key → ¬ (t.list.getLast?.getD (0, 0)).1 < key → S.free < 12 * (Hn t.size + 2) → ∀ S' m, S' = rdS S m → m ≤ 2 * ht t + 1 → K (.tup [.at (vU 0), .at (vI 0), .at (vB false), .at (vU 0), .at (vI 2)]) (chS S') W7) ∧
    (t.list.head?.isSome = true → ¬ (t.list.head?.getD (0, 0)).1 > key → ¬ (t.list.getLast?.getD (0, 0)).1 < key → 12 * (Hn t.size + 2) ≤ S.free → ∀ S' x y (o : Option Int), Got S hs (7 * gN (t.size + 1) + 1) (35 * gN (t.size + 1) + 5 + 2 * ht t + 1) S' (x :: y :: hs) →
      (∃ t1, Rep S' t1 x ∧ t1.list = flt (ltK key) t.list ∧ t1.Bal) → (∃ t2, Rep S' t2 y ∧ t2.list = flt (gtK key) t.list ∧ t2.Bal) → o = getE t.list key → K (.tup [.at (vU x), .at (vI (o.getD 0)), .at (vB o.isSome), .at (vU y), .at (vI 0)]) (chS S') W7)
  | _ => False
theorem room_of {b : Bool} {p f : Int} (hp : 0 ≤ p) (e : b = (decide (0 ≤ p) && decide (p ≤ f))) : b = decide (p ≤ f) := by
  rw [e, decide_eq_true hp, Bool.true_and]
theorem vc_jr (S : Arn) (l r : Int) (K : KT) (hs : List Int) (tl tr : Tr) (hm : jnM S hs tl tr l r)
    (h : ∀ S' m b, S' = rdS S m → m ≤ 2 → b = decide (4 * (Hn ((tl.size : Int) + tr.size + 1) + 2) ≤ S.free) → K (.one (.at (vB b))) (chS S') [0]) :
    vc C0 aJr Try.f90 [.at (.ptr 0 0), .at (vU l), .at (vU r)] (chS S) (normK 7 (wideK [0] K)) := by
  refine Eq.mp (show ((inU l) ∧
(exW S) ∧
(S.reads < 4000000000000000000) ∧
(∀ S' : Arn, (((S') = (rdS S (S.us l).toNat)) → ((inU r) ∧ (exW S') ∧ (S'.reads < 4000000000000000000) ∧ (∀ S'1 : Arn, (((S'1) = (rdS S' (S'.us r).toNat)) → ((0 ≤ (S.nd l).size) ∧ ((S.nd l).size ≤ 65536) ∧ (0 ≤ (S'.nd r).size) ∧ ((S'.nd r).size ≤ 65536) ∧ (∀ p : Int, (((p) = (4 * (Hn ((S.nd l).size + (S'.nd r).size + 1) + 2))) → ((exW S'1) ∧ (∀ b : Bool, (((b) = (decide (0 ≤ p) && decide (p ≤ S'1.free))) → (K (SV.one (TV.at (At.val (Value.bool (b))))) [(Chunk.box [(At.ptr 1 0), (At.slc 2), (At.slc 3), (At.val (Value.int IntKind.u64 (S'1.reads)))]), (Chunk.box [(At.slc 4), (At.slc 5), (At.slc 6), (At.val (Value.int IntKind.u32 (S'1.fresh)))]), (Chunk.row true (EC.node) (S'1.nodes)), (Chunk.row true (EC.int) (S'1.counts)), (Chunk.row true (EC.bool) (S'1.used)), (Chunk.row true (EC.u32) (S'1.gen)), (Chunk.row true (EC.u32) (S'1.rel))] [0]))))))))))))) = _ by kernel_rfl) ?_
  obtain ⟨w, rl, rr, bl, br, sz, hl, rd⟩ := hm
  have hrd := w.rds
  have hH := Hn_rng ((tl.size : Int) + tr.size + 1)
  refine ⟨inU_of w rl.us, ⟨_, w⟩, by omega, fun S1 e1 => ?_⟩
  have u1 := us_one (S.us l)
  have w1 : Wf S1 hs := by rw [e1]; exact w.rd (by omega)
  have rr1 : Rep S1 tr r := by rw [e1]; exact rep_rd rr _
  have q1 : S1.reads = S.reads + (S.us l).toNat := by rw [e1]; rfl
  refine ⟨inU_of w1 rr1.us, ⟨_, w1⟩, by omega, fun S2 e2 => ?_⟩
  have u2 := us_one (S1.us r)
  have w2 : Wf S2 hs := by rw [e2]; exact w1.rd (by omega)
  have z1 := rl.size w
  have z2 := rr1.size w1
  rw [z1, z2]
  refine ⟨by omega, by omega, by omega, by omega, fun p ep => ⟨⟨_, w2⟩, fun b eb => ?_⟩⟩
  have eb := room_of (by omega) eb
  have f2 : S2.free = S.free := by rw [e2, e1]; rfl
  rw [f2, ep] at eb
  exact h S2 ((S.us l).toNat + (S1.us r).toNat) b (by rw [e2]; rw [e1, rdS_rdS]) (by omega) eb
theorem s_jr : SoundT C0 90 tJr := by
  refine .ofW [0] Try.func90 (by decide) rfl fun args H K h hB => ?_
  unfold tJr at h
  split at h <;> try exact h.elim
  unfold arM at h
  split at h <;> try exact h.elim
  rename_i l r _ rd fr nd ct us gn rl
  obtain ⟨hs, tl, tr, h1, h2⟩ := h
  exact ⟨aJr, ⟨frame C0.ok s_size _, frame C0.ok s_rJn _, frame C0.ok s_room _, trivial⟩, vc_jr ⟨us, gn, rl, fr, nd, ct, rd⟩ l r K hs tl tr h1 h2⟩
theorem Hn_mono2 (a b : Nat) : Hn (((a + b : Nat) : Int)) ≤ Hn ((a : Int) + b + 1) := by
  have := Hn_mono1 (a + b)
  rw [show (((a + b : Nat) : Int) + 1) = (a : Int) + b + 1 by omega] at this
  exact this
theorem jB_Hn {a b : Nat} (h : a + b ≤ 60000) : (jB a b : Int) ≤ 3 * Hn ((a : Int) + b + 1) + 1 := by
  have x := jB_g (a := a) (b := b) (by omega)
  have y := gN_size (a + b)
  have z := Hn_mono2 a b
  omega
theorem cB_Hn {a b : Nat} (h : a + b ≤ 60000) : (cB a b : Int) ≤ 4 * Hn ((a : Int) + b + 1) + 4 := by
  have x := cB_g (l := a) (r := b) (by omega)
  have y := gN_size (a + b)
  have z := Hn_mono2 a b
  omega
theorem jnM.rd {S : Arn} {hs : List Int} {tl tr : Tr} {l r : Int} (h : jnM S hs tl tr l r) {m : Nat} (hm : S.reads + m ≤ 1000000000000000000) : jnM (rdS S m) hs tl tr l r := by
  obtain ⟨w, rl, rr, bl, br, sz, hl, _⟩ := h
  exact ⟨w.rd (by omega), rep_rd rl _, rep_rd rr _, bl, br, sz, hl, hm⟩
def PJj (S : Arn) (tl tr : Tr) (k : Int) (S1 : Arn) : Prop := ordB tl.list k tr.list = false ∧ ∃ m, S1 = rdS S m ∧ m ≤ ht tl + ht tr
theorem vc_jj (S : Arn) (l k v r : Int) (K : KT) (hs : List Int) (tl tr : Tr) (hm : jnM S hs tl tr l r) (hrr : S.reads ≤ 900000000000000000)
    (h1 : ordB tl.list k tr.list = true → ∀ S' m, S' = rdS S m → m ≤ ht tl + ht tr → K (.tup [.at (vU 0), .at (vI 7)]) (chS S') W7)
    (h2 : ordB tl.list k tr.list = false → S.free < 4 * (Hn ((tl.size : Int) + tr.size + 1) + 2) → ∀ S' m, S' = rdS S m → m ≤ ht tl + ht tr + 2 → K (.tup [.at (vU 0), .at (vI 2)]) (chS S') W7)
    (h3 : ordB tl.list k tr.list = false → 4 * (Hn ((tl.size : Int) + tr.size + 1) + 2) ≤ S.free → ∀ S' i, TrR S hs (tl.list ++ (k, v) :: tr.list) (jB tl.size tr.size) (4 * jB tl.size tr.size + ht tl + ht tr + 2) S' i → (balN tl.size tr.size → (S'.nd i).left = l ∧ (S'.nd i).right = r ∧ S'.nu = S.nu + 1) → K (.tup [.at (vU i), .at (vI 0)]) (chS S') W7) :
    vc C0 (aJj (PJj S tl tr k) k v) Try.f43 [.at (.ptr 0 0), .at (vU l), .agg [vI k, vI v], .at (vU r)] (chS S) (normK 7 (wideK W7 K)) := by
  generalize hP : PJj S tl tr k = P
  refine Eq.mp (show (∃ hs : List Int, (∃ t : Tr, ((Wf S hs) ∧ (Rep S t l) ∧ (t.size ≤ 1000000) ∧ (S.reads + (↑t.size : Int) ≤ 3000000000000000000) ∧ (∀ S' : Arn, (∀ m : Nat, (∀ o : Option Ent, (((S') = (rdS S m)) → ((m ≤ ht t) → (((o) = (t.list.getLast?)) → (∃ hs1 : List Int, (∃ t1 : Tr, ((Wf S' hs1) ∧ (Rep S' t1 r) ∧ (t1.size ≤ 1000000) ∧ (S'.reads + (↑t1.size : Int) ≤ 3000000000000000000) ∧ (∀ S'1 : Arn, (∀ m1 : Nat, (∀ o1 : Option Ent, (((S'1) = (rdS S' m1)) → ((m1 ≤ ht t1) → (((o1) = (t1.list.head?)) → ((brS (o.isSome) ((brS (decide ((o.getD (0, 0)).fst ≥ k)) ((K (SV.tup [(TV.at (At.val (Value.int IntKind.u32 0))), (TV.at (At.val (Value.int IntKind.i64 7)))]) [(Chunk.box [(At.ptr 1 0), (At.slc 2), (At.slc 3), (At.val (Value.int IntKind.u64 (S'1.reads)))]), (Chunk.box [(At.slc 4), (At.slc 5), (At.slc 6), (At.val (Value.int IntKind.u32 (S'1.fresh)))]), (Chunk.row true (EC.node) (S'1.nodes)), (Chunk.row true (EC.int) (S'1.counts)), (Chunk.row true (EC.bool) (S'1.used)), (Chunk.row true (EC.u32) (S'1.gen)), (Chunk.row true (EC.u32) (S'1.rel))] [0, 1, 2, 3, 4, 5, 6])) ((brS (o1.isSome) ((brS (decide ((o1.getD (0, 0)).fst ≤ k))
    ((K (SV.tup [(TV.at (At.val (Value.int IntKind.u32 0))), (TV.at (At.val (Value.int IntKind.i64 7)))]) [(Chunk.box [(At.ptr 1 0), (At.slc 2), (At.slc 3), (At.val (Value.int IntKind.u64 (S'1.reads)))]), (Chunk.box [(At.slc 4), (At.slc 5), (At.slc 6), (At.val (Value.int IntKind.u32 (S'1.fresh)))]), (Chunk.row true (EC.node) (S'1.nodes)), (Chunk.row true (EC.int) (S'1.counts)), (Chunk.row true (EC.bool) (S'1.used)), (Chunk.row true (EC.u32) (S'1.gen)), (Chunk.row true (EC.u32) (S'1.rel))] [0, 1, 2, 3, 4, 5, 6])) ((∃ x : XJj P, (True ∧ (True ∧ ((Value.int IntKind.u32 (l)) = (Value.int IntKind.u32 (l))) ∧ ((Value.int IntKind.u32 (r)) = (Value.int IntKind.u32 (r))) ∧ True ∧ True) ∧ (True ∧ True ∧ True ∧ ((Value.int IntKind.u64 (S'1.reads)) = (Value.int IntKind.u64 (x.S.reads))) ∧ True) ∧ (True ∧ True ∧ True ∧ ((Value.int IntKind.u32 (S'1.fresh)) = (Value.int IntKind.u32 (x.S.fresh))) ∧ True) ∧ ((S'1.nodes) = (x.S.nodes)) ∧ ((S'1.counts) = (x.S.counts)) ∧ ((S'1.used) = (x.S.used)) ∧ ((S'1.gen) = (x.S.gen)) ∧ ((S'1.rel) = (x.S.rel)) ∧ (((Value.int IntKind.i64 (k)) = (Value.int IntKind.i64 (k))) ∧ ((Value.int IntKind.i64 (v)) = (Value.int IntKind.i64 (v))) ∧ True) ∧ True))))) ((∃ x : XJj P, (True ∧ (True ∧ ((Value.int IntKind.u32 (l)) = (Value.int IntKind.u32 (l))) ∧ ((Value.int IntKind.u32 (r)) = (Value.int IntKind.u32 (r))) ∧ True ∧ True) ∧ (True ∧ True ∧ True ∧ ((Value.int IntKind.u64 (S'1.reads)) = (Value.int IntKind.u64 (x.S.reads))) ∧ True) ∧ (True ∧ True ∧ True ∧
    ((Value.int IntKind.u32 (S'1.fresh)) = (Value.int IntKind.u32 (x.S.fresh))) ∧ True) ∧ ((S'1.nodes) = (x.S.nodes)) ∧ ((S'1.counts) = (x.S.counts)) ∧ ((S'1.used) = (x.S.used)) ∧ ((S'1.gen) = (x.S.gen)) ∧ ((S'1.rel) = (x.S.rel)) ∧ (((Value.int IntKind.i64 (k)) = (Value.int IntKind.i64 (k))) ∧ ((Value.int IntKind.i64 (v)) = (Value.int IntKind.i64 (v))) ∧ True) ∧ True))))))) ((brS (o1.isSome) ((brS (decide ((o1.getD (0, 0)).fst ≤ k)) ((K (SV.tup [(TV.at (At.val (Value.int IntKind.u32 0))), (TV.at (At.val (Value.int IntKind.i64 7)))]) [(Chunk.box [(At.ptr 1 0), (At.slc 2), (At.slc 3), (At.val (Value.int IntKind.u64 (S'1.reads)))]), (Chunk.box [(At.slc 4), (At.slc 5), (At.slc 6), (At.val (Value.int IntKind.u32 (S'1.fresh)))]), (Chunk.row true (EC.node) (S'1.nodes)), (Chunk.row true (EC.int) (S'1.counts)), (Chunk.row true (EC.bool) (S'1.used)), (Chunk.row true (EC.u32) (S'1.gen)), (Chunk.row true (EC.u32) (S'1.rel))] [0, 1, 2, 3, 4, 5, 6])) ((∃ x : XJj P, (True ∧ (True ∧ ((Value.int IntKind.u32 (l)) = (Value.int IntKind.u32 (l))) ∧ ((Value.int IntKind.u32 (r)) = (Value.int IntKind.u32 (r))) ∧ True ∧ True) ∧ (True ∧ True ∧ True ∧ ((Value.int IntKind.u64 (S'1.reads)) = (Value.int IntKind.u64 (x.S.reads))) ∧ True) ∧ (True ∧ True ∧ True ∧ ((Value.int IntKind.u32 (S'1.fresh)) = (Value.int IntKind.u32 (x.S.fresh))) ∧ True) ∧ ((S'1.nodes) = (x.S.nodes)) ∧ ((S'1.counts) = (x.S.counts)) ∧ ((S'1.used) = (x.S.used)) ∧ ((S'1.gen) = (x.S.gen)) ∧ ((S'1.rel) = (x.S.rel)) ∧
    (((Value.int IntKind.i64 (k)) = (Value.int IntKind.i64 (k))) ∧ ((Value.int IntKind.i64 (v)) = (Value.int IntKind.i64 (v))) ∧ True) ∧ True))))) ((∃ x : XJj P, (True ∧ (True ∧ ((Value.int IntKind.u32 (l)) = (Value.int IntKind.u32 (l))) ∧ ((Value.int IntKind.u32 (r)) = (Value.int IntKind.u32 (r))) ∧ True ∧ True) ∧ (True ∧ True ∧ True ∧ ((Value.int IntKind.u64 (S'1.reads)) = (Value.int IntKind.u64 (x.S.reads))) ∧ True) ∧ (True ∧ True ∧ True ∧ ((Value.int IntKind.u32 (S'1.fresh)) = (Value.int IntKind.u32 (x.S.fresh))) ∧ True) ∧ ((S'1.nodes) = (x.S.nodes)) ∧ ((S'1.counts) = (x.S.counts)) ∧ ((S'1.used) = (x.S.used)) ∧ ((S'1.gen) = (x.S.gen)) ∧ ((S'1.rel) = (x.S.rel)) ∧ (((Value.int IntKind.i64 (k)) = (Value.int IntKind.i64 (k))) ∧ ((Value.int IntKind.i64 (v)) = (Value.int IntKind.i64 (v))) ∧ True) ∧ True)))))) ∧ (∀ x : XJj P, (True → (∃ hs2 : List Int, (∃ tl : Tr, (∃ tr : Tr, ((jnM x.S hs2 tl tr l r) ∧ (∀ S'2 : Arn, (∀ m2 : Nat, (∀ b : Bool, (((S'2) = (rdS x.S m2)) → ((m2 ≤ 2) → (((b) = (decide (4 * (Hn ((↑tl.size : Int) + (↑tr.size : Int) + 1) + 2) ≤ x.S.free))) → (brS (!b)
    ((K (SV.tup [(TV.at (At.val (Value.int IntKind.u32 0))), (TV.at (At.val (Value.int IntKind.i64 2)))]) [(Chunk.box [(At.ptr 1 0), (At.slc 2), (At.slc 3), (At.val (Value.int IntKind.u64 (S'2.reads)))]), (Chunk.box [(At.slc 4), (At.slc 5), (At.slc 6), (At.val (Value.int IntKind.u32 (S'2.fresh)))]), (Chunk.row true (EC.node) (S'2.nodes)), (Chunk.row true (EC.int) (S'2.counts)), (Chunk.row true (EC.bool) (S'2.used)), (Chunk.row true (EC.u32) (S'2.gen)), (Chunk.row true (EC.u32) (S'2.rel))] [0, 1, 2, 3, 4, 5, 6])) ((((live S'2 l) ∧ (exW S'2) ∧ (∀ S'3 : Arn, (((S'3) = (retL S'2 l)) → (((live S'3 r) ∧ (exW S'3) ∧ (∀ S'4 : Arn, (((S'4) = (retL S'3 r)) → (∃ hs3 : List Int, (∃ ta : Tr, (∃ tb : Tr, ((Wf S'4 (l :: r :: hs3)) ∧ (Rep S'4 ta l) ∧ (Rep S'4 tb r) ∧ (ta.Bal) ∧ (tb.Bal) ∧ (ta.size + tb.size ≤ 900000) ∧ ((↑(jB ta.size tb.size) : Int) ≤ S'4.free) ∧ (hs3.length ≤ 700000000) ∧ (S'4.reads + 5 * (↑(jB ta.size tb.size) : Int) ≤ 1800000000000000000) ∧ (∀ S'5 : Arn, (∀ i : Int, ((TrR S'4 hs3 (ta.list ++ (k, v) :: tb.list) (jB ta.size tb.size) (4 * jB ta.size tb.size) S'5 i) → (((balN (↑ta.size : Int) (↑tb.size : Int)) → ((((S'5.nd i).left) = (l)) ∧ (((S'5.nd i).right) = (r)) ∧ ((S'5.nu) = (S'4.nu + 1)))) →
    (K (SV.tup [(TV.at (At.val (Value.int IntKind.u32 (i)))), (TV.at (At.val (Value.int IntKind.i64 0)))]) [(Chunk.box [(At.ptr 1 0), (At.slc 2), (At.slc 3), (At.val (Value.int IntKind.u64 (S'5.reads)))]), (Chunk.box [(At.slc 4), (At.slc 5), (At.slc 6), (At.val (Value.int IntKind.u32 (S'5.fresh)))]), (Chunk.row true (EC.node) (S'5.nodes)), (Chunk.row true (EC.int) (S'5.counts)), (Chunk.row true (EC.bool) (S'5.used)), (Chunk.row true (EC.u32) (S'5.gen)), (Chunk.row true (EC.u32) (S'5.rel))] [0, 1, 2, 3, 4, 5, 6])))))))))))) ∧ (live S'3 r) ∧ (exW S'3) ∧ (∀ S'4 : Arn, (((S'4) = (retL S'3 r)) → (∃ hs3 : List Int, (∃ ta : Tr, (∃ tb : Tr, ((Wf S'4 (l :: r :: hs3)) ∧ (Rep S'4 ta l) ∧ (Rep S'4 tb r) ∧ (ta.Bal) ∧ (tb.Bal) ∧ (ta.size + tb.size ≤ 900000) ∧ ((↑(jB ta.size tb.size) : Int) ≤ S'4.free) ∧ (hs3.length ≤ 700000000) ∧ (S'4.reads + 5 * (↑(jB ta.size tb.size) : Int) ≤ 1800000000000000000) ∧ (∀ S'5 : Arn, (∀ i : Int, ((TrR S'4 hs3 (ta.list ++ (k, v) :: tb.list) (jB ta.size tb.size) (4 * jB ta.size tb.size) S'5 i) → (((balN (↑ta.size : Int) (↑tb.size : Int)) → ((((S'5.nd i).left) = (l)) ∧ (((S'5.nd i).right) = (r)) ∧ ((S'5.nu) = (S'4.nu + 1)))) →
    (K (SV.tup [(TV.at (At.val (Value.int IntKind.u32 (i)))), (TV.at (At.val (Value.int IntKind.i64 0)))]) [(Chunk.box [(At.ptr 1 0), (At.slc 2), (At.slc 3), (At.val (Value.int IntKind.u64 (S'5.reads)))]), (Chunk.box [(At.slc 4), (At.slc 5), (At.slc 6), (At.val (Value.int IntKind.u32 (S'5.fresh)))]), (Chunk.row true (EC.node) (S'5.nodes)), (Chunk.row true (EC.int) (S'5.counts)), (Chunk.row true (EC.bool) (S'5.used)), (Chunk.row true (EC.u32) (S'5.gen)), (Chunk.row true (EC.u32) (S'5.rel))] [0, 1, 2, 3, 4, 5, 6]))))))))))))))) ∧ (live S'2 l) ∧ (exW S'2) ∧ (∀ S'3 : Arn, (((S'3) = (retL S'2 l)) → ((live S'3 r) ∧ (exW S'3) ∧ (∀ S'4 : Arn, (((S'4) = (retL S'3 r)) → (∃ hs3 : List Int, (∃ ta : Tr, (∃ tb : Tr, ((Wf S'4 (l :: r :: hs3)) ∧ (Rep S'4 ta l) ∧ (Rep S'4 tb r) ∧ (ta.Bal) ∧ (tb.Bal) ∧ (ta.size + tb.size ≤ 900000) ∧ ((↑(jB ta.size tb.size) : Int) ≤ S'4.free) ∧ (hs3.length ≤ 700000000) ∧ (S'4.reads + 5 * (↑(jB ta.size tb.size) : Int) ≤ 1800000000000000000) ∧ (∀ S'5 : Arn, (∀ i : Int, ((TrR S'4 hs3 (ta.list ++ (k, v) :: tb.list) (jB ta.size tb.size) (4 * jB ta.size tb.size) S'5 i) → (((balN (↑ta.size : Int) (↑tb.size : Int)) → ((((S'5.nd i).left) = (l)) ∧ (((S'5.nd i).right) = (r)) ∧ ((S'5.nu) = (S'4.nu + 1)))) →
    (K (SV.tup [(TV.at (At.val (Value.int IntKind.u32 (i)))), (TV.at (At.val (Value.int IntKind.i64 0)))]) [(Chunk.box [(At.ptr 1 0), (At.slc 2), (At.slc 3), (At.val (Value.int IntKind.u64 (S'5.reads)))]), (Chunk.box [(At.slc 4), (At.slc 5), (At.slc 6), (At.val (Value.int IntKind.u32 (S'5.fresh)))]), (Chunk.row true (EC.node) (S'5.nodes)), (Chunk.row true (EC.int) (S'5.counts)), (Chunk.row true (EC.bool) (S'5.used)), (Chunk.row true (EC.u32) (S'5.gen)), (Chunk.row true (EC.u32) (S'5.rel))] [0, 1, 2, 3, 4, 5, 6])))))))))))))))))))))))))))))))))))))))))))))))) = _ by kernel_rfl) ?_
  subst hP
  obtain ⟨w, rl, rr, bl, br, sz, hl, rd⟩ := id hm
  have hrd := w.rds
  have hH := Hn_rng ((tl.size : Int) + tr.size + 1)
  have hb1 := Bal.height bl (by omega)
  have hb2 := Bal.height br (by omega)
  have hg1 := Hn_rng tl.size
  have hg2 := Hn_rng tr.size
  have hj := jB_Hn (a := tl.size) (b := tr.size) sz
  refine ⟨hs, tl, w, rl, by omega, by omega, fun S1 m1 o e1 b1 eo => ?_⟩
  have w1 : Wf S1 hs := by rw [e1]; exact w.rd (by omega)
  have rr1 : Rep S1 tr r := by rw [e1]; exact rep_rd rr _
  have q1 : S1.reads = S.reads + m1 := by rw [e1]; rfl
  refine ⟨hs, tr, w1, rr1, by omega, by omega, fun S2 m2 o1 e2 b2 eo1 => ⟨?_, fun x _ => ?_⟩⟩
  · have e12 : S2 = rdS S (m1 + m2) := by rw [e2, e1, rdS_rdS]
    have ob : ordB tl.list k tr.list = ((o.isSome && decide ((o.getD (0, 0)).1 ≥ k)) || (o1.isSome && decide ((o1.getD (0, 0)).1 ≤ k))) := by rw [eo, eo1]; rfl
    have fin : ordB tl.list k tr.list = false → PJj S tl tr k S2 := fun hf => ⟨hf, m1 + m2, e12, by omega⟩
    refine brS_of (fun c1 => brS_of (fun c2 => ?_) fun c2 => brS_of (fun c3 => brS_of (fun c4 => ?_) fun c4 => ⟨⟨S2, fin ?_⟩, ?_⟩) fun c3 => ⟨⟨S2, fin ?_⟩, ?_⟩) fun c1 => brS_of (fun c3 => brS_of (fun c4 => ?_) fun c4 => ⟨⟨S2, fin ?_⟩, ?_⟩) fun c3 => ⟨⟨S2, fin ?_⟩, ?_⟩
    · exact h1 (by rw [ob, c1, c2]; rfl) S2 _ e12 (by omega)
    · exact h1 (by rw [ob, c3, c4]; simp) S2 _ e12 (by omega)
    · rw [ob, c1, c2, c3, c4]; rfl
    · (repeat' first | exact trivial | exact rfl | refine And.intro ?_ ?_)
    · rw [ob, c1, c2, c3]; rfl
    · (repeat' first | exact trivial | exact rfl | refine And.intro ?_ ?_)
    · exact h1 (by rw [ob, c3, c4]; simp) S2 _ e12 (by omega)
    · rw [ob, c1, c3, c4]; rfl
    · (repeat' first | exact trivial | exact rfl | refine And.intro ?_ ?_)
    · rw [ob, c1, c3]; rfl
    · (repeat' first | exact trivial | exact rfl | refine And.intro ?_ ?_)
  clear w1 rr1 q1 e1 b1 eo e2 b2 eo1 o1 o m2 m1 S2 S1
  obtain ⟨S2, ho, m, e2, hm2⟩ := x
  dsimp only
  have jm : jnM S2 hs tl tr l r := by rw [e2]; exact hm.rd (by omega)
  refine ⟨hs, tl, tr, jm, fun S3 n b e3 hn eb => ?_⟩
  have e32 : S3 = rdS S (m + n) := by rw [e3, e2, rdS_rdS]
  have f2 : S2.free = S.free := by rw [e2]; rfl
  rw [f2] at eb
  refine brS_of (fun d => ?_) fun d => ?_
  · have d : b = false := by simpa using d
    rw [d] at eb
    exact h2 ho (by have := of_decide_eq_false eb.symm; omega) S3 (m + n) e32 (by omega)
  have d : b = true := by simpa using d
  rw [d] at eb
  have hf := of_decide_eq_true eb.symm
  have gA : Got S hs 0 (ht tl + ht tr + 2) S3 hs := by rw [e32]; exact (Got.rds w (by omega)).mono (by omega) (by omega)
  have rl3 : Rep S3 tl l := by rw [e32]; exact rep_rd rl _
  have rr3 : Rep S3 tr r := by rw [e32]; exact rep_rd rr _
  have q3 : S3.reads = S.reads + (m + n : Nat) := by rw [e32]; rfl
  have n3 : S3.nu = S.nu := by rw [e32]; rfl
  refine ⟨⟨rl3.us, ⟨_, gA.wf⟩, fun S4 e4 => ⟨?_, ?_⟩⟩, rl3.us, ⟨_, gA.wf⟩, fun S4 e4 => ?_⟩
  all_goals
    have g4 := retL_got (hs := hs) gA.wf rl3.us (by omega)
    rw [← e4] at g4
    have rl4 : Rep S4 tl l := by rw [e4]; exact rl3.retL
    have rr4 : Rep S4 tr r := by rw [e4]; exact rr3.retL
    have q4 : S4.reads = S3.reads := by rw [e4]; exact (retL_flds _ _).1
    have n4 : S4.nu = S3.nu := by unfold Arn.nu; rw [e4, (retL_flds _ _).2.1]
    refine ⟨rr4.us, ⟨_, g4.wf⟩, fun S5 e5 => ?_⟩
    have g5 := retL_got (hs := hs) g4.wf rr4.us (by simp; omega)
    rw [← e5] at g5
    have rl5 : Rep S5 tl l := by rw [e5]; exact rl4.retL
    have rr5 : Rep S5 tr r := by rw [e5]; exact rr4.retL
    have q5 : S5.reads = S4.reads := by rw [e5]; exact (retL_flds _ _).1
    have n5 : S5.nu = S4.nu := by unfold Arn.nu; rw [e5, (retL_flds _ _).2.1]
    have gB := (gA.seq g4 (h := hs) (fun _ h => h) (fun _ h => h)).seq g5 (h := hs) (fun _ h => h) (fun _ h => h)
    have f5 := gB.free w
    refine ⟨hs, tl, tr, g5.wf.perm (List.Perm.swap _ _ _), rl5, rr5, bl, br, by omega, by omega, by omega, by omega, fun S6 i tj hk => h3 ho hf S6 i ⟨(gB.seq tj.got (h := hs) (fun _ h => h) (fun _ h => h)).mono (by omega) (by omega), tj.tree⟩ fun hb => ?_⟩
    obtain ⟨k1, k2, k3⟩ := hk hb
    exact ⟨k1, k2, by omega⟩
theorem s_jj : SoundT C0 43 tJj := by
  refine .ofW W7 Try.func43 (by decide) rfl fun args H K h hB => ?_
  unfold tJj at h
  split at h <;> try exact h.elim
  unfold arM at h
  split at h <;> try exact h.elim
  rename_i l k v r _ rd fr nd ct us gn rl
  obtain ⟨hs, tl, tr, h1, h0, h2, h3, h4⟩ := h
  exact ⟨aJj (PJj ⟨us, gn, rl, fr, nd, ct, rd⟩ tl tr k) k v, ⟨frame C0.ok s_lfst _, frame C0.ok s_llst _, frame C0.ok s_jr _, frame C0.ok s_hold _, frame C0.ok s_join _, trivial⟩, vc_jj ⟨us, gn, rl, fr, nd, ct, rd⟩ l k v r K hs tl tr h1 h0 h2 h3 h4⟩
theorem vc_jc (S : Arn) (l r : Int) (K : KT) (hs : List Int) (tl tr : Tr) (hm : jnM S hs tl tr l r) (hrr : S.reads ≤ 900000000000000000)
    (h1 : l = 0 → ∀ S', S' = retL S r → K (.tup [.at (vU r), .at (vI 0)]) (chS S') W7)
    (h2 : l ≠ 0 → r = 0 → ∀ S', S' = retL S l → K (.tup [.at (vU l), .at (vI 0)]) (chS S') W7)
    (h3 : l ≠ 0 → r ≠ 0 → (tl.list.getLast?.getD (0, 0)).1 ≥ (tr.list.head?.getD (0, 0)).1 → ∀ S' m, S' = rdS S m → m ≤ ht tl + ht tr → K (.tup [.at (vU 0), .at (vI 7)]) (chS S') W7)
    (h4 : l ≠ 0 → r ≠ 0 → ¬ (tl.list.getLast?.getD (0, 0)).1 ≥ (tr.list.head?.getD (0, 0)).1 → S.free < 4 * (Hn ((tl.size : Int) + tr.size + 1) + 2) → ∀ S' m, S' = rdS S m → m ≤ ht tl + ht tr + 2 → K (.tup [.at (vU 0), .at (vI 2)]) (chS S') W7)
    (h5 : l ≠ 0 → r ≠ 0 → ¬ (tl.list.getLast?.getD (0, 0)).1 ≥ (tr.list.head?.getD (0, 0)).1 → 4 * (Hn ((tl.size : Int) + tr.size + 1) + 2) ≤ S.free → ∀ S' i, TrR S hs (tl.list ++ tr.list) (cB tl.size tr.size) (5 * cB tl.size tr.size + ht tl + ht tr + 2) S' i → K (.tup [.at (vU i), .at (vI 0)]) (chS S') W7) :
    vc C0 aJc Try.f55 [.at (.ptr 0 0), .at (vU l), .at (vU r)] (chS S) (normK 7 (wideK W7 K)) := by
  refine Eq.mp (show (brS (l == 0) (((live S r) ∧ (exW S) ∧ (∀ S' : Arn, (((S') = (retL S r)) → (K (SV.tup [(TV.at (At.val (Value.int IntKind.u32 (r)))), (TV.at (At.val (Value.int IntKind.i64 0)))]) [(Chunk.box [(At.ptr 1 0), (At.slc 2), (At.slc 3), (At.val (Value.int IntKind.u64 (S'.reads)))]), (Chunk.box [(At.slc 4), (At.slc 5), (At.slc 6), (At.val (Value.int IntKind.u32 (S'.fresh)))]), (Chunk.row true (EC.node) (S'.nodes)), (Chunk.row true (EC.int) (S'.counts)), (Chunk.row true (EC.bool) (S'.used)), (Chunk.row true (EC.u32) (S'.gen)), (Chunk.row true (EC.u32) (S'.rel))] [0, 1, 2, 3, 4, 5, 6]))))) ((brS (r == 0) (((live S l) ∧ (exW S) ∧ (∀ S' : Arn, (((S') = (retL S l)) → (K (SV.tup [(TV.at (At.val (Value.int IntKind.u32 (l)))), (TV.at (At.val (Value.int IntKind.i64 0)))]) [(Chunk.box [(At.ptr 1 0), (At.slc 2), (At.slc 3), (At.val (Value.int IntKind.u64 (S'.reads)))]), (Chunk.box [(At.slc 4), (At.slc 5), (At.slc 6), (At.val (Value.int IntKind.u32 (S'.fresh)))]), (Chunk.row true (EC.node) (S'.nodes)), (Chunk.row true (EC.int) (S'.counts)), (Chunk.row true (EC.bool) (S'.used)), (Chunk.row true (EC.u32) (S'.gen)), (Chunk.row true (EC.u32) (S'.rel))] [0, 1, 2, 3, 4, 5, 6]))))) ((∃ hs : List Int, (∃ t : Tr, ((Wf S hs) ∧ (Rep S t l) ∧ (t.size ≤ 1000000) ∧ (S.reads + (↑t.size : Int) ≤ 3000000000000000000) ∧ (∀ S' : Arn, (∀ m : Nat, (∀ o : Option Ent, (((S') = (rdS S m)) → ((m ≤ ht t) → (((o) = (t.list.getLast?)) → (∃ hs1 : List Int, (∃ t1 : Tr, ((Wf S' hs1) ∧ (Rep S' t1 r) ∧ (t1.size ≤ 1000000) ∧
    (S'.reads + (↑t1.size : Int) ≤ 3000000000000000000) ∧ (∀ S'1 : Arn, (∀ m1 : Nat, (∀ o1 : Option Ent, (((S'1) = (rdS S' m1)) → ((m1 ≤ ht t1) → (((o1) = (t1.list.head?)) → (brS (decide ((o.getD (0, 0)).fst ≥ (o1.getD (0, 0)).fst)) ((K (SV.tup [(TV.at (At.val (Value.int IntKind.u32 0))), (TV.at (At.val (Value.int IntKind.i64 7)))]) [(Chunk.box [(At.ptr 1 0), (At.slc 2), (At.slc 3), (At.val (Value.int IntKind.u64 (S'1.reads)))]), (Chunk.box [(At.slc 4), (At.slc 5), (At.slc 6), (At.val (Value.int IntKind.u32 (S'1.fresh)))]), (Chunk.row true (EC.node) (S'1.nodes)), (Chunk.row true (EC.int) (S'1.counts)), (Chunk.row true (EC.bool) (S'1.used)), (Chunk.row true (EC.u32) (S'1.gen)), (Chunk.row true (EC.u32) (S'1.rel))] [0, 1, 2, 3, 4, 5, 6])) ((∃ hs2 : List Int, (∃ tl : Tr, (∃ tr : Tr, ((jnM S'1 hs2 tl tr l r) ∧ (∀ S'2 : Arn, (∀ m2 : Nat, (∀ b : Bool, (((S'2) = (rdS S'1 m2)) → ((m2 ≤ 2) → (((b) = (decide (4 * (Hn ((↑tl.size : Int) + (↑tr.size : Int) + 1) + 2) ≤ S'1.free))) → (brS (!b)
    ((K (SV.tup [(TV.at (At.val (Value.int IntKind.u32 0))), (TV.at (At.val (Value.int IntKind.i64 2)))]) [(Chunk.box [(At.ptr 1 0), (At.slc 2), (At.slc 3), (At.val (Value.int IntKind.u64 (S'2.reads)))]), (Chunk.box [(At.slc 4), (At.slc 5), (At.slc 6), (At.val (Value.int IntKind.u32 (S'2.fresh)))]), (Chunk.row true (EC.node) (S'2.nodes)), (Chunk.row true (EC.int) (S'2.counts)), (Chunk.row true (EC.bool) (S'2.used)), (Chunk.row true (EC.u32) (S'2.gen)), (Chunk.row true (EC.u32) (S'2.rel))] [0, 1, 2, 3, 4, 5, 6])) (((live S'2 l) ∧ (exW S'2) ∧ (∀ S'3 : Arn, (((S'3) = (retL S'2 l)) → ((live S'3 r) ∧ (exW S'3) ∧ (∀ S'4 : Arn, (((S'4) = (retL S'3 r)) → (∃ hs3 : List Int, (∃ ta : Tr, (∃ tb : Tr, ((Wf S'4 (l :: r :: hs3)) ∧ (Rep S'4 ta l) ∧ (Rep S'4 tb r) ∧ (ta.Bal) ∧ (tb.Bal) ∧ (ta.size + tb.size ≤ 800000) ∧ ((↑(cB ta.size tb.size) : Int) ≤ S'4.free) ∧ (hs3.length ≤ 400000000) ∧ (S'4.reads + 5 * (↑(cB ta.size tb.size) : Int) ≤ 1600000000000000000) ∧ (∀ S'5 : Arn, (∀ i : Int, ((TrR S'4 hs3 (ta.list ++ tb.list) (cB ta.size tb.size) (5 * cB ta.size tb.size) S'5 i) →
    (K (SV.tup [(TV.at (At.val (Value.int IntKind.u32 (i)))), (TV.at (At.val (Value.int IntKind.i64 0)))]) [(Chunk.box [(At.ptr 1 0), (At.slc 2), (At.slc 3), (At.val (Value.int IntKind.u64 (S'5.reads)))]), (Chunk.box [(At.slc 4), (At.slc 5), (At.slc 6), (At.val (Value.int IntKind.u32 (S'5.fresh)))]), (Chunk.row true (EC.node) (S'5.nodes)), (Chunk.row true (EC.int) (S'5.counts)), (Chunk.row true (EC.bool) (S'5.used)), (Chunk.row true (EC.u32) (S'5.gen)), (Chunk.row true (EC.u32) (S'5.rel))] [0, 1, 2, 3, 4, 5, 6])))))))))))))))))))))))))))))))))))))))))))))))))) = _ by kernel_rfl) ?_
  obtain ⟨w, rl, rr, bl, br, sz, hl, rd⟩ := id hm
  have hrd := w.rds
  have hH := Hn_rng ((tl.size : Int) + tr.size + 1)
  have hb1 := Bal.height bl (by omega)
  have hb2 := Bal.height br (by omega)
  have hg1 := Hn_rng tl.size
  have hg2 := Hn_rng tr.size
  have hj := cB_Hn (a := tl.size) (b := tr.size) sz
  refine brS_of (fun c => ⟨rr.us, ⟨_, w⟩, h1 (by simpa using c)⟩) fun c => brS_of (fun c2 => ⟨rl.us, ⟨_, w⟩, h2 (by simpa using c) (by simpa using c2)⟩) fun c2 => ?_
  have c : l ≠ 0 := by simpa using c
  have c2 : r ≠ 0 := by simpa using c2
  refine ⟨hs, tl, w, rl, by omega, by omega, fun S1 m1 o e1 b1 eo => ?_⟩
  have w1 : Wf S1 hs := by rw [e1]; exact w.rd (by omega)
  have rr1 : Rep S1 tr r := by rw [e1]; exact rep_rd rr _
  have q1 : S1.reads = S.reads + m1 := by rw [e1]; rfl
  refine ⟨hs, tr, w1, rr1, by omega, by omega, fun S2 m2 o1 e2 b2 eo1 => ?_⟩
  have e12 : S2 = rdS S (m1 + m2) := by rw [e2, e1, rdS_rdS]
  rw [eo, eo1]
  refine brS_of (fun d => h3 c c2 (of_decide_eq_true d) S2 _ e12 (by omega)) fun d => ?_
  have ho := of_decide_eq_false d
  have jm : jnM S2 hs tl tr l r := by rw [e12]; exact hm.rd (by omega)
  refine ⟨hs, tl, tr, jm, fun S3 n b e3 hn eb => ?_⟩
  have e32 : S3 = rdS S (m1 + m2 + n) := by rw [e3, e12, rdS_rdS]
  have f2 : S2.free = S.free := by rw [e12]; rfl
  rw [f2] at eb
  refine brS_of (fun d => ?_) fun d => ?_
  · have d : b = false := by simpa using d
    rw [d] at eb
    exact h4 c c2 ho (by have := of_decide_eq_false eb.symm; omega) S3 _ e32 (by omega)
  have d : b = true := by simpa using d
  rw [d] at eb
  have hf := of_decide_eq_true eb.symm
  have gA : Got S hs 0 (ht tl + ht tr + 2) S3 hs := by rw [e32]; exact (Got.rds w (by omega)).mono (by omega) (by omega)
  have rl3 : Rep S3 tl l := by rw [e32]; exact rep_rd rl _
  have rr3 : Rep S3 tr r := by rw [e32]; exact rep_rd rr _
  have q3 : S3.reads = S.reads + (m1 + m2 + n : Nat) := by rw [e32]; rfl
  refine ⟨rl3.us, ⟨_, gA.wf⟩, fun S4 e4 => ?_⟩
  have g4 := retL_got (hs := hs) gA.wf rl3.us (by omega)
  rw [← e4] at g4
  have rl4 : Rep S4 tl l := by rw [e4]; exact rl3.retL
  have rr4 : Rep S4 tr r := by rw [e4]; exact rr3.retL
  have q4 : S4.reads = S3.reads := by rw [e4]; exact (retL_flds _ _).1
  refine ⟨rr4.us, ⟨_, g4.wf⟩, fun S5 e5 => ?_⟩
  have g5 := retL_got (hs := hs) g4.wf rr4.us (by simp; omega)
  rw [← e5] at g5
  have rl5 : Rep S5 tl l := by rw [e5]; exact rl4.retL
  have rr5 : Rep S5 tr r := by rw [e5]; exact rr4.retL
  have q5 : S5.reads = S4.reads := by rw [e5]; exact (retL_flds _ _).1
  have gB := (gA.seq g4 (h := hs) (fun _ h => h) (fun _ h => h)).seq g5 (h := hs) (fun _ h => h) (fun _ h => h)
  have f5 := gB.free w
  refine ⟨hs, tl, tr, g5.wf.perm (List.Perm.swap _ _ _), rl5, rr5, bl, br, by omega, by omega, by omega, by omega, fun S6 i tj => h5 c c2 ho hf S6 i ⟨(gB.seq tj.got (h := hs) (fun _ h => h) (fun _ h => h)).mono (by omega) (by omega), tj.tree⟩⟩
theorem s_jc : SoundT C0 55 tJc := by
  refine .ofW W7 Try.func55 (by decide) rfl fun args H K h hB => ?_
  unfold tJc at h
  split at h <;> try exact h.elim
  unfold arM at h
  split at h <;> try exact h.elim
  rename_i l r _ rd fr nd ct us gn rl
  obtain ⟨hs, tl, tr, h0, h1, h2, h3, h4, h5, h6⟩ := h
  exact ⟨aJc, ⟨frame C0.ok s_lfst _, frame C0.ok s_llst _, frame C0.ok s_jr _, frame C0.ok s_hold _, frame C0.ok s_cat _, trivial⟩, vc_jc ⟨us, gn, rl, fr, nd, ct, rd⟩ l r K hs tl tr h0 h1 h2 h3 h4 h5 h6⟩
theorem vc_js (S : Arn) (i key : Int) (K : KT) (hs : List Int) (t : Tr) (hm : upM S hs t i)
    (h1 : (t.list.head?.isSome = false ∨ (t.list.head?.getD (0, 0)).1 > key) → ∀ S' m, S' = retL (rdS S m) i → m ≤ ht t → K (.tup [.at (vU 0), .at (vI 0), .at (vB false), .at (vU i), .at (vI 0)]) (chS S') W7)
    (h2 : t.list.head?.isSome = true → ¬ (t.list.head?.getD (0, 0)).1 > key → (t.list.getLast?.getD (0, 0)).1 < key → ∀ S' m, S' = retL (rdS S m) i → m ≤ 2 * ht t → K (.tup [.at (vU i), .at (vI 0), .at (vB false), .at (vU 0), .at (vI 0)]) (chS S') W7)
    (h3 : t.list.head?.isSome = true → ¬ (t.list.head?.getD (0, 0)).1 > key → ¬ (t.list.getLast?.getD (0, 0)).1 < key → S.free < 12 * (Hn t.size + 2) → ∀ S' m, S' = rdS S m → m ≤ 2 * ht t + 1 → K (.tup [.at (vU 0), .at (vI 0), .at (vB false), .at (vU 0), .at (vI 2)]) (chS S') W7)
    (h4 : t.list.head?.isSome = true → ¬ (t.list.head?.getD (0, 0)).1 > key → ¬ (t.list.getLast?.getD (0, 0)).1 < key → 12 * (Hn t.size + 2) ≤ S.free → ∀ S' x y (o : Option Int), Got S hs (7 * gN (t.size + 1) + 1) (35 * gN (t.size + 1) + 5 + 2 * ht t + 1) S' (x :: y :: hs) →
      (∃ t1, Rep S' t1 x ∧ t1.list = flt (ltK key) t.list ∧ t1.Bal) → (∃ t2, Rep S' t2 y ∧ t2.list = flt (gtK key) t.list ∧ t2.Bal) → o = getE t.list key → K (.tup [.at (vU x), .at (vI (o.getD 0)), .at (vB o.isSome), .at (vU y), .at (vI 0)]) (chS S') W7) :
    vc C0 aJs Try.f42 [.at (.ptr 0 0), .at (vU i), .at (vI key)] (chS S) (normK 7 (wideK W7 K)) := by
  refine Eq.mp (show (∃ hs : List Int, (∃ t : Tr, ((Wf S hs) ∧ (Rep S t i) ∧ (t.size ≤ 1000000) ∧ (S.reads + (↑t.size : Int) ≤ 3000000000000000000) ∧ (∀ S' : Arn, (∀ m : Nat, (∀ o : Option Ent, (((S') = (rdS S m)) → ((m ≤ ht t) → (((o) = (t.list.head?)) → (brS (!o.isSome) (((live S' i) ∧ (exW S') ∧ (∀ S'1 : Arn, (((S'1) = (retL S' i)) → (K (SV.tup [(TV.at (At.val (Value.int IntKind.u32 0))), (TV.at (At.val (Value.int IntKind.i64 0))), (TV.at (At.val (Value.bool false))), (TV.at (At.val (Value.int IntKind.u32 (i)))), (TV.at (At.val (Value.int IntKind.i64 0)))]) [(Chunk.box [(At.ptr 1 0), (At.slc 2), (At.slc 3), (At.val (Value.int IntKind.u64 (S'1.reads)))]), (Chunk.box [(At.slc 4), (At.slc 5), (At.slc 6), (At.val (Value.int IntKind.u32 (S'1.fresh)))]), (Chunk.row true (EC.node) (S'1.nodes)), (Chunk.row true (EC.int) (S'1.counts)), (Chunk.row true (EC.bool) (S'1.used)), (Chunk.row true (EC.u32) (S'1.gen)), (Chunk.row true (EC.u32) (S'1.rel))] [0, 1, 2, 3, 4, 5, 6]))))) ((brS (decide ((o.getD (0, 0)).fst > key)) (((live S' i) ∧ (exW S') ∧ (∀ S'1 : Arn, (((S'1) = (retL S' i)) →
    (K (SV.tup [(TV.at (At.val (Value.int IntKind.u32 0))), (TV.at (At.val (Value.int IntKind.i64 0))), (TV.at (At.val (Value.bool false))), (TV.at (At.val (Value.int IntKind.u32 (i)))), (TV.at (At.val (Value.int IntKind.i64 0)))]) [(Chunk.box [(At.ptr 1 0), (At.slc 2), (At.slc 3), (At.val (Value.int IntKind.u64 (S'1.reads)))]), (Chunk.box [(At.slc 4), (At.slc 5), (At.slc 6), (At.val (Value.int IntKind.u32 (S'1.fresh)))]), (Chunk.row true (EC.node) (S'1.nodes)), (Chunk.row true (EC.int) (S'1.counts)), (Chunk.row true (EC.bool) (S'1.used)), (Chunk.row true (EC.u32) (S'1.gen)), (Chunk.row true (EC.u32) (S'1.rel))] [0, 1, 2, 3, 4, 5, 6]))))) ((∃ hs1 : List Int, (∃ t1 : Tr, ((Wf S' hs1) ∧ (Rep S' t1 i) ∧ (t1.size ≤ 1000000) ∧ (S'.reads + (↑t1.size : Int) ≤ 3000000000000000000) ∧ (∀ S'1 : Arn, (∀ m1 : Nat, (∀ o1 : Option Ent, (((S'1) = (rdS S' m1)) → ((m1 ≤ ht t1) → (((o1) = (t1.list.getLast?)) → (brS (decide ((o1.getD (0, 0)).fst < key)) (((live S'1 i) ∧ (exW S'1) ∧ (∀ S'2 : Arn, (((S'2) = (retL S'1 i)) →
    (K (SV.tup [(TV.at (At.val (Value.int IntKind.u32 (i)))), (TV.at (At.val (Value.int IntKind.i64 0))), (TV.at (At.val (Value.bool false))), (TV.at (At.val (Value.int IntKind.u32 0))), (TV.at (At.val (Value.int IntKind.i64 0)))]) [(Chunk.box [(At.ptr 1 0), (At.slc 2), (At.slc 3), (At.val (Value.int IntKind.u64 (S'2.reads)))]), (Chunk.box [(At.slc 4), (At.slc 5), (At.slc 6), (At.val (Value.int IntKind.u32 (S'2.fresh)))]), (Chunk.row true (EC.node) (S'2.nodes)), (Chunk.row true (EC.int) (S'2.counts)), (Chunk.row true (EC.bool) (S'2.used)), (Chunk.row true (EC.u32) (S'2.gen)), (Chunk.row true (EC.u32) (S'2.rel))] [0, 1, 2, 3, 4, 5, 6]))))) (((inU i) ∧ (exW S'1) ∧ (S'1.reads < 4000000000000000000) ∧ (∀ S'2 : Arn, (((S'2) = (rdS S'1 (S'1.us i).toNat)) → ((0 ≤ (S'1.nd i).size) ∧ ((S'1.nd i).size ≤ 65536) ∧ (∀ p : Int, (((p) = (12 * (Hn ((S'1.nd i).size + 0) + 2))) → ((exW S'2) ∧ (∀ b : Bool, (((b) = (decide (0 ≤ p) && decide (p ≤ S'2.free))) → (brS (!b)
    ((K (SV.tup [(TV.at (At.val (Value.int IntKind.u32 0))), (TV.at (At.val (Value.int IntKind.i64 0))), (TV.at (At.val (Value.bool false))), (TV.at (At.val (Value.int IntKind.u32 0))), (TV.at (At.val (Value.int IntKind.i64 2)))]) [(Chunk.box [(At.ptr 1 0), (At.slc 2), (At.slc 3), (At.val (Value.int IntKind.u64 (S'2.reads)))]), (Chunk.box [(At.slc 4), (At.slc 5), (At.slc 6), (At.val (Value.int IntKind.u32 (S'2.fresh)))]), (Chunk.row true (EC.node) (S'2.nodes)), (Chunk.row true (EC.int) (S'2.counts)), (Chunk.row true (EC.bool) (S'2.used)), (Chunk.row true (EC.u32) (S'2.gen)), (Chunk.row true (EC.u32) (S'2.rel))] [0, 1, 2, 3, 4, 5, 6])) (((live S'2 i) ∧ (exW S'2) ∧ (∀ S'3 : Arn, (((S'3) = (retL S'2 i)) → (∃ hs2 : List Int, (∃ t2 : Tr, ((Wf S'3 (i :: hs2)) ∧ (Rep S'3 t2 i) ∧ (t2.Bal) ∧ (Asc t2.list) ∧ (t2.size < 1000000) ∧ (t2.size ≤ 700000) ∧ (7 * (↑(gN (t2.size + 1)) : Int) + 1 ≤ S'3.free) ∧ (hs2.length + t2.size ≤ 600000000) ∧ (S'3.reads + (35 * (↑(gN (t2.size + 1)) : Int) + 5) ≤ 1600000000000000000) ∧ (∀ S'4 : Arn, (∀ x : Int, (∀ y : Int, (∀ m2 : Nat, (∀ o2 : Option Int, ((m2 ≤ gN (t2.size + 1) + 3 * gN ((flt (ltK key) t2.list).length + 1) + 3 * gN ((flt (gtK key) t2.list).length + 1) + 1) → ((Got S'3 hs2 m2 (5 * m2) S'4 (x :: y :: hs2)) → ((∃ t11 : Tr, ((Rep S'4 t11 x) ∧ ((t11.list) = (flt (ltK key) t2.list)) ∧ (t11.Bal))) → ((∃ t21 : Tr, ((Rep S'4 t21 y) ∧ ((t21.list) = (flt (gtK key) t2.list)) ∧ (t21.Bal))) → (((o2) = (getE t2.list key)) →
    (K (SV.tup [(TV.at (At.val (Value.int IntKind.u32 (x)))), (TV.at (At.val (Value.int IntKind.i64 (o2.getD 0)))), (TV.at (At.val (Value.bool (o2.isSome)))), (TV.at (At.val (Value.int IntKind.u32 (y)))), (TV.at (At.val (Value.int IntKind.i64 0)))]) [(Chunk.box [(At.ptr 1 0), (At.slc 2), (At.slc 3), (At.val (Value.int IntKind.u64 (S'4.reads)))]), (Chunk.box [(At.slc 4), (At.slc 5), (At.slc 6), (At.val (Value.int IntKind.u32 (S'4.fresh)))]), (Chunk.row true (EC.node) (S'4.nodes)), (Chunk.row true (EC.int) (S'4.counts)), (Chunk.row true (EC.bool) (S'4.used)), (Chunk.row true (EC.u32) (S'4.gen)), (Chunk.row true (EC.u32) (S'4.rel))] [0, 1, 2, 3, 4, 5, 6])))))))))))))))))))))))))))))))))))))))))))))))))))) = _ by kernel_rfl) ?_
  obtain ⟨w, rp, bal, asc, sz, hl, rd⟩ := hm
  have hrd := w.rds
  have hb := Bal.height bal (by omega)
  have hH := Hn_rng t.size
  have hg := gN_size t.size
  refine ⟨hs, t, w, rp, by omega, by omega, fun S1 m1 o e1 b1 eo => ?_⟩
  have w1 : Wf S1 hs := by rw [e1]; exact w.rd (by omega)
  have rp1 : Rep S1 t i := by rw [e1]; exact rep_rd rp _
  have q1 : S1.reads = S.reads + m1 := by rw [e1]; rfl
  rw [eo]
  refine brS_of (fun c => ⟨rp1.us, ⟨_, w1⟩, fun S2 e2 => h1 (.inl (by simpa using c)) S2 m1 (by rw [e2, e1]) b1⟩) fun c => brS_of (fun c2 => ⟨rp1.us, ⟨_, w1⟩, fun S2 e2 => h1 (.inr (of_decide_eq_true c2)) S2 m1 (by rw [e2, e1]) b1⟩) fun c2 => ?_
  have c : t.list.head?.isSome = true := by simpa using c
  have c2 := of_decide_eq_false c2
  refine ⟨hs, t, w1, rp1, by omega, by omega, fun S2 m2 o1 e2 b2 eo1 => ?_⟩
  have e12 : S2 = rdS S (m1 + m2) := by rw [e2, e1, rdS_rdS]
  have w2 : Wf S2 hs := by rw [e12]; exact w.rd (by omega)
  have rp2 : Rep S2 t i := by rw [e12]; exact rep_rd rp _
  have q2 : S2.reads = S.reads + (m1 + m2 : Nat) := by rw [e12]; rfl
  rw [eo1]
  refine brS_of (fun c3 => ⟨rp2.us, ⟨_, w2⟩, fun S3 e3 => h2 c c2 (of_decide_eq_true c3) S3 (m1 + m2) (by rw [e3, e12]) (by omega)⟩) fun c3 => ?_
  have c3 := of_decide_eq_false c3
  refine ⟨inU_of w2 rp2.us, ⟨_, w2⟩, by omega, fun S3 e3 => ?_⟩
  have hu := us_one (S2.us i)
  have z2 := rp2.size w2
  rw [z2, Int.add_zero]
  have e32 : S3 = rdS S (m1 + m2 + (S2.us i).toNat) := by rw [e3]; rw [e12, rdS_rdS]
  have w3 : Wf S3 hs := by rw [e32]; exact w.rd (by omega)
  have rp3 : Rep S3 t i := by rw [e32]; exact rep_rd rp _
  have q3 : S3.reads = S.reads + (m1 + m2 + (S2.us i).toNat : Nat) := by rw [e32]; rfl
  have f3 : S3.free = S.free := by rw [e32]; rfl
  refine ⟨by omega, by omega, fun p ep => ⟨⟨_, w3⟩, fun b eb => ?_⟩⟩
  have eb := room_of (by omega) eb
  rw [f3] at eb
  refine brS_of (fun d => ?_) fun d => ?_
  · have d : b = false := by simpa using d
    rw [d] at eb
    exact h3 c c2 c3 (by have := of_decide_eq_false eb.symm; omega) S3 _ e32 (by omega)
  have d : b = true := by simpa using d
  rw [d] at eb
  have hf := of_decide_eq_true eb.symm
  have gA : Got S hs 0 (2 * ht t + 1) S3 hs := by rw [e32]; exact (Got.rds w (by omega)).mono (by omega) (by omega)
  refine ⟨rp3.us, ⟨_, w3⟩, fun S4 e4 => ?_⟩
  have g4 := retL_got (hs := hs) w3 rp3.us (by omega)
  rw [← e4] at g4
  have rp4 : Rep S4 t i := by rw [e4]; exact rp3.retL
  have q4 : S4.reads = S3.reads := by rw [e4]; exact (retL_flds _ _).1
  have gB := gA.seq g4 (h := hs) (fun _ h => h) (fun _ h => h)
  have f4 := gB.free w
  refine ⟨hs, t, g4.wf, rp4, bal, asc, by omega, by omega, by omega, by omega, by omega, fun S5 x y m o2 hm2 g t1 t2 eo2 => h4 c c2 c3 (by omega) S5 x y o2 ?_ t1 t2 eo2⟩
  have l1 := flt_len (p := ltK key) (l := t.list)
  have l2 := flt_len (p := gtK key) (l := t.list)
  rw [t.list_len] at l1 l2
  have k1 := gN_mono (v := (flt (ltK key) t.list).length + 1) (w := t.size + 1) (by omega) (by omega)
  have k2 := gN_mono (v := (flt (gtK key) t.list).length + 1) (w := t.size + 1) (by omega) (by omega)
  exact (gB.seq g (h := hs) (fun _ h => h) (fun _ h => h)).mono (by omega) (by omega)
theorem s_js : SoundT C0 42 tJs := by
  refine .ofW W7 Try.func42 (by decide) rfl fun args H K h hB => ?_
  unfold tJs at h
  split at h <;> try exact h.elim
  unfold arM at h
  split at h <;> try exact h.elim
  rename_i i key _ rd fr nd ct us gn rl
  obtain ⟨hs, t, h0, h1, h2, h3, h4⟩ := h
  exact ⟨aJs, ⟨frame C0.ok s_lfst _, frame C0.ok s_llst _, frame C0.ok s_hold _, frame C0.ok s_size _, frame C0.ok s_rSpl _, frame C0.ok s_room _, frame C0.ok (s_spl _) _, trivial⟩, vc_js ⟨us, gn, rl, fr, nd, ct, rd⟩ i key K hs t h0 h1 h2 h3 h4⟩
/-! ### Where there is room -/
def tJjOk : Tfm C0 := fun args H K => match args with
  | [.at (.ptr 0 0), .at (.val (.int .u32 l)), .agg [.val (.int .i64 k), .val (.int .i64 v)], .at (.val (.int .u32 r))] => arM H fun S => ∃ hs tl tr, jnM S hs tl tr l r ∧ S.reads ≤ 900000000000000000 ∧ ordB tl.list k tr.list = false ∧ 4 * (Hn ((tl.size : Int) + tr.size + 1) + 2) ≤ S.free ∧
    ∀ S' i, TrR S hs (tl.list ++ (k, v) :: tr.list) (jB tl.size tr.size) (4 * jB tl.size tr.size + ht tl + ht tr + 2) S' i → K (.tup [.at (vU i), .at (vI 0)]) (chS S') W7
  | _ => False
theorem s_jjOk : SoundT C0 43 tJjOk := s_jj.weak fun args H K h => by
  unfold tJjOk at h
  unfold tJj
  split at h <;> try exact h.elim
  unfold arM at h ⊢
  split at h <;> try exact h.elim
  obtain ⟨hs, tl, tr, hm, hr, ho, hf, h⟩ := h
  refine ⟨hs, tl, tr, hm, hr, fun e => ?_, fun _ hf' => absurd hf (by omega), fun _ _ S' i tj _ => h S' i tj⟩
  rw [ho] at e; cases e
theorem all_gt {l : List Ent} {k : Int} (ha : Asc l) (h : l.head?.isSome = false ∨ (l.head?.getD (0, 0)).1 > k) : ∀ x ∈ l, k < x.1 := by
  cases l with
  | nil => intro x hx; simp at hx
  | cons y l =>
    have h : y.1 > k := by
      rcases h with h | h
      · cases h
      · exact h
    intro x hx
    rcases List.mem_cons.1 hx with rfl | hx
    · exact h
    · have : y.1 < x.1 := (List.pairwise_cons.1 ha).1 x hx
      omega
theorem all_lt {l : List Ent} {k : Int} (ha : Asc l) (h : (l.getLast?.getD (0, 0)).1 < k) : ∀ x ∈ l, x.1 < k := by
  intro x hx
  have hne : l ≠ [] := fun e => by rw [e] at hx; simp at hx
  have e := List.dropLast_concat_getLast hne
  rw [List.getLast?_eq_some_getLast hne] at h
  have h : (l.getLast hne).1 < k := h
  rw [← e] at hx ha
  rcases List.mem_append.1 hx with hx | hx
  · have := (List.pairwise_append.1 ha).2.2 x hx (l.getLast hne) (by simp)
    have : x.1 < (l.getLast hne).1 := this
    omega
  · have : x = l.getLast hne := by simpa using hx
    rw [this]; exact h
def tJsOk : Tfm C0 := fun args H K => match args with
  | [.at (.ptr 0 0), .at (.val (.int .u32 i)), .at (.val (.int .i64 key))] => arM H fun S => ∃ hs t, upM S hs t i ∧ 12 * (Hn t.size + 2) ≤ S.free ∧
    ∀ S' x y (o : Option Int), Got S hs (7 * gN (t.size + 1) + 1) (35 * gN (t.size + 1) + 5 + 2 * ht t + 1) S' (x :: y :: hs) →
      (∃ t1, Rep S' t1 x ∧ t1.list = flt (ltK key) t.list ∧ t1.Bal) → (∃ t2, Rep S' t2 y ∧ t2.list = flt (gtK key) t.list ∧ t2.Bal) → o = getE t.list key → K (.tup [.at (vU x), .at (vI (o.getD 0)), .at (vB o.isSome), .at (vU y), .at (vI 0)]) (chS S') W7
  | _ => False
theorem spl_gt {l : List Ent} {k : Int} (h : ∀ x ∈ l, k < x.1) : flt (ltK k) l = [] ∧ flt (gtK k) l = l ∧ getE l k = none :=
  ⟨flt_none fun x hx => by have := h x hx; simp [ltK]; omega, flt_all fun x hx => by have := h x hx; simp [gtK]; omega, asc_not_mem h⟩
theorem spl_lt {l : List Ent} {k : Int} (h : ∀ x ∈ l, x.1 < k) : flt (ltK k) l = l ∧ flt (gtK k) l = [] ∧ getE l k = none :=
  ⟨flt_all fun x hx => by have := h x hx; simp [ltK]; omega, flt_none fun x hx => by have := h x hx; simp [gtK]; omega, by rw [getE_fnd, fnd_of_gt (fun x hx => h x hx)]; rfl⟩
theorem s_jsOk : SoundT C0 42 tJsOk := s_js.weak fun args H K h => by
  unfold tJsOk at h
  unfold tJs
  split at h <;> try exact h.elim
  unfold arM at h ⊢
  split at h <;> try exact h.elim
  obtain ⟨hs, t, hm, hf, h⟩ := h
  obtain ⟨w, rp, bal, asc, sz, hl, rd⟩ := id hm
  have hb := Bal.height bal (by omega)
  have hH := Hn_rng t.size
  refine ⟨hs, t, hm, fun c S' m e hm' => ?_, fun _ _ c S' m e hm' => ?_, fun _ _ _ hf' => absurd hf (by omega), fun _ _ _ _ S' x y o g t1 t2 eo => h S' x y o g t1 t2 eo⟩
  · have tr := hold_tr (a := 0) (b := m) w rp bal (by omega) (by omega) e (by omega) rfl
    obtain ⟨e1, e2, e3⟩ := spl_gt (all_gt asc c)
    obtain ⟨u, ru, lu, bu⟩ := tr.tree
    have g := tr.got
    exact h S' 0 _ none ⟨g.wf.zero_cons (by simp; omega), g.stay, g.len, by have := g.nu; omega, g.rd0, by have := g.rd; omega⟩ ⟨.nil, rfl, by rw [e1]; rfl, trivial⟩ ⟨u, ru, by rw [lu, e2], bu⟩ e3.symm
  · have tr := hold_tr (a := 0) (b := m) w rp bal (by omega) (by omega) e (by omega) rfl
    obtain ⟨e1, e2, e3⟩ := spl_lt (all_lt asc c)
    obtain ⟨u, ru, lu, bu⟩ := tr.tree
    have g := tr.got
    exact h S' _ 0 none ⟨(g.wf.zero_cons (by simp; omega)).perm (List.Perm.swap _ _ _), g.stay, g.len, by have := g.nu; omega, g.rd0, by have := g.rd; omega⟩ ⟨u, ru, by rw [lu, e1], bu⟩ ⟨.nil, rfl, by rw [e2]; rfl, trivial⟩ e3.symm
end Go.Proofs.Ytjbkckcjmmmooaa.Sx
end
section
/- The order of the free slots, and the arena's Dump. -/
/-KEEP exW inU Arn.cap Arn.free-/
namespace Go.Proofs.Ytjbkckcjmmmooaa.Sx
open Go

def upTo (fr : Int) (n : Nat) : List Int := (List.range n).map fun (k : Nat) => fr + 1 + (k : Int)
def orderL (us : List Bool) (rl : List Int) (fr : Int) : List Int := rl.reverse ++ upTo fr ((us.length : Int) - 1 - fr).toNat
structure XOr1 (rl : List Int) where
  k : Nat
  h : k ≤ rl.length
structure XOr2 (us : List Bool) (fr : Int) where
  n : Nat
  h : n ≤ ((us.length : Int) - 1 - fr).toNat
noncomputable def aOrder (us : List Bool) (gn rl : List Int) (fr : Int) : Ann C0 := { Γ := [(72, frameT [] tSlFree), (83, frameT [] tSlCap)], inv := fun n => match n with
  | 3 => some { X := XOr1 rl, sl := [4, 3], tf := fun x => [vi .i64 ((x.k : Int) - 1), .one (.at (.slc 4))], hf := fun x => slC us gn rl fr ++ [.row true EC.u32 (rl.drop x.k).reverse], μ := fun x => x.k }
  | 7 => some { X := XOr2 us fr, sl := [5, 3], tf := fun x => [vi .i64 (fr + 1 + (x.n : Int)), .one (.at (.slc 4))], hf := fun x => slC us gn rl fr ++ [.row true EC.u32 (rl.reverse ++ upTo fr x.n)], μ := fun x => ((us.length : Int) - 1 - fr).toNat - x.n }
  | _ => none }
def tOrder : Tfm C0 := fun args H K => match args with
  | [.at (.ptr 0 0)] => slM H fun us gn rl fr => 1 ≤ us.length ∧ us.length ≤ 65537 ∧ rl.length ≤ 65537 ∧ 0 ≤ fr ∧ fr ≤ us.length - 1 ∧ ∀ o : List Int, o = orderL us rl fr → K (.one (.at (.slc 4))) (slC us gn rl fr ++ [.row true EC.u32 o]) []
  | _ => False
def SlotT.zero : SlotT := ⟨false, 0, 0, NodeT.zero⟩
def slotAt (S : Arn) (k : Nat) : SlotT := ⟨S.us ((k : Int) + 1), if S.us ((k : Int) + 1) then S.ct ((k : Int) + 1) else 0, S.gn ((k : Int) + 1), S.nd ((k : Int) + 1)⟩
def ncap (S : Arn) : Nat := S.used.length - 1
def slotsOf (S : Arn) : List SlotT := (List.range (ncap S)).map (slotAt S)
def orderOf (S : Arn) : List Int := orderL S.used S.rel S.fresh
structure XDu (S : Arn) where
  i : Nat
  h : i ≤ ncap S
def fillS (S : Arn) (i : Nat) : List SlotT := (List.range i).map (slotAt S) ++ List.replicate (ncap S - i) SlotT.zero
noncomputable def aDump (S : Arn) : Ann C0 := { quiet := [75, 78, 79, 33], Γ := [(33, frameT [] tCap), (77, frameT [] tOrder), (75, frameT [] tSlAllocated), (78, frameT [] tCount), (79, frameT [] tGen)], inv := fun n => match n with
  | 1002 => some { X := Unit, sl := [3, 2], tf := fun _ => [.one (.at (.ptr 7 0)), .one (.at (.ptr 10 0))], hf := fun _ => chS S ++ [.box [.slc 8, .slc 9], .row true EC.slot (fillS S 0), .row true EC.u32 (orderOf S), .box [.slc 11, .slc 12], .row true EC.slot [], .row true EC.u32 []] }
  | 3 => some { X := XDu S, sl := [18, 3, 2], tf := fun x => [vi .i64 x.i, .one (.at (.ptr 7 0)), .one (.at (.ptr 10 0))], hf := fun x => chS S ++ [.box [.slc 8, .slc 9], .row true EC.slot (fillS S x.i), .row true EC.u32 (orderOf S), .box [.slc 11, .slc 12], .row true EC.slot [], .row true EC.u32 []], μ := fun x => ncap S - x.i }
  | _ => none }
def tDump : Tfm C0 := fun args H K => match args with
  | [.at (.ptr 0 0)] => arM H fun S => exW S ∧ ∀ (d : List SlotT) (o : List Int), d = slotsOf S → o = orderOf S → K (.one (.agg [.slc 7, .slc 8])) (chS S ++ [.row true EC.slot d, .row true EC.u32 o]) []
  | _ => False
theorem upTo_snoc (fr : Int) (n : Nat) : upTo fr n ++ [fr + 1 + (n : Int)] = upTo fr (n + 1) := by
  unfold upTo; rw [List.range_succ, List.map_append]; rfl
theorem vc_order (us : List Bool) (gn rl : List Int) (fr : Int) (K : KT) (h1 : 1 ≤ us.length) (h2 : us.length ≤ 65537) (h3 : rl.length ≤ 65537) (h4 : 0 ≤ fr) (h5 : fr ≤ us.length - 1) (h : ∀ o : List Int, o = orderL us rl fr → K (.one (.at (.slc 4))) (slC us gn rl fr ++ [.row true EC.u32 o]) []) :
    vc C0 (aOrder us gn rl fr) Try.f77 [.at (.ptr 0 0)] (slC us gn rl fr) (normK 4 K) := by
  refine Eq.mp (show ((1 ≤ us.length) ∧
(us.length ≤ 65537) ∧
(rl.length ≤ 65537) ∧
(0 ≤ fr) ∧
(fr ≤ 65537) ∧
((0 : Int) ≤ 0) ∧
(0 ≤ (↑rl.length : Int) + ((↑us.length : Int) - 1) - fr) ∧
(((↑rl.length : Int) + ((↑us.length : Int) - 1) - fr) * (↑(bytesOf C0 EC.u32) : Int) ≤ 140737488355328) ∧
(∃ x : XOr1 rl, (True ∧ (True ∧ True ∧ ((Value.int IntKind.i64 (IntKind.i64.wrap ((↑rl.length : Int) - 1))) = (Value.int IntKind.i64 ((↑x.k : Int) - 1))) ∧ True) ∧ (True ∧ True ∧ True ∧ ((Value.int IntKind.u32 (fr)) = (Value.int IntKind.u32 (fr))) ∧ True) ∧ ((us) = (us)) ∧ ((gn) = (gn)) ∧ ((rl) = (rl)) ∧ ([] = ((List.drop x.k rl).reverse)) ∧ True)) ∧
(∀ x : XOr1 rl, (True → (brS (decide ((↑x.k : Int) - 1 ≥ 0)) (((0 ≤ (↑x.k : Int) - 1) ∧ ((↑x.k : Int) - 1 < (↑rl.length : Int)) ∧ (((List.drop x.k rl).reverse.length + [rl.getD ((↑x.k : Int) - 1).toNat 0].length) * bytesOf C0 EC.u32 ≤ 140737488355328) ∧ (∃ x' : XOr1 rl, (True ∧ ((True ∧ True ∧ ((Value.int IntKind.i64 (IntKind.i64.wrap ((↑x.k : Int) - 1 - 1))) = (Value.int IntKind.i64 ((↑x'.k : Int) - 1))) ∧ True) ∧ (True ∧ True ∧ True ∧ ((Value.int IntKind.u32 (fr)) = (Value.int IntKind.u32 (fr))) ∧ True) ∧ ((us) = (us)) ∧ ((gn) = (gn)) ∧ ((rl) = (rl)) ∧ (((List.drop x.k rl).reverse ++ [rl.getD ((↑x.k : Int) - 1).toNat 0]) = ((List.drop x'.k rl).reverse)) ∧ True) ∧ (x'.k < x.k))))) (((∃ x1 : XOr2 us fr, (True ∧ (True ∧ True ∧ ((Value.int IntKind.i64 (IntKind.i64.wrap (IntKind.i64.wrap fr + 1))) = (Value.int IntKind.i64 (fr + 1 + (↑x1.n : Int)))) ∧ True) ∧ (True ∧
    True ∧ True ∧ ((Value.int IntKind.u32 (fr)) = (Value.int IntKind.u32 (fr))) ∧ True) ∧ ((us) = (us)) ∧ ((gn) = (gn)) ∧ ((rl) = (rl)) ∧ (((List.drop x.k rl).reverse) = (rl.reverse ++ upTo fr x1.n)) ∧ True)) ∧ (∀ x1 : XOr2 us fr, (True → ((1 ≤ us.length) ∧ (us.length ≤ 65537) ∧ (brS (decide (fr + 1 + (↑x1.n : Int) ≤ (↑us.length : Int) - 1)) (((((rl.reverse ++ upTo fr x1.n).length + [IntKind.u32.wrap (fr + 1 + (↑x1.n : Int))].length) * bytesOf C0 EC.u32 ≤ 140737488355328) ∧ (∃ x' : XOr2 us fr, (True ∧ ((True ∧ True ∧ ((Value.int IntKind.i64 (IntKind.i64.wrap (fr + 1 + (↑x1.n : Int) + 1))) = (Value.int IntKind.i64 (fr + 1 + (↑x'.n : Int)))) ∧ True) ∧ (True ∧ True ∧ True ∧ ((Value.int IntKind.u32 (fr)) = (Value.int IntKind.u32 (fr))) ∧ True) ∧ ((us) = (us)) ∧ ((gn) = (gn)) ∧ ((rl) = (rl)) ∧ ((rl.reverse ++ upTo fr x1.n ++ [IntKind.u32.wrap (fr + 1 + (↑x1.n : Int))]) = (rl.reverse ++ upTo fr x'.n)) ∧ True) ∧ (((↑us.length : Int) - 1 - fr).toNat - x'.n < ((↑us.length : Int) - 1 - fr).toNat - x1.n))))) ((K (SV.one (TV.at (At.slc 4))) [(Chunk.box [(At.slc 1), (At.slc 2), (At.slc 3), (At.val (Value.int IntKind.u32 (fr)))]), (Chunk.row true (EC.bool) (us)), (Chunk.row true (EC.u32) (gn)), (Chunk.row true (EC.u32) (rl)), (Chunk.row true (EC.u32) (rl.reverse ++ upTo fr x1.n))] [])))))))))))) = _ by kernel_rfl) ?_
  rw [bytes_u32]
  rw [wrap_id (x := (rl.length : Int) - 1) (by omega) (by omega), wrap_id (x := fr) (by omega) (by omega), wrap_id (x := fr + 1) (by omega) (by omega)]
  refine ⟨h1, h2, h3, h4, by omega, by decide, by omega, by omega, ⟨⟨rl.length, Nat.le_refl _⟩, trivial, ⟨trivial, trivial, rfl, trivial⟩, ⟨trivial, trivial, trivial, rfl, trivial⟩, rfl, rfl, rfl, by simp, trivial⟩, fun x _ => brS_of (fun c => ?_) fun c => ?_⟩
  · have c : 1 ≤ x.k := by have := of_decide_eq_true c; omega
    have hk := x.h
    have hg : rl[x.k - 1]? = some (rl.getD (x.k - 1) 0) := by simp [List.getD_eq_getElem?_getD, List.getElem?_eq_getElem (show x.k - 1 < rl.length by omega)]
    rw [wrap_id (by omega) (by omega), show ((x.k : Int) - 1).toNat = x.k - 1 by omega]
    refine ⟨by omega, by omega, ?_, ⟨x.k - 1, by omega⟩, trivial, ⟨⟨trivial, trivial, ?_, trivial⟩, ⟨trivial, trivial, trivial, rfl, trivial⟩, rfl, rfl, rfl, ?_, trivial⟩, ?_⟩
    · simp; omega
    · congr 1; show (x.k : Int) - 1 - 1 = ((x.k - 1 : Nat) : Int) - 1; omega
    · show _ = (rl.drop (x.k - 1)).reverse
      rw [drop_cons hg, List.reverse_cons, show x.k - 1 + 1 = x.k by omega]
    · show x.k - 1 < x.k; omega
  · have c : x.k = 0 := by have := of_decide_eq_false c; omega
    refine ⟨⟨⟨0, Nat.zero_le _⟩, trivial, ⟨trivial, trivial, by congr 1; show fr + 1 = fr + 1 + ((0 : Nat) : Int); omega, trivial⟩, ⟨trivial, trivial, trivial, rfl, trivial⟩, rfl, rfl, rfl, by rw [c]; simp [upTo], trivial⟩, fun y _ => ⟨h1, h2, brS_of (fun d => ?_) fun d => ?_⟩⟩
    · have d : fr + 1 + (y.n : Int) ≤ us.length - 1 := of_decide_eq_true d
      have hul : (upTo fr y.n).length = y.n := by simp [upTo]
      rw [wrap_u32 (by omega) (by omega), wrap_id (by omega) (by omega)]
      refine ⟨?_, ⟨y.n + 1, by omega⟩, trivial, ⟨⟨trivial, trivial, ?_, trivial⟩, ⟨trivial, trivial, trivial, rfl, trivial⟩, rfl, rfl, rfl, ?_, trivial⟩, ?_⟩
      · simp [hul]; omega
      · congr 1; show fr + 1 + (y.n : Int) + 1 = fr + 1 + ((y.n + 1 : Nat) : Int); omega
      · show _ = rl.reverse ++ upTo fr (y.n + 1)
        rw [← upTo_snoc, List.append_assoc]
      · show _ - (y.n + 1) < _; omega
    · have d : ¬ fr + 1 + (y.n : Int) ≤ us.length - 1 := of_decide_eq_false d
      have hn : y.n = ((us.length : Int) - 1 - fr).toNat := by have := y.h; omega
      exact h _ (by unfold orderL; rw [hn])
theorem s_order : SoundT C0 77 tOrder := by
  refine .of Try.func77 (by decide) rfl fun args H K h hB => ?_
  unfold tOrder at h
  split at h <;> try exact h.elim
  unfold slM at h
  split at h <;> try exact h.elim
  rename_i fr us gn rl
  obtain ⟨h1, h2, h3, h4, h5, h6⟩ := h
  exact ⟨aOrder us gn rl fr, ⟨frame C0.ok s_slFree _, frame C0.ok s_slCap _, trivial⟩, vc_order us gn rl fr K h1 h2 h3 h4 h5 h6⟩
theorem fill_zero (S : Arn) : List.replicate (ncap S) SlotT.zero = fillS S 0 := by simp [fillS]
theorem fill_len (S : Arn) (i : Nat) (h : i ≤ ncap S) : (fillS S i).length = ncap S := by simp [fillS]; omega
theorem fill_next (S : Arn) {i : Nat} (h : i < ncap S) : (fillS S i).set i (slotAt S i) = fillS S (i + 1) := by
  unfold fillS
  obtain ⟨m, hm⟩ : ∃ m, ncap S - i = m + 1 := ⟨ncap S - i - 1, by omega⟩
  rw [hm, show ncap S - (i + 1) = m by omega, List.range_succ, List.map_append, List.replicate_succ, List.set_append_right _ _ (by simp)]
  simp
theorem fill_all (S : Arn) : fillS S (ncap S) = slotsOf S := by simp [fillS, slotsOf]
theorem vc_dump (S : Arn) (K : KT) (hw : exW S) (h : ∀ (d : List SlotT) (o : List Int), d = slotsOf S → o = orderOf S → K (.one (.agg [.slc 7, .slc 8])) (chS S ++ [.row true EC.slot d, .row true EC.u32 o]) []) :
    vc C0 (aDump S) Try.f30 [.at (.ptr 0 0)] (chS S) (normK 7 K) := by
  refine Eq.mp (show ((((exW S) ∧
((0 ≤ S.cap) ∧
(S.cap ≤ S.cap) ∧
(S.cap * (↑(bytesOf C0 EC.slot) : Int) ≤ 140737488355328) ∧
(((1 ≤ S.used.length) ∧
(S.used.length ≤ 65537) ∧
(S.rel.length ≤ 65537) ∧
(0 ≤ S.fresh) ∧
(S.fresh ≤ (↑S.used.length : Int) - 1) ∧
(∀ o : List Int, (((o) = (orderL S.used S.rel S.fresh)) → (∃ x : Unit, (True ∧ (True ∧ True ∧ True ∧ True) ∧ (True ∧ True ∧ True ∧ ((Value.int IntKind.u64 (S.reads)) = (Value.int IntKind.u64 (S.reads))) ∧ True) ∧ (True ∧ True ∧ True ∧ ((Value.int IntKind.u32 (S.fresh)) = (Value.int IntKind.u32 (S.fresh))) ∧ True) ∧ ((S.nodes) = (S.nodes)) ∧ ((S.counts) = (S.counts)) ∧ ((S.used) = (S.used)) ∧ ((S.gen) = (S.gen)) ∧ ((S.rel) = (S.rel)) ∧ (True ∧ True ∧ True) ∧ ((List.replicate S.cap.toNat { alloc := false, count := 0, gen := 0, node := { key := 0, value := 0, left := 0, right := 0, size := 0, sum := 0, min := 0, max := 0 : NodeT } : SlotT }) = (fillS S 0)) ∧ ((o) = (orderOf S)) ∧ (True ∧ True ∧ True) ∧ ((([] : List SlotT) = [])) ∧ ((([] : List Int) = [])) ∧ True))))) ∧
(1 ≤ S.used.length) ∧
(S.used.length ≤ 65537) ∧
(S.rel.length ≤ 65537) ∧
(0 ≤ S.fresh) ∧
(S.fresh ≤ (↑S.used.length : Int) - 1) ∧
(∀ o : List Int, (((o) = (orderL S.used S.rel S.fresh)) → (∃ x : Unit, (True ∧ (True ∧ True ∧ True ∧ True) ∧ (True ∧ True ∧ True ∧ ((Value.int IntKind.u64 (S.reads)) = (Value.int IntKind.u64 (S.reads))) ∧ True) ∧ (True ∧ True ∧ True ∧ ((Value.int IntKind.u32 (S.fresh)) = (Value.int IntKind.u32 (S.fresh))) ∧ True) ∧ ((S.nodes) = (S.nodes)) ∧
    ((S.counts) = (S.counts)) ∧ ((S.used) = (S.used)) ∧ ((S.gen) = (S.gen)) ∧ ((S.rel) = (S.rel)) ∧ (True ∧ True ∧ True) ∧ ((List.replicate S.cap.toNat { alloc := false, count := 0, gen := 0, node := { key := 0, value := 0, left := 0, right := 0, size := 0, sum := 0, min := 0, max := 0 : NodeT } : SlotT }) = (fillS S 0)) ∧ ((o) = (orderOf S)) ∧ (True ∧ True ∧ True) ∧ ((([] : List SlotT) = [])) ∧ ((([] : List Int) = [])) ∧ True))))) ∧
(1 ≤ S.used.length) ∧
(S.used.length ≤ 65537) ∧
(S.rel.length ≤ 65537) ∧
(0 ≤ S.fresh) ∧
(S.fresh ≤ (↑S.used.length : Int) - 1) ∧
(∀ o : List Int, (((o) = (orderL S.used S.rel S.fresh)) → (∃ x : Unit, (True ∧ (True ∧ True ∧ True ∧ True) ∧ (True ∧ True ∧ True ∧ ((Value.int IntKind.u64 (S.reads)) = (Value.int IntKind.u64 (S.reads))) ∧ True) ∧ (True ∧ True ∧ True ∧ ((Value.int IntKind.u32 (S.fresh)) = (Value.int IntKind.u32 (S.fresh))) ∧ True) ∧ ((S.nodes) = (S.nodes)) ∧ ((S.counts) = (S.counts)) ∧ ((S.used) = (S.used)) ∧ ((S.gen) = (S.gen)) ∧ ((S.rel) = (S.rel)) ∧ (True ∧ True ∧ True) ∧ ((List.replicate S.cap.toNat { alloc := false, count := 0, gen := 0, node := { key := 0, value := 0, left := 0, right := 0, size := 0, sum := 0, min := 0, max := 0 : NodeT } : SlotT }) = (fillS S 0)) ∧ ((o) = (orderOf S)) ∧ (True ∧ True ∧ True) ∧ ((([] : List SlotT) = [])) ∧ ((([] : List Int) = [])) ∧
    True))))) ∧
(((0 ≤ S.cap) ∧
(S.cap ≤ S.cap) ∧
(S.cap * (↑(bytesOf C0 EC.slot) : Int) ≤ 140737488355328) ∧
((1 ≤ S.used.length) ∧
(S.used.length ≤ 65537) ∧
(S.rel.length ≤ 65537) ∧
(0 ≤ S.fresh) ∧
(S.fresh ≤ (↑S.used.length : Int) - 1) ∧
(∀ o : List Int, (((o) = (orderL S.used S.rel S.fresh)) → (∃ x : Unit, (True ∧ (True ∧ True ∧ True ∧ True) ∧ (True ∧ True ∧ True ∧ ((Value.int IntKind.u64 (S.reads)) = (Value.int IntKind.u64 (S.reads))) ∧ True) ∧ (True ∧ True ∧ True ∧ ((Value.int IntKind.u32 (S.fresh)) = (Value.int IntKind.u32 (S.fresh))) ∧ True) ∧ ((S.nodes) = (S.nodes)) ∧ ((S.counts) = (S.counts)) ∧ ((S.used) = (S.used)) ∧ ((S.gen) = (S.gen)) ∧ ((S.rel) = (S.rel)) ∧ (True ∧ True ∧ True) ∧ ((List.replicate S.cap.toNat { alloc := false, count := 0, gen := 0, node := { key := 0, value := 0, left := 0, right := 0, size := 0, sum := 0, min := 0, max := 0 : NodeT } : SlotT }) = (fillS S 0)) ∧ ((o) = (orderOf S)) ∧ (True ∧ True ∧ True) ∧ ((([] : List SlotT) = [])) ∧ ((([] : List Int) = [])) ∧ True))))) ∧
(1 ≤ S.used.length) ∧
(S.used.length ≤ 65537) ∧
(S.rel.length ≤ 65537) ∧
(0 ≤ S.fresh) ∧
(S.fresh ≤ (↑S.used.length : Int) - 1) ∧
(∀ o : List Int, (((o) = (orderL S.used S.rel S.fresh)) → (∃ x : Unit, (True ∧ (True ∧ True ∧ True ∧ True) ∧ (True ∧ True ∧ True ∧ ((Value.int IntKind.u64 (S.reads)) = (Value.int IntKind.u64 (S.reads))) ∧ True) ∧ (True ∧ True ∧ True ∧ ((Value.int IntKind.u32 (S.fresh)) = (Value.int IntKind.u32 (S.fresh))) ∧ True) ∧ ((S.nodes) = (S.nodes)) ∧
    ((S.counts) = (S.counts)) ∧ ((S.used) = (S.used)) ∧ ((S.gen) = (S.gen)) ∧ ((S.rel) = (S.rel)) ∧ (True ∧ True ∧ True) ∧ ((List.replicate S.cap.toNat { alloc := false, count := 0, gen := 0, node := { key := 0, value := 0, left := 0, right := 0, size := 0, sum := 0, min := 0, max := 0 : NodeT } : SlotT }) = (fillS S 0)) ∧ ((o) = (orderOf S)) ∧ (True ∧ True ∧ True) ∧ ((([] : List SlotT) = [])) ∧ ((([] : List Int) = [])) ∧ True))))) ∧
((1 ≤ S.used.length) ∧
(S.used.length ≤ 65537) ∧
(S.rel.length ≤ 65537) ∧
(0 ≤ S.fresh) ∧
(S.fresh ≤ (↑S.used.length : Int) - 1) ∧
(∀ o : List Int, (((o) = (orderL S.used S.rel S.fresh)) → (((0 ≤ S.cap) ∧ (S.cap ≤ S.cap) ∧ (S.cap * (↑(bytesOf C0 EC.slot) : Int) ≤ 140737488355328) ∧ (∃ x : Unit, (True ∧ (True ∧ True ∧ True ∧ True) ∧ (True ∧ True ∧ True ∧ ((Value.int IntKind.u64 (S.reads)) = (Value.int IntKind.u64 (S.reads))) ∧ True) ∧ (True ∧ True ∧ True ∧ ((Value.int IntKind.u32 (S.fresh)) = (Value.int IntKind.u32 (S.fresh))) ∧ True) ∧ ((S.nodes) = (S.nodes)) ∧ ((S.counts) = (S.counts)) ∧ ((S.used) = (S.used)) ∧ ((S.gen) = (S.gen)) ∧ ((S.rel) = (S.rel)) ∧ (True ∧ True ∧ True) ∧ ((List.replicate S.cap.toNat { alloc := false, count := 0, gen := 0, node := { key := 0, value := 0, left := 0, right := 0, size := 0, sum := 0, min := 0, max := 0 : NodeT } : SlotT }) = (fillS S 0)) ∧ ((o) = (orderOf S)) ∧ (True ∧ True ∧ True) ∧ ((([] : List SlotT) = [])) ∧ ((([] : List Int) = [])) ∧ True))) ∧ (0 ≤ S.cap) ∧ (S.cap ≤ S.cap) ∧
    (S.cap * (↑(bytesOf C0 EC.slot) : Int) ≤ 140737488355328) ∧ (∃ x : Unit, (True ∧ (True ∧ True ∧ True ∧ True) ∧ (True ∧ True ∧ True ∧ ((Value.int IntKind.u64 (S.reads)) = (Value.int IntKind.u64 (S.reads))) ∧ True) ∧ (True ∧ True ∧ True ∧ ((Value.int IntKind.u32 (S.fresh)) = (Value.int IntKind.u32 (S.fresh))) ∧ True) ∧ ((S.nodes) = (S.nodes)) ∧ ((S.counts) = (S.counts)) ∧ ((S.used) = (S.used)) ∧ ((S.gen) = (S.gen)) ∧ ((S.rel) = (S.rel)) ∧ (True ∧ True ∧ True) ∧ ((List.replicate S.cap.toNat { alloc := false, count := 0, gen := 0, node := { key := 0, value := 0, left := 0, right := 0, size := 0, sum := 0, min := 0, max := 0 : NodeT } : SlotT }) = (fillS S 0)) ∧ ((o) = (orderOf S)) ∧ (True ∧ True ∧ True) ∧ ((([] : List SlotT) = [])) ∧ ((([] : List Int) = [])) ∧ True)))))) ∧
((0 ≤ S.cap) ∧
(S.cap ≤ S.cap) ∧
(S.cap * (↑(bytesOf C0 EC.slot) : Int) ≤ 140737488355328) ∧
(1 ≤ S.used.length) ∧
(S.used.length ≤ 65537) ∧
(S.rel.length ≤ 65537) ∧
(0 ≤ S.fresh) ∧
(S.fresh ≤ (↑S.used.length : Int) - 1) ∧
(∀ o : List Int, (((o) = (orderL S.used S.rel S.fresh)) → (∃ x : Unit, (True ∧ (True ∧ True ∧ True ∧ True) ∧ (True ∧ True ∧ True ∧ ((Value.int IntKind.u64 (S.reads)) = (Value.int IntKind.u64 (S.reads))) ∧ True) ∧ (True ∧ True ∧ True ∧ ((Value.int IntKind.u32 (S.fresh)) = (Value.int IntKind.u32 (S.fresh))) ∧ True) ∧ ((S.nodes) = (S.nodes)) ∧ ((S.counts) = (S.counts)) ∧ ((S.used) = (S.used)) ∧ ((S.gen) = (S.gen)) ∧ ((S.rel) = (S.rel)) ∧ (True ∧ True ∧ True) ∧
    ((List.replicate S.cap.toNat { alloc := false, count := 0, gen := 0, node := { key := 0, value := 0, left := 0, right := 0, size := 0, sum := 0, min := 0, max := 0 : NodeT } : SlotT }) = (fillS S 0)) ∧ ((o) = (orderOf S)) ∧ (True ∧ True ∧ True) ∧ ((([] : List SlotT) = [])) ∧ ((([] : List Int) = [])) ∧ True))))) ∧
(1 ≤ S.used.length) ∧
(S.used.length ≤ 65537) ∧
(S.rel.length ≤ 65537) ∧
(0 ≤ S.fresh) ∧
(S.fresh ≤ (↑S.used.length : Int) - 1) ∧
(∀ o : List Int, (((o) = (orderL S.used S.rel S.fresh)) → ((0 ≤ S.cap) ∧ (S.cap ≤ S.cap) ∧ (S.cap * (↑(bytesOf C0 EC.slot) : Int) ≤ 140737488355328) ∧ (∃ x : Unit, (True ∧ (True ∧ True ∧ True ∧ True) ∧ (True ∧ True ∧ True ∧ ((Value.int IntKind.u64 (S.reads)) = (Value.int IntKind.u64 (S.reads))) ∧ True) ∧ (True ∧ True ∧ True ∧ ((Value.int IntKind.u32 (S.fresh)) = (Value.int IntKind.u32 (S.fresh))) ∧ True) ∧ ((S.nodes) = (S.nodes)) ∧ ((S.counts) = (S.counts)) ∧ ((S.used) = (S.used)) ∧ ((S.gen) = (S.gen)) ∧ ((S.rel) = (S.rel)) ∧ (True ∧ True ∧ True) ∧ ((List.replicate S.cap.toNat { alloc := false, count := 0, gen := 0, node := { key := 0, value := 0, left := 0, right := 0, size := 0, sum := 0, min := 0, max := 0 : NodeT } : SlotT }) = (fillS S 0)) ∧ ((o) = (orderOf S)) ∧ (True ∧ True ∧ True) ∧ ((([] : List SlotT) = [])) ∧ ((([] : List Int) = [])) ∧
    True)))))) ∧
((0 ≤ S.cap) ∧
(S.cap ≤ S.cap) ∧
(S.cap * (↑(bytesOf C0 EC.slot) : Int) ≤ 140737488355328) ∧
(1 ≤ S.used.length) ∧
(S.used.length ≤ 65537) ∧
(S.rel.length ≤ 65537) ∧
(0 ≤ S.fresh) ∧
(S.fresh ≤ (↑S.used.length : Int) - 1) ∧
(∀ o : List Int, (((o) = (orderL S.used S.rel S.fresh)) → (∃ x : Unit, (True ∧ (True ∧ True ∧ True ∧ True) ∧ (True ∧ True ∧ True ∧ ((Value.int IntKind.u64 (S.reads)) = (Value.int IntKind.u64 (S.reads))) ∧ True) ∧ (True ∧ True ∧ True ∧ ((Value.int IntKind.u32 (S.fresh)) = (Value.int IntKind.u32 (S.fresh))) ∧ True) ∧ ((S.nodes) = (S.nodes)) ∧ ((S.counts) = (S.counts)) ∧ ((S.used) = (S.used)) ∧ ((S.gen) = (S.gen)) ∧ ((S.rel) = (S.rel)) ∧ (True ∧ True ∧ True) ∧ ((List.replicate S.cap.toNat { alloc := false, count := 0, gen := 0, node := { key := 0, value := 0, left := 0, right := 0, size := 0, sum := 0, min := 0, max := 0 : NodeT } : SlotT }) = (fillS S 0)) ∧ ((o) = (orderOf S)) ∧ (True ∧ True ∧ True) ∧ ((([] : List SlotT) = [])) ∧ ((([] : List Int) = [])) ∧ True))))) ∧
((0 ≤ S.cap) ∧
(S.cap ≤ S.cap) ∧
(S.cap * (↑(bytesOf C0 EC.slot) : Int) ≤ 140737488355328) ∧
(1 ≤ S.used.length) ∧
(S.used.length ≤ 65537) ∧
(S.rel.length ≤ 65537) ∧
(0 ≤ S.fresh) ∧
(S.fresh ≤ (↑S.used.length : Int) - 1) ∧
(∀ o : List Int, (((o) = (orderL S.used S.rel S.fresh)) → (∃ x : Unit, (True ∧ (True ∧ True ∧ True ∧ True) ∧ (True ∧ True ∧ True ∧ ((Value.int IntKind.u64 (S.reads)) = (Value.int IntKind.u64 (S.reads))) ∧ True) ∧ (True ∧ True ∧ True ∧
    ((Value.int IntKind.u32 (S.fresh)) = (Value.int IntKind.u32 (S.fresh))) ∧ True) ∧ ((S.nodes) = (S.nodes)) ∧ ((S.counts) = (S.counts)) ∧ ((S.used) = (S.used)) ∧ ((S.gen) = (S.gen)) ∧ ((S.rel) = (S.rel)) ∧ (True ∧ True ∧ True) ∧ ((List.replicate S.cap.toNat { alloc := false, count := 0, gen := 0, node := { key := 0, value := 0, left := 0, right := 0, size := 0, sum := 0, min := 0, max := 0 : NodeT } : SlotT }) = (fillS S 0)) ∧ ((o) = (orderOf S)) ∧ (True ∧ True ∧ True) ∧ ((([] : List SlotT) = [])) ∧ ((([] : List Int) = [])) ∧ True))))) ∧
(1 ≤ S.used.length) ∧
(S.used.length ≤ 65537) ∧
(S.rel.length ≤ 65537) ∧
(0 ≤ S.fresh) ∧
(S.fresh ≤ (↑S.used.length : Int) - 1) ∧
(∀ o : List Int, (((o) = (orderL S.used S.rel S.fresh)) → ((0 ≤ S.cap) ∧ (S.cap ≤ S.cap) ∧ (S.cap * (↑(bytesOf C0 EC.slot) : Int) ≤ 140737488355328) ∧ (∃ x : Unit, (True ∧ (True ∧ True ∧ True ∧ True) ∧ (True ∧ True ∧ True ∧ ((Value.int IntKind.u64 (S.reads)) = (Value.int IntKind.u64 (S.reads))) ∧ True) ∧ (True ∧ True ∧ True ∧ ((Value.int IntKind.u32 (S.fresh)) = (Value.int IntKind.u32 (S.fresh))) ∧ True) ∧ ((S.nodes) = (S.nodes)) ∧ ((S.counts) = (S.counts)) ∧ ((S.used) = (S.used)) ∧ ((S.gen) = (S.gen)) ∧ ((S.rel) = (S.rel)) ∧ (True ∧ True ∧ True) ∧ ((List.replicate S.cap.toNat { alloc := false, count := 0, gen := 0, node := { key := 0, value := 0, left := 0, right := 0, size := 0, sum := 0, min := 0, max := 0 : NodeT } : SlotT }) = (fillS S 0)) ∧ ((o) = (orderOf S)) ∧ (True ∧ True ∧ True) ∧
    ((([] : List SlotT) = [])) ∧ ((([] : List Int) = [])) ∧ True)))))) ∧
(((exW S) ∧
((0 ≤ S.cap) ∧
(S.cap ≤ S.cap) ∧
(S.cap * (↑(bytesOf C0 EC.slot) : Int) ≤ 140737488355328) ∧
((1 ≤ S.used.length) ∧
(S.used.length ≤ 65537) ∧
(S.rel.length ≤ 65537) ∧
(0 ≤ S.fresh) ∧
(S.fresh ≤ (↑S.used.length : Int) - 1) ∧
(∀ o : List Int, (((o) = (orderL S.used S.rel S.fresh)) → (∃ x : Unit, (True ∧ (True ∧ True ∧ True ∧ True) ∧ (True ∧ True ∧ True ∧ ((Value.int IntKind.u64 (S.reads)) = (Value.int IntKind.u64 (S.reads))) ∧ True) ∧ (True ∧ True ∧ True ∧ ((Value.int IntKind.u32 (S.fresh)) = (Value.int IntKind.u32 (S.fresh))) ∧ True) ∧ ((S.nodes) = (S.nodes)) ∧ ((S.counts) = (S.counts)) ∧ ((S.used) = (S.used)) ∧ ((S.gen) = (S.gen)) ∧ ((S.rel) = (S.rel)) ∧ (True ∧ True ∧ True) ∧ ((List.replicate S.cap.toNat { alloc := false, count := 0, gen := 0, node := { key := 0, value := 0, left := 0, right := 0, size := 0, sum := 0, min := 0, max := 0 : NodeT } : SlotT }) = (fillS S 0)) ∧ ((o) = (orderOf S)) ∧ (True ∧ True ∧ True) ∧ ((([] : List SlotT) = [])) ∧ ((([] : List Int) = [])) ∧ True))))) ∧
(1 ≤ S.used.length) ∧
(S.used.length ≤ 65537) ∧
(S.rel.length ≤ 65537) ∧
(0 ≤ S.fresh) ∧
(S.fresh ≤ (↑S.used.length : Int) - 1) ∧
(∀ o : List Int, (((o) = (orderL S.used S.rel S.fresh)) → (∃ x : Unit, (True ∧ (True ∧ True ∧ True ∧ True) ∧ (True ∧ True ∧ True ∧ ((Value.int IntKind.u64 (S.reads)) = (Value.int IntKind.u64 (S.reads))) ∧ True) ∧ (True ∧ True ∧ True ∧
    ((Value.int IntKind.u32 (S.fresh)) = (Value.int IntKind.u32 (S.fresh))) ∧ True) ∧ ((S.nodes) = (S.nodes)) ∧ ((S.counts) = (S.counts)) ∧ ((S.used) = (S.used)) ∧ ((S.gen) = (S.gen)) ∧ ((S.rel) = (S.rel)) ∧ (True ∧ True ∧ True) ∧ ((List.replicate S.cap.toNat { alloc := false, count := 0, gen := 0, node := { key := 0, value := 0, left := 0, right := 0, size := 0, sum := 0, min := 0, max := 0 : NodeT } : SlotT }) = (fillS S 0)) ∧ ((o) = (orderOf S)) ∧ (True ∧ True ∧ True) ∧ ((([] : List SlotT) = [])) ∧ ((([] : List Int) = [])) ∧ True))))) ∧
((1 ≤ S.used.length) ∧
(S.used.length ≤ 65537) ∧
(S.rel.length ≤ 65537) ∧
(0 ≤ S.fresh) ∧
(S.fresh ≤ (↑S.used.length : Int) - 1) ∧
(∀ o : List Int, (((o) = (orderL S.used S.rel S.fresh)) → (((0 ≤ S.cap) ∧ (S.cap ≤ S.cap) ∧ (S.cap * (↑(bytesOf C0 EC.slot) : Int) ≤ 140737488355328) ∧ (∃ x : Unit, (True ∧ (True ∧ True ∧ True ∧ True) ∧ (True ∧ True ∧ True ∧ ((Value.int IntKind.u64 (S.reads)) = (Value.int IntKind.u64 (S.reads))) ∧ True) ∧ (True ∧ True ∧ True ∧ ((Value.int IntKind.u32 (S.fresh)) = (Value.int IntKind.u32 (S.fresh))) ∧ True) ∧ ((S.nodes) = (S.nodes)) ∧ ((S.counts) = (S.counts)) ∧ ((S.used) = (S.used)) ∧ ((S.gen) = (S.gen)) ∧ ((S.rel) = (S.rel)) ∧ (True ∧ True ∧ True) ∧ ((List.replicate S.cap.toNat { alloc := false, count := 0, gen := 0, node := { key := 0, value := 0, left := 0, right := 0, size := 0, sum := 0, min := 0, max := 0 : NodeT } : SlotT }) = (fillS S 0)) ∧ ((o) = (orderOf S)) ∧ (True ∧ True ∧ True) ∧
    ((([] : List SlotT) = [])) ∧ ((([] : List Int) = [])) ∧ True))) ∧ (0 ≤ S.cap) ∧ (S.cap ≤ S.cap) ∧ (S.cap * (↑(bytesOf C0 EC.slot) : Int) ≤ 140737488355328) ∧ (∃ x : Unit, (True ∧ (True ∧ True ∧ True ∧ True) ∧ (True ∧ True ∧ True ∧ ((Value.int IntKind.u64 (S.reads)) = (Value.int IntKind.u64 (S.reads))) ∧ True) ∧ (True ∧ True ∧ True ∧ ((Value.int IntKind.u32 (S.fresh)) = (Value.int IntKind.u32 (S.fresh))) ∧ True) ∧ ((S.nodes) = (S.nodes)) ∧ ((S.counts) = (S.counts)) ∧ ((S.used) = (S.used)) ∧ ((S.gen) = (S.gen)) ∧ ((S.rel) = (S.rel)) ∧ (True ∧ True ∧ True) ∧ ((List.replicate S.cap.toNat { alloc := false, count := 0, gen := 0, node := { key := 0, value := 0, left := 0, right := 0, size := 0, sum := 0, min := 0, max := 0 : NodeT } : SlotT }) = (fillS S 0)) ∧ ((o) = (orderOf S)) ∧ (True ∧ True ∧ True) ∧ ((([] : List SlotT) = [])) ∧ ((([] : List Int) = [])) ∧ True)))))) ∧
((0 ≤ S.cap) ∧
(S.cap ≤ S.cap) ∧
(S.cap * (↑(bytesOf C0 EC.slot) : Int) ≤ 140737488355328) ∧
(1 ≤ S.used.length) ∧
(S.used.length ≤ 65537) ∧
(S.rel.length ≤ 65537) ∧
(0 ≤ S.fresh) ∧
(S.fresh ≤ (↑S.used.length : Int) - 1) ∧
(∀ o : List Int, (((o) = (orderL S.used S.rel S.fresh)) → (∃ x : Unit, (True ∧ (True ∧ True ∧ True ∧ True) ∧ (True ∧ True ∧ True ∧ ((Value.int IntKind.u64 (S.reads)) = (Value.int IntKind.u64 (S.reads))) ∧ True) ∧ (True ∧ True ∧ True ∧ ((Value.int IntKind.u32 (S.fresh)) = (Value.int IntKind.u32 (S.fresh))) ∧ True) ∧ ((S.nodes) = (S.nodes)) ∧ ((S.counts) = (S.counts)) ∧ ((S.used) = (S.used)) ∧
    ((S.gen) = (S.gen)) ∧ ((S.rel) = (S.rel)) ∧ (True ∧ True ∧ True) ∧ ((List.replicate S.cap.toNat { alloc := false, count := 0, gen := 0, node := { key := 0, value := 0, left := 0, right := 0, size := 0, sum := 0, min := 0, max := 0 : NodeT } : SlotT }) = (fillS S 0)) ∧ ((o) = (orderOf S)) ∧ (True ∧ True ∧ True) ∧ ((([] : List SlotT) = [])) ∧ ((([] : List Int) = [])) ∧ True))))) ∧
(1 ≤ S.used.length) ∧
(S.used.length ≤ 65537) ∧
(S.rel.length ≤ 65537) ∧
(0 ≤ S.fresh) ∧
(S.fresh ≤ (↑S.used.length : Int) - 1) ∧
(∀ o : List Int, (((o) = (orderL S.used S.rel S.fresh)) → ((0 ≤ S.cap) ∧ (S.cap ≤ S.cap) ∧ (S.cap * (↑(bytesOf C0 EC.slot) : Int) ≤ 140737488355328) ∧ (∃ x : Unit, (True ∧ (True ∧ True ∧ True ∧ True) ∧ (True ∧ True ∧ True ∧ ((Value.int IntKind.u64 (S.reads)) = (Value.int IntKind.u64 (S.reads))) ∧ True) ∧ (True ∧ True ∧ True ∧ ((Value.int IntKind.u32 (S.fresh)) = (Value.int IntKind.u32 (S.fresh))) ∧ True) ∧ ((S.nodes) = (S.nodes)) ∧ ((S.counts) = (S.counts)) ∧ ((S.used) = (S.used)) ∧ ((S.gen) = (S.gen)) ∧ ((S.rel) = (S.rel)) ∧ (True ∧ True ∧ True) ∧ ((List.replicate S.cap.toNat { alloc := false, count := 0, gen := 0, node := { key := 0, value := 0, left := 0, right := 0, size := 0, sum := 0, min := 0, max := 0 : NodeT } : SlotT }) = (fillS S 0)) ∧ ((o) = (orderOf S)) ∧ (True ∧ True ∧ True) ∧ ((([] : List SlotT) = [])) ∧ ((([] : List Int) = [])) ∧
    True)))))) ∧
(exW S) ∧
((0 ≤ S.cap) ∧
(S.cap ≤ S.cap) ∧
(S.cap * (↑(bytesOf C0 EC.slot) : Int) ≤ 140737488355328) ∧
(1 ≤ S.used.length) ∧
(S.used.length ≤ 65537) ∧
(S.rel.length ≤ 65537) ∧
(0 ≤ S.fresh) ∧
(S.fresh ≤ (↑S.used.length : Int) - 1) ∧
(∀ o : List Int, (((o) = (orderL S.used S.rel S.fresh)) → (∃ x : Unit, (True ∧ (True ∧ True ∧ True ∧ True) ∧ (True ∧ True ∧ True ∧ ((Value.int IntKind.u64 (S.reads)) = (Value.int IntKind.u64 (S.reads))) ∧ True) ∧ (True ∧ True ∧ True ∧ ((Value.int IntKind.u32 (S.fresh)) = (Value.int IntKind.u32 (S.fresh))) ∧ True) ∧ ((S.nodes) = (S.nodes)) ∧ ((S.counts) = (S.counts)) ∧ ((S.used) = (S.used)) ∧ ((S.gen) = (S.gen)) ∧ ((S.rel) = (S.rel)) ∧ (True ∧ True ∧ True) ∧ ((List.replicate S.cap.toNat { alloc := false, count := 0, gen := 0, node := { key := 0, value := 0, left := 0, right := 0, size := 0, sum := 0, min := 0, max := 0 : NodeT } : SlotT }) = (fillS S 0)) ∧ ((o) = (orderOf S)) ∧ (True ∧ True ∧ True) ∧ ((([] : List SlotT) = [])) ∧ ((([] : List Int) = [])) ∧ True))))) ∧
(1 ≤ S.used.length) ∧
(S.used.length ≤ 65537) ∧
(S.rel.length ≤ 65537) ∧
(0 ≤ S.fresh) ∧
(S.fresh ≤ (↑S.used.length : Int) - 1) ∧
(∀ o : List Int, (((o) = (orderL S.used S.rel S.fresh)) → ((0 ≤ S.cap) ∧ (S.cap ≤ S.cap) ∧ (S.cap * (↑(bytesOf C0 EC.slot) : Int) ≤ 140737488355328) ∧ (∃ x : Unit, (True ∧ (True ∧ True ∧ True ∧ True) ∧ (True ∧ True ∧ True ∧ ((Value.int IntKind.u64 (S.reads)) = (Value.int IntKind.u64 (S.reads))) ∧ True) ∧ (True ∧ True ∧ True ∧
    ((Value.int IntKind.u32 (S.fresh)) = (Value.int IntKind.u32 (S.fresh))) ∧ True) ∧ ((S.nodes) = (S.nodes)) ∧ ((S.counts) = (S.counts)) ∧ ((S.used) = (S.used)) ∧ ((S.gen) = (S.gen)) ∧ ((S.rel) = (S.rel)) ∧ (True ∧ True ∧ True) ∧ ((List.replicate S.cap.toNat { alloc := false, count := 0, gen := 0, node := { key := 0, value := 0, left := 0, right := 0, size := 0, sum := 0, min := 0, max := 0 : NodeT } : SlotT }) = (fillS S 0)) ∧ ((o) = (orderOf S)) ∧ (True ∧ True ∧ True) ∧ ((([] : List SlotT) = [])) ∧ ((([] : List Int) = [])) ∧ True)))))) ∧
((exW S) ∧
((0 ≤ S.cap) ∧
(S.cap ≤ S.cap) ∧
(S.cap * (↑(bytesOf C0 EC.slot) : Int) ≤ 140737488355328) ∧
(1 ≤ S.used.length) ∧
(S.used.length ≤ 65537) ∧
(S.rel.length ≤ 65537) ∧
(0 ≤ S.fresh) ∧
(S.fresh ≤ (↑S.used.length : Int) - 1) ∧
(∀ o : List Int, (((o) = (orderL S.used S.rel S.fresh)) → (∃ x : Unit, (True ∧ (True ∧ True ∧ True ∧ True) ∧ (True ∧ True ∧ True ∧ ((Value.int IntKind.u64 (S.reads)) = (Value.int IntKind.u64 (S.reads))) ∧ True) ∧ (True ∧ True ∧ True ∧ ((Value.int IntKind.u32 (S.fresh)) = (Value.int IntKind.u32 (S.fresh))) ∧ True) ∧ ((S.nodes) = (S.nodes)) ∧ ((S.counts) = (S.counts)) ∧ ((S.used) = (S.used)) ∧ ((S.gen) = (S.gen)) ∧ ((S.rel) = (S.rel)) ∧ (True ∧ True ∧ True) ∧ ((List.replicate S.cap.toNat { alloc := false, count := 0, gen := 0, node := { key := 0, value := 0, left := 0, right := 0, size := 0, sum := 0, min := 0, max := 0 : NodeT } : SlotT }) = (fillS S 0)) ∧ ((o) = (orderOf S)) ∧ (True ∧ True ∧ True) ∧
    ((([] : List SlotT) = [])) ∧ ((([] : List Int) = [])) ∧ True))))) ∧
((0 ≤ S.cap) ∧
(S.cap ≤ S.cap) ∧
(S.cap * (↑(bytesOf C0 EC.slot) : Int) ≤ 140737488355328) ∧
(1 ≤ S.used.length) ∧
(S.used.length ≤ 65537) ∧
(S.rel.length ≤ 65537) ∧
(0 ≤ S.fresh) ∧
(S.fresh ≤ (↑S.used.length : Int) - 1) ∧
(∀ o : List Int, (((o) = (orderL S.used S.rel S.fresh)) → (∃ x : Unit, (True ∧ (True ∧ True ∧ True ∧ True) ∧ (True ∧ True ∧ True ∧ ((Value.int IntKind.u64 (S.reads)) = (Value.int IntKind.u64 (S.reads))) ∧ True) ∧ (True ∧ True ∧ True ∧ ((Value.int IntKind.u32 (S.fresh)) = (Value.int IntKind.u32 (S.fresh))) ∧ True) ∧ ((S.nodes) = (S.nodes)) ∧ ((S.counts) = (S.counts)) ∧ ((S.used) = (S.used)) ∧ ((S.gen) = (S.gen)) ∧ ((S.rel) = (S.rel)) ∧ (True ∧ True ∧ True) ∧ ((List.replicate S.cap.toNat { alloc := false, count := 0, gen := 0, node := { key := 0, value := 0, left := 0, right := 0, size := 0, sum := 0, min := 0, max := 0 : NodeT } : SlotT }) = (fillS S 0)) ∧ ((o) = (orderOf S)) ∧ (True ∧ True ∧ True) ∧ ((([] : List SlotT) = [])) ∧ ((([] : List Int) = [])) ∧ True))))) ∧
(1 ≤ S.used.length) ∧
(S.used.length ≤ 65537) ∧
(S.rel.length ≤ 65537) ∧
(0 ≤ S.fresh) ∧
(S.fresh ≤ (↑S.used.length : Int) - 1) ∧
(∀ o : List Int, (((o) = (orderL S.used S.rel S.fresh)) → ((0 ≤ S.cap) ∧ (S.cap ≤ S.cap) ∧ (S.cap * (↑(bytesOf C0 EC.slot) : Int) ≤ 140737488355328) ∧ (∃ x : Unit, (True ∧ (True ∧ True ∧ True ∧ True) ∧ (True ∧ True ∧ True ∧ ((Value.int IntKind.u64 (S.reads)) = (Value.int IntKind.u64 (S.reads))) ∧
    True) ∧ (True ∧ True ∧ True ∧ ((Value.int IntKind.u32 (S.fresh)) = (Value.int IntKind.u32 (S.fresh))) ∧ True) ∧ ((S.nodes) = (S.nodes)) ∧ ((S.counts) = (S.counts)) ∧ ((S.used) = (S.used)) ∧ ((S.gen) = (S.gen)) ∧ ((S.rel) = (S.rel)) ∧ (True ∧ True ∧ True) ∧ ((List.replicate S.cap.toNat { alloc := false, count := 0, gen := 0, node := { key := 0, value := 0, left := 0, right := 0, size := 0, sum := 0, min := 0, max := 0 : NodeT } : SlotT }) = (fillS S 0)) ∧ ((o) = (orderOf S)) ∧ (True ∧ True ∧ True) ∧ ((([] : List SlotT) = [])) ∧ ((([] : List Int) = [])) ∧ True)))))) ∧
(exW S) ∧
((0 ≤ S.cap) ∧
(S.cap ≤ S.cap) ∧
(S.cap * (↑(bytesOf C0 EC.slot) : Int) ≤ 140737488355328) ∧
(1 ≤ S.used.length) ∧
(S.used.length ≤ 65537) ∧
(S.rel.length ≤ 65537) ∧
(0 ≤ S.fresh) ∧
(S.fresh ≤ (↑S.used.length : Int) - 1) ∧
(∀ o : List Int, (((o) = (orderL S.used S.rel S.fresh)) → (∃ x : Unit, (True ∧ (True ∧ True ∧ True ∧ True) ∧ (True ∧ True ∧ True ∧ ((Value.int IntKind.u64 (S.reads)) = (Value.int IntKind.u64 (S.reads))) ∧ True) ∧ (True ∧ True ∧ True ∧ ((Value.int IntKind.u32 (S.fresh)) = (Value.int IntKind.u32 (S.fresh))) ∧ True) ∧ ((S.nodes) = (S.nodes)) ∧ ((S.counts) = (S.counts)) ∧ ((S.used) = (S.used)) ∧ ((S.gen) = (S.gen)) ∧ ((S.rel) = (S.rel)) ∧ (True ∧ True ∧ True) ∧ ((List.replicate S.cap.toNat { alloc := false, count := 0, gen := 0, node := { key := 0, value := 0, left := 0, right := 0, size := 0, sum := 0, min := 0, max := 0 : NodeT } : SlotT }) = (fillS S 0)) ∧ ((o) = (orderOf S)) ∧ (True ∧
    True ∧ True) ∧ ((([] : List SlotT) = [])) ∧ ((([] : List Int) = [])) ∧ True))))) ∧
(1 ≤ S.used.length) ∧
(S.used.length ≤ 65537) ∧
(S.rel.length ≤ 65537) ∧
(0 ≤ S.fresh) ∧
(S.fresh ≤ (↑S.used.length : Int) - 1) ∧
(∀ o : List Int, (((o) = (orderL S.used S.rel S.fresh)) → ((0 ≤ S.cap) ∧ (S.cap ≤ S.cap) ∧ (S.cap * (↑(bytesOf C0 EC.slot) : Int) ≤ 140737488355328) ∧ (∃ x : Unit, (True ∧ (True ∧ True ∧ True ∧ True) ∧ (True ∧ True ∧ True ∧ ((Value.int IntKind.u64 (S.reads)) = (Value.int IntKind.u64 (S.reads))) ∧ True) ∧ (True ∧ True ∧ True ∧ ((Value.int IntKind.u32 (S.fresh)) = (Value.int IntKind.u32 (S.fresh))) ∧ True) ∧ ((S.nodes) = (S.nodes)) ∧ ((S.counts) = (S.counts)) ∧ ((S.used) = (S.used)) ∧ ((S.gen) = (S.gen)) ∧ ((S.rel) = (S.rel)) ∧ (True ∧ True ∧ True) ∧ ((List.replicate S.cap.toNat { alloc := false, count := 0, gen := 0, node := { key := 0, value := 0, left := 0, right := 0, size := 0, sum := 0, min := 0, max := 0 : NodeT } : SlotT }) = (fillS S 0)) ∧ ((o) = (orderOf S)) ∧ (True ∧ True ∧ True) ∧ ((([] : List SlotT) = [])) ∧ ((([] : List Int) = [])) ∧ True)))))) ∧
(∀ x : Unit, (True → ((∃ x1 : XDu S, (True ∧ (True ∧ True ∧ True ∧ ((Value.int IntKind.i64 ((↑(fillS S 0).length : Int))) = (Value.int IntKind.i64 ((↑(fillS S 0).length : Int)))) ∧ ((Value.int IntKind.i64 0) = (Value.int IntKind.i64 ((↑x1.i : Int)))) ∧ True) ∧ (True ∧ True ∧ True ∧ ((Value.int IntKind.u64 (S.reads)) = (Value.int IntKind.u64 (S.reads))) ∧ True) ∧ (True ∧ True ∧ True ∧
    ((Value.int IntKind.u32 (S.fresh)) = (Value.int IntKind.u32 (S.fresh))) ∧ True) ∧ ((S.nodes) = (S.nodes)) ∧ ((S.counts) = (S.counts)) ∧ ((S.used) = (S.used)) ∧ ((S.gen) = (S.gen)) ∧ ((S.rel) = (S.rel)) ∧ (True ∧ True ∧ True) ∧ ((fillS S 0) = (fillS S x1.i)) ∧ ((orderOf S) = (orderOf S)) ∧ (True ∧ True ∧ True) ∧ ((([] : List SlotT) = [])) ∧ ((([] : List Int) = [])) ∧ True)) ∧ (∀ x1 : XDu S, (True → (brS (decide ((↑x1.i : Int) < (↑(fillS S 0).length : Int))) (((0 ≤ IntKind.u32.wrap (IntKind.i64.wrap ((↑x1.i : Int) + 1))) ∧ (IntKind.u32.wrap (IntKind.i64.wrap ((↑x1.i : Int) + 1)) < (↑S.nodes.length : Int)) ∧ (0 ≤ IntKind.u32.wrap (IntKind.i64.wrap ((↑x1.i : Int) + 1))) ∧ (IntKind.u32.wrap (IntKind.i64.wrap ((↑x1.i : Int) + 1)) < 4294967296) ∧ (S.used.length ≤ 65537) ∧ (inU (IntKind.u32.wrap (IntKind.i64.wrap ((↑x1.i : Int) + 1)))) ∧ (exW S) ∧ (inU (IntKind.u32.wrap (IntKind.i64.wrap ((↑x1.i : Int) + 1)))) ∧ (exW S) ∧ (0 ≤ (↑x1.i : Int)) ∧ ((↑x1.i : Int) < (↑(fillS S x1.i).length : Int)) ∧ (∃ x' : XDu S, (True ∧ ((True ∧ True ∧ True ∧ ((Value.int IntKind.i64 ((↑(fillS S 0).length : Int))) = (Value.int IntKind.i64 ((↑(fillS S 0).length : Int)))) ∧ ((Value.int IntKind.i64 (IntKind.i64.wrap ((↑x1.i : Int) + 1))) = (Value.int IntKind.i64 ((↑x'.i : Int)))) ∧ True) ∧ (True ∧ True ∧ True ∧ ((Value.int IntKind.u64 (S.reads)) = (Value.int IntKind.u64 (S.reads))) ∧ True) ∧ (True ∧ True ∧ True ∧ ((Value.int IntKind.u32 (S.fresh)) = (Value.int IntKind.u32 (S.fresh))) ∧ True) ∧
    ((S.nodes) = (S.nodes)) ∧ ((S.counts) = (S.counts)) ∧ ((S.used) = (S.used)) ∧ ((S.gen) = (S.gen)) ∧ ((S.rel) = (S.rel)) ∧ (True ∧ True ∧ True) ∧ (((fillS S x1.i).set (↑x1.i : Int).toNat { alloc := S.us (IntKind.u32.wrap (IntKind.i64.wrap ((↑x1.i : Int) + 1))), count := if S.us (IntKind.u32.wrap (IntKind.i64.wrap ((↑x1.i : Int) + 1))) = true then S.ct (IntKind.u32.wrap (IntKind.i64.wrap ((↑x1.i : Int) + 1))) else 0, gen := S.gn (IntKind.u32.wrap (IntKind.i64.wrap ((↑x1.i : Int) + 1))), node := S.nd (IntKind.u32.wrap (IntKind.i64.wrap ((↑x1.i : Int) + 1))) : SlotT }) = (fillS S x'.i)) ∧ ((orderOf S) = (orderOf S)) ∧ (True ∧ True ∧ True) ∧ ((([] : List SlotT) = [])) ∧ ((([] : List Int) = [])) ∧ True) ∧ (ncap S - x'.i < ncap S - x1.i))))) ((K (SV.one (TV.agg [(At.slc 7), (At.slc 8)])) [(Chunk.box [(At.ptr 1 0), (At.slc 2), (At.slc 3), (At.val (Value.int IntKind.u64 (S.reads)))]), (Chunk.box [(At.slc 4), (At.slc 5), (At.slc 6), (At.val (Value.int IntKind.u32 (S.fresh)))]), (Chunk.row true (EC.node) (S.nodes)), (Chunk.row true (EC.int) (S.counts)), (Chunk.row true (EC.bool) (S.used)), (Chunk.row true (EC.u32) (S.gen)), (Chunk.row true (EC.u32) (S.rel)), (Chunk.row true (EC.slot) (fillS S x1.i)), (Chunk.row true (EC.u32) (orderOf S))] []))))))))) = _ by kernel_rfl) ?_
  rw [bytes_slot]
  have hw0 := hw
  obtain ⟨hs, hw⟩ := hw
  have hn1 := hw.n1; have hn2 := hw.n2; have hnn := hw.nnod; have hfr := hw.fr; have hfree := hw.free_nonneg
  have hcap : S.cap = (ncap S : Int) := by unfold Arn.cap ncap; omega
  have hc1 : (ncap S : Int) + 1 = S.used.length := by unfold ncap; omega
  have z1 : List.replicate S.cap.toNat SlotT.zero = fillS S 0 := by rw [hcap, ← fill_zero]; rfl
  refine ⟨?_, fun x _ => ⟨⟨⟨0, Nat.zero_le _⟩, ?_⟩, fun y _ => brS_of (fun c => ?_) fun c => ?_⟩⟩
  · (repeat' first | exact trivial | exact hw0 | exact z1 | assumption | exact rfl | omega | refine And.intro ?_ ?_ | refine fun o ho => ?_ | refine ⟨(), ?_⟩)
  · (repeat' first | exact trivial | exact rfl | refine And.intro ?_ ?_)
  · rw [fill_len S 0 (Nat.zero_le _)] at c
    have c : y.i < ncap S := by have := of_decide_eq_true c; omega
    rw [wrap_id (x := (y.i : Int) + 1) (by omega) (by omega), wrap_u32 (by omega) (by omega)]
    refine ⟨by omega, by omega, by omega, by omega, hn2, ⟨by omega, by omega⟩, hw0, ⟨by omega, by omega⟩, hw0, by omega, by rw [fill_len S y.i y.h]; omega, ⟨y.i + 1, c⟩, trivial, ⟨⟨trivial, trivial, trivial, rfl, by congr 1, trivial⟩, ⟨trivial, trivial, trivial, rfl, trivial⟩, ⟨trivial, trivial, trivial, rfl, trivial⟩, rfl, rfl, rfl, rfl, rfl, ⟨trivial, trivial, trivial⟩, fill_next S c, rfl, ⟨trivial, trivial, trivial⟩, rfl, rfl, trivial⟩, ?_⟩
    show ncap S - (y.i + 1) < _; omega
  · rw [fill_len S 0 (Nat.zero_le _)] at c
    have c : y.i = ncap S := by have := of_decide_eq_false c; have := y.h; omega
    exact h _ _ (by rw [c, fill_all]) rfl
theorem s_dump : SoundT C0 30 tDump := by
  refine .of Try.func30 (by decide) rfl fun args H K h hB => ?_
  unfold tDump at h
  split at h <;> try exact h.elim
  unfold arM at h
  split at h <;> try exact h.elim
  rename_i rd fr nd ct us gn rl
  exact ⟨aDump ⟨us, gn, rl, fr, nd, ct, rd⟩, ⟨frame C0.ok s_cap _, frame C0.ok s_order _, frame C0.ok s_slAllocated _, frame C0.ok s_count _, frame C0.ok s_gen _, trivial⟩, vc_dump ⟨us, gn, rl, fr, nd, ct, rd⟩ K h.1 h.2⟩
end Go.Proofs.Ytjbkckcjmmmooaa.Sx
end
