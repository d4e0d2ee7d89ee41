/- The law DiffOfSeparateTrees. -/
import Derived.Test.YtacdmmomkngpkaaQDl
namespace Go.Proofs.Ytacdmmomkngpkaa.Sx
open Go

/-KEEP Wf exW inU live Arn.cap Arn.free Rep rdS Tr.size Tr.list btw rngC goV fR Asc Kin PlantR listE newS sameB difE-/
def tCountB : Tfm C0 := fun args H K => match args with
  | [.at (.ptr 0 0), .at (.val (.int .u32 x)), .at (.val (.int .u32 y))] => arM H fun S => ∃ hs t1 t2, Wf S hs ∧ Rep S t1 x ∧ Rep S t2 y ∧ t1.size + t2.size ≤ 300000 ∧ S.reads + (2 + 6 * (t1.size + t2.size)) ≤ 3000000000000000000 ∧ (btw t1.list t2.list).length ≤ 1000000 ∧
    ∀ (s' : Int) S' m, s' = (btw t1.list t2.list).length → S' = rdS S m → m ≤ 2 + 6 * (t1.size + t2.size) → K (.one (.at (vI s'))) (chS S') [0]
  | _ => False
theorem s_countB : SoundT C0 53 tCountB := s_fnC.weak fun args H K h => by
  unfold tCountB at h
  split at h <;> try exact h.elim
  unfold arM at h
  split at h <;> try exact h.elim
  obtain ⟨hs, t1, t2, h1, h2, h3, h4, h5, h6, h7⟩ := h
  exact ⟨hs, t1, t2, h1, h2, h3, h4, h5, fun s' S' m a1 a2 a3 _ => h7 s' S' m (by rw [a1, goV_fC _ 0 (Int.le_refl 0) (by omega)]; omega) a2 a3⟩
def tFirstB : Tfm C0 := fun args H K => match args with
  | [.at (.ptr 0 0), .at (.val (.int .u32 x)), .at (.val (.int .u32 y))] => arM H fun S => ∃ hs t1 t2, Wf S hs ∧ Rep S t1 x ∧ Rep S t2 y ∧ t1.size + t2.size ≤ 300000 ∧ S.reads + (2 + 6 * (t1.size + t2.size)) ≤ 3000000000000000000 ∧
    ∀ S' m, S' = rdS S m → m ≤ 2 + 6 * (t1.size + t2.size) → (btw t1.list t2.list = [] → K (.tup [.agg [vI 0, vI 0, vI 0, vI 0], .at (vB false)]) (chS S') [0]) ∧ (∀ c cs, btw t1.list t2.list = c :: cs → K (.tup [.agg [vI c.kind, vI c.key, vI c.old, vI c.new], .at (vB true)]) (chS S') [0])
  | _ => False
theorem s_firstB : SoundT C0 52 tFirstB := s_fnF.weak fun args H K h => by
  unfold tFirstB at h
  split at h <;> try exact h.elim
  unfold arM at h
  split at h <;> try exact h.elim
  obtain ⟨hs, t1, t2, h1, h2, h3, h4, h5, h6⟩ := h
  refine ⟨hs, t1, t2, h1, h2, h3, h4, h5, fun s' S' m a1 a2 a3 _ => ?_⟩
  obtain ⟨g1, g2⟩ := h6 S' m a2 a3
  rw [goV_fF] at a1
  cases hb : btw t1.list t2.list with
  | nil => rw [hb] at a1; subst a1; exact g1 hb
  | cons c cs => rw [hb] at a1; subst a1; exact g2 c cs hb
structure XAg (P : Nat → Bool → Prop) where
  i : Nat
  c : Bool
  h : P i c
abbrev chg0 : Chg := ⟨0, 0, 0, 0⟩
noncomputable def aAgr (P1 P2 : Nat → Bool → Prop) (lo hi : Int) (l m : List Ent) (S : Arn) : Ann C0 := { Γ := [(96, frameT [] tDif), (48, frameT [] tReads), (49, frameT [] tDiff), (51, frameT [] tRangeB), (53, frameT [] tCountB), (52, frameT [] tFirstB), (94, frameT [] tSameT), (50, frameT [] tWi)], inv := fun n => match n with
  | 4 => some { X := XAg P1, sl := [15, 16, 17], tf := fun x => [.one (.at (.slc 9)), .one (.at (.slc 10)), vi .i64 x.i], hf := fun x => chS S ++ [.row false EC.ent l, .row false EC.ent m, .row true EC.chg (difE l m), .row true EC.chg (rngC lo hi ((difE l m).take x.i))], μ := fun x => (difE l m).length - x.i }
  | 1007 => some { X := XAg P2, sl := [15, 16, 17, 46], tf := fun x => [.one (.at (.slc 9)), .one (.at (.slc 10)), vi .i64 x.i, vb x.c], hf := fun x => chS S ++ [.row false EC.ent l, .row false EC.ent m, .row true EC.chg (difE l m), .row true EC.chg (rngC lo hi ((difE l m).take x.i))], rel := fun T _ x => slotI T 17 x.i }
  | _ => none }
def tAgr : Tfm C0 := fun args H K => match args with
  | [.at (.ptr 0 0), .at (.val (.int .u32 x)), .at (.val (.int .u32 y)), .at (.slc 7), .at (.slc 8), .at (.val (.int .i64 lo)), .at (.val (.int .i64 hi))] => arMr H fun S rest => match rest with
    | [.row false .ent l, .row false .ent m] => ∃ hs t1 t2, Wf S hs ∧ Rep S t1 x ∧ Rep S t2 y ∧ t1.list = l ∧ t2.list = m ∧ Asc l ∧ Asc m ∧ Kin l ∧ Kin m ∧ l.length + m.length ≤ 1000 ∧ S.reads ≤ 1000000000000000000 ∧
      ∀ S' n, S' = rdS S n → K (.one (.at (vB true))) (chS S' ++ [.row false EC.ent l, .row false EC.ent m]) [0]
    | _ => False
  | _ => False
theorem rngC_len (lo hi : Int) (cs : List Chg) : (rngC lo hi cs).length ≤ cs.length := List.length_filter_le _ _
theorem rngC_snoc (lo hi : Int) (cs : List Chg) (c : Chg) (b : Bool) (h : b = true ↔ lo ≤ c.key ∧ c.key ≤ hi) : rngC lo hi (cs ++ [c]) = if b then rngC lo hi cs ++ [c] else rngC lo hi cs := by
  unfold rngC
  rw [List.filter_append]
  cases b with
  | true =>
    have e := h.1 rfl
    simp [e]
  | false =>
    have e : ¬ (lo ≤ c.key ∧ c.key ≤ hi) := fun e => by have := h.2 e; cases this
    simp [e]
theorem vc_agr (lo hi x y : Int) (l m : List Ent) (S : Arn) (K : KT) (hs : List Int) (t1 t2 : Tr) (hw : Wf S hs) (hx : Rep S t1 x) (hy : Rep S t2 y) (e1 : t1.list = l) (e2 : t2.list = m) (al : Asc l) (am : Asc m) (kl : Kin l) (km : Kin m)
    (hn : l.length + m.length ≤ 1000) (hr : S.reads ≤ 1000000000000000000) (h : ∀ S' n, S' = rdS S n → K (.one (.at (vB true))) (chS S' ++ [.row false EC.ent l, .row false EC.ent m]) [0]) :
    vc C0 (aAgr (fun i _ => i ≤ (difE l m).length) (fun i c => i < (difE l m).length ∧ (c = true ↔ lo ≤ (cA (difE l m) i).key ∧ (cA (difE l m) i).key ≤ hi)) lo hi l m S) Try.f47 [.at (.ptr 0 0), .at (vU x), .at (vU y), .at (.slc 7), .at (.slc 8), .at (vI lo), .at (vI hi)] (chS S ++ [.row false EC.ent l, .row false EC.ent m]) (normK 9 (wideK [0] K)) := by
  generalize hP1 : (fun (i : Nat) (_ : Bool) => i ≤ (difE l m).length) = P1
  generalize hP2 : (fun (i : Nat) (c : Bool) => i < (difE l m).length ∧ (c = true ↔ lo ≤ (cA (difE l m) i).key ∧ (cA (difE l m) i).key ≤ hi)) = P2
  refine Eq.mp (show ((l.length + m.length ≤ 1000000) ∧
(∃ x1 : XAg P1,
  (True ∧
  (True ∧
  ((Value.int IntKind.u32 (x)) = (Value.int IntKind.u32 (x))) ∧
  ((Value.int IntKind.u32 (y)) = (Value.int IntKind.u32 (y))) ∧
  True ∧
  True ∧
  ((Value.int IntKind.i64 (lo)) = (Value.int IntKind.i64 (lo))) ∧
  ((Value.int IntKind.i64 (hi)) = (Value.int IntKind.i64 (hi))) ∧
  True ∧
  True ∧
  ((Value.int IntKind.i64 0) = (Value.int IntKind.i64 ((↑x1.i : Int)))) ∧
  True) ∧
  (True ∧
  True ∧
  True ∧
  ((Value.int IntKind.u64 (S.reads)) = (Value.int IntKind.u64 (S.reads))) ∧
  True) ∧
  (True ∧
  True ∧
  True ∧
  ((Value.int IntKind.u32 (S.fresh)) = (Value.int IntKind.u32 (S.fresh))) ∧
  True) ∧
  ((S.nodes) = (S.nodes)) ∧
  ((S.counts) = (S.counts)) ∧
  ((S.used) = (S.used)) ∧
  ((S.gen) = (S.gen)) ∧
  ((S.rel) = (S.rel)) ∧
  ((l) = (l)) ∧
  ((m) = (m)) ∧
  ((difE l m) = (difE l m)) ∧
  ([] = (rngC lo hi (List.take x1.i (difE l m)))) ∧
  True)) ∧
(∀ x1 : XAg P1,
  (True →
  (brS (decide ((↑x1.i : Int) < (↑(difE l m).length : Int)))
    ((((0 ≤ (↑x1.i : Int)) ∧
    ((↑x1.i : Int) < (↑(difE l m).length : Int)) ∧
    (brS (decide (lo ≤ (cA (difE l m) x1.i).key))
      (((0 ≤ (↑x1.i : Int)) ∧
      ((↑x1.i : Int) < (↑(difE l m).length : Int)) ∧
      (∃ x2 : XAg P2,
        ((((↑x1.i : Int)) = ((↑x2.i : Int))) ∧
        (True ∧
        ((Value.int IntKind.u32 (x)) = (Value.int IntKind.u32 (x))) ∧
        ((Value.int IntKind.u32 (y)) = (Value.int IntKind.u32 (y))) ∧
        True ∧
        True ∧
        ((Value.int IntKind.i64 (lo)) = (Value.int IntKind.i64 (lo))) ∧
        ((Value.int IntKind.i64 (hi)) = (Value.int IntKind.i64 (hi))) ∧
        True ∧
        True ∧
        ((Value.int IntKind.i64 ((↑x1.i : Int))) = (Value.int IntKind.i64 ((↑x2.i : Int)))) ∧
        ((Value.bool (decide ((cA (difE l m) x1.i).key ≤ hi))) = (Value.bool (x2.c))) ∧
        True) ∧
        (True ∧
        True ∧
        True ∧
        ((Value.int IntKind.u64 (S.reads)) = (Value.int IntKind.u64 (S.reads))) ∧
        True) ∧
        (True ∧
        True ∧
        True ∧
        ((Value.int IntKind.u32 (S.fresh)) = (Value.int IntKind.u32 (S.fresh))) ∧
        True) ∧
        ((S.nodes) = (S.nodes)) ∧
        ((S.counts) = (S.counts)) ∧
        ((S.used) = (S.used)) ∧
        ((S.gen) = (S.gen)) ∧
        ((S.rel) = (S.rel)) ∧
        ((l) = (l)) ∧
        ((m) = (m)) ∧
        ((difE l m) = (difE l m)) ∧
        ((rngC lo hi (List.take x1.i (difE l m))) = (rngC lo hi (List.take x2.i (difE l m)))) ∧
        True))))
      ((∃ x2 : XAg P2,
        ((((↑x1.i : Int)) = ((↑x2.i : Int))) ∧
        (True ∧
        ((Value.int IntKind.u32 (x)) = (Value.int IntKind.u32 (x))) ∧
        ((Value.int IntKind.u32 (y)) = (Value.int IntKind.u32 (y))) ∧
        True ∧
        True ∧
        ((Value.int IntKind.i64 (lo)) = (Value.int IntKind.i64 (lo))) ∧
        ((Value.int IntKind.i64 (hi)) = (Value.int IntKind.i64 (hi))) ∧
        True ∧
        True ∧
        ((Value.int IntKind.i64 ((↑x1.i : Int))) = (Value.int IntKind.i64 ((↑x2.i : Int)))) ∧
        ((Value.bool false) = (Value.bool (x2.c))) ∧
        True) ∧
        (True ∧
        True ∧
        True ∧
        ((Value.int IntKind.u64 (S.reads)) = (Value.int IntKind.u64 (S.reads))) ∧
        True) ∧
        (True ∧
        True ∧
        True ∧
        ((Value.int IntKind.u32 (S.fresh)) = (Value.int IntKind.u32 (S.fresh))) ∧
        True) ∧
        ((S.nodes) = (S.nodes)) ∧
        ((S.counts) = (S.counts)) ∧
        ((S.used) = (S.used)) ∧
        ((S.gen) = (S.gen)) ∧
        ((S.rel) = (S.rel)) ∧
        ((l) = (l)) ∧
        ((m) = (m)) ∧
        ((difE l m) = (difE l m)) ∧
        ((rngC lo hi (List.take x1.i (difE l m))) = (rngC lo hi (List.take x2.i (difE l m)))) ∧
        True))))) ∧
    (∀ x2 : XAg P2,
      ((((↑x1.i : Int)) = ((↑x2.i : Int))) →
      (brS (x2.c)
        (((0 ≤ (↑x2.i : Int)) ∧
        ((↑x2.i : Int) < (↑(difE l m).length : Int)) ∧
        (((rngC lo hi (List.take x2.i (difE l m))).length + [cA (difE l m) x2.i].length) * bytesOf C0 EC.chg ≤ 140737488355328) ∧
        (∃ x' : XAg P1,
          (True ∧
          ((True ∧
          ((Value.int IntKind.u32 (x)) = (Value.int IntKind.u32 (x))) ∧
          ((Value.int IntKind.u32 (y)) = (Value.int IntKind.u32 (y))) ∧
          True ∧
          True ∧
          ((Value.int IntKind.i64 (lo)) = (Value.int IntKind.i64 (lo))) ∧
          ((Value.int IntKind.i64 (hi)) = (Value.int IntKind.i64 (hi))) ∧
          True ∧
          True ∧
          ((Value.int IntKind.i64 (IntKind.i64.wrap ((↑x2.i : Int) + 1))) = (Value.int IntKind.i64 ((↑x'.i : Int)))) ∧
          True) ∧
          (True ∧
          True ∧
          True ∧
          ((Value.int IntKind.u64 (S.reads)) = (Value.int IntKind.u64 (S.reads))) ∧
          True) ∧
          (True ∧
          True ∧
          True ∧
          ((Value.int IntKind.u32 (S.fresh)) = (Value.int IntKind.u32 (S.fresh))) ∧
          True) ∧
          ((S.nodes) = (S.nodes)) ∧
          ((S.counts) = (S.counts)) ∧
          ((S.used) = (S.used)) ∧
          ((S.gen) = (S.gen)) ∧
          ((S.rel) = (S.rel)) ∧
          ((l) = (l)) ∧
          ((m) = (m)) ∧
          ((difE l m) = (difE l m)) ∧
          ((rngC lo hi (List.take x2.i (difE l m)) ++ [cA (difE l m) x2.i]) = (rngC lo hi (List.take x'.i (difE l m)))) ∧
          True) ∧
          ((difE l m).length - x'.i < (difE l m).length - x1.i)))))
        ((∃ x' : XAg P1,
          (True ∧
          ((True ∧
          ((Value.int IntKind.u32 (x)) = (Value.int IntKind.u32 (x))) ∧
          ((Value.int IntKind.u32 (y)) = (Value.int IntKind.u32 (y))) ∧
          True ∧
          True ∧
          ((Value.int IntKind.i64 (lo)) = (Value.int IntKind.i64 (lo))) ∧
          ((Value.int IntKind.i64 (hi)) = (Value.int IntKind.i64 (hi))) ∧
          True ∧
          True ∧
          ((Value.int IntKind.i64 (IntKind.i64.wrap ((↑x2.i : Int) + 1))) = (Value.int IntKind.i64 ((↑x'.i : Int)))) ∧
          True) ∧
          (True ∧
          True ∧
          True ∧
          ((Value.int IntKind.u64 (S.reads)) = (Value.int IntKind.u64 (S.reads))) ∧
          True) ∧
          (True ∧
          True ∧
          True ∧
          ((Value.int IntKind.u32 (S.fresh)) = (Value.int IntKind.u32 (S.fresh))) ∧
          True) ∧
          ((S.nodes) = (S.nodes)) ∧
          ((S.counts) = (S.counts)) ∧
          ((S.used) = (S.used)) ∧
          ((S.gen) = (S.gen)) ∧
          ((S.rel) = (S.rel)) ∧
          ((l) = (l)) ∧
          ((m) = (m)) ∧
          ((difE l m) = (difE l m)) ∧
          ((rngC lo hi (List.take x2.i (difE l m))) = (rngC lo hi (List.take x'.i (difE l m)))) ∧
          True) ∧
          ((difE l m).length - x'.i < (difE l m).length - x1.i)))))))))
    ((∃ hs : List Int,
      (∃ t1 : Tr,
        (∃ t2 : Tr,
          ((Wf S hs) ∧
          (Rep S t1 x) ∧
          (Rep S t2 y) ∧
          (t1.size + t2.size ≤ 300000) ∧
          (S.reads + (2 + 6 * ((↑t1.size : Int) + (↑t2.size : Int))) ≤ 3000000000000000000) ∧
          (Asc t1.list) ∧
          (Asc t2.list) ∧
          (Kin t1.list) ∧
          (Kin t2.list) ∧
          (∀ s' : List Chg,
            (∀ S' : Arn,
              (∀ m1 : Nat,
                (((s') = (btw t1.list t2.list)) →
                (((S') = (rdS S m1)) →
                ((m1 ≤ 2 + 6 * (t1.size + t2.size)) →
                ((((x) = (y)) →
                ((m1) = 0)) →
                (((s') = (difE l m)) ∧
                (0 ≤ S.reads) ∧
                (S.reads ≤ S'.reads) ∧
                (S'.reads ≤ 4000000000000000000) ∧
                (S'.reads - S.reads ≤ IntKind.i64.wrap (8 * IntKind.i64.wrap (IntKind.i64.wrap ((↑l.length : Int) + (↑m.length : Int)) + 2))) ∧
                (IntKind.i64.wrap (8 * IntKind.i64.wrap (IntKind.i64.wrap ((↑l.length : Int) + (↑m.length : Int)) + 2)) ≤ 4000000000000000000) ∧
                (∃ hs1 : List Int,
                  (∃ t11 : Tr,
                    (∃ t21 : Tr,
                      ((Wf S' hs1) ∧
                      (Rep S' t11 x) ∧
                      (Rep S' t21 y) ∧
                      (t11.size + t21.size ≤ 300000) ∧
                      (S'.reads + (2 + 6 * ((↑t11.size : Int) + (↑t21.size : Int))) ≤ 3000000000000000000) ∧
                      (Asc t11.list) ∧
                      (Asc t21.list) ∧
                      (∀ s'1 : List Chg,
                        (∀ S'1 : Arn,
                          (∀ m2 : Nat,
                            (((s'1) = (rngC lo hi (btw t11.list t21.list))) →
                            (((S'1) = (rdS S' m2)) →
                            ((m2 ≤ 2 + 6 * (t11.size + t21.size)) →
                            ((((x) = (y)) →
                            ((m2) = 0)) →
                            (((s'1) = (rngC lo hi (List.take x1.i (difE l m)))) ∧
                            (0 ≤ S'.reads) ∧
                            (S'.reads ≤ S'1.reads) ∧
                            (S'1.reads ≤ 4000000000000000000) ∧
                            (S'1.reads - S'.reads ≤ IntKind.i64.wrap (8 * IntKind.i64.wrap (IntKind.i64.wrap ((↑l.length : Int) + (↑m.length : Int)) + 2))) ∧
                            (IntKind.i64.wrap (8 * IntKind.i64.wrap (IntKind.i64.wrap ((↑l.length : Int) + (↑m.length : Int)) + 2)) ≤ 4000000000000000000) ∧
                            (∃ hs2 : List Int,
                              (∃ t12 : Tr,
                                (∃ t22 : Tr,
                                  ((Wf S'1 hs2) ∧
                                  (Rep S'1 t12 x) ∧
                                  (Rep S'1 t22 y) ∧
                                  (t12.size + t22.size ≤ 300000) ∧
                                  (S'1.reads + (2 + 6 * ((↑t12.size : Int) + (↑t22.size : Int))) ≤ 3000000000000000000) ∧
                                  ((btw t12.list t22.list).length ≤ 1000000) ∧
                                  (∀ s'2 : Int,
                                    (∀ S'2 : Arn,
                                      (∀ m3 : Nat,
                                        (((s'2) = ((↑(btw t12.list t22.list).length : Int))) →
                                        (((S'2) = (rdS S'1 m3)) →
                                        ((m3 ≤ 2 + 6 * (t12.size + t22.size)) →
                                        (brS (s'2 != (↑(difE l m).length : Int))
                                          ((K (SV.one (TV.at (At.val (Value.bool false)))) [(Chunk.box [(At.ptr 1 0), (At.slc 2), (At.slc 3), (At.val (Value.int IntKind.u64 (S'2.reads)))]), (Chunk.box [(At.slc 4), (At.slc 5), (At.slc 6), (At.val (Value.int IntKind.u32 (S'2.fresh)))]), (Chunk.row true (EC.node) (S'2.nodes)), (Chunk.row true (EC.int) (S'2.counts)), (Chunk.row true (EC.bool) (S'2.used)), (Chunk.row true (EC.u32) (S'2.gen)), (Chunk.row true (EC.u32) (S'2.rel)), (Chunk.row false (EC.ent) (l)), (Chunk.row false (EC.ent) (m))] [0]))
                                          (((0 ≤ S'1.reads) ∧
                                          (S'1.reads ≤ S'2.reads) ∧
                                          (S'2.reads ≤ 4000000000000000000) ∧
                                          (S'2.reads - S'1.reads ≤ IntKind.i64.wrap (8 * IntKind.i64.wrap (IntKind.i64.wrap ((↑l.length : Int) + (↑m.length : Int)) + 2))) ∧
                                          (IntKind.i64.wrap (8 * IntKind.i64.wrap (IntKind.i64.wrap ((↑l.length : Int) + (↑m.length : Int)) + 2)) ≤ 4000000000000000000) ∧
                                          (∃ hs3 : List Int,
                                            (∃ t13 : Tr,
                                              (∃ t23 : Tr,
                                                ((Wf S'2 hs3) ∧
                                                (Rep S'2 t13 x) ∧
                                                (Rep S'2 t23 y) ∧
                                                (t13.size + t23.size ≤ 300000) ∧
                                                (S'2.reads + (2 + 6 * ((↑t13.size : Int) + (↑t23.size : Int))) ≤ 3000000000000000000) ∧
                                                (∀ S'3 : Arn,
                                                  (∀ m4 : Nat,
                                                    (((S'3) = (rdS S'2 m4)) →
                                                    ((m4 ≤ 2 + 6 * (t13.size + t23.size)) →
                                                    ((((btw t13.list t23.list) = []) →
                                                    (brS (!false == decide ((↑(difE l m).length : Int) > 0))
                                                      ((K (SV.one (TV.at (At.val (Value.bool false)))) [(Chunk.box [(At.ptr 1 0), (At.slc 2), (At.slc 3), (At.val (Value.int IntKind.u64 (S'3.reads)))]), (Chunk.box [(At.slc 4), (At.slc 5), (At.slc 6), (At.val (Value.int IntKind.u32 (S'3.fresh)))]), (Chunk.row true (EC.node) (S'3.nodes)), (Chunk.row true (EC.int) (S'3.counts)), (Chunk.row true (EC.bool) (S'3.used)), (Chunk.row true (EC.u32) (S'3.gen)), (Chunk.row true (EC.u32) (S'3.rel)), (Chunk.row false (EC.ent) (l)), (Chunk.row false (EC.ent) (m))] [0]))
                                                      (((0 ≤ S'2.reads) ∧
                                                      (S'2.reads ≤ S'3.reads) ∧
                                                      (S'3.reads ≤ 4000000000000000000) ∧
                                                      (S'3.reads - S'2.reads ≤ IntKind.i64.wrap (8 * IntKind.i64.wrap (IntKind.i64.wrap ((↑l.length : Int) + (↑m.length : Int)) + 2))) ∧
                                                      (IntKind.i64.wrap (8 * IntKind.i64.wrap (IntKind.i64.wrap ((↑l.length : Int) + (↑m.length : Int)) + 2)) ≤ 4000000000000000000) ∧
                                                      (K (SV.one (TV.at (At.val (Value.bool true)))) [(Chunk.box [(At.ptr 1 0), (At.slc 2), (At.slc 3), (At.val (Value.int IntKind.u64 (S'3.reads)))]), (Chunk.box [(At.slc 4), (At.slc 5), (At.slc 6), (At.val (Value.int IntKind.u32 (S'3.fresh)))]), (Chunk.row true (EC.node) (S'3.nodes)), (Chunk.row true (EC.int) (S'3.counts)), (Chunk.row true (EC.bool) (S'3.used)), (Chunk.row true (EC.u32) (S'3.gen)), (Chunk.row true (EC.u32) (S'3.rel)), (Chunk.row false (EC.ent) (l)), (Chunk.row false (EC.ent) (m))] [0]))))) ∧
                                                    (∀ c : Chg,
                                                      (∀ cs : List Chg,
                                                        (((btw t13.list t23.list) = ((c) :: cs)) →
                                                        (brS (!true == decide ((↑(difE l m).length : Int) > 0))
                                                          ((K (SV.one (TV.at (At.val (Value.bool false)))) [(Chunk.box [(At.ptr 1 0), (At.slc 2), (At.slc 3), (At.val (Value.int IntKind.u64 (S'3.reads)))]), (Chunk.box [(At.slc 4), (At.slc 5), (At.slc 6), (At.val (Value.int IntKind.u32 (S'3.fresh)))]), (Chunk.row true (EC.node) (S'3.nodes)), (Chunk.row true (EC.int) (S'3.counts)), (Chunk.row true (EC.bool) (S'3.used)), (Chunk.row true (EC.u32) (S'3.gen)), (Chunk.row true (EC.u32) (S'3.rel)), (Chunk.row false (EC.ent) (l)), (Chunk.row false (EC.ent) (m))] [0]))
                                                          ((((0 : Int) ≤ 0) ∧
                                                          (0 < (↑(difE l m).length : Int)) ∧
                                                          (brS (!(c.kind == ((difE l m).getD (Int.toNat 0) { kind := 0, key := 0, old := 0, new := 0 : Chg }).kind && (c.key == ((difE l m).getD (Int.toNat 0) { kind := 0, key := 0, old := 0, new := 0 : Chg }).key && (c.old == ((difE l m).getD (Int.toNat 0) { kind := 0, key := 0, old := 0, new := 0 : Chg }).old && (c.new == ((difE l m).getD (Int.toNat 0) { kind := 0, key := 0, old := 0, new := 0 : Chg }).new && true)))))
                                                            ((K (SV.one (TV.at (At.val (Value.bool false)))) [(Chunk.box [(At.ptr 1 0), (At.slc 2), (At.slc 3), (At.val (Value.int IntKind.u64 (S'3.reads)))]), (Chunk.box [(At.slc 4), (At.slc 5), (At.slc 6), (At.val (Value.int IntKind.u32 (S'3.fresh)))]), (Chunk.row true (EC.node) (S'3.nodes)), (Chunk.row true (EC.int) (S'3.counts)), (Chunk.row true (EC.bool) (S'3.used)), (Chunk.row true (EC.u32) (S'3.gen)), (Chunk.row true (EC.u32) (S'3.rel)), (Chunk.row false (EC.ent) (l)), (Chunk.row false (EC.ent) (m))] [0]))
                                                            (((0 ≤ S'2.reads) ∧
                                                            (S'2.reads ≤ S'3.reads) ∧
                                                            (S'3.reads ≤ 4000000000000000000) ∧
                                                            (S'3.reads - S'2.reads ≤ IntKind.i64.wrap (8 * IntKind.i64.wrap (IntKind.i64.wrap ((↑l.length : Int) + (↑m.length : Int)) + 2))) ∧
                                                            (IntKind.i64.wrap (8 * IntKind.i64.wrap (IntKind.i64.wrap ((↑l.length : Int) + (↑m.length : Int)) + 2)) ≤ 4000000000000000000) ∧
                                                            (K (SV.one (TV.at (At.val (Value.bool true)))) [(Chunk.box [(At.ptr 1 0), (At.slc 2), (At.slc 3), (At.val (Value.int IntKind.u64 (S'3.reads)))]), (Chunk.box [(At.slc 4), (At.slc 5), (At.slc 6), (At.val (Value.int IntKind.u32 (S'3.fresh)))]), (Chunk.row true (EC.node) (S'3.nodes)), (Chunk.row true (EC.int) (S'3.counts)), (Chunk.row true (EC.bool) (S'3.used)), (Chunk.row true (EC.u32) (S'3.gen)), (Chunk.row true (EC.u32) (S'3.rel)), (Chunk.row false (EC.ent) (l)), (Chunk.row false (EC.ent) (m))] [0]))))))))))))))))))))))))))))))))))))))))))))))))))))))))))))) = _ by kernel_rfl) ?_
  subst hP1 hP2
  have hd := difE_len l m
  have hD : btw t1.list t2.list = difE l m := by rw [e1, e2]; exact (difE_btw al am).symm
  have z1 : t1.size = l.length := by rw [← t1.list_len, e1]
  have z2 : t2.size = m.length := by rw [← t2.list_len, e2]
  have hr0 : 0 ≤ S.reads := hw.rds.1
  have hmost : IntKind.i64.wrap (8 * IntKind.i64.wrap (IntKind.i64.wrap ((l.length : Int) + (m.length : Int)) + 2)) = 8 * ((l.length : Int) + m.length + 2) := by
    rw [wrap_id (x := (l.length : Int) + m.length) (by omega) (by omega), wrap_id (x := (l.length : Int) + m.length + 2) (by omega) (by omega), wrap_id (by omega) (by omega)]
  refine ⟨by omega, ⟨⟨0, false, Nat.zero_le _⟩, ?_⟩, fun x1 _ => brS_of (fun d => ?_) fun d => ?_⟩
  · (repeat' first | exact trivial | exact rfl | refine And.intro ?_ ?_)
  · obtain ⟨i, _, hii⟩ := x1
    have d : i < (difE l m).length := by simpa using d
    dsimp only
    refine ⟨⟨by omega, by omega, brS_of (fun a => ⟨by omega, by omega, ⟨⟨i, decide ((cA (difE l m) i).key ≤ hi), d, ?_⟩, ?_⟩⟩) fun a => ⟨⟨i, false, d, ?_⟩, ?_⟩⟩, fun x2 q => ?_⟩
    · have a := of_decide_eq_true a; simp [a]
    · (repeat' first | exact trivial | exact rfl | refine And.intro ?_ ?_)
    · have a := of_decide_eq_false a; simp [a]
    · (repeat' first | exact trivial | exact rfl | refine And.intro ?_ ?_)
    obtain ⟨i2, c, d2, hc⟩ := x2
    have q : (i : Int) = i2 := q
    obtain rfl : i = i2 := by omega
    dsimp only
    have hl := rngC_len lo hi ((difE l m).take i)
    have hl2 := List.length_take_le i (difE l m)
    have sn := rngC_snoc lo hi ((difE l m).take i) (cA (difE l m) i) c hc
    rw [← take_snoc (cA_get d)] at sn
    have hwr : IntKind.i64.wrap ((i : Int) + 1) = ((i + 1 : Nat) : Int) := by rw [wrap_id (by omega) (by omega)]; omega
    refine brS_of (fun a => ⟨by omega, by omega, by rw [bytes_chg, List.length_singleton]; omega, ⟨i + 1, false, d⟩, trivial, ?_, by show _ - (i + 1) < _; omega⟩) fun a => ⟨⟨i + 1, false, d⟩, trivial, ?_, by show _ - (i + 1) < _; omega⟩
    all_goals
      rw [a] at sn
      (repeat' first | exact trivial | exact rfl | refine And.intro ?_ ?_)
      · exact congrArg (Value.int .i64) hwr
      · exact sn.symm
  obtain ⟨i, _, hii⟩ := x1
  have hii : i ≤ (difE l m).length := hii
  have d : ¬ i < (difE l m).length := by simpa using d
  obtain rfl : i = (difE l m).length := by omega
  dsimp only
  rw [hmost]
  have step : ∀ (S0 S1 : Arn) (k n : Nat), S0 = rdS S k → S1 = rdS S0 n → S1 = rdS S (k + n) := fun S0 S1 k n a b => by rw [b, a, rdS_rdS]
  have wf : ∀ k : Nat, k ≤ 100000 → Wf (rdS S k) hs := fun k hk => hw.rd (by omega)
  have rep1 : ∀ k, Rep (rdS S k) t1 x := fun k => Rep.same (S := S) (S' := rdS S k) (fun _ => rfl) (fun _ => rfl) hx
  have rep2 : ∀ k, Rep (rdS S k) t2 y := fun k => Rep.same (S := S) (S' := rdS S k) (fun _ => rfl) (fun _ => rfl) hy
  have rdk : ∀ k : Nat, (rdS S k).reads = S.reads + k := fun _ => rfl
  refine ⟨hs, t1, t2, hw, hx, hy, by omega, by omega, by rw [e1]; exact al, by rw [e2]; exact am, by rw [e1]; exact kl, by rw [e2]; exact km, fun s1 S1 m1 a1 a2 a3 _ => ?_⟩
  subst a2
  refine ⟨a1.trans hD, hr0, by rw [rdk]; omega, by rw [rdk]; omega, by rw [rdk]; omega, by omega, hs, t1, t2, wf _ (by omega), rep1 _, rep2 _, by omega, by rw [rdk]; omega, by rw [e1]; exact al, by rw [e2]; exact am, fun s2 S2 m2 b1 b2 b3 _ => ?_⟩
  have b2 := step _ _ _ _ rfl b2
  subst b2
  refine ⟨by rw [b1, hD, List.take_length], by rw [rdk]; omega, by rw [rdk, rdk]; omega, by rw [rdk]; omega, by rw [rdk, rdk]; omega, by omega, hs, t1, t2, wf _ (by omega), rep1 _, rep2 _, by omega, by rw [rdk]; omega, by rw [hD]; omega, fun s3 S3 m3 c1 c2 c3 => ?_⟩
  have c2 := step _ _ _ _ rfl c2
  subst c2
  rw [hD] at c1
  subst c1
  refine brS_of (fun d => ?_) fun _ => ?_
  · simp at d
  refine ⟨by rw [rdk]; omega, by rw [rdk, rdk]; omega, by rw [rdk]; omega, by rw [rdk, rdk]; omega, by omega, hs, t1, t2, wf _ (by omega), rep1 _, rep2 _, by omega, by rw [rdk]; omega, fun S4 m4 f1 f2 => ?_⟩
  have f1 := step _ _ _ _ rfl f1
  subst f1
  rw [hD]
  refine ⟨fun g => ?_, fun c cs g => ?_⟩
  · rw [g]
    refine brS_of (fun d => by simp at d) fun _ => ?_
    exact ⟨by rw [rdk]; omega, by rw [rdk, rdk]; omega, by rw [rdk]; omega, by rw [rdk, rdk]; omega, by omega, h _ _ rfl⟩
  · have hp : 0 < (difE l m).length := by rw [g]; simp
    have hg : (difE l m).getD 0 ⟨0, 0, 0, 0⟩ = c := by rw [g]; rfl
    refine brS_of (fun d => by rw [g] at d; simp at d) fun _ => ⟨by omega, by omega, brS_of (fun d => ?_) fun _ => ?_⟩
    · have hg : (difE l m).getD (Int.toNat 0) ⟨0, 0, 0, 0⟩ = c := hg
      rw [hg] at d
      simp at d
    · exact ⟨by rw [rdk]; omega, by rw [rdk, rdk]; omega, by rw [rdk]; omega, by rw [rdk, rdk]; omega, by omega, h _ _ rfl⟩
theorem s_agr : SoundT C0 47 tAgr := by
  refine .ofW [0] Try.func47 (by decide) rfl fun args H K h hB => ?_
  unfold tAgr at h
  split at h <;> try exact h.elim
  unfold arMr at h
  split at h <;> try exact h.elim
  split at h <;> try exact h.elim
  rename_i x y lo hi _ rd fr nd ct us gn rl _ l m
  obtain ⟨hs, t1, t2, h1, h2, h3, h4, h5, h6, h7, h8, h9, h10, h11, h12⟩ := h
  refine ⟨_, ?_, vc_agr lo hi x y l m ⟨us, gn, rl, fr, nd, ct, rd⟩ K hs t1 t2 h1 h2 h3 h4 h5 h6 h7 h8 h9 h10 h11 h12⟩
  exact ⟨frame C0.ok s_dif _, frame C0.ok s_rds _, frame C0.ok s_diff _, frame C0.ok s_rangeB _, frame C0.ok s_countB _, frame C0.ok s_firstB _, frame C0.ok s_sameT _, frame C0.ok s_wi _, trivial⟩
/-! ### The law -/
abbrev L80 (raw : List Ent) : List Ent := listE raw 80
structure XDs (P : List Ent → Prop) where
  m : List Ent
  h : P m
noncomputable def aDst (P1 : List Ent → Prop) (raw other : List Ent) (b : Bool) : Ann C0 := { trunc := fun n => n = 14, Γ := [(24, frameT [] tLst), (14, frameT [] tNew), (45, frameT [] tAwake18), (46, frameT [] tPlantA), (47, frameT [] tAgr)], inv := fun n => match n with
  | 1003 => some { X := XDs fun m => m = L80 other, sl := [13, 14, 25], tf := fun _ => [.one (.at (.slc 2)), .one (.at (.slc 3)), vb b], hf := fun x => [.row false EC.ent raw, .row false EC.ent other, .row false EC.ent (L80 raw), .row false EC.ent x.m] }
  | 1004 => some { X := XDs P1, sl := [13, 14], tf := fun _ => [.one (.at (.slc 2)), .one (.at (.slc 3))], hf := fun x => [.row false EC.ent raw, .row false EC.ent other, .row false EC.ent (L80 raw), .row false EC.ent x.m] }
  | _ => none }
def tDst : Tfm C0 := fun args H K => match args, H with
  | [.at (.slc 0), .at (.slc 1), .at (.val (.int .u64 t)), .at (.val (.int .i64 _)), .at (.val (.int .i64 _)), .at (.val (.bool _))], [.row false .ent raw, .row false .ent other] => 0 ≤ t ∧ Kin raw ∧ Kin other ∧ K (.one (.at (vB true))) [.row false EC.ent raw, .row false EC.ent other] []
  | _, _ => False
theorem vc_dst (raw other : List Ent) (t lo hi : Int) (b : Bool) (K : KT) (h0 : 0 ≤ t) (hk1 : Kin raw) (hk2 : Kin other) (h : K (.one (.at (vB true))) [.row false EC.ent raw, .row false EC.ent other] []) :
    vc C0 (aDst (fun m => Asc m ∧ Kin m ∧ m.length ≤ 80) raw other b) Try.f7 [.at (.slc 0), .at (.slc 1), .at (vU64 t), .at (vI lo), .at (vI hi), .at (vB b)] [.row false EC.ent raw, .row false EC.ent other] (normK 2 K) := by
  generalize hP : (fun m : List Ent => Asc m ∧ Kin m ∧ m.length ≤ 80) = P1
  refine Eq.mp (show (((0 : Int) ≤ 80) ∧
((80 : Int) ≤ 1000000) ∧
((0 : Int) ≤ 80) ∧
((80 : Int) ≤ 1000000) ∧
((∃ x : XDs fun m => m = L80 other,
  (True ∧
  (((Value.int IntKind.u64 (t)) = (Value.int IntKind.u64 (t))) ∧
  ((Value.int IntKind.i64 (lo)) = (Value.int IntKind.i64 (lo))) ∧
  ((Value.int IntKind.i64 (hi)) = (Value.int IntKind.i64 (hi))) ∧
  True ∧
  True ∧
  ((Value.bool (b)) = (Value.bool (b))) ∧
  True) ∧
  ((raw) = (raw)) ∧
  ((other) = (other)) ∧
  ((listE raw (Int.toNat 80)) = (L80 raw)) ∧
  ((listE other (Int.toNat 80)) = (x.m)) ∧
  True)) ∧
(∀ x : XDs fun m => m = L80 other,
  (True →
  (brS (b)
    ((∃ x1 : XDs P1,
      (True ∧
      (((Value.int IntKind.u64 (t)) = (Value.int IntKind.u64 (t))) ∧
      ((Value.int IntKind.i64 (lo)) = (Value.int IntKind.i64 (lo))) ∧
      ((Value.int IntKind.i64 (hi)) = (Value.int IntKind.i64 (hi))) ∧
      True ∧
      True ∧
      True) ∧
      ((raw) = (raw)) ∧
      ((other) = (other)) ∧
      ((L80 raw) = (L80 raw)) ∧
      ((L80 raw) = (x1.m)) ∧
      True)))
    ((∃ x1 : XDs P1,
      (True ∧
      (((Value.int IntKind.u64 (t)) = (Value.int IntKind.u64 (t))) ∧
      ((Value.int IntKind.i64 (lo)) = (Value.int IntKind.i64 (lo))) ∧
      ((Value.int IntKind.i64 (hi)) = (Value.int IntKind.i64 (hi))) ∧
      True ∧
      True ∧
      True) ∧
      ((raw) = (raw)) ∧
      ((other) = (other)) ∧
      ((L80 raw) = (L80 raw)) ∧
      ((x.m) = (x1.m)) ∧
      True))))))) ∧
(∀ x : XDs P1,
  (True →
  (((IntKind.i64.wrap (IntKind.i64.wrap ((↑(L80 raw).length : Int) + (↑x.m.length : Int)) + 1) < 1 ∨ 65536 < IntKind.i64.wrap (IntKind.i64.wrap ((↑(L80 raw).length : Int) + (↑x.m.length : Int)) + 1)) →
  (K (SV.one (TV.at (At.val (Value.bool false)))) [(Chunk.row false (EC.ent) (raw)), (Chunk.row false (EC.ent) (other))] [])) ∧
  ((1 ≤ IntKind.i64.wrap (IntKind.i64.wrap ((↑(L80 raw).length : Int) + (↑x.m.length : Int)) + 1)) →
  ((IntKind.i64.wrap (IntKind.i64.wrap ((↑(L80 raw).length : Int) + (↑x.m.length : Int)) + 1) ≤ 65536) →
  (∀ S : Arn,
    (((S) = (newS (IntKind.i64.wrap (IntKind.i64.wrap ((↑(L80 raw).length : Int) + (↑x.m.length : Int)) + 1)).toNat)) →
    (∃ hs : List Int,
      ((Wf S hs) ∧
      ((L80 raw).length ≤ 100000) ∧
      ((↑(L80 raw).length : Int) ≤ S.free) ∧
      (hs.length + (L80 raw).length ≤ 900000000) ∧
      (0 ≤ t) ∧
      (∀ S' : Arn,
        (∀ i : Int,
          ((PlantR S hs (L80 raw) S' i) →
          (∃ hs1 : List Int,
            ((Wf S' hs1) ∧
            (x.m.length ≤ 100000) ∧
            ((↑x.m.length : Int) ≤ S'.free) ∧
            (hs1.length + x.m.length ≤ 900000000) ∧
            (0 ≤ IntKind.u64.wrap (IntKind.u64.wrap (t * 3) + 1)) ∧
            (∀ S'1 : Arn,
              (∀ i1 : Int,
                ((PlantR S' hs1 x.m S'1 i1) →
                (∃ hs2 : List Int,
                  (∃ t1 : Tr,
                    (∃ t2 : Tr,
                      ((Wf S'1 hs2) ∧
                      (Rep S'1 t1 i) ∧
                      (Rep S'1 t2 i1) ∧
                      ((t1.list) = (L80 raw)) ∧
                      ((t2.list) = (x.m)) ∧
                      (Asc (L80 raw)) ∧
                      (Asc x.m) ∧
                      (Kin (L80 raw)) ∧
                      (Kin x.m) ∧
                      ((L80 raw).length + x.m.length ≤ 1000) ∧
                      (S'1.reads ≤ 1000000000000000000) ∧
                      (∀ S'2 : Arn,
                        (∀ n : Nat,
                          (((S'2) = (rdS S'1 n)) →
                          (K (SV.one (TV.at (At.val (Value.bool true)))) [(Chunk.row false (EC.ent) (raw)), (Chunk.row false (EC.ent) (other))] [])))))))))))))))))))))))))) = _ by kernel_rfl) ?_
  subst hP
  have key : ∀ r : List Ent, Kin r → Asc (L80 r) ∧ Kin (L80 r) ∧ (L80 r).length ≤ 80 := fun r hr => ⟨(listE_spec r 80).1, fun x hx => hr x (listE_sub r 80 x hx), (listE_spec r 80).2⟩
  obtain ⟨a1, a2, a3⟩ := key raw hk1
  refine ⟨by decide, by decide, by decide, by decide, ⟨⟨⟨L80 other, rfl⟩, ?_⟩, fun x _ => brS_of (fun _ => ⟨⟨L80 raw, a1, a2, a3⟩, ?_⟩) fun _ => ⟨⟨x.m, by rw [x.h]; exact key other hk2⟩, ?_⟩⟩, fun x _ => ?_⟩
  · (repeat' first | exact trivial | exact rfl | refine And.intro ?_ ?_)
  · (repeat' first | exact trivial | exact rfl | refine And.intro ?_ ?_)
  · (repeat' first | exact trivial | exact rfl | refine And.intro ?_ ?_)
  obtain ⟨m, b1, b2, b3⟩ := x
  dsimp only
  have hwr : IntKind.i64.wrap (IntKind.i64.wrap (((L80 raw).length : Int) + (m.length : Int)) + 1) = ((L80 raw).length : Int) + m.length + 1 := by
    rw [wrap_id (x := ((L80 raw).length : Int) + m.length) (by omega) (by omega), wrap_id (by omega) (by omega)]
  rw [hwr]
  refine ⟨fun c => absurd c (by omega), fun _ _ S hS => ?_⟩
  generalize hc : (((L80 raw).length : Int) + m.length + 1).toNat = c at hS
  have hw : Wf S [] := by rw [hS]; exact Wf.new (by omega) (by omega)
  have hf : S.free = c := by rw [hS]; exact new_free (by omega) (by omega)
  refine ⟨[], hw, by omega, by omega, by simp; omega, h0, fun S1 i h1 => ?_⟩
  have f1 := plant_free hw h1
  refine ⟨[i], h1.wf, by omega, by omega, by simp; omega, wrap_u64_nonneg _, fun S2 j h2 => ?_⟩
  obtain ⟨t1, r1, l1, _⟩ := h1.rep
  obtain ⟨t2, r2, l2, _⟩ := h2.rep
  have r1' : Rep S2 t1 i := r1.held h1.wf h2.stay (.inr (by simp))
  have rd : S2.reads = 0 := by rw [h2.rds, h1.rds, hS]; rfl
  exact ⟨_, t1, t2, h2.wf, r1', r2, l1, l2, a1, b1, a2, b2, by omega, by omega, fun _ _ _ => h⟩
theorem s_dst : SoundT C0 7 tDst := by
  refine .of Try.func7 (by decide) rfl fun args H K h hB => ?_
  unfold tDst at h
  split at h <;> try exact h.elim
  rename_i t lo hi b raw other
  refine ⟨_, ?_, vc_dst raw other t lo hi b K h.1 h.2.1 h.2.2.1 h.2.2.2⟩
  exact ⟨frame C0.ok s_lst _, frame C0.ok s_new _, frame C0.ok s_awake18 _, frame C0.ok s_plantA _, frame C0.ok s_agr _, trivial⟩
end Go.Proofs.Ytacdmmomkngpkaa.Sx
