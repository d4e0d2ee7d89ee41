/- The law that a cursor lists all. -/
import Derived.Test.YtacdmmomkngpkaaQCl
namespace Go.Proofs.Ytacdmmomkngpkaa.Sx
open Go

/-KEEP Wf exW inU live Arn.cap Arn.free Rep rdS opS Tr.size PlantR betE listE nextC prevC newS-/
noncomputable def aAwake24 : Ann C0 := { Γ := [(33, frameT [] tGrow), (36, frameT [] tOpenL), (38, frameT [] tCu_next), (39, frameT [] tCu_prev)] }
def tAwake24 : Tfm C0 := fun args H K => match args, H with
  | [], [] => K (.one (.at (vB true))) [] []
  | _, _ => False
abbrev W24 (raw : List Ent) (c : Cur) : List Ent := betE (listE raw 100) c.lo c.hi
structure XLa (raw : List Ent) (P : Arn → Cur → Nat → Prop) where
  S : Arn
  c : Cur
  k : Nat
  h : P S c k
noncomputable def aCla (raw : List Ent) (P1 P3 : Arn → Cur → Nat → Prop) : Ann C0 := { rounds := fun n => if n = 17 then 3 else 0, Γ := [(24, frameT [] tLst), (33, frameT [] tGrow), (34, frameT [] tAwake24), (35, frameT [] tBnd), (36, frameT [] tOpenL), (37, frameT [] tBet), (38, frameT [] tCu_next), (39, frameT [] tCu_prev)], inv := fun n => match n with
  | 11 => some { X := XLa raw P1, sl := [18, 15, 17], tf := fun x => [vi .i64 x.k, .one (.at (.ptr 1 0)), .one (.at (.slc 9))], hf := fun x => [.row false EC.ent raw, bxC 2 x.c] ++ chSk 2 x.S ++ [.row true EC.ent (W24 raw x.c)], μ := fun x => (W24 raw x.c).length - x.k }
  | 23 => some { X := XLa raw P3, sl := [24, 15, 17], tf := fun x => [vi .i64 ((x.k : Int) - 1), .one (.at (.ptr 1 0)), .one (.at (.slc 9))], hf := fun x => [.row false EC.ent raw, bxC 2 x.c] ++ chSk 2 x.S ++ [.row true EC.ent (W24 raw x.c)], μ := fun x => x.k }
  | _ => none }
def tCla : Tfm C0 := fun args H K => match args, H with
  | [.at (.slc 0), .at (.val (.int .u64 t)), .at (.val (.int .i64 _)), .at (.val (.int .i64 _)), .at (.val (.int .i64 _))], [.row false .ent raw] => 0 ≤ t ∧ K (.one (.at (vB true))) [.row false EC.ent raw] []
  | _, _ => False
theorem bt24 {b : Bool} {t f : Prop} (h : b = true) (ht : t) : brS b t f := by rw [h]; exact ht
theorem bf24 {b : Bool} {t f : Prop} (h : b = false) (hf : f) : brS b t f := by rw [h]; exact hf
theorem rdS_reads (S : Arn) (m : Nat) : (rdS S m).reads = S.reads + m := rfl
theorem rep_rd24 {S : Arn} {t : Tr} {i : Int} (h : Rep S t i) (m : Nat) : Rep (rdS S m) t i := Rep.same (S := S) (S' := rdS S m) (fun _ => rfl) (fun _ => rfl) h
theorem vc_awake24 (K : KT) (h : K (.one (.at (vB true))) [] []) :
    vc C0 aAwake24 Try.f34 [] [] (normK 0 K) := by
  refine Eq.mp (show (((0 : Int) ≤ 0) ∧
((1 : Int) ≤ 1) ∧
((1 : Int) ≤ 30000) ∧
(([(1, 0), (4, 0), (9, 0)] : List Ent).length ≤ 30000) ∧
(∀ S' : Arn,
  (∀ i : Int,
    ((PlantR (newS ((↑([(1, 0), (4, 0), (9, 0)] : List Ent).length : Int) + 1).toNat) [] ([(1, 0), (4, 0), (9, 0)] : List Ent) S' i) →
    ((exW S') ∧
    (live S' i) ∧
    (∀ S'1 : Arn,
      (((S'1) = (opS S' i)) →
      (∃ hs : List Int,
        (∃ t : Tr,
          ((Wf S'1 hs) ∧
          (Rep S'1 t i) ∧
          (t.size ≤ 1000000) ∧
          (S'1.reads + (↑t.size : Int) ≤ 3000000000000000000) ∧
          (∀ S'2 : Arn,
            (∀ m : Nat,
              (∀ c' : Cur,
                (∀ r : Option Ent,
                  (∀ e : Int,
                    (((S'2) = (rdS S'1 m)) →
                    ((m ≤ t.size) →
                    (((Prod.mk (c') (Prod.mk (r) (e))) = (nextC t { root := i, lo := 2, hi := 9, place := 0, ek := 0, ev := 0, closed := false : Cur })) →
                    (∃ hs1 : List Int,
                      (∃ t1 : Tr,
                        ((Wf S'2 hs1) ∧
                        (Rep S'2 t1 c'.root) ∧
                        (t1.size ≤ 1000000) ∧
                        (S'2.reads + (↑t1.size : Int) ≤ 3000000000000000000) ∧
                        (∀ S'3 : Arn,
                          (∀ m1 : Nat,
                            (∀ c'1 : Cur,
                              (∀ r1 : Option Ent,
                                (∀ e1 : Int,
                                  (((S'3) = (rdS S'2 m1)) →
                                  ((m1 ≤ t1.size) →
                                  (((Prod.mk (c'1) (Prod.mk (r1) (e1))) = (nextC t1 c')) →
                                  (∃ hs2 : List Int,
                                    (∃ t2 : Tr,
                                      ((Wf S'3 hs2) ∧
                                      (Rep S'3 t2 c'1.root) ∧
                                      (t2.size ≤ 1000000) ∧
                                      (S'3.reads + (↑t2.size : Int) ≤ 3000000000000000000) ∧
                                      (∀ S'4 : Arn,
                                        (∀ m2 : Nat,
                                          (∀ c'2 : Cur,
                                            (∀ r2 : Option Ent,
                                              (∀ e2 : Int,
                                                (((S'4) = (rdS S'3 m2)) →
                                                ((m2 ≤ t2.size) →
                                                (((Prod.mk (c'2) (Prod.mk (r2) (e2))) = (nextC t2 c'1)) →
                                                (∃ hs3 : List Int,
                                                  (∃ t3 : Tr,
                                                    ((Wf S'4 hs3) ∧
                                                    (Rep S'4 t3 c'2.root) ∧
                                                    (t3.size ≤ 1000000) ∧
                                                    (S'4.reads + (↑t3.size : Int) ≤ 3000000000000000000) ∧
                                                    (∀ S'5 : Arn,
                                                      (∀ m3 : Nat,
                                                        (∀ c'3 : Cur,
                                                          (∀ r3 : Option Ent,
                                                            (∀ e3 : Int,
                                                              (((S'5) = (rdS S'4 m3)) →
                                                              ((m3 ≤ t3.size) →
                                                              (((Prod.mk (c'3) (Prod.mk (r3) (e3))) = (prevC t3 c'2)) →
                                                              (brS ((r.getD (0, 0)).fst == 4)
                                                                ((brS ((r1.getD (0, 0)).fst == 9)
                                                                  ((brS (e2 == 4)
                                                                    ((K (SV.one (TV.at (At.val (Value.bool ((r3.getD (0, 0)).fst == 9))))) [] []))
                                                                    ((K (SV.one (TV.at (At.val (Value.bool false)))) [] []))))
                                                                  ((K (SV.one (TV.at (At.val (Value.bool false)))) [] []))))
                                                                ((K (SV.one (TV.at (At.val (Value.bool false)))) [] [])))))))))))))))))))))))))))))))))))))))))))))))))))))) = _ by kernel_rfl) ?_
  refine ⟨by decide, by decide, by decide, by decide, fun S1 i hp => ?_⟩
  obtain ⟨t, r1, r2, _⟩ := hp.rep
  have hsz : t.size = 3 := by rw [← t.list_len, r2]; rfl
  have hrd : S1.reads = 0 := by rw [hp.rds]; rfl
  have ha : Asc t.list := by rw [r2]; unfold Asc Srt; simp
  refine ⟨⟨_, hp.wf⟩, r1.us, fun S2 e2 => ?_⟩
  obtain ⟨hs, w2⟩ := opS_wf hp.wf (i := i) (by simp)
  have p2 := opS_rep r1 i
  have d2 := opS_reads S1 i
  rw [← e2] at w2 p2 d2
  refine ⟨hs, t, w2, p2, by omega, by omega, fun S3 m1 c1 o1 x1 e3 b1 f1 => ?_⟩
  rw [nextC_pos ha rfl (k := 0) (.inl ⟨rfl, rfl⟩), r2] at f1
  obtain ⟨rfl, g1⟩ := Prod.mk.inj f1
  obtain ⟨rfl, rfl⟩ := Prod.mk.inj g1
  have w3 : Wf S3 hs := by rw [e3]; exact w2.rd (by omega)
  have p3 : Rep S3 t i := by rw [e3]; exact rep_rd24 p2 _
  have d3 : S3.reads = S2.reads + m1 := by rw [e3]; rfl
  refine ⟨hs, t, w3, p3, by omega, by omega, fun S4 m2 c2 o2 x2 e4 b2 f2 => ?_⟩
  rw [nextC_pos ha rfl (k := 1) (.inr ⟨by decide, rfl, by rw [r2]; rfl⟩), r2] at f2
  obtain ⟨rfl, g2⟩ := Prod.mk.inj f2
  obtain ⟨rfl, rfl⟩ := Prod.mk.inj g2
  have w4 : Wf S4 hs := by rw [e4]; exact w3.rd (by omega)
  have p4 : Rep S4 t i := by rw [e4]; exact rep_rd24 p3 _
  have d4 : S4.reads = S3.reads + m2 := by rw [e4]; rfl
  refine ⟨hs, t, w4, p4, by omega, by omega, fun S5 m3 c3 o3 x3 e5 b3 f3 => ?_⟩
  rw [nextC_pos ha rfl (k := 2) (.inr ⟨by decide, rfl, by rw [r2]; rfl⟩), r2] at f3
  obtain ⟨rfl, g3⟩ := Prod.mk.inj f3
  obtain ⟨rfl, rfl⟩ := Prod.mk.inj g3
  have w5 : Wf S5 hs := by rw [e5]; exact w4.rd (by omega)
  have p5 : Rep S5 t i := by rw [e5]; exact rep_rd24 p4 _
  have d5 : S5.reads = S4.reads + m3 := by rw [e5]; rfl
  refine ⟨hs, t, w5, p5, by omega, by omega, fun S6 m4 c4 o4 x4 e6 b4 f4 => ?_⟩
  rw [prevC_pos ha rfl (j := 2) (.inl ⟨by rw [r2]; rfl, rfl⟩), r2] at f4
  obtain ⟨rfl, g4⟩ := Prod.mk.inj f4
  obtain ⟨rfl, rfl⟩ := Prod.mk.inj g4
  exact h
theorem s_awake24 : SoundT C0 34 tAwake24 := by
  refine .of Try.func34 (by decide) rfl fun args H K h hB => ?_
  unfold tAwake24 at h
  split at h <;> try exact h.elim
  exact ⟨aAwake24, ⟨frame C0.ok s_grow _, frame C0.ok s_openL _, frame C0.ok s_cu_next _, frame C0.ok s_cu_prev _, trivial⟩, vc_awake24 K h⟩
def PN (raw : List Ent) (S : Arn) (c : Cur) (k : Nat) : Prop := (∃ hs t, Wf S hs ∧ Rep S t c.root ∧ t.list = listE raw 100) ∧ c.closed = false ∧ posN (W24 raw c) c k ∧ k ≤ (W24 raw c).length ∧ S.reads ≤ 1000 * (k + 1)
def PP (raw : List Ent) (S : Arn) (c : Cur) (j : Nat) : Prop := (∃ hs t, Wf S hs ∧ Rep S t c.root ∧ t.list = listE raw 100) ∧ c.closed = false ∧ posP (W24 raw c) c j ∧ j ≤ (W24 raw c).length ∧ S.reads ≤ 1000 * (500 - j)
theorem W24_len (raw : List Ent) (c : Cur) : (W24 raw c).length ≤ 100 := Nat.le_trans (List.length_filter_le _ _) (listE_spec raw 100).2
theorem vc_cla (raw : List Ent) (t lo hi n : Int) (K : KT) (h0 : 0 ≤ t) (h : K (.one (.at (vB true))) [.row false EC.ent raw] []) :
    vc C0 (aCla raw (PN raw) (PP raw)) Try.f5 [.at (.slc 0), .at (vU64 t), .at (vI lo), .at (vI hi), .at (vI n)] [.row false EC.ent raw] (normK 1 K) := by
  generalize hP1 : PN raw = P1
  generalize hP3 : PP raw = P3
  refine Eq.mp (show (((0 : Int) ≤ 100) ∧
((100 : Int) ≤ 1000000) ∧
(0 ≤ t) ∧
((1 : Int) ≤ 1) ∧
((1 : Int) ≤ 30000) ∧
((listE raw (Int.toNat 100)).length ≤ 30000) ∧
(∀ S' : Arn,
  (∀ i : Int,
    ((PlantR (newS ((↑(listE raw (Int.toNat 100)).length : Int) + 1).toNat) [] (listE raw (Int.toNat 100)) S' i) →
    (((listE raw (Int.toNat 100)).length ≤ 1000000) ∧
    (∀ lo' : Int,
      (∀ hi' : Int,
        ((exW S') ∧
        (live S' i) ∧
        (∀ S'1 : Arn,
          (((S'1) = (opS S' i)) →
          (((listE raw (Int.toNat 100)).length ≤ 1000000) ∧
          (∀ r : List Ent,
            (((r) = (betE (listE raw (Int.toNat 100)) lo' hi')) →
            ((∃ x : XLa raw P1,
              (True ∧
              (True ∧
              True ∧
              ((Value.int IntKind.i64 0) = (Value.int IntKind.i64 ((↑x.k : Int)))) ∧
              True) ∧
              ((raw) = (raw)) ∧
              (True ∧
              ((Value.int IntKind.u32 (i)) = (Value.int IntKind.u32 (x.c.root))) ∧
              ((Value.int IntKind.i64 (lo')) = (Value.int IntKind.i64 (x.c.lo))) ∧
              ((Value.int IntKind.i64 (hi')) = (Value.int IntKind.i64 (x.c.hi))) ∧
              ((Value.int IntKind.i64 0) = (Value.int IntKind.i64 (x.c.place))) ∧
              ((Value.int IntKind.i64 0) = (Value.int IntKind.i64 (x.c.ek))) ∧
              ((Value.int IntKind.i64 0) = (Value.int IntKind.i64 (x.c.ev))) ∧
              ((Value.bool false) = (Value.bool (x.c.closed))) ∧
              True) ∧
              (True ∧
              True ∧
              True ∧
              ((Value.int IntKind.u64 (S'1.reads)) = (Value.int IntKind.u64 (x.S.reads))) ∧
              True) ∧
              (True ∧
              True ∧
              True ∧
              ((Value.int IntKind.u32 (S'1.fresh)) = (Value.int IntKind.u32 (x.S.fresh))) ∧
              True) ∧
              ((S'1.nodes) = (x.S.nodes)) ∧
              ((S'1.counts) = (x.S.counts)) ∧
              ((S'1.used) = (x.S.used)) ∧
              ((S'1.gen) = (x.S.gen)) ∧
              ((S'1.rel) = (x.S.rel)) ∧
              ((r) = (W24 raw x.c)) ∧
              True)) ∧
            (∀ x : XLa raw P1,
              (True →
              (brS (decide ((↑x.k : Int) < (↑(W24 raw x.c).length : Int)))
                ((∃ hs : List Int,
                  (∃ t1 : Tr,
                    ((Wf x.S hs) ∧
                    (Rep x.S t1 x.c.root) ∧
                    (t1.size ≤ 1000000) ∧
                    (x.S.reads + (↑t1.size : Int) ≤ 3000000000000000000) ∧
                    (∀ S'2 : Arn,
                      (∀ m : Nat,
                        (∀ c' : Cur,
                          (∀ r1 : Option Ent,
                            (∀ e : Int,
                              (((S'2) = (rdS x.S m)) →
                              ((m ≤ t1.size) →
                              (((Prod.mk (c') (Prod.mk (r1) (e))) = (nextC t1 x.c)) →
                              ((0 ≤ (↑x.k : Int)) ∧
                              ((↑x.k : Int) < (↑(W24 raw x.c).length : Int)) ∧
                              (brS (!((r1.getD (0, 0)).fst == (eA (W24 raw x.c) x.k).fst && ((r1.getD (0, 0)).snd == (eA (W24 raw x.c) x.k).snd && true)))
                                ((K (SV.one (TV.at (At.val (Value.bool false)))) [(Chunk.row false (EC.ent) (raw))] []))
                                ((brS (e != 0)
                                  ((K (SV.one (TV.at (At.val (Value.bool false)))) [(Chunk.row false (EC.ent) (raw))] []))
                                  ((∃ x' : XLa raw P1,
                                    (True ∧
                                    ((True ∧
                                    True ∧
                                    ((Value.int IntKind.i64 (IntKind.i64.wrap ((↑x.k : Int) + 1))) = (Value.int IntKind.i64 ((↑x'.k : Int)))) ∧
                                    True) ∧
                                    ((raw) = (raw)) ∧
                                    (True ∧
                                    ((Value.int IntKind.u32 (c'.root)) = (Value.int IntKind.u32 (x'.c.root))) ∧
                                    ((Value.int IntKind.i64 (c'.lo)) = (Value.int IntKind.i64 (x'.c.lo))) ∧
                                    ((Value.int IntKind.i64 (c'.hi)) = (Value.int IntKind.i64 (x'.c.hi))) ∧
                                    ((Value.int IntKind.i64 (c'.place)) = (Value.int IntKind.i64 (x'.c.place))) ∧
                                    ((Value.int IntKind.i64 (c'.ek)) = (Value.int IntKind.i64 (x'.c.ek))) ∧
                                    ((Value.int IntKind.i64 (c'.ev)) = (Value.int IntKind.i64 (x'.c.ev))) ∧
                                    ((Value.bool (c'.closed)) = (Value.bool (x'.c.closed))) ∧
                                    True) ∧
                                    (True ∧
                                    True ∧
                                    True ∧
                                    ((Value.int IntKind.u64 (S'2.reads)) = (Value.int IntKind.u64 (x'.S.reads))) ∧
                                    True) ∧
                                    (True ∧
                                    True ∧
                                    True ∧
                                    ((Value.int IntKind.u32 (S'2.fresh)) = (Value.int IntKind.u32 (x'.S.fresh))) ∧
                                    True) ∧
                                    ((S'2.nodes) = (x'.S.nodes)) ∧
                                    ((S'2.counts) = (x'.S.counts)) ∧
                                    ((S'2.used) = (x'.S.used)) ∧
                                    ((S'2.gen) = (x'.S.gen)) ∧
                                    ((S'2.rel) = (x'.S.rel)) ∧
                                    ((W24 raw x.c) = (W24 raw x'.c)) ∧
                                    True) ∧
                                    ((W24 raw x'.c).length - x'.k < (W24 raw x.c).length - x.k))))))))))))))))))))
                ((∃ hs : List Int,
                  (∃ t1 : Tr,
                    ((Wf x.S hs) ∧
                    (Rep x.S t1 x.c.root) ∧
                    (t1.size ≤ 1000000) ∧
                    (x.S.reads + (↑t1.size : Int) ≤ 3000000000000000000) ∧
                    (∀ S'2 : Arn,
                      (∀ m : Nat,
                        (∀ c' : Cur,
                          (∀ r1 : Option Ent,
                            (∀ e : Int,
                              (((S'2) = (rdS x.S m)) →
                              ((m ≤ t1.size) →
                              (((Prod.mk (c') (Prod.mk (r1) (e))) = (nextC t1 x.c)) →
                              (brS (e != 4)
                                ((K (SV.one (TV.at (At.val (Value.bool false)))) [(Chunk.row false (EC.ent) (raw))] []))
                                ((∃ hs1 : List Int,
                                  (∃ t2 : Tr,
                                    ((Wf S'2 hs1) ∧
                                    (Rep S'2 t2 c'.root) ∧
                                    (t2.size ≤ 1000000) ∧
                                    (S'2.reads + (↑t2.size : Int) ≤ 3000000000000000000) ∧
                                    (∀ S'3 : Arn,
                                      (∀ m1 : Nat,
                                        (∀ c'1 : Cur,
                                          (∀ r2 : Option Ent,
                                            (∀ e1 : Int,
                                              (((S'3) = (rdS S'2 m1)) →
                                              ((m1 ≤ t2.size) →
                                              (((Prod.mk (c'1) (Prod.mk (r2) (e1))) = (nextC t2 c')) →
                                              (brS (e1 != 4)
                                                ((K (SV.one (TV.at (At.val (Value.bool false)))) [(Chunk.row false (EC.ent) (raw))] []))
                                                (((∃ x1 : XLa raw P3,
                                                  (True ∧
                                                  (True ∧
                                                  True ∧
                                                  ((Value.int IntKind.i64 (IntKind.i64.wrap ((↑(W24 raw x.c).length : Int) - 1))) = (Value.int IntKind.i64 ((↑x1.k : Int) - 1))) ∧
                                                  True) ∧
                                                  ((raw) = (raw)) ∧
                                                  (True ∧
                                                  ((Value.int IntKind.u32 (c'1.root)) = (Value.int IntKind.u32 (x1.c.root))) ∧
                                                  ((Value.int IntKind.i64 (c'1.lo)) = (Value.int IntKind.i64 (x1.c.lo))) ∧
                                                  ((Value.int IntKind.i64 (c'1.hi)) = (Value.int IntKind.i64 (x1.c.hi))) ∧
                                                  ((Value.int IntKind.i64 (c'1.place)) = (Value.int IntKind.i64 (x1.c.place))) ∧
                                                  ((Value.int IntKind.i64 (c'1.ek)) = (Value.int IntKind.i64 (x1.c.ek))) ∧
                                                  ((Value.int IntKind.i64 (c'1.ev)) = (Value.int IntKind.i64 (x1.c.ev))) ∧
                                                  ((Value.bool (c'1.closed)) = (Value.bool (x1.c.closed))) ∧
                                                  True) ∧
                                                  (True ∧
                                                  True ∧
                                                  True ∧
                                                  ((Value.int IntKind.u64 (S'3.reads)) = (Value.int IntKind.u64 (x1.S.reads))) ∧
                                                  True) ∧
                                                  (True ∧
                                                  True ∧
                                                  True ∧
                                                  ((Value.int IntKind.u32 (S'3.fresh)) = (Value.int IntKind.u32 (x1.S.fresh))) ∧
                                                  True) ∧
                                                  ((S'3.nodes) = (x1.S.nodes)) ∧
                                                  ((S'3.counts) = (x1.S.counts)) ∧
                                                  ((S'3.used) = (x1.S.used)) ∧
                                                  ((S'3.gen) = (x1.S.gen)) ∧
                                                  ((S'3.rel) = (x1.S.rel)) ∧
                                                  ((W24 raw x.c) = (W24 raw x1.c)) ∧
                                                  True)) ∧
                                                (∀ x1 : XLa raw P3,
                                                  (True →
                                                  (brS (decide ((↑x1.k : Int) - 1 ≥ 0))
                                                    ((∃ hs2 : List Int,
                                                      (∃ t3 : Tr,
                                                        ((Wf x1.S hs2) ∧
                                                        (Rep x1.S t3 x1.c.root) ∧
                                                        (t3.size ≤ 1000000) ∧
                                                        (x1.S.reads + (↑t3.size : Int) ≤ 3000000000000000000) ∧
                                                        (∀ S'4 : Arn,
                                                          (∀ m2 : Nat,
                                                            (∀ c'2 : Cur,
                                                              (∀ r3 : Option Ent,
                                                                (∀ e2 : Int,
                                                                  (((S'4) = (rdS x1.S m2)) →
                                                                  ((m2 ≤ t3.size) →
                                                                  (((Prod.mk (c'2) (Prod.mk (r3) (e2))) = (prevC t3 x1.c)) →
                                                                  ((0 ≤ (↑x1.k : Int) - 1) ∧
                                                                  ((↑x1.k : Int) - 1 < (↑(W24 raw x1.c).length : Int)) ∧
                                                                  (brS (!((r3.getD (0, 0)).fst == ((W24 raw x1.c).getD ((↑x1.k : Int) - 1).toNat (0, 0)).fst && ((r3.getD (0, 0)).snd == ((W24 raw x1.c).getD ((↑x1.k : Int) - 1).toNat (0, 0)).snd && true)))
                                                                    ((K (SV.one (TV.at (At.val (Value.bool false)))) [(Chunk.row false (EC.ent) (raw))] []))
                                                                    ((brS (e2 != 0)
                                                                      ((K (SV.one (TV.at (At.val (Value.bool false)))) [(Chunk.row false (EC.ent) (raw))] []))
                                                                      ((∃ x' : XLa raw P3,
                                                                        (True ∧
                                                                        ((True ∧
                                                                        True ∧
                                                                        ((Value.int IntKind.i64 (IntKind.i64.wrap ((↑x1.k : Int) - 1 - 1))) = (Value.int IntKind.i64 ((↑x'.k : Int) - 1))) ∧
                                                                        True) ∧
                                                                        ((raw) = (raw)) ∧
                                                                        (True ∧
                                                                        ((Value.int IntKind.u32 (c'2.root)) = (Value.int IntKind.u32 (x'.c.root))) ∧
                                                                        ((Value.int IntKind.i64 (c'2.lo)) = (Value.int IntKind.i64 (x'.c.lo))) ∧
                                                                        ((Value.int IntKind.i64 (c'2.hi)) = (Value.int IntKind.i64 (x'.c.hi))) ∧
                                                                        ((Value.int IntKind.i64 (c'2.place)) = (Value.int IntKind.i64 (x'.c.place))) ∧
                                                                        ((Value.int IntKind.i64 (c'2.ek)) = (Value.int IntKind.i64 (x'.c.ek))) ∧
                                                                        ((Value.int IntKind.i64 (c'2.ev)) = (Value.int IntKind.i64 (x'.c.ev))) ∧
                                                                        ((Value.bool (c'2.closed)) = (Value.bool (x'.c.closed))) ∧
                                                                        True) ∧
                                                                        (True ∧
                                                                        True ∧
                                                                        True ∧
                                                                        ((Value.int IntKind.u64 (S'4.reads)) = (Value.int IntKind.u64 (x'.S.reads))) ∧
                                                                        True) ∧
                                                                        (True ∧
                                                                        True ∧
                                                                        True ∧
                                                                        ((Value.int IntKind.u32 (S'4.fresh)) = (Value.int IntKind.u32 (x'.S.fresh))) ∧
                                                                        True) ∧
                                                                        ((S'4.nodes) = (x'.S.nodes)) ∧
                                                                        ((S'4.counts) = (x'.S.counts)) ∧
                                                                        ((S'4.used) = (x'.S.used)) ∧
                                                                        ((S'4.gen) = (x'.S.gen)) ∧
                                                                        ((S'4.rel) = (x'.S.rel)) ∧
                                                                        ((W24 raw x1.c) = (W24 raw x'.c)) ∧
                                                                        True) ∧
                                                                        (x'.k < x1.k))))))))))))))))))))
                                                    ((∃ hs2 : List Int,
                                                      (∃ t3 : Tr,
                                                        ((Wf x1.S hs2) ∧
                                                        (Rep x1.S t3 x1.c.root) ∧
                                                        (t3.size ≤ 1000000) ∧
                                                        (x1.S.reads + (↑t3.size : Int) ≤ 3000000000000000000) ∧
                                                        (∀ S'4 : Arn,
                                                          (∀ m2 : Nat,
                                                            (∀ c'2 : Cur,
                                                              (∀ r3 : Option Ent,
                                                                (∀ e2 : Int,
                                                                  (((S'4) = (rdS x1.S m2)) →
                                                                  ((m2 ≤ t3.size) →
                                                                  (((Prod.mk (c'2) (Prod.mk (r3) (e2))) = (prevC t3 x1.c)) →
                                                                  (∃ hs3 : List Int,
                                                                    (∃ t4 : Tr,
                                                                      ((Wf S'4 hs3) ∧
                                                                      (Rep S'4 t4 c'2.root) ∧
                                                                      (t4.size ≤ 1000000) ∧
                                                                      (S'4.reads + (↑t4.size : Int) ≤ 3000000000000000000) ∧
                                                                      (∀ S'5 : Arn,
                                                                        (∀ m3 : Nat,
                                                                          (∀ c'3 : Cur,
                                                                            (∀ r4 : Option Ent,
                                                                              (∀ e3 : Int,
                                                                                (((S'5) = (rdS S'4 m3)) →
                                                                                ((m3 ≤ t4.size) →
                                                                                (((Prod.mk (c'3) (Prod.mk (r4) (e3))) = (prevC t4 c'2)) →
                                                                                (brS (e2 == 4)
                                                                                  ((K (SV.one (TV.at (At.val (Value.bool (e3 == 4))))) [(Chunk.row false (EC.ent) (raw))] []))
                                                                                  ((K (SV.one (TV.at (At.val (Value.bool false)))) [(Chunk.row false (EC.ent) (raw))] [])))))))))))))))))))))))))))))))))))))))))))))))))))))))))))))))))))))))))) = _ by kernel_rfl) ?_
  subst hP1 hP3
  have e100 : Int.toNat 100 = 100 := rfl
  rw [e100]
  obtain ⟨la, ll⟩ := listE_spec raw 100
  refine ⟨by decide, by decide, h0, by decide, by decide, by omega, fun S1 i hp => ⟨by omega, fun lo' hi' => ?_⟩⟩
  obtain ⟨tr, r1, r2, _⟩ := hp.rep
  have hrd : S1.reads = 0 := by rw [hp.rds]; rfl
  refine ⟨⟨_, hp.wf⟩, r1.us, fun S2 e2 => ⟨by omega, fun r er => ⟨?_, fun x _ => ?_⟩⟩⟩
  · obtain ⟨hs, w2⟩ := opS_wf hp.wf (i := i) (by simp)
    have p2 := opS_rep r1 i
    have d2 := opS_reads S1 i
    rw [← e2] at w2 p2 d2
    refine ⟨⟨S2, ⟨i, lo', hi', 0, 0, 0, false⟩, 0, ⟨hs, tr, w2, p2, r2⟩, rfl, .inl ⟨rfl, rfl⟩, Nat.zero_le _, by omega⟩, ?_⟩
    (repeat' first | exact trivial | exact rfl | refine And.intro ?_ ?_)
    exact er
  obtain ⟨S, c, k, ⟨hs, t1, w1, p1, q1⟩, hcl, hpos, hk, hr⟩ := x
  dsimp only at *
  have s1 : t1.size ≤ 100 := by rw [← t1.list_len, q1]; exact ll
  have ha : Asc t1.list := by rw [q1]; exact la
  have hW : betE t1.list c.lo c.hi = W24 raw c := by rw [q1]
  have hWl := W24_len raw c
  refine brS_of (fun b => ?_) fun b => ?_
  · have b : k < (W24 raw c).length := by have := of_decide_eq_true b; omega
    refine ⟨hs, t1, w1, p1, by omega, by omega, fun S3 m c' o e e3 b3 f3 => ?_⟩
    have hx := eA_get b
    rw [nextC_pos ha hcl (k := k) (by rw [hW]; exact hpos), hW, hx] at f3
    obtain ⟨rfl, g3⟩ := Prod.mk.inj f3
    obtain ⟨rfl, rfl⟩ := Prod.mk.inj g3
    refine ⟨by omega, by omega, bf24 (by simp) (bf24 rfl ⟨⟨S3, mvC c (some (eA (W24 raw c) k)) 2, k + 1, ⟨hs, t1, by rw [e3]; exact w1.rd (by omega), by rw [e3]; exact rep_rd24 p1 _, q1⟩, hcl, .inr ⟨by omega, rfl, hx⟩, b, by rw [e3, rdS_reads]; omega⟩, ?_⟩)⟩
    (repeat' first | exact trivial | exact rfl | refine And.intro ?_ ?_)
    · rw [wrap_id (by omega) (by omega)]; congr 1
    · show (W24 raw c).length - (k + 1) < (W24 raw c).length - k; omega
  · have b : k = (W24 raw c).length := by have := of_decide_eq_false b; omega
    refine ⟨hs, t1, w1, p1, by omega, by omega, fun S3 m c' o e e3 b3 f3 => ?_⟩
    rw [nextC_pos ha hcl (k := k) (by rw [hW]; exact hpos), hW, List.getElem?_eq_none (by omega)] at f3
    obtain ⟨rfl, g3⟩ := Prod.mk.inj f3
    obtain ⟨rfl, rfl⟩ := Prod.mk.inj g3
    have w3 : Wf S3 hs := by rw [e3]; exact w1.rd (by omega)
    have p3 : Rep S3 t1 c.root := by rw [e3]; exact rep_rd24 p1 _
    have d3 : S3.reads = S.reads + m := by rw [e3]; rfl
    refine bf24 rfl ⟨hs, t1, w3, p3, by omega, by omega, fun S4 m2 c2 o2 x2 e4 b4 f4 => ?_⟩
    rw [nextC_end (c := mvC c none 2) hcl rfl] at f4
    obtain ⟨rfl, g4⟩ := Prod.mk.inj f4
    obtain ⟨rfl, rfl⟩ := Prod.mk.inj g4
    have w4 : Wf S4 hs := by rw [e4]; exact w3.rd (by omega)
    have p4 : Rep S4 t1 c.root := by rw [e4]; exact rep_rd24 p3 _
    have d4 : S4.reads = S3.reads + m2 := by rw [e4]; rfl
    refine bf24 rfl ⟨⟨⟨S4, mvC c none 2, (W24 raw c).length, ⟨hs, t1, w4, p4, q1⟩, hcl, .inl ⟨rfl, rfl⟩, Nat.le_refl _, by omega⟩, ?_⟩, fun y _ => ?_⟩
    · (repeat' first | exact trivial | exact rfl | refine And.intro ?_ ?_)
      rw [wrap_id (by omega) (by omega)]
    obtain ⟨S5, c, j, ⟨hs5, t5, w5, p5, q5⟩, hcl, hpos, hj, hr⟩ := y
    dsimp only at *
    have s5 : t5.size ≤ 100 := by rw [← t5.list_len, q5]; exact ll
    have ha : Asc t5.list := by rw [q5]; exact la
    have hW : betE t5.list c.lo c.hi = W24 raw c := by rw [q5]
    have hWl := W24_len raw c
    refine brS_of (fun b => ?_) fun b => ?_
    · have b : 1 ≤ j := by have := of_decide_eq_true b; omega
      refine ⟨hs5, t5, w5, p5, by omega, by omega, fun S6 m c' o e e6 b6 f6 => ?_⟩
      have hx : (W24 raw c)[j - 1]? = some (eA (W24 raw c) (j - 1)) := eA_get (by omega)
      rw [prevC_pos ha hcl (j := j) (by rw [hW]; exact hpos), hW, if_neg (by omega), hx] at f6
      obtain ⟨rfl, g6⟩ := Prod.mk.inj f6
      obtain ⟨rfl, rfl⟩ := Prod.mk.inj g6
      have et : ((j : Int) - 1).toNat = j - 1 := by omega
      rw [et]
      refine ⟨by omega, by omega, bf24 (by simp [eA]) (bf24 rfl ⟨⟨S6, mvC c (some (eA (W24 raw c) (j - 1))) 0, j - 1, ⟨hs5, t5, by rw [e6]; exact w5.rd (by omega), by rw [e6]; exact rep_rd24 p5 _, q5⟩, hcl, .inr ⟨by show j - 1 < (W24 raw c).length; omega, rfl, hx⟩, by show j - 1 ≤ (W24 raw c).length; omega, by rw [e6]; show S5.reads + (m : Int) ≤ 1000 * (500 - ((j - 1 : Nat) : Int)); omega⟩, ?_⟩)⟩
      (repeat' first | exact trivial | exact rfl | refine And.intro ?_ ?_)
      · rw [wrap_id (by omega) (by omega)]; show Value.int IntKind.i64 ((j : Int) - 1 - 1) = Value.int IntKind.i64 (((j - 1 : Nat) : Int) - 1); congr 1; omega
      · show j - 1 < j; omega
    · have b : j = 0 := by have := of_decide_eq_false b; omega
      refine ⟨hs5, t5, w5, p5, by omega, by omega, fun S6 m c' o e e6 b6 f6 => ?_⟩
      rw [prevC_pos ha hcl (j := j) (by rw [hW]; exact hpos), hW, if_pos b] at f6
      obtain ⟨rfl, g6⟩ := Prod.mk.inj f6
      obtain ⟨rfl, rfl⟩ := Prod.mk.inj g6
      have w6 : Wf S6 hs5 := by rw [e6]; exact w5.rd (by omega)
      have p6 : Rep S6 t5 c.root := by rw [e6]; exact rep_rd24 p5 _
      have d6 : S6.reads = S5.reads + m := by rw [e6]; rfl
      refine ⟨hs5, t5, w6, p6, by omega, by omega, fun S7 m7 c7 o7 x7 e7 b7 f7 => ?_⟩
      rw [prevC_end (c := mvC c none 0) hcl rfl] at f7
      obtain ⟨rfl, g7⟩ := Prod.mk.inj f7
      obtain ⟨rfl, rfl⟩ := Prod.mk.inj g7
      exact h
theorem s_cla : SoundT C0 5 tCla := by
  refine .of Try.func5 (by decide) rfl fun args H K h hB => ?_
  unfold tCla at h
  split at h <;> try exact h.elim
  rename_i t lo hi n raw
  exact ⟨aCla raw (PN raw) (PP raw), ⟨frame C0.ok s_lst _, frame C0.ok s_grow _, frame C0.ok s_awake24 _, frame C0.ok s_bnd _, frame C0.ok s_openL _, frame C0.ok s_bet _, frame C0.ok s_cu_next _, frame C0.ok s_cu_prev _, trivial⟩, vc_cla raw t lo hi n K h.1 h.2⟩
end Go.Proofs.Ytacdmmomkngpkaa.Sx
