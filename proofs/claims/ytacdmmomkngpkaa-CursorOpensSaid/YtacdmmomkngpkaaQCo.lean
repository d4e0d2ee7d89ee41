/- The law that Open refuses what is no tree. -/
import Derived.Test.YtacdmmomkngpkaaQSd
import Derived.Test.YtacdmmomkngpkaaQCm
namespace Go.Proofs.Ytacdmmomkngpkaa.Sx
open Go

/-KEEP Wf exW inU live Arn.cap Arn.free Rep rdS retA Tr.size PlantR betE listE newS slotsOf orderOf alcD cntD Arn.us-/
structure XCo (P : Arn → Nat → Prop) where
  S : Arn
  k : Nat
  h : P S k
noncomputable def aCo (raw : List Ent) (l : List Int) (P : Arn → Nat → Prop) : Ann C0 := { quiet := [25, 28, 22, 62, 42], Γ := [(24, frameT [] tLst), (33, frameT [] tGrow), (34, frameT [] tAwake24), (25, frameT [] tDump), (36, frameT [] tOpen), (42, frameT [] tAlc), (28, frameT [] tSameD), (22, frameT [] tCount), (62, frameT [] tCn24)], inv := fun n => match n with
  | 6 => some { X := XCo P, sl := [8, 34, 36], tf := fun x => [.one (.at (.ptr 1 0)), .one (.at (.slc 8)), vi .i64 x.k], hf := fun x => [.row false EC.ent raw] ++ chSk 1 x.S ++ [.row true EC.u32 l], μ := fun x => 2 - x.k }
  | _ => none }
def tCo : Tfm C0 := fun args H K => match args, H with
  | [.at (.slc 0), .at (.val (.int .u64 t)), .at (.val (.int .u32 i))], [.row false .ent raw] => 0 ≤ t ∧ inU i ∧ K (.one (.at (vB true))) [.row false EC.ent raw] []
  | _, _ => False
def PO (S : Arn) (k : Nat) : Prop := (∃ hs, Wf S hs ∧ hs.length ≤ 1000 + k) ∧ k ≤ 2
theorem ret_ct {S : Arn} {hs : List Int} (w : Wf S hs) {i : Int} (h : S.us i = true) : (retA S i).ct i = S.ct i + 1 := by
  have hp := w.pos h
  have hc := w.ct_le h
  unfold retA Arn.ct
  simp only []
  rw [bump_get (by omega) (by omega) (by rw [w.ncnt]; omega), if_pos rfl]
  unfold Arn.ct at hc
  rw [wrap_id (by omega) (by omega)]
theorem cntD_slots {S : Arn} {hs : List Int} (w : Wf S hs) (i : Int) : cntD (slotsOf S) i = if S.us i = true then S.ct i else 0 := by
  unfold cntD
  rw [alcD_slots w]
  cases hb : S.us i with
  | false => rfl
  | true =>
    have hp := w.pos hb
    have h2 : (i - 1).toNat < ncap S := by unfold ncap; omega
    rw [if_pos rfl, if_pos rfl]
    unfold sltD
    rw [slotsOf_get S h2]
    have e : (((i - 1).toNat : Nat) : Int) + 1 = i := by omega
    show (if S.us (((i - 1).toNat : Int) + 1) = true then S.ct (((i - 1).toNat : Int) + 1) else 0) = _
    rw [e, if_pos hb]
theorem vc_co (raw : List Ent) (t i : Int) (K : KT) (h0 : 0 ≤ t) (hi : inU i) (h : K (.one (.at (vB true))) [.row false EC.ent raw] []) :
    vc C0 (aCo raw [i, i.tmod 70] PO) Try.f11 [.at (.slc 0), .at (vU64 t), .at (vU i)] [.row false EC.ent raw] (normK 1 K) := by
  have hL : ∀ x ∈ [i, i.tmod 70], inU x := fun x hx => by
    obtain ⟨a, b⟩ := hi
    have e : i.tmod 70 = i % 70 := Int.tmod_eq_emod_of_nonneg a
    rcases List.mem_cons.1 hx with rfl | hx
    · exact ⟨a, b⟩
    · have : x = i.tmod 70 := by simpa using hx
      rw [this, e]; exact ⟨by omega, by omega⟩
  generalize hl : [i, i.tmod 70] = l at hL
  generalize hP : PO = P
  refine Eq.mp (show (((0 : Int) ≤ 60) ∧
((60 : Int) ≤ 1000000) ∧
(0 ≤ t) ∧
((1 : Int) ≤ 3) ∧
((3 : Int) ≤ 30000) ∧
((listE raw (Int.toNat 60)).length ≤ 30000) ∧
(∀ S' : Arn,
  (∀ i1 : Int,
    ((PlantR (newS ((↑(listE raw (Int.toNat 60)).length : Int) + 3).toNat) [] (listE raw (Int.toNat 60)) S' i1) →
    ((∃ x : XCo P,
      (True ∧
      (True ∧
      True ∧
      ((Value.int IntKind.i64 2) = (Value.int IntKind.i64 2)) ∧
      ((Value.int IntKind.i64 0) = (Value.int IntKind.i64 ((↑x.k : Int)))) ∧
      True) ∧
      ((raw) = (raw)) ∧
      (True ∧
      True ∧
      True ∧
      ((Value.int IntKind.u64 (S'.reads)) = (Value.int IntKind.u64 (x.S.reads))) ∧
      True) ∧
      (True ∧
      True ∧
      True ∧
      ((Value.int IntKind.u32 (S'.fresh)) = (Value.int IntKind.u32 (x.S.fresh))) ∧
      True) ∧
      ((S'.nodes) = (x.S.nodes)) ∧
      ((S'.counts) = (x.S.counts)) ∧
      ((S'.used) = (x.S.used)) ∧
      ((S'.gen) = (x.S.gen)) ∧
      ((S'.rel) = (x.S.rel)) ∧
      ([(i), (i.tmod 70)] = (l)) ∧
      True)) ∧
    (∀ x : XCo P,
      (True →
      (brS (decide ((↑x.k : Int) < (↑[i, i.tmod 70].length : Int)))
        (((0 ≤ (↑x.k : Int)) ∧
        ((↑x.k : Int) < (↑l.length : Int)) ∧
        (exW x.S) ∧
        (∀ d : List SlotT,
          (∀ o : List Int,
            (((d) = (slotsOf x.S)) →
            (((o) = (orderOf x.S)) →
            ((inU (l.getD (↑x.k : Int).toNat 0)) ∧
            (exW x.S) ∧
            (((l.getD (↑x.k : Int).toNat 0) = 0) →
            (brS (l.getD (↑x.k : Int).toNat 0 != 0)
              (((inU (l.getD (↑x.k : Int).toNat 0)) ∧
              (d.length ≤ 1000000) ∧
              (brS (!alcD d (l.getD (↑x.k : Int).toNat 0))
                ((K (SV.one (TV.at (At.val (Value.bool false)))) [(Chunk.row false (EC.ent) (raw))] []))
                (((inU (l.getD (↑x.k : Int).toNat 0)) ∧
                (exW x.S) ∧
                (inU (l.getD (↑x.k : Int).toNat 0)) ∧
                (d.length ≤ 1000000) ∧
                (∀ c : Int,
                  (((c) = (cntD d (l.getD (↑x.k : Int).toNat 0))) →
                  (brS ((if x.S.us (l.getD (↑x.k : Int).toNat 0) = true then x.S.ct (l.getD (↑x.k : Int).toNat 0) else 0) != IntKind.i64.wrap (c + 1))
                    ((brS (l.getD (↑x.k : Int).toNat 0 != 0)
                      ((K (SV.one (TV.at (At.val (Value.bool false)))) [(Chunk.row false (EC.ent) (raw))] []))
                      ((∃ x' : XCo P,
                        (True ∧
                        ((True ∧
                        True ∧
                        ((Value.int IntKind.i64 2) = (Value.int IntKind.i64 2)) ∧
                        ((Value.int IntKind.i64 (IntKind.i64.wrap ((↑x.k : Int) + 1))) = (Value.int IntKind.i64 ((↑x'.k : Int)))) ∧
                        True) ∧
                        ((raw) = (raw)) ∧
                        (True ∧
                        True ∧
                        True ∧
                        ((Value.int IntKind.u64 (x.S.reads)) = (Value.int IntKind.u64 (x'.S.reads))) ∧
                        True) ∧
                        (True ∧
                        True ∧
                        True ∧
                        ((Value.int IntKind.u32 (x.S.fresh)) = (Value.int IntKind.u32 (x'.S.fresh))) ∧
                        True) ∧
                        ((x.S.nodes) = (x'.S.nodes)) ∧
                        ((x.S.counts) = (x'.S.counts)) ∧
                        ((x.S.used) = (x'.S.used)) ∧
                        ((x.S.gen) = (x'.S.gen)) ∧
                        ((x.S.rel) = (x'.S.rel)) ∧
                        ((l) = (l)) ∧
                        True) ∧
                        (2 - x'.k < 2 - x.k))))))
                    ((∃ x' : XCo P,
                      (True ∧
                      ((True ∧
                      True ∧
                      ((Value.int IntKind.i64 2) = (Value.int IntKind.i64 2)) ∧
                      ((Value.int IntKind.i64 (IntKind.i64.wrap ((↑x.k : Int) + 1))) = (Value.int IntKind.i64 ((↑x'.k : Int)))) ∧
                      True) ∧
                      ((raw) = (raw)) ∧
                      (True ∧
                      True ∧
                      True ∧
                      ((Value.int IntKind.u64 (x.S.reads)) = (Value.int IntKind.u64 (x'.S.reads))) ∧
                      True) ∧
                      (True ∧
                      True ∧
                      True ∧
                      ((Value.int IntKind.u32 (x.S.fresh)) = (Value.int IntKind.u32 (x'.S.fresh))) ∧
                      True) ∧
                      ((x.S.nodes) = (x'.S.nodes)) ∧
                      ((x.S.counts) = (x'.S.counts)) ∧
                      ((x.S.used) = (x'.S.used)) ∧
                      ((x.S.gen) = (x'.S.gen)) ∧
                      ((x.S.rel) = (x'.S.rel)) ∧
                      ((l) = (l)) ∧
                      True) ∧
                      (2 - x'.k < 2 - x.k))))))))))))
              (((inU (l.getD (↑x.k : Int).toNat 0)) ∧
              (exW x.S) ∧
              (inU (l.getD (↑x.k : Int).toNat 0)) ∧
              (d.length ≤ 1000000) ∧
              (∀ c : Int,
                (((c) = (cntD d (l.getD (↑x.k : Int).toNat 0))) →
                (brS ((if x.S.us (l.getD (↑x.k : Int).toNat 0) = true then x.S.ct (l.getD (↑x.k : Int).toNat 0) else 0) != IntKind.i64.wrap (c + 1))
                  ((brS (l.getD (↑x.k : Int).toNat 0 != 0)
                    ((K (SV.one (TV.at (At.val (Value.bool false)))) [(Chunk.row false (EC.ent) (raw))] []))
                    ((∃ x' : XCo P,
                      (True ∧
                      ((True ∧
                      True ∧
                      ((Value.int IntKind.i64 2) = (Value.int IntKind.i64 2)) ∧
                      ((Value.int IntKind.i64 (IntKind.i64.wrap ((↑x.k : Int) + 1))) = (Value.int IntKind.i64 ((↑x'.k : Int)))) ∧
                      True) ∧
                      ((raw) = (raw)) ∧
                      (True ∧
                      True ∧
                      True ∧
                      ((Value.int IntKind.u64 (x.S.reads)) = (Value.int IntKind.u64 (x'.S.reads))) ∧
                      True) ∧
                      (True ∧
                      True ∧
                      True ∧
                      ((Value.int IntKind.u32 (x.S.fresh)) = (Value.int IntKind.u32 (x'.S.fresh))) ∧
                      True) ∧
                      ((x.S.nodes) = (x'.S.nodes)) ∧
                      ((x.S.counts) = (x'.S.counts)) ∧
                      ((x.S.used) = (x'.S.used)) ∧
                      ((x.S.gen) = (x'.S.gen)) ∧
                      ((x.S.rel) = (x'.S.rel)) ∧
                      ((l) = (l)) ∧
                      True) ∧
                      (2 - x'.k < 2 - x.k))))))
                  ((∃ x' : XCo P,
                    (True ∧
                    ((True ∧
                    True ∧
                    ((Value.int IntKind.i64 2) = (Value.int IntKind.i64 2)) ∧
                    ((Value.int IntKind.i64 (IntKind.i64.wrap ((↑x.k : Int) + 1))) = (Value.int IntKind.i64 ((↑x'.k : Int)))) ∧
                    True) ∧
                    ((raw) = (raw)) ∧
                    (True ∧
                    True ∧
                    True ∧
                    ((Value.int IntKind.u64 (x.S.reads)) = (Value.int IntKind.u64 (x'.S.reads))) ∧
                    True) ∧
                    (True ∧
                    True ∧
                    True ∧
                    ((Value.int IntKind.u32 (x.S.fresh)) = (Value.int IntKind.u32 (x'.S.fresh))) ∧
                    True) ∧
                    ((x.S.nodes) = (x'.S.nodes)) ∧
                    ((x.S.counts) = (x'.S.counts)) ∧
                    ((x.S.used) = (x'.S.used)) ∧
                    ((x.S.gen) = (x'.S.gen)) ∧
                    ((x.S.rel) = (x'.S.rel)) ∧
                    ((l) = (l)) ∧
                    True) ∧
                    (2 - x'.k < 2 - x.k))))))))))) ∧
            ((l.getD (↑x.k : Int).toNat 0 ≠ 0) →
            (((x.S.us (l.getD (↑x.k : Int).toNat 0)) = false) →
            (brS (l.getD (↑x.k : Int).toNat 0 != 0)
              (((inU (l.getD (↑x.k : Int).toNat 0)) ∧
              (d.length ≤ 1000000) ∧
              (brS (!alcD d (l.getD (↑x.k : Int).toNat 0))
                (((exW x.S) ∧
                (∀ d1 : List SlotT,
                  (∀ o1 : List Int,
                    (((d1) = (slotsOf x.S)) →
                    (((o1) = (orderOf x.S)) →
                    (((d1) = (d)) ∧
                    ((o1) = (o)) ∧
                    (d1.length ≤ 1000000) ∧
                    (o1.length ≤ 1000000) ∧
                    (∃ x' : XCo P,
                      (True ∧
                      ((True ∧
                      True ∧
                      ((Value.int IntKind.i64 2) = (Value.int IntKind.i64 2)) ∧
                      ((Value.int IntKind.i64 (IntKind.i64.wrap ((↑x.k : Int) + 1))) = (Value.int IntKind.i64 ((↑x'.k : Int)))) ∧
                      True) ∧
                      ((raw) = (raw)) ∧
                      (True ∧
                      True ∧
                      True ∧
                      ((Value.int IntKind.u64 (x.S.reads)) = (Value.int IntKind.u64 (x'.S.reads))) ∧
                      True) ∧
                      (True ∧
                      True ∧
                      True ∧
                      ((Value.int IntKind.u32 (x.S.fresh)) = (Value.int IntKind.u32 (x'.S.fresh))) ∧
                      True) ∧
                      ((x.S.nodes) = (x'.S.nodes)) ∧
                      ((x.S.counts) = (x'.S.counts)) ∧
                      ((x.S.used) = (x'.S.used)) ∧
                      ((x.S.gen) = (x'.S.gen)) ∧
                      ((x.S.rel) = (x'.S.rel)) ∧
                      ((l) = (l)) ∧
                      True) ∧
                      (2 - x'.k < 2 - x.k))))))))))
                ((K (SV.one (TV.at (At.val (Value.bool false)))) [(Chunk.row false (EC.ent) (raw))] [])))))
              ((K (SV.one (TV.at (At.val (Value.bool false)))) [(Chunk.row false (EC.ent) (raw))] []))))) ∧
            (((x.S.us (l.getD (↑x.k : Int).toNat 0)) = true) →
            (∀ S'1 : Arn,
              (((S'1) = (retA x.S (l.getD (↑x.k : Int).toNat 0))) →
              (brS (l.getD (↑x.k : Int).toNat 0 != 0)
                (((inU (l.getD (↑x.k : Int).toNat 0)) ∧
                (d.length ≤ 1000000) ∧
                (brS (!alcD d (l.getD (↑x.k : Int).toNat 0))
                  ((K (SV.one (TV.at (At.val (Value.bool false)))) [(Chunk.row false (EC.ent) (raw))] []))
                  (((inU (l.getD (↑x.k : Int).toNat 0)) ∧
                  (exW S'1) ∧
                  (inU (l.getD (↑x.k : Int).toNat 0)) ∧
                  (d.length ≤ 1000000) ∧
                  (∀ c : Int,
                    (((c) = (cntD d (l.getD (↑x.k : Int).toNat 0))) →
                    (brS ((if S'1.us (l.getD (↑x.k : Int).toNat 0) = true then S'1.ct (l.getD (↑x.k : Int).toNat 0) else 0) != IntKind.i64.wrap (c + 1))
                      ((brS (l.getD (↑x.k : Int).toNat 0 != 0)
                        ((K (SV.one (TV.at (At.val (Value.bool false)))) [(Chunk.row false (EC.ent) (raw))] []))
                        ((∃ x' : XCo P,
                          (True ∧
                          ((True ∧
                          True ∧
                          ((Value.int IntKind.i64 2) = (Value.int IntKind.i64 2)) ∧
                          ((Value.int IntKind.i64 (IntKind.i64.wrap ((↑x.k : Int) + 1))) = (Value.int IntKind.i64 ((↑x'.k : Int)))) ∧
                          True) ∧
                          ((raw) = (raw)) ∧
                          (True ∧
                          True ∧
                          True ∧
                          ((Value.int IntKind.u64 (S'1.reads)) = (Value.int IntKind.u64 (x'.S.reads))) ∧
                          True) ∧
                          (True ∧
                          True ∧
                          True ∧
                          ((Value.int IntKind.u32 (S'1.fresh)) = (Value.int IntKind.u32 (x'.S.fresh))) ∧
                          True) ∧
                          ((S'1.nodes) = (x'.S.nodes)) ∧
                          ((S'1.counts) = (x'.S.counts)) ∧
                          ((S'1.used) = (x'.S.used)) ∧
                          ((S'1.gen) = (x'.S.gen)) ∧
                          ((S'1.rel) = (x'.S.rel)) ∧
                          ((l) = (l)) ∧
                          True) ∧
                          (2 - x'.k < 2 - x.k))))))
                      ((∃ x' : XCo P,
                        (True ∧
                        ((True ∧
                        True ∧
                        ((Value.int IntKind.i64 2) = (Value.int IntKind.i64 2)) ∧
                        ((Value.int IntKind.i64 (IntKind.i64.wrap ((↑x.k : Int) + 1))) = (Value.int IntKind.i64 ((↑x'.k : Int)))) ∧
                        True) ∧
                        ((raw) = (raw)) ∧
                        (True ∧
                        True ∧
                        True ∧
                        ((Value.int IntKind.u64 (S'1.reads)) = (Value.int IntKind.u64 (x'.S.reads))) ∧
                        True) ∧
                        (True ∧
                        True ∧
                        True ∧
                        ((Value.int IntKind.u32 (S'1.fresh)) = (Value.int IntKind.u32 (x'.S.fresh))) ∧
                        True) ∧
                        ((S'1.nodes) = (x'.S.nodes)) ∧
                        ((S'1.counts) = (x'.S.counts)) ∧
                        ((S'1.used) = (x'.S.used)) ∧
                        ((S'1.gen) = (x'.S.gen)) ∧
                        ((S'1.rel) = (x'.S.rel)) ∧
                        ((l) = (l)) ∧
                        True) ∧
                        (2 - x'.k < 2 - x.k))))))))))))
                (((inU (l.getD (↑x.k : Int).toNat 0)) ∧
                (exW S'1) ∧
                (inU (l.getD (↑x.k : Int).toNat 0)) ∧
                (d.length ≤ 1000000) ∧
                (∀ c : Int,
                  (((c) = (cntD d (l.getD (↑x.k : Int).toNat 0))) →
                  (brS ((if S'1.us (l.getD (↑x.k : Int).toNat 0) = true then S'1.ct (l.getD (↑x.k : Int).toNat 0) else 0) != IntKind.i64.wrap (c + 1))
                    ((brS (l.getD (↑x.k : Int).toNat 0 != 0)
                      ((K (SV.one (TV.at (At.val (Value.bool false)))) [(Chunk.row false (EC.ent) (raw))] []))
                      ((∃ x' : XCo P,
                        (True ∧
                        ((True ∧
                        True ∧
                        ((Value.int IntKind.i64 2) = (Value.int IntKind.i64 2)) ∧
                        ((Value.int IntKind.i64 (IntKind.i64.wrap ((↑x.k : Int) + 1))) = (Value.int IntKind.i64 ((↑x'.k : Int)))) ∧
                        True) ∧
                        ((raw) = (raw)) ∧
                        (True ∧
                        True ∧
                        True ∧
                        ((Value.int IntKind.u64 (S'1.reads)) = (Value.int IntKind.u64 (x'.S.reads))) ∧
                        True) ∧
                        (True ∧
                        True ∧
                        True ∧
                        ((Value.int IntKind.u32 (S'1.fresh)) = (Value.int IntKind.u32 (x'.S.fresh))) ∧
                        True) ∧
                        ((S'1.nodes) = (x'.S.nodes)) ∧
                        ((S'1.counts) = (x'.S.counts)) ∧
                        ((S'1.used) = (x'.S.used)) ∧
                        ((S'1.gen) = (x'.S.gen)) ∧
                        ((S'1.rel) = (x'.S.rel)) ∧
                        ((l) = (l)) ∧
                        True) ∧
                        (2 - x'.k < 2 - x.k))))))
                    ((∃ x' : XCo P,
                      (True ∧
                      ((True ∧
                      True ∧
                      ((Value.int IntKind.i64 2) = (Value.int IntKind.i64 2)) ∧
                      ((Value.int IntKind.i64 (IntKind.i64.wrap ((↑x.k : Int) + 1))) = (Value.int IntKind.i64 ((↑x'.k : Int)))) ∧
                      True) ∧
                      ((raw) = (raw)) ∧
                      (True ∧
                      True ∧
                      True ∧
                      ((Value.int IntKind.u64 (S'1.reads)) = (Value.int IntKind.u64 (x'.S.reads))) ∧
                      True) ∧
                      (True ∧
                      True ∧
                      True ∧
                      ((Value.int IntKind.u32 (S'1.fresh)) = (Value.int IntKind.u32 (x'.S.fresh))) ∧
                      True) ∧
                      ((S'1.nodes) = (x'.S.nodes)) ∧
                      ((S'1.counts) = (x'.S.counts)) ∧
                      ((S'1.used) = (x'.S.used)) ∧
                      ((S'1.gen) = (x'.S.gen)) ∧
                      ((S'1.rel) = (x'.S.rel)) ∧
                      ((l) = (l)) ∧
                      True) ∧
                      (2 - x'.k < 2 - x.k))))))))))))))))))))
        ((K (SV.one (TV.at (At.val (Value.bool true)))) [(Chunk.row false (EC.ent) (raw))] [])))))))))) = _ by kernel_rfl) ?_
  subst hP
  have e60 : Int.toNat 60 = 60 := rfl
  rw [e60]
  obtain ⟨la, ll⟩ := listE_spec raw 60
  refine ⟨by decide, by decide, h0, by decide, by decide, by omega, fun S1 i1 hp => ⟨⟨⟨S1, 0, ⟨_, hp.wf, by simp⟩, by omega⟩, ?_⟩, fun x _ => ?_⟩⟩
  · (repeat' first | exact trivial | exact rfl | exact hl | refine And.intro ?_ ?_)
  obtain ⟨S, k, ⟨hs, w, hn⟩, hk⟩ := x
  have hlen : l.length = 2 := by rw [← hl]; rfl
  dsimp only at *
  refine brS_of (fun c => ?_) fun _ => h
  have c : k < 2 := by have c := of_decide_eq_true c; have e2 : [i, i.tmod 70].length = 2 := rfl; rw [e2] at c; omega
  have hx : ∃ S', Wf S' hs := ⟨S, w⟩
  have xw : exW S := ⟨hs, w⟩
  have hvm : inU (l.getD k 0) := hL _ (by rw [List.getD_eq_getElem?_getD, List.getElem?_eq_getElem (by omega)]; exact List.getElem_mem _)
  rw [show ((k : Int)).toNat = k from rfl]
  generalize l.getD k 0 = v at *
  have fin : ∀ S2 : Arn, PO S2 (k + 1) → (∃ x' : XCo PO, (True ∧ ((True ∧ True ∧ ((Value.int IntKind.i64 2) = (Value.int IntKind.i64 2)) ∧ ((Value.int IntKind.i64 (IntKind.i64.wrap ((k : Int) + 1))) = (Value.int IntKind.i64 (x'.k : Int))) ∧ True) ∧ (raw = raw) ∧ (True ∧ True ∧ True ∧ ((Value.int IntKind.u64 S2.reads) = (Value.int IntKind.u64 x'.S.reads)) ∧ True) ∧ (True ∧ True ∧ True ∧ ((Value.int IntKind.u32 S2.fresh) = (Value.int IntKind.u32 x'.S.fresh)) ∧ True) ∧ (S2.nodes = x'.S.nodes) ∧ (S2.counts = x'.S.counts) ∧ (S2.used = x'.S.used) ∧ (S2.gen = x'.S.gen) ∧ (S2.rel = x'.S.rel) ∧ (l = l) ∧ True) ∧ (2 - x'.k < 2 - k))) := fun S2 h2 => by
    refine ⟨⟨S2, k + 1, h2⟩, ?_⟩
    (repeat' first | exact trivial | exact rfl | refine And.intro ?_ ?_)
    · rw [wrap_id (by omega) (by omega)]; congr 1
    · show 2 - (k + 1) < 2 - k; omega
  have stay : PO S (k + 1) := ⟨⟨hs, w, by omega⟩, c⟩
  have sl := slotsOf_len S
  have nc : ncap S ≤ 65537 := by have := w.n2; unfold ncap; omega
  have ol := order_len w
  refine ⟨by omega, by omega, xw, fun d o ed eo => ⟨hvm, xw, fun hz => ?_, fun hz hu => ?_, fun hu S' eS => ?_⟩⟩
  · have rest : ∀ c : Int, c = cntD d v → brS ((if S.us v = true then S.ct v else 0) != IntKind.i64.wrap (c + 1)) (brS (v != 0) (K (SV.one (TV.at (At.val (Value.bool false)))) [(Chunk.row false (EC.ent) (raw))] []) (∃ x' : XCo PO, _)) (∃ x' : XCo PO, _) := fun c _ => brS_of (fun _ => bf24 (by simp [hz]) (fin S stay)) fun _ => fin S stay
    exact bf24 (by simp [hz]) ⟨hvm, xw, hvm, by rw [ed]; omega, rest⟩
  · have ha : alcD d v = false := by rw [ed, alcD_slots w]; exact hu
    exact bt24 (by simp [hz]) ⟨hvm, by rw [ed]; omega, bt24 (by rw [ha]; rfl) ⟨xw, fun d1 o1 e1 e2 => ⟨by rw [e1, ed], by rw [e2, eo], by rw [e1]; omega, by rw [e2]; omega, fin S stay⟩⟩⟩
  · have ha : alcD d v = true := by rw [ed, alcD_slots w]; exact hu
    have hp := w.pos hu
    have w' : Wf S' (v :: hs) := by rw [eS]; exact w.ret hu (by omega)
    have hs' : PO S' (k + 1) := ⟨⟨_, w', by simp; omega⟩, c⟩
    have us' : S'.us v = true := by rw [eS]; exact hu
    have ct' : S'.ct v = S.ct v + 1 := by rw [eS]; exact ret_ct w hu
    have hc := w.ct_le hu
    refine bt24 (by simp; omega) ⟨hvm, by rw [ed]; omega, bf24 (by rw [ha]; rfl) ⟨hvm, ⟨_, w'⟩, hvm, by rw [ed]; omega, fun c ec => bf24 ?_ (fin S' hs')⟩⟩
    rw [ec, ed, cntD_slots w, if_pos hu, if_pos us', ct', wrap_id (by omega) (by omega)]
    simp
theorem s_co : SoundT C0 11 tCo := by
  refine .of Try.func11 (by decide) rfl fun args H K h hB => ?_
  unfold tCo at h
  split at h <;> try exact h.elim
  rename_i t i raw
  exact ⟨aCo raw [i, i.tmod 70] PO, ⟨frame C0.ok s_lst _, frame C0.ok s_grow _, frame C0.ok s_awake24 _, frame C0.ok s_dump _, frame C0.ok s_open _, frame C0.ok s_alc _, frame C0.ok s_sameD _, frame C0.ok s_count _, frame C0.ok s_cn24 _, trivial⟩, vc_co raw t i K h.1 h.2.1 h.2.2⟩
end Go.Proofs.Ytacdmmomkngpkaa.Sx
