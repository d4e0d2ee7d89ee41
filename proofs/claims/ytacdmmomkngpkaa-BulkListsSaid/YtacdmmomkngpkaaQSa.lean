/- The law that slices are ranges of ranks. -/
import Derived.Test.YtacdmmomkngpkaaQGr
import Derived.Test.YtacdmmomkngpkaaQRk
namespace Go.Proofs.Ytacdmmomkngpkaa.Sx
open Go

/-KEEP Wf exW inU live Arn.cap Arn.free Rep rdS Tr.size BuildR PlantR rangeR sliceR selR bf newS ascB listE sameB-/
structure XBsr (raw : List Ent) where
  S : Arn
  r : Int
  i : Nat
  h : (∃ hs t, Wf S hs ∧ Rep S t r ∧ t.list = listE raw 120) ∧ i ≤ (listE raw 120).length ∧ S.reads ≤ 1000 * (i + 1)
noncomputable def aBsr (raw : List Ent) : Ann C0 := { Γ := [(24, frameT [] tLst), (33, frameT [] tGrow), (23, frameT [] tAwake15), (58, frameT [] tSlice), (60, frameT [] tSel), (61, frameT [] tRank), (54, frameT [] tRange), (55, frameT [] tSame_ent)], inv := fun n => match n with
  | 7 => some { X := XBsr raw, sl := [14, 9, 10, 13, 11], tf := fun x => [vi .i64 x.i, .one (.at (.slc 1)), .one (.at (.ptr 2 0)), .one (.at (.slc 9)), vi .u32 x.r], hf := fun x => [.row false EC.ent raw, .row true EC.ent (listE raw 120)] ++ chSk 2 x.S ++ [.row true EC.ent (listE raw 120)], μ := fun x => (listE raw 120).length - x.i }
  | _ => none }
def tBsr : Tfm C0 := fun args H K => match args, H with
  | [.at (.slc 0), .at (.val (.int .u64 t)), .at (.val (.int .i64 _)), .at (.val (.int .i64 hi))], [.row false .ent raw] => 0 ≤ t ∧ -9223372036854775808 ≤ hi ∧ hi ≤ 9223372036854775807 ∧ K (.one (.at (vB true))) [.row false EC.ent raw] []
  | _, _ => False
theorem pl_reads (t : Tr) (x y : Int) : (pl t x y).2 ≤ 2 * t.size := (pl_len t x y).2
theorem ne0_le (t : Tr) : ne0 t ≤ 1 := by unfold ne0; split <;> omega
theorem sliceR_reads (t : Tr) (x y : Int) : (sliceR t x y).2 ≤ 1 + 2 * t.size := by
  have h1 := pl_reads t x y
  have h2 := ne0_le t
  unfold sliceR
  split
  · simp
  · split <;> simp only [] <;> omega
theorem selR_reads (t : Tr) (i : Int) : (selR t i).2 ≤ 1 + 2 * t.size := by
  have h1 := sel_le t i
  have h2 := ne0_le t
  unfold selR
  split
  · simp
  · split <;> simp only [] <;> omega
theorem rangeR_reads (t : Tr) (lo hi lim : Int) : (rangeR t lo hi lim).2 ≤ t.size := by
  unfold rangeR
  split
  · simp
  · exact (lk_len t lo hi _).2.2
theorem bf_lt {t : Tr} (h : Asc t.list) (q : Int) : (bf t q false).1 = (t.list.filter fun x => decide (x.1 < q)).length := by
  rw [bf_count t q false h]; simp
theorem sliceR_eq {t : Tr} {x y : Nat} (h1 : x ≤ y) (h2 : y ≤ t.size) : (sliceR t x y).1 = (t.list.drop x).take (y - x) := by
  unfold sliceR
  rw [if_neg (by omega), if_neg (by omega)]
  exact pl_spec t x y h2
theorem bt {b : Bool} {t f : Prop} (h : b = true) (ht : t) : brS b t f := by rw [h]; exact ht
theorem bff {b : Bool} {t f : Prop} (h : b = false) (hf : f) : brS b t f := by rw [h]; exact hf
theorem vc_bsr (raw : List Ent) (t lo hi : Int) (K : KT) (h1 : 0 ≤ t) (h2 : -9223372036854775808 ≤ hi) (h3 : hi ≤ 9223372036854775807) (h : K (.one (.at (vB true))) [.row false EC.ent raw] []) :
    vc C0 (aBsr raw) Try.f10 [.at (.slc 0), .at (vU64 t), .at (vI lo), .at (vI hi)] [.row false EC.ent raw] (normK 1 K) := by
  refine Eq.mp (show (((0 : Int) ≤ 120) ∧
((120 : Int) ≤ 1000000) ∧
(0 ≤ t) ∧
((1 : Int) ≤ 1) ∧
((1 : Int) ≤ 30000) ∧
((listE raw (Int.toNat 120)).length ≤ 30000) ∧
(∀ S' : Arn,
  (∀ i : Int,
    ((PlantR (newS ((↑(listE raw (Int.toNat 120)).length : Int) + 1).toNat) [] (listE raw (Int.toNat 120)) S' i) →
    (∃ hs : List Int,
      (∃ t1 : Tr,
        ((Wf S' hs) ∧
        (Rep S' t1 i) ∧
        (t1.size ≤ 1000000) ∧
        (S'.reads + 2 * (↑t1.size : Int) ≤ 2000000000000000000) ∧
        (∀ S'1 : Arn,
          (∀ out : List Ent,
            (((S'1) = (rdS S' (sliceR t1 0 (↑(listE raw (Int.toNat 120)).length : Int)).snd)) →
            (((out) = ((sliceR t1 0 (↑(listE raw (Int.toNat 120)).length : Int)).fst)) →
            ((∃ x : XBsr raw,
              (True ∧
              (((Value.int IntKind.i64 (lo)) = (Value.int IntKind.i64 (lo))) ∧
              ((Value.int IntKind.i64 (hi)) = (Value.int IntKind.i64 (hi))) ∧
              True ∧
              True ∧
              ((Value.int IntKind.u32 (i)) = (Value.int IntKind.u32 (x.r))) ∧
              True ∧
              ((Value.int IntKind.i64 0) = (Value.int IntKind.i64 ((↑x.i : Int)))) ∧
              True) ∧
              ((raw) = (raw)) ∧
              ((listE raw (Int.toNat 120)) = (listE raw 120)) ∧
              (True ∧
              True ∧
              True ∧
              ((Value.int IntKind.u64 (S'1.reads)) = (Value.int IntKind.u64 (x.S.reads))) ∧
              True) ∧
              (True ∧
              True ∧
              True ∧
              ((Value.int IntKind.u32 (S'1.fresh)) = (Value.int IntKind.u32 (x.S.fresh))) ∧
              True) ∧
              ((S'1.nodes) = (x.S.nodes)) ∧
              ((S'1.counts) = (x.S.counts)) ∧
              ((S'1.used) = (x.S.used)) ∧
              ((S'1.gen) = (x.S.gen)) ∧
              ((S'1.rel) = (x.S.rel)) ∧
              ((out) = (listE raw 120)) ∧
              True)) ∧
            (∀ x : XBsr raw,
              (True →
              (brS (decide ((↑x.i : Int) < (↑(listE raw 120).length : Int)))
                ((∃ hs1 : List Int,
                  (∃ t2 : Tr,
                    ((Wf x.S hs1) ∧
                    (Rep x.S t2 x.r) ∧
                    (t2.size ≤ 1000000) ∧
                    (x.S.reads + 2 * (↑t2.size : Int) ≤ 3000000000000000000) ∧
                    (∀ S'2 : Arn,
                      (∀ o : Option Ent,
                        (((S'2) = (rdS x.S (selR t2 (↑x.i : Int)).snd)) →
                        (((o) = ((selR t2 (↑x.i : Int)).fst)) →
                        (brS ((↑(listE raw 120).length : Int) != (↑(listE raw 120).length : Int))
                          ((K (SV.one (TV.at (At.val (Value.bool false)))) [(Chunk.row false (EC.ent) (raw))] []))
                          ((brS (!o.isSome)
                            ((K (SV.one (TV.at (At.val (Value.bool false)))) [(Chunk.row false (EC.ent) (raw))] []))
                            (((0 ≤ (↑x.i : Int)) ∧
                            ((↑x.i : Int) < (↑(listE raw 120).length : Int)) ∧
                            (brS (!((o.getD (0, 0)).fst == (eA (listE raw 120) x.i).fst && ((o.getD (0, 0)).snd == (eA (listE raw 120) x.i).snd && true)))
                              ((K (SV.one (TV.at (At.val (Value.bool false)))) [(Chunk.row false (EC.ent) (raw))] []))
                              ((∃ x' : XBsr raw,
                                (True ∧
                                ((((Value.int IntKind.i64 (lo)) = (Value.int IntKind.i64 (lo))) ∧
                                ((Value.int IntKind.i64 (hi)) = (Value.int IntKind.i64 (hi))) ∧
                                True ∧
                                True ∧
                                ((Value.int IntKind.u32 (x.r)) = (Value.int IntKind.u32 (x'.r))) ∧
                                True ∧
                                ((Value.int IntKind.i64 (IntKind.i64.wrap ((↑x.i : Int) + 1))) = (Value.int IntKind.i64 ((↑x'.i : Int)))) ∧
                                True) ∧
                                ((raw) = (raw)) ∧
                                ((listE raw 120) = (listE raw 120)) ∧
                                (True ∧
                                True ∧
                                True ∧
                                ((Value.int IntKind.u64 (S'2.reads)) = (Value.int IntKind.u64 (x'.S.reads))) ∧
                                True) ∧
                                (True ∧
                                True ∧
                                True ∧
                                ((Value.int IntKind.u32 (S'2.fresh)) = (Value.int IntKind.u32 (x'.S.fresh))) ∧
                                True) ∧
                                ((S'2.nodes) = (x'.S.nodes)) ∧
                                ((S'2.counts) = (x'.S.counts)) ∧
                                ((S'2.used) = (x'.S.used)) ∧
                                ((S'2.gen) = (x'.S.gen)) ∧
                                ((S'2.rel) = (x'.S.rel)) ∧
                                ((listE raw 120) = (listE raw 120)) ∧
                                True) ∧
                                ((listE raw 120).length - x'.i < (listE raw 120).length - x.i))))))))))))))))))
                ((brS (decide (lo > hi))
                  ((K (SV.one (TV.at (At.val (Value.bool true)))) [(Chunk.row false (EC.ent) (raw))] []))
                  ((brS (hi == 9223372036854775807)
                    ((K (SV.one (TV.at (At.val (Value.bool true)))) [(Chunk.row false (EC.ent) (raw))] []))
                    ((∃ hs1 : List Int,
                      (∃ t2 : Tr,
                        ((Wf x.S hs1) ∧
                        (Rep x.S t2 x.r) ∧
                        (t2.size ≤ 1000000) ∧
                        (x.S.reads + 2 * (↑t2.size : Int) ≤ 3000000000000000000) ∧
                        (∀ S'2 : Arn,
                          (∀ c : Int,
                            (((S'2) = (rdS x.S (bf t2 lo false).snd)) →
                            (((c) = ((↑(bf t2 lo false).fst : Int))) →
                            (∃ hs2 : List Int,
                              (∃ t3 : Tr,
                                ((Wf S'2 hs2) ∧
                                (Rep S'2 t3 x.r) ∧
                                (t3.size ≤ 1000000) ∧
                                (S'2.reads + 2 * (↑t3.size : Int) ≤ 3000000000000000000) ∧
                                (∀ S'3 : Arn,
                                  (∀ c1 : Int,
                                    (((S'3) = (rdS S'2 (bf t3 (IntKind.i64.wrap (hi + 1)) false).snd)) →
                                    (((c1) = ((↑(bf t3 (IntKind.i64.wrap (hi + 1)) false).fst : Int))) →
                                    (∃ hs3 : List Int,
                                      (∃ t4 : Tr,
                                        ((Wf S'3 hs3) ∧
                                        (Rep S'3 t4 x.r) ∧
                                        (t4.size ≤ 1000000) ∧
                                        (S'3.reads + (↑t4.size : Int) ≤ 3000000000000000000) ∧
                                        (∀ S'4 : Arn,
                                          (∀ out1 : List Ent,
                                            (((S'4) = (rdS S'3 (rangeR t4 lo hi (IntKind.i64.wrap ((↑(listE raw 120).length : Int) + 1))).snd)) →
                                            (((out1) = ((rangeR t4 lo hi (IntKind.i64.wrap ((↑(listE raw 120).length : Int) + 1))).fst)) →
                                            (∃ hs4 : List Int,
                                              (∃ t5 : Tr,
                                                ((Wf S'4 hs4) ∧
                                                (Rep S'4 t5 x.r) ∧
                                                (t5.size ≤ 1000000) ∧
                                                (S'4.reads + 2 * (↑t5.size : Int) ≤ 2000000000000000000) ∧
                                                (∀ S'5 : Arn,
                                                  (∀ out2 : List Ent,
                                                    (((S'5) = (rdS S'4 (sliceR t5 c c1).snd)) →
                                                    (((out2) = ((sliceR t5 c c1).fst)) →
                                                    (K (SV.one (TV.at (At.val (Value.bool (sameB out1 out2))))) [(Chunk.row false (EC.ent) (raw))] []))))))))))))))))))))))))))))))))))))))))))))))))) = _ by kernel_rfl) ?_
  have e120 : Int.toNat 120 = 120 := rfl
  rw [e120]
  obtain ⟨la, ll⟩ := listE_spec raw 120
  generalize hL : listE raw 120 = L at la ll ⊢
  have fin : ∀ b, b = true → K (.one (.at (vB b))) [.row false EC.ent raw] [] := fun b hb => by subst hb; exact h
  refine ⟨by decide, by decide, h1, by decide, by decide, by omega, fun S1 r hp => ?_⟩
  obtain ⟨tr, r1, r2, _⟩ := hp.rep
  have hsz : tr.size = L.length := by rw [← tr.list_len, r2]
  have hrd : S1.reads = 0 := by rw [hp.rds]; rfl
  refine ⟨_, tr, hp.wf, r1, by omega, by omega, fun S2 out e1 e2 => ?_⟩
  have hsl : out = L := by
    have := sliceR_eq (t := tr) (x := 0) (y := L.length) (by omega) (by omega)
    have e0 : ((0 : Nat) : Int) = 0 := rfl
    rw [e0] at this
    rw [e2, this, r2]; simp
  have hsr := sliceR_reads tr 0 (L.length : Int)
  refine ⟨⟨⟨S2, r, 0, ⟨⟨_, tr, by rw [e1]; exact hp.wf.rd (by omega), by rw [e1]; exact rep_rd r1 _, by rw [r2, hL]⟩, Nat.zero_le _, by rw [e1]; show S1.reads + (((sliceR tr 0 (L.length : Int)).2 : Nat) : Int) ≤ _; omega⟩⟩, ?_⟩, fun x _ => ?_⟩
  · (repeat' first | exact trivial | exact rfl | refine And.intro ?_ ?_)
    exact hsl
  obtain ⟨⟨hs, t1, w1, w2, w3⟩, x1, x2⟩ := x.h
  rw [hL] at w3 x1
  have s1 : t1.size = L.length := by rw [← t1.list_len, w3]
  have hasc : Asc t1.list := by rw [w3]; exact la
  refine brS_of (fun c => ?_) fun c => ?_
  · have c : x.i < L.length := by have := of_decide_eq_true c; omega
    have hq := selR_reads t1 x.i
    refine ⟨hs, t1, w1, w2, by omega, by omega, fun S3 o e3 e4 => ?_⟩
    have ho : o = some (eA L x.i) := by
      rw [e4, selR, if_neg (by omega), if_neg (by omega)]
      show (sel t1 x.i).1 = _
      rw [sel_get, w3]; exact eA_get c
    rw [ho]
    refine bff (by simp) (bff (by simp) ⟨by omega, by omega, bff (by simp) ⟨⟨S3, x.r, x.i + 1, ⟨⟨hs, t1, by rw [e3]; exact w1.rd (by omega), by rw [e3]; exact rep_rd w2 _, by rw [w3, hL]⟩, by rw [hL]; omega, by rw [e3]; show x.S.reads + (((selR t1 x.i).2 : Nat) : Int) ≤ _; omega⟩⟩, ?_⟩⟩)
    (repeat' first | exact trivial | exact rfl | refine And.intro ?_ ?_)
    · rw [wrap_id (by omega) (by omega)]; congr 1
    · show L.length - (x.i + 1) < L.length - x.i; omega
  · refine brS_of (fun _ => h) fun d => brS_of (fun _ => h) fun d2 => ?_
    have d : ¬ lo > hi := of_decide_eq_false d
    have d2 : hi ≠ 9223372036854775807 := by simpa using d2
    rw [wrap_id (x := hi + 1) (by omega) (by omega), wrap_id (x := (L.length : Int) + 1) (by omega) (by omega)]
    have b1 := (bf_le t1 lo false)
    have b2 := (bf_le t1 (hi + 1) false)
    refine ⟨hs, t1, w1, w2, by omega, by omega, fun S3 c e3 e4 => ?_⟩
    have hr3 : S3.reads ≤ 400000 := by rw [e3]; show x.S.reads + (((bf t1 lo false).2 : Nat) : Int) ≤ _; omega
    have w3' : Wf S3 hs := by rw [e3]; exact w1.rd (by omega)
    have p3 : Rep S3 t1 x.r := by rw [e3]; exact rep_rd w2 _
    have n3 := w3'.rds
    refine ⟨hs, t1, w3', p3, by omega, by omega, fun S4 c1 e5 e6 => ?_⟩
    have hr4 : S4.reads ≤ 500000 := by rw [e5]; show S3.reads + (((bf t1 (hi + 1) false).2 : Nat) : Int) ≤ _; omega
    have w4 : Wf S4 hs := by rw [e5]; exact w3'.rd (by omega)
    have p4 : Rep S4 t1 x.r := by rw [e5]; exact rep_rd p3 _
    have n4 := w4.rds
    have hq := rangeR_reads t1 lo hi ((L.length : Int) + 1)
    refine ⟨hs, t1, w4, p4, by omega, by omega, fun S5 out1 e7 e8 => ?_⟩
    have hr5 : S5.reads ≤ 600000 := by rw [e7]; show S4.reads + (((rangeR t1 lo hi ((L.length : Int) + 1)).2 : Nat) : Int) ≤ _; omega
    have w5 : Wf S5 hs := by rw [e7]; exact w4.rd (by omega)
    have p5 : Rep S5 t1 x.r := by rw [e7]; exact rep_rd p4 _
    refine ⟨hs, t1, w5, p5, by omega, by omega, fun S6 out2 e9 e10 => fin _ ?_⟩
    have g1 : out1 = betE L lo hi := by
      rw [e8, rangeR, if_neg (by omega), lk_spec t1 lo hi _ hasc, w3, List.take_of_length_le]
      have := List.length_filter_le (fun x : Ent => decide (lo ≤ x.1) && decide (x.1 ≤ hi)) L
      unfold betE; omega
    have f1 := bf_lt hasc lo
    have f2 := bf_lt hasc (hi + 1)
    have hle : (bf t1 lo false).1 ≤ (bf t1 (hi + 1) false).1 := by
      rw [f1, f2, ← List.countP_eq_length_filter, ← List.countP_eq_length_filter]
      exact List.countP_mono_left fun x _ hx => by simp at hx ⊢; omega
    have g2 : out2 = betE L lo hi := by
      rw [e10, e4, e6, sliceR_eq hle b2.1, f1, f2, w3]
      exact (betE_slice la lo hi (by omega)).symm
    rw [g1, g2]
    exact decide_eq_true rfl
theorem s_bsr : SoundT C0 10 tBsr := by
  refine .of Try.func10 (by decide) rfl fun args H K h hB => ?_
  unfold tBsr at h
  split at h <;> try exact h.elim
  rename_i t lo hi raw
  obtain ⟨h1, h2, h3, h4⟩ := h
  exact ⟨aBsr raw, ⟨frame C0.ok s_lst _, frame C0.ok s_grow _, frame C0.ok s_awake15 _, frame C0.ok s_slice _, frame C0.ok s_sel _, frame C0.ok s_rank _, frame C0.ok s_range _, frame C0.ok s_same9 _, trivial⟩, vc_bsr raw t lo hi K h1 h2 h3 h4⟩
end Go.Proofs.Ytacdmmomkngpkaa.Sx
