/- A part of the proof. -/
import Derived.Test.YtjbkckcjmmmooaaG15
import Derived.Test.YtjbkckcjmmmooaaG9
import Derived.Test.YtjbkckcjmmmooaaG6
import Derived.Test.YtjbkckcjmmmooaaG12
import Derived.Test.YtjbkckcjmmmooaaG13
import Derived.Test.YtjbkckcjmmmooaaG14
import Derived.Test.YtjbkckcjmmmooaaG7
import Derived.Test.YtjbkckcjmmmooaaG8
section
/- Build, Grow, and the example of the chapter on bulk operations. -/
namespace Go.Proofs.Ytjbkckcjmmmooaa.Sx
open Go

/-KEEP Wf exW inU live Arn.cap Arn.free Rep rdS Tr.size BuildR PlantR rangeR newS ascB-/
def tBldA : Tfm C0 := fun args H K => match args with
  | [.at (.ptr 0 0), .at (.slc 7)] => arMr H fun S rest => match rest with
    | [.row false .ent l] => ∃ hs, Wf S hs ∧ l.length ≤ 100000 ∧ (l.length : Int) ≤ S.free ∧ hs.length + l.length ≤ 800000000 ∧ ∀ S' i, BuildR S hs l S' i → K (.one (.at (vU i))) (chS S' ++ [.row false EC.ent l]) W7
    | _ => False
  | _ => False
theorem s_bldA : SoundT C0 120 tBldA := (s_bld 100001).weak fun args H K h => by
  unfold tBldA at h
  unfold tBld
  split at h <;> try exact h.elim
  unfold arMr at h ⊢
  split at h <;> try exact h.elim
  split at h <;> try exact h.elim
  obtain ⟨hs, h1, h2, h3, h4, h5⟩ := h
  exact ⟨hs, h1, by omega, h2, h3, h4, h5⟩
noncomputable def aBuild (S : Arn) (l : List Ent) : Ann C0 := { Γ := [(22, frameT [] tFree), (120, frameT [] tBldA)], inv := fun n => match n with
  | 2 => some { X := XA l, sl := [6], tf := fun x => [vi .i64 x.i], hf := fun _ => chS S ++ [.row false EC.ent l], μ := fun x => l.length - x.i }
  | _ => none }
def tBuild : Tfm C0 := fun args H K => match args with
  | [.at (.ptr 0 0), .at (.slc 7)] => arMr H fun S rest => match rest with
    | [.row false .ent l] => ∃ hs, Wf S hs ∧ l.length ≤ 100000 ∧ hs.length + l.length ≤ 800000000 ∧ (ascB l = false → K (.tup [.at (vU 0), .at (vI 7)]) (chS S ++ [.row false EC.ent l]) W7) ∧
      (ascB l = true → S.free < l.length → K (.tup [.at (vU 0), .at (vI 2)]) (chS S ++ [.row false EC.ent l]) W7) ∧
      (ascB l = true → (l.length : Int) ≤ S.free → ∀ S' i, BuildR S hs l S' i → K (.tup [.at (vU i), .at (vI 0)]) (chS S' ++ [.row false EC.ent l]) W7)
    | _ => False
  | _ => False
abbrev chSk (k : Nat) (S : Arn) : List (Chunk C0) := [.box [.ptr (k + 1) 0, .slc (k + 2), .slc (k + 3), vU64 S.reads], .box [.slc (k + 4), .slc (k + 5), .slc (k + 6), vU S.fresh], .row true EC.node S.nodes, .row true EC.int S.counts, .row true EC.bool S.used, .row true EC.u32 S.gen, .row true EC.u32 S.rel]
noncomputable def aGrow : Ann C0 := { Γ := [(25, frameT [] tNew), (64, frameT [] tPlantA)] }
def tGrow : Tfm C0 := fun args H K => match args, H with
  | [.at (.slc 0), .at (.val (.int .u64 t)), .at (.val (.int .i64 sp))], [.row false .ent l] => 0 ≤ t ∧ 1 ≤ sp ∧ sp ≤ 30000 ∧ l.length ≤ 30000 ∧ ∀ S' i, PlantR (newS ((l.length : Int) + sp).toNat) [] l S' i → K (.tup [.at (.ptr 1 0), .at (vU i), .at (vB true)]) ([.row false EC.ent l] ++ chSk 1 S') []
  | _, _ => False
noncomputable def aAwake15 : Ann C0 := { Γ := [(25, frameT [] tNew), (93, frameT [] tBuild), (49, frameT [] tNode), (62, frameT [] tList)] }
def tAwake15 : Tfm C0 := fun args H K => match args, H with
  | [], [] => K (.one (.at (vB true))) [] []
  | _, _ => False
theorem vc_build (S : Arn) (l : List Ent) (K : KT) (hs : List Int) (hw : Wf S hs) (h1 : l.length ≤ 100000) (h2 : hs.length + l.length ≤ 800000000) (ha : ascB l = false → K (.tup [.at (vU 0), .at (vI 7)]) (chS S ++ [.row false EC.ent l]) W7)
    (hb : ascB l = true → S.free < l.length → K (.tup [.at (vU 0), .at (vI 2)]) (chS S ++ [.row false EC.ent l]) W7) (hc : ascB l = true → (l.length : Int) ≤ S.free → ∀ S' i, BuildR S hs l S' i → K (.tup [.at (vU i), .at (vI 0)]) (chS S' ++ [.row false EC.ent l]) W7) :
    vc C0 (aBuild S l) Try.f93 [.at (.ptr 0 0), .at (.slc 7)] (chS S ++ [.row false EC.ent l]) (normK 8 (wideK W7 K)) := by
  refine Eq.mp (show ((∃ x : XA l,
  (True ∧
  (True ∧
  True ∧
  ((Value.int IntKind.i64 1) = (Value.int IntKind.i64 ((↑x.i : Int)))) ∧
  True) ∧
  (True ∧
  True ∧
  True ∧
  ((Value.int IntKind.u64 (S.reads)) = (Value.int IntKind.u64 (S.reads))) ∧
  True) ∧
  (True ∧
  True ∧
  True ∧
  ((Value.int IntKind.u32 (S.fresh)) = (Value.int IntKind.u32 (S.fresh))) ∧
  True) ∧
  ((S.nodes) = (S.nodes)) ∧
  ((S.counts) = (S.counts)) ∧
  ((S.used) = (S.used)) ∧
  ((S.gen) = (S.gen)) ∧
  ((S.rel) = (S.rel)) ∧
  ((l) = (l)) ∧
  True)) ∧
(∀ x : XA l,
  (True →
  (brS (decide ((↑x.i : Int) < (↑l.length : Int)))
    (((0 ≤ (↑x.i : Int)) ∧
    ((↑x.i : Int) < (↑l.length : Int)) ∧
    (0 ≤ IntKind.i64.wrap ((↑x.i : Int) - 1)) ∧
    (IntKind.i64.wrap ((↑x.i : Int) - 1) < (↑l.length : Int)) ∧
    (brS (decide ((eA l x.i).fst ≤ (l.getD (IntKind.i64.wrap ((↑x.i : Int) - 1)).toNat (0, 0)).fst))
      ((K (SV.tup [(TV.at (At.val (Value.int IntKind.u32 0))), (TV.at (At.val (Value.int IntKind.i64 7)))]) [(Chunk.box [(At.ptr 1 0), (At.slc 2), (At.slc 3), (At.val (Value.int IntKind.u64 (S.reads)))]), (Chunk.box [(At.slc 4), (At.slc 5), (At.slc 6), (At.val (Value.int IntKind.u32 (S.fresh)))]), (Chunk.row true (EC.node) (S.nodes)), (Chunk.row true (EC.int) (S.counts)), (Chunk.row true (EC.bool) (S.used)), (Chunk.row true (EC.u32) (S.gen)), (Chunk.row true (EC.u32) (S.rel)), (Chunk.row false (EC.ent) (l))] [0, 1, 2, 3, 4, 5, 6]))
      ((∃ x' : XA l,
        (True ∧
        ((True ∧
        True ∧
        ((Value.int IntKind.i64 (IntKind.i64.wrap ((↑x.i : Int) + 1))) = (Value.int IntKind.i64 ((↑x'.i : Int)))) ∧
        True) ∧
        (True ∧
        True ∧
        True ∧
        ((Value.int IntKind.u64 (S.reads)) = (Value.int IntKind.u64 (S.reads))) ∧
        True) ∧
        (True ∧
        True ∧
        True ∧
        ((Value.int IntKind.u32 (S.fresh)) = (Value.int IntKind.u32 (S.fresh))) ∧
        True) ∧
        ((S.nodes) = (S.nodes)) ∧
        ((S.counts) = (S.counts)) ∧
        ((S.used) = (S.used)) ∧
        ((S.gen) = (S.gen)) ∧
        ((S.rel) = (S.rel)) ∧
        ((l) = (l)) ∧
        True) ∧
        (l.length - x'.i < l.length - x.i)))))))
    (((exW S) ∧
    (brS (decide (S.free < (↑l.length : Int)))
      ((K (SV.tup [(TV.at (At.val (Value.int IntKind.u32 0))), (TV.at (At.val (Value.int IntKind.i64 2)))]) [(Chunk.box [(At.ptr 1 0), (At.slc 2), (At.slc 3), (At.val (Value.int IntKind.u64 (S.reads)))]), (Chunk.box [(At.slc 4), (At.slc 5), (At.slc 6), (At.val (Value.int IntKind.u32 (S.fresh)))]), (Chunk.row true (EC.node) (S.nodes)), (Chunk.row true (EC.int) (S.counts)), (Chunk.row true (EC.bool) (S.used)), (Chunk.row true (EC.u32) (S.gen)), (Chunk.row true (EC.u32) (S.rel)), (Chunk.row false (EC.ent) (l))] [0, 1, 2, 3, 4, 5, 6]))
      ((∃ hs : List Int,
        ((Wf S hs) ∧
        (l.length ≤ 100000) ∧
        ((↑l.length : Int) ≤ S.free) ∧
        (hs.length + l.length ≤ 800000000) ∧
        (∀ S' : Arn,
          (∀ i : Int,
            ((BuildR S hs l S' i) →
            (K (SV.tup [(TV.at (At.val (Value.int IntKind.u32 (i)))), (TV.at (At.val (Value.int IntKind.i64 0)))]) [(Chunk.box [(At.ptr 1 0), (At.slc 2), (At.slc 3), (At.val (Value.int IntKind.u64 (S'.reads)))]), (Chunk.box [(At.slc 4), (At.slc 5), (At.slc 6), (At.val (Value.int IntKind.u32 (S'.fresh)))]), (Chunk.row true (EC.node) (S'.nodes)), (Chunk.row true (EC.int) (S'.counts)), (Chunk.row true (EC.bool) (S'.used)), (Chunk.row true (EC.u32) (S'.gen)), (Chunk.row true (EC.u32) (S'.rel)), (Chunk.row false (EC.ent) (l))] [0, 1, 2, 3, 4, 5, 6])))))))))))))) = _ by kernel_rfl) ?_
  refine ⟨⟨⟨1, by omega, by omega, by simp⟩, ?_⟩, fun x _ => brS_of (fun hi => ?_) fun hi => ?_⟩
  · (repeat' first | exact trivial | exact rfl | refine And.intro ?_ ?_)
  · have hi : x.i < l.length := by have := of_decide_eq_true hi; omega
    have h1' := x.h.1
    have hs' := x.split hi
    have e : ((x.i : Int) - 1).toNat = x.i - 1 := by omega
    rw [wrap_id (x := (x.i : Int) - 1) (by omega) (by omega), e]
    refine ⟨by omega, by omega, by omega, by omega, brS_of (fun hd => ?_) fun hd => ?_⟩
    · refine ha ?_
      rw [Bool.eq_false_iff]
      intro hh
      have := (hs'.1 hh).1
      have hd := of_decide_eq_true hd
      simp [eA] at hd this
      omega
    · refine ⟨⟨x.i + 1, by omega, by omega, ?_⟩, ?_⟩
      · rw [ascB, decide_eq_true_eq] at hs'
        rw [hs', Nat.add_sub_cancel]
        refine ⟨fun h => h.2, fun h => ⟨?_, h⟩⟩
        have hd := of_decide_eq_false hd
        simp [eA] at hd ⊢
        omega
      · (repeat' first | exact trivial | exact rfl | refine And.intro ?_ ?_)
        · rw [wrap_id (by omega) (by omega)]; congr 1
        · show l.length - (x.i + 1) < l.length - x.i
          omega
  · have e := x.fin (by have := of_decide_eq_false hi; omega)
    refine ⟨⟨_, hw⟩, brS_of (fun d => hb e (of_decide_eq_true d)) fun d => ⟨hs, hw, h1, by have := of_decide_eq_false d; omega, h2, fun S' i hr => hc e (by have := of_decide_eq_false d; omega) S' i hr⟩⟩
theorem s_build : SoundT C0 93 tBuild := by
  refine .ofW W7 Try.func93 (by decide) rfl fun args H K h hB => ?_
  unfold tBuild at h
  split at h <;> try exact h.elim
  unfold arMr at h
  split at h <;> try exact h.elim
  split at h <;> try exact h.elim
  rename_i _ rd fr nd ct us gn rl _ l
  obtain ⟨hs, h1, h2, h3, h4, h5, h6⟩ := h
  exact ⟨aBuild ⟨us, gn, rl, fr, nd, ct, rd⟩ l, ⟨frame C0.ok s_free _, frame C0.ok s_bldA _, trivial⟩, vc_build ⟨us, gn, rl, fr, nd, ct, rd⟩ l K hs h1 h2 h3 h4 h5 h6⟩
theorem new_free {c : Nat} (_ : 1 ≤ c) (_ : c ≤ 65536) : (newS c).free = c := by
  unfold Arn.free Arn.cap newS; simp
theorem vc_grow (l : List Ent) (t sp : Int) (K : KT) (h1 : 0 ≤ t) (h2 : 1 ≤ sp) (h3 : sp ≤ 30000) (h4 : l.length ≤ 30000) (h : ∀ S' i, PlantR (newS ((l.length : Int) + sp).toNat) [] l S' i → K (.tup [.at (.ptr 1 0), .at (vU i), .at (vB true)]) ([.row false EC.ent l] ++ chSk 1 S') []) :
    vc C0 aGrow Try.f17 [.at (.slc 0), .at (vU64 t), .at (vI sp)] [.row false EC.ent l] (normK 1 K) := by
  refine Eq.mp (show (((IntKind.i64.wrap ((↑l.length : Int) + sp) < 1 ∨ 65536 < IntKind.i64.wrap ((↑l.length : Int) + sp)) →
(K (SV.tup [(TV.at (At.val (Value.pointer none))), (TV.at (At.val (Value.int IntKind.u32 0))), (TV.at (At.val (Value.bool false)))]) [(Chunk.row false (EC.ent) (l))] [])) ∧
((1 ≤ IntKind.i64.wrap ((↑l.length : Int) + sp)) →
((IntKind.i64.wrap ((↑l.length : Int) + sp) ≤ 65536) →
(∀ S : Arn,
  (((S) = (newS (IntKind.i64.wrap ((↑l.length : Int) + sp)).toNat)) →
  (∃ hs : List Int,
    ((Wf S hs) ∧
    (l.length ≤ 100000) ∧
    ((↑l.length : Int) ≤ S.free) ∧
    (hs.length + l.length ≤ 900000000) ∧
    (0 ≤ t) ∧
    (∀ S' : Arn,
      (∀ i : Int,
        ((PlantR S hs l S' i) →
        (K (SV.tup [(TV.at (At.ptr 1 0)), (TV.at (At.val (Value.int IntKind.u32 (i)))), (TV.at (At.val (Value.bool true)))]) [(Chunk.row false (EC.ent) (l)), (Chunk.box [(At.ptr 2 0), (At.slc 3), (At.slc 4), (At.val (Value.int IntKind.u64 (S'.reads)))]), (Chunk.box [(At.slc 5), (At.slc 6), (At.slc 7), (At.val (Value.int IntKind.u32 (S'.fresh)))]), (Chunk.row true (EC.node) (S'.nodes)), (Chunk.row true (EC.int) (S'.counts)), (Chunk.row true (EC.bool) (S'.used)), (Chunk.row true (EC.u32) (S'.gen)), (Chunk.row true (EC.u32) (S'.rel))] []))))))))))) = _ by kernel_rfl) ?_
  rw [wrap_id (x := (l.length : Int) + sp) (by omega) (by omega)]
  refine ⟨fun c => by omega, fun _ _ S hS => ?_⟩
  subst hS
  refine ⟨[], Wf.new (by omega) (by omega), by omega, ?_, by simp; omega, h1, h⟩
  rw [new_free (by omega) (by omega)]; omega
theorem s_grow : SoundT C0 17 tGrow := by
  refine .of Try.func17 (by decide) rfl fun args H K h hB => ?_
  unfold tGrow at h
  split at h <;> try exact h.elim
  rename_i t sp l
  obtain ⟨h1, h2, h3, h4, h5⟩ := h
  exact ⟨aGrow, ⟨frame C0.ok s_new _, frame C0.ok s_plantA _, trivial⟩, vc_grow l t sp K h1 h2 h3 h4 h5⟩
theorem range_all {t : Tr} (ha : Asc t.list) (hk : ∀ x ∈ t.list, -9223372036854775808 ≤ x.1 ∧ x.1 ≤ 9223372036854775807) (hs : t.size ≤ 1000000) : (rangeR t (-9223372036854775808) 9223372036854775807 2147483647).1 = t.list := by
  rw [rangeR, if_neg (by omega), lk_spec t _ _ _ ha, betE_all hk, List.take_of_length_le (by rw [t.list_len]; show t.size ≤ 2147483647; omega)]
theorem vc_awake15 (K : KT) (h : K (.one (.at (vB true))) [] []) : vc C0 aAwake15 Try.f57 [] [] (normK 0 K) := by
  refine Eq.mp (show ((((8 : Int) < 1 ∨ (65536 : Int) < 8) →
(K (SV.one (TV.at (At.val (Value.bool false)))) [] [])) ∧
(((1 : Int) ≤ 8) →
(((8 : Int) ≤ 65536) →
(∀ S : Arn,
  (((S) = (newS (Int.toNat 8))) →
  (∃ hs : List Int,
    ((Wf S hs) ∧
    (([(1, 0), (2, 0), (3, 0), (4, 0)] : List Ent).length ≤ 100000) ∧
    (hs.length + ([(1, 0), (2, 0), (3, 0), (4, 0)] : List Ent).length ≤ 800000000) ∧
    ((true = false) →
    ((inU 0) ∧
    (exW S) ∧
    (S.reads < 4000000000000000000) ∧
    (∀ S' : Arn,
      (((S') = (rdS S (S.us 0).toNat)) →
      (K (SV.one (TV.at (At.val (Value.bool false)))) [] []))))) ∧
    ((true = true) →
    ((S.free < (↑([(1, 0), (2, 0), (3, 0), (4, 0)] : List Ent).length : Int)) →
    ((inU 0) ∧
    (exW S) ∧
    (S.reads < 4000000000000000000) ∧
    (∀ S' : Arn,
      (((S') = (rdS S (S.us 0).toNat)) →
      (K (SV.one (TV.at (At.val (Value.bool false)))) [] [])))))) ∧
    ((true = true) →
    (((↑([(1, 0), (2, 0), (3, 0), (4, 0)] : List Ent).length : Int) ≤ S.free) →
    (∀ S' : Arn,
      (∀ i : Int,
        ((BuildR S hs ([(1, 0), (2, 0), (3, 0), (4, 0)] : List Ent) S' i) →
        ((inU i) ∧
        (exW S') ∧
        (S'.reads < 4000000000000000000) ∧
        (∀ S'1 : Arn,
          (((S'1) = (rdS S' (S'.us i).toNat)) →
          (brS (S'.us i)
            ((brS ((S'.nd i).key == 3)
              ((brS ((S'.nd i).size == 4)
                ((∃ hs1 : List Int,
                  (∃ t : Tr,
                    ((Wf S'1 hs1) ∧
                    (Rep S'1 t i) ∧
                    (t.size ≤ 1000000) ∧
                    (S'1.reads + (↑t.size : Int) ≤ 3000000000000000000) ∧
                    (∀ S'2 : Arn,
                      (∀ out : List Ent,
                        (((S'2) = (rdS S'1 (rangeR t (-9223372036854775808) 9223372036854775807 2147483647).snd)) →
                        (((out) = ((rangeR t (-9223372036854775808) 9223372036854775807 2147483647).fst)) →
                        (K (SV.one (TV.at (At.val (Value.bool ((↑out.length : Int) == 4))))) [] [])))))))))
                ((K (SV.one (TV.at (At.val (Value.bool false)))) [] []))))
              ((K (SV.one (TV.at (At.val (Value.bool false)))) [] []))))
            ((K (SV.one (TV.at (At.val (Value.bool false)))) [] [])))))))))))))))))) = _ by kernel_rfl) ?_
  refine ⟨fun c => by omega, fun _ _ S hS => ?_⟩
  have hS : S = newS 8 := hS
  have hw : Wf S [] := by rw [hS]; exact Wf.new (by decide) (by decide)
  have hf : S.free = 8 := by rw [hS]; rfl
  refine ⟨[], hw, by decide, by decide, fun c => (by cases c), fun _ c => ?_, fun _ _ S1 i hr => ?_⟩
  · rw [hf] at c; exact absurd c (by decide)
  · obtain ⟨t, r1, r2⟩ := hr.rep
    have hlist := r2.list
    have hsize : t.size = 4 := by rw [← t.list_len, hlist]; rfl
    have hsz := r1.size hr.wf
    have hrd : S1.reads = 0 := by rw [hr.rds, hS]; rfl
    cases t with
    | nil => simp [Tr.size] at hsize
    | node a k v b =>
      have hu := r1.1
      have hk : (S1.nd i).key = 3 := by
        rw [r1.2.1]
        have := r2.2.1
        exact (congrArg Prod.fst this).symm
      refine ⟨inU_of hr.wf (.inr hu), ⟨_, hr.wf⟩, by rw [hrd]; decide, fun S2 e2 => ?_⟩
      rw [hu] at e2 ⊢
      have e2 : S2 = rdS S1 1 := e2
      refine brS_of (fun _ => ?_) fun c => by cases c
      rw [hk]
      refine brS_of (fun _ => ?_) fun c => by simp at c
      rw [hsz, hsize]
      refine brS_of (fun _ => ?_) fun c => by simp at c
      have hw2 : Wf S2 [i] := by rw [e2]; exact hr.wf.rd (by rw [hrd]; decide)
      refine ⟨_, Tr.node a k v b, hw2, by rw [e2]; exact rep_rd r1 1, by omega, by rw [e2, hsize]; show S1.reads + ((1 : Nat) : Int) + 4 ≤ _; rw [hrd]; decide, fun S3 out e3 e4 => ?_⟩
      rw [range_all (by rw [hlist]; decide) (by rw [hlist]; intro x hx; simp at hx; rcases hx with rfl | rfl | rfl | rfl <;> decide) (by omega), hlist] at e4
      have e5 : ((out.length : Int) == 4) = true := by rw [e4]; rfl
      rw [e5]
      exact h
theorem s_awake15 : SoundT C0 57 tAwake15 := by
  refine .of Try.func57 (by decide) rfl fun args H K h hB => ?_
  unfold tAwake15 at h
  split at h <;> try exact h.elim
  exact ⟨aAwake15, ⟨frame C0.ok s_new _, frame C0.ok s_build _, frame C0.ok s_node _, frame C0.ok s_list _, trivial⟩, vc_awake15 K h⟩
end Go.Proofs.Ytjbkckcjmmmooaa.Sx
end
section
/- What the update laws share: Kept, spare, awake, lengths of dumps. -/
namespace Go.Proofs.Ytjbkckcjmmmooaa.Sx
open Go

/-KEEP Wf exW inU live Arn.cap Arn.free Rep rdS Tr.size Tr.list alcD slotsOf orderOf PlantR newS insE flt getE TrR upM Hn-/
/-- Every slot that is allocated in d is so in e, with the same node and generation. -/
def keptD (d e : List SlotT) : Prop := d.length = e.length ∧ ∀ i : Nat, i < d.length → (eS d i).alloc = true → (eS e i).alloc = true ∧ (eS e i).node = (eS d i).node ∧ (eS e i).gen = (eS d i).gen
structure XKp (d : List SlotT) where
  i : Nat
  h : i ≤ d.length
noncomputable def aKp (d e : List SlotT) (fl gl : List Int) : Ann C0 := { Γ := [], inv := fun n => match n with
  | 4 => some { X := XKp d, sl := [5, 2, 3], tf := fun x => [vi .i64 x.i, .one (.at (.ptr 4 0)), .one (.at (.ptr 5 0))], hf := fun _ => [.row false EC.slot d, .row false EC.u32 fl, .row false EC.slot e, .row false EC.u32 gl, .box [.slc 0, .slc 1], .box [.slc 2, .slc 3]], μ := fun x => d.length - x.i }
  | _ => none }
def tKept : Tfm C0 := fun args H K => match args, H with
  | [.agg [.slc 0, .slc 1], .agg [.slc 2, .slc 3]], [.row false .slot d, .row false .u32 fl, .row false .slot e, .row false .u32 gl] => keptD d e ∧ d.length ≤ 1000000 ∧ K (.one (.at (vB true))) [.row false EC.slot d, .row false EC.u32 fl, .row false EC.slot e, .row false EC.u32 gl] []
  | _, _ => False
def tSpare : Tfm C0 := fun args H K => match args, H with
  | [.at (.val (.int .u16 n)), .at (.val (.int .i64 need))], [] => 0 ≤ n ∧ n ≤ 65535 ∧ 0 ≤ need ∧ need ≤ 60000 ∧ ∀ s, 0 ≤ s → s ≤ need + 8 → K (.one (.at (vI s))) [] []
  | _, _ => False
noncomputable def aAw14 : Ann C0 := { Γ := [(25, frameT [] tNew), (21, frameT [] tUpIn), (20, frameT [] tUpDe), (61, frameT [] tSize)] }
def tAw14 : Tfm C0 := fun args H K => match args, H with
  | [], [] => K (.one (.at (vB true))) [] []
  | _, _ => False
theorem vc_kept (d e : List SlotT) (fl gl : List Int) (K : KT) (hk : keptD d e) (hl : d.length ≤ 1000000) (h : K (.one (.at (vB true))) [.row false EC.slot d, .row false EC.u32 fl, .row false EC.slot e, .row false EC.u32 gl] []) :
    vc C0 (aKp d e fl gl) Try.f39 [.agg [.slc 0, .slc 1], .agg [.slc 2, .slc 3]] [.row false EC.slot d, .row false EC.u32 fl, .row false EC.slot e, .row false EC.u32 gl] (normK 4 K) := by
  refine Eq.mp (show (brS ((↑d.length : Int) != (↑e.length : Int))
  ((K (SV.one (TV.at (At.val (Value.bool false)))) [(Chunk.row false (EC.slot) (d)), (Chunk.row false (EC.u32) (fl)), (Chunk.row false (EC.slot) (e)), (Chunk.row false (EC.u32) (gl))] []))
  (((∃ x : XKp d,
    (True ∧
    (True ∧
    True ∧
    ((Value.int IntKind.i64 0) = (Value.int IntKind.i64 ((↑x.i : Int)))) ∧
    True) ∧
    ((d) = (d)) ∧
    ((fl) = (fl)) ∧
    ((e) = (e)) ∧
    ((gl) = (gl)) ∧
    (True ∧
    True ∧
    True) ∧
    (True ∧
    True ∧
    True) ∧
    True)) ∧
  (∀ x : XKp d,
    (True →
    (brS (decide ((↑x.i : Int) < (↑d.length : Int)))
      (((0 ≤ (↑x.i : Int)) ∧
      ((↑x.i : Int) < (↑d.length : Int)) ∧
      (0 ≤ (↑x.i : Int)) ∧
      ((↑x.i : Int) < (↑e.length : Int)) ∧
      (brS ((eS d (↑x.i : Int).toNat).alloc)
        ((brS (!(eS e (↑x.i : Int).toNat).alloc)
          ((K (SV.one (TV.at (At.val (Value.bool false)))) [(Chunk.row false (EC.slot) (d)), (Chunk.row false (EC.u32) (fl)), (Chunk.row false (EC.slot) (e)), (Chunk.row false (EC.u32) (gl))] []))
          ((brS (!((eS d (↑x.i : Int).toNat).node.key == (eS e (↑x.i : Int).toNat).node.key && ((eS d (↑x.i : Int).toNat).node.value == (eS e (↑x.i : Int).toNat).node.value && ((eS d (↑x.i : Int).toNat).node.left == (eS e (↑x.i : Int).toNat).node.left && ((eS d (↑x.i : Int).toNat).node.right == (eS e (↑x.i : Int).toNat).node.right && ((eS d (↑x.i : Int).toNat).node.size == (eS e (↑x.i : Int).toNat).node.size && ((eS d (↑x.i : Int).toNat).node.sum == (eS e (↑x.i : Int).toNat).node.sum && ((eS d (↑x.i : Int).toNat).node.min == (eS e (↑x.i : Int).toNat).node.min && ((eS d (↑x.i : Int).toNat).node.max == (eS e (↑x.i : Int).toNat).node.max && true)))))))))
            ((K (SV.one (TV.at (At.val (Value.bool false)))) [(Chunk.row false (EC.slot) (d)), (Chunk.row false (EC.u32) (fl)), (Chunk.row false (EC.slot) (e)), (Chunk.row false (EC.u32) (gl))] []))
            ((brS ((eS d (↑x.i : Int).toNat).gen != (eS e (↑x.i : Int).toNat).gen)
              ((K (SV.one (TV.at (At.val (Value.bool false)))) [(Chunk.row false (EC.slot) (d)), (Chunk.row false (EC.u32) (fl)), (Chunk.row false (EC.slot) (e)), (Chunk.row false (EC.u32) (gl))] []))
              ((∃ x' : XKp d,
                (True ∧
                ((True ∧
                True ∧
                ((Value.int IntKind.i64 (IntKind.i64.wrap ((↑x.i : Int) + 1))) = (Value.int IntKind.i64 ((↑x'.i : Int)))) ∧
                True) ∧
                ((d) = (d)) ∧
                ((fl) = (fl)) ∧
                ((e) = (e)) ∧
                ((gl) = (gl)) ∧
                (True ∧
                True ∧
                True) ∧
                (True ∧
                True ∧
                True) ∧
                True) ∧
                (d.length - x'.i < d.length - x.i))))))))))
        ((∃ x' : XKp d,
          (True ∧
          ((True ∧
          True ∧
          ((Value.int IntKind.i64 (IntKind.i64.wrap ((↑x.i : Int) + 1))) = (Value.int IntKind.i64 ((↑x'.i : Int)))) ∧
          True) ∧
          ((d) = (d)) ∧
          ((fl) = (fl)) ∧
          ((e) = (e)) ∧
          ((gl) = (gl)) ∧
          (True ∧
          True ∧
          True) ∧
          (True ∧
          True ∧
          True) ∧
          True) ∧
          (d.length - x'.i < d.length - x.i))))) ∧
      (brS ((eS d (↑x.i : Int).toNat).alloc)
        ((brS (!(eS e (↑x.i : Int).toNat).alloc)
          ((K (SV.one (TV.at (At.val (Value.bool false)))) [(Chunk.row false (EC.slot) (d)), (Chunk.row false (EC.u32) (fl)), (Chunk.row false (EC.slot) (e)), (Chunk.row false (EC.u32) (gl))] []))
          ((brS (!((eS d (↑x.i : Int).toNat).node.key == (eS e (↑x.i : Int).toNat).node.key && ((eS d (↑x.i : Int).toNat).node.value == (eS e (↑x.i : Int).toNat).node.value && ((eS d (↑x.i : Int).toNat).node.left == (eS e (↑x.i : Int).toNat).node.left && ((eS d (↑x.i : Int).toNat).node.right == (eS e (↑x.i : Int).toNat).node.right && ((eS d (↑x.i : Int).toNat).node.size == (eS e (↑x.i : Int).toNat).node.size && ((eS d (↑x.i : Int).toNat).node.sum == (eS e (↑x.i : Int).toNat).node.sum && ((eS d (↑x.i : Int).toNat).node.min == (eS e (↑x.i : Int).toNat).node.min && ((eS d (↑x.i : Int).toNat).node.max == (eS e (↑x.i : Int).toNat).node.max && true)))))))))
            ((K (SV.one (TV.at (At.val (Value.bool false)))) [(Chunk.row false (EC.slot) (d)), (Chunk.row false (EC.u32) (fl)), (Chunk.row false (EC.slot) (e)), (Chunk.row false (EC.u32) (gl))] []))
            ((brS ((eS d (↑x.i : Int).toNat).gen != (eS e (↑x.i : Int).toNat).gen)
              ((K (SV.one (TV.at (At.val (Value.bool false)))) [(Chunk.row false (EC.slot) (d)), (Chunk.row false (EC.u32) (fl)), (Chunk.row false (EC.slot) (e)), (Chunk.row false (EC.u32) (gl))] []))
              ((∃ x' : XKp d,
                (True ∧
                ((True ∧
                True ∧
                ((Value.int IntKind.i64 (IntKind.i64.wrap ((↑x.i : Int) + 1))) = (Value.int IntKind.i64 ((↑x'.i : Int)))) ∧
                True) ∧
                ((d) = (d)) ∧
                ((fl) = (fl)) ∧
                ((e) = (e)) ∧
                ((gl) = (gl)) ∧
                (True ∧
                True ∧
                True) ∧
                (True ∧
                True ∧
                True) ∧
                True) ∧
                (d.length - x'.i < d.length - x.i))))))))))
        ((∃ x' : XKp d,
          (True ∧
          ((True ∧
          True ∧
          ((Value.int IntKind.i64 (IntKind.i64.wrap ((↑x.i : Int) + 1))) = (Value.int IntKind.i64 ((↑x'.i : Int)))) ∧
          True) ∧
          ((d) = (d)) ∧
          ((fl) = (fl)) ∧
          ((e) = (e)) ∧
          ((gl) = (gl)) ∧
          (True ∧
          True ∧
          True) ∧
          (True ∧
          True ∧
          True) ∧
          True) ∧
          (d.length - x'.i < d.length - x.i)))))))
      ((K (SV.one (TV.at (At.val (Value.bool true)))) [(Chunk.row false (EC.slot) (d)), (Chunk.row false (EC.u32) (fl)), (Chunk.row false (EC.slot) (e)), (Chunk.row false (EC.u32) (gl))] [])))))))) = _ by kernel_rfl) ?_
  obtain ⟨k1, k2⟩ := hk
  refine bf7 (by simp [k1]) ⟨⟨⟨0, Nat.zero_le _⟩, ?_⟩, fun x _ => brS_of (fun c => ?_) fun c => h⟩
  · (repeat' first | exact trivial | exact rfl | refine And.intro ?_ ?_)
  obtain ⟨j, hj⟩ := x
  have c : j < d.length := by have := of_decide_eq_true c; dsimp only at this; omega
  have e0 : ((j : Int)).toNat = j := rfl
  dsimp only
  rw [e0]
  have fin : ∃ x' : XKp d, True ∧ ((True ∧ True ∧ ((Value.int IntKind.i64 (IntKind.i64.wrap ((j : Int) + 1))) = (Value.int IntKind.i64 ((x'.i : Int)))) ∧ True) ∧ (d = d) ∧ (fl = fl) ∧ (e = e) ∧ (gl = gl) ∧ (True ∧ True ∧ True) ∧ (True ∧ True ∧ True) ∧ True) ∧ (d.length - x'.i < d.length - j) := by
    refine ⟨⟨j + 1, c⟩, ?_⟩
    (repeat' first | exact trivial | exact rfl | refine And.intro ?_ ?_)
    · rw [wrap_id (by omega) (by omega)]; congr 1
    · show d.length - (j + 1) < d.length - j; omega
  refine ⟨by omega, by omega, by omega, by omega, ?_, ?_⟩
  all_goals
    refine brS_of (fun a => ?_) fun _ => fin
    obtain ⟨a1, a2, a3⟩ := k2 j c a
    refine bf7 (by rw [a1]; rfl) (bf7 ?_ (bf7 (by rw [a3]; simp) fin))
    rw [a2]; simp
theorem s_kept : SoundT C0 39 tKept := by
  refine .of Try.func39 (by decide) rfl fun args H K h hB => ?_
  unfold tKept at h
  split at h <;> try exact h.elim
  rename_i d fl e gl
  exact ⟨aKp d e fl gl, trivial, vc_kept d e fl gl K h.1 h.2.1 h.2.2⟩
theorem s_spare14 : SoundT C0 37 tSpare := by
  refine .of Try.func37 (by decide) rfl fun args H K h hB => ?_
  unfold tSpare at h
  split at h <;> try exact h.elim
  rename_i n need
  obtain ⟨h1, h2, h3, h4, h⟩ := h
  refine ⟨A0, trivial, Eq.mp (show (brS (n.tmod 4 == 0)
  (((IntKind.i64.wrap (need + 2) ≠ 0) ∧
  (K (SV.one (TV.at (At.val (Value.int IntKind.i64 ((IntKind.i64.wrap n).tmod (IntKind.i64.wrap (need + 2))))))) [] [])))
  ((K (SV.one (TV.at (At.val (Value.int IntKind.i64 (IntKind.i64.wrap (need + IntKind.i64.wrap (n.tmod 9))))))) [] []))) = _ by kernel_rfl) ?_⟩
  rw [wrap_id (x := need + 2) (by omega) (by omega), wrap_id (x := n) (by omega) (by omega), Int.tmod_eq_emod_of_nonneg (a := n) (b := need + 2) h1, Int.tmod_eq_emod_of_nonneg (a := n) (b := 9) h1]
  refine brS_of (fun _ => ⟨by omega, h _ (Int.emod_nonneg _ (by omega)) ?_⟩) fun _ => ?_
  · have := Int.emod_lt_of_pos n (show 0 < need + 2 by omega); omega
  · rw [wrap_id (x := n % 9) (by omega) (by omega), wrap_id (by omega) (by omega)]
    exact h _ (by omega) (by omega)
theorem newS_free (c : Nat) : (newS c).free = c := by
  unfold Arn.free Arn.cap newS
  simp
theorem order_free {S : Arn} {hs : List Int} (w : Wf S hs) : ((orderOf S).length : Int) = S.free := by
  have h1 := w.n1; have h3 := w.fr
  unfold orderOf orderL upTo Arn.free Arn.cap
  simp
  omega
theorem kept_of {S S' : Arn} {hs : List Int} (w : Wf S hs) (st : Stay S S' hs) (hl : S'.used.length = S.used.length) : keptD (slotsOf S) (slotsOf S') := by
  have e : ncap S' = ncap S := by unfold ncap; rw [hl]
  refine ⟨by rw [slotsOf_len, slotsOf_len, e], fun i hi ha => ?_⟩
  rw [slotsOf_len] at hi
  have g1 : eS (slotsOf S) i = slotAt S i := slotsOf_get S hi
  have g2 : eS (slotsOf S') i = slotAt S' i := slotsOf_get S' (by omega)
  rw [g1] at ha ⊢
  rw [g2]
  have ha : S.us ((i : Int) + 1) = true := ha
  obtain ⟨s1, s2, s3⟩ := st _ (w.reached ha)
  exact ⟨s1, s2, s3⟩
theorem slots_le {S : Arn} {hs : List Int} (w : Wf S hs) : (slotsOf S).length ≤ 65537 := by have := w.n2; rw [slotsOf_len]; unfold ncap; omega
theorem tr_tree {S : Arn} {hs : List Int} {t : Tr} {j : Int} {L : List Ent} (w : Wf S hs) (rp : Rep S t j) (hL : t.list = L) (bal : t.Bal) (asc : Asc L) :
    ∃ t, RepD (slotsOf S) t j ∧ Asc t.list ∧ t.Bal ∧ t.size ≤ 2 * (slotsOf S).length + 2 ∧ t.size ≤ 1000000 ∧ t.list = L := by
  have asc' : Asc t.list := by rw [hL]; exact asc
  have few := rep_few w rp asc'
  have := slots_le w
  exact ⟨t, repD_of w rp, asc', bal, by omega, by omega, hL⟩
theorem plant_free {S : Arn} {hs : List Int} {l : List Ent} {c : Nat} {i : Int} (hp : PlantR (newS c) hs l S i) : S.free = c - l.length := by
  have h1 := hp.wf.free_nonneg.2.2.2
  have h2 : S.cap = c := by unfold Arn.cap; rw [hp.len]; simp [newS]
  have h3 : (newS c).nu = 0 := by simp [Arn.nu, newS, List.countP_replicate]
  have := hp.nu
  omega
theorem plant_up {S : Arn} {l : List Ent} {c : Nat} {i : Int} (hp : PlantR (newS c) [] l S i) (asc : Asc l) (hl : l.length ≤ 60000) : ∃ t, upM S [i] t i ∧ t.list = l ∧ t.size = l.length := by
  obtain ⟨t, r1, r2, r3⟩ := hp.rep
  have sz : t.size = l.length := by rw [← t.list_len, r2]
  have rd : S.reads = 0 := by rw [hp.rds]; rfl
  exact ⟨t, ⟨hp.wf, r1, r3, by rw [r2]; exact asc, by omega, by simp, by omega⟩, r2, sz⟩
theorem vc_aw14 (K : KT) (h : K (.one (.at (vB true))) [] []) : vc C0 aAw14 Try.f18 [] [] (normK 0 K) := by
  refine Eq.mp (show ((((60 : Int) < 1 ∨ (65536 : Int) < 60) →
(K (SV.one (TV.at (At.val (Value.bool false)))) [] [])) ∧
(((1 : Int) ≤ 60) →
(((60 : Int) ≤ 65536) →
(∀ S : Arn,
  (((S) = (newS (Int.toNat 60))) →
  (∃ hs : List Int,
    (∃ t : Tr,
      ((upM S hs t 0) ∧
      (4 * (Hn ((↑t.size : Int) + 1) + 2) ≤ S.free) ∧
      (∀ S' : Arn,
        (∀ j : Int,
          (∀ o : Option Int,
            (((o) = (getE t.list 2)) →
            ((TrR S hs (insE t.list (2, 20)) (iB t.size) (5 * iB t.size + ht t + 1) S' j) →
            (∃ hs1 : List Int,
              (∃ t1 : Tr,
                (∃ v : Int,
                  ((upM S' hs1 t1 j) ∧
                  ((getE t1.list 2) = (some (v))) ∧
                  (4 * (Hn (↑t1.size : Int) + 2) ≤ S'.free) ∧
                  (∀ S'1 : Arn,
                    (∀ j1 : Int,
                      ((TrR S' hs1 (flt (neK 2) t1.list) (dB t1.size) (5 * dB t1.size + ht t1 + 1) S'1 j1) →
                      (brS (!o.isSome)
                        ((brS (j != 0)
                          ((brS (j1 == 0)
                            ((brS (v == 20)
                              (((inU j) ∧
                              (exW S'1) ∧
                              (S'1.reads < 4000000000000000000) ∧
                              (∀ S'2 : Arn,
                                (((S'2) = (rdS S'1 (S'1.us j).toNat)) →
                                (K (SV.one (TV.at (At.val (Value.bool ((S'1.nd j).size == 1))))) [] [])))))
                              ((K (SV.one (TV.at (At.val (Value.bool false)))) [] []))))
                            ((K (SV.one (TV.at (At.val (Value.bool false)))) [] []))))
                          ((K (SV.one (TV.at (At.val (Value.bool false)))) [] []))))
                        ((K (SV.one (TV.at (At.val (Value.bool false)))) [] []))))))))))))))))))))))) = _ by kernel_rfl) ?_
  refine ⟨fun c => by omega, fun _ _ S e => ?_⟩
  have e60 : Int.toNat 60 = 60 := rfl
  rw [e60] at e
  have w : Wf S [] := by rw [e]; exact Wf.new (by omega) (by omega)
  have f : S.free = 60 := by rw [e]; exact newS_free 60
  have rd : S.reads = 0 := by rw [e]; rfl
  have h0 := Hn_rng 0
  have a0 : Hn (0 : Int) = 0 := by decide
  have a1 : Hn (1 : Int) = 1 := by decide
  have i0 : iB 0 = 1 := by have := iB_Hn 0; have : (iB 0 : Int) = 4 * Hn 0 + 1 := this; omega
  refine ⟨[], .nil, ⟨w, rfl, trivial, List.Pairwise.nil, by decide, by simp, by omega⟩, ?_, fun S1 j o eo t1 => ?_⟩
  · show 4 * (Hn 1 + 2) ≤ S.free; omega
  have f1 := t1.got.free w
  have q1 := t1.got.rd
  rw [show Tr.nil.size = 0 from rfl] at f1 q1
  rw [show ht Tr.nil = 0 from rfl] at q1
  obtain ⟨t, rp, lt, bt⟩ := t1.tree
  have lt : t.list = [(2, 20)] := lt
  have sz : t.size = 1 := by rw [← t.list_len, lt]; rfl
  have hj : j ≠ 0 := fun e => by
    rw [e] at rp
    have := rp.zero t1.got.wf
    rw [this] at sz; cases sz
  refine ⟨[j], t, 20, ⟨t1.got.wf, rp, bt, by rw [lt]; exact List.pairwise_singleton _ _, by omega, by simp, by omega⟩, by rw [lt]; rfl, ?_, fun S2 j2 t2 => ?_⟩
  · rw [sz]; show 4 * (Hn 1 + 2) ≤ S1.free; omega
  have q2 := t2.got.rd
  have db : (dB t.size : Int) ≤ 4 * Hn t.size + 4 := dB_Hn _
  rw [sz] at db q2
  have a1' : Hn ((1 : Nat) : Int) = 1 := a1
  have hh := Bal.height bt (by omega)
  rw [sz] at hh
  obtain ⟨u, ru, lu, bu⟩ := t2.tree
  have lu : u.list = [] := by rw [lu, lt]; rfl
  have zu : u.size = 0 := by rw [← u.list_len, lu]; rfl
  have hj2 : j2 = 0 := by
    cases u with
    | nil => exact ru
    | node a k v b => simp [Tr.size] at zu
  have rp2 : Rep S2 t j := rp.held t1.got.wf t2.got.stay (.inr (by simp))
  have eo : o = none := eo
  refine bt7 (by rw [eo]; rfl) (bt7 (by simp [hj]) (bt7 (by simp [hj2]) (bt7 rfl ⟨inU_of t2.got.wf rp2.us, ⟨_, t2.got.wf⟩, by omega, fun S3 _ => ?_⟩)))
  rw [rp2.size t2.got.wf, sz]
  exact h
theorem s_aw14 : SoundT C0 18 tAw14 := by
  refine .of Try.func18 (by decide) rfl fun args H K h hB => ?_
  unfold tAw14 at h
  split at h <;> try exact h.elim
  exact ⟨aAw14, ⟨frame C0.ok s_new _, frame C0.ok s_upIn _, frame C0.ok s_upDe _, frame C0.ok s_size _, trivial⟩, vc_aw14 K h⟩
end Go.Proofs.Ytjbkckcjmmmooaa.Sx
end
section
/- The law that Insert inserts. -/
namespace Go.Proofs.Ytjbkckcjmmmooaa.Sx
open Go

/-KEEP Wf exW inU live Arn.cap Arn.free Rep rdS retL Tr.size Tr.list slotsOf orderOf PlantR newS insE listE getE TrR upM Hn keptD Asc Tr.Bal ht iB RepD List.Perm-/
structure XUi (P : Arn → Int → List Ent → Int → Prop) where
  S : Arn
  i : Int
  l : List Ent
  need : Int
  k : Int
  v : Int
  h : P S i l need
noncomputable def aUi (raw : List Ent) (P : Arn → Int → List Ent → Int → Prop) : Ann C0 := { quiet := [30, 38, 22, 31, 39, 32, 28], Γ := [(34, frameT [] tLst), (16, frameT [] (tRes1 4 1)), (37, frameT [] tSpare), (17, frameT [] tGrow), (18, frameT [] tAw14), (15, frameT [] tMod), (27, frameT [] tGet), (30, frameT [] tDump), (19, frameT [] tReads), (21, frameT [] tUpI), (24, frameT [] tMh), (23, frameT [] tWi), (22, frameT [] tFree), (31, frameT [] tSound), (38, frameT [] tSameD), (28, frameT [] tIns), (32, frameT [] tTr7), (39, frameT [] tKept)], inv := fun n => match n with
  | 1011 => some { X := XUi P, sl := [13, 14, 11, 12, 7], tf := fun x => [.one (.at (.ptr 1 0)), vi .u32 x.i, .one (.at (.slc 8)), vi .i64 x.need, .one (.at (.ptr 9 0))], hf := fun x => [.row false EC.ent raw] ++ chSk 1 x.S ++ [.row true EC.ent x.l, .box [vI x.k, vI x.v]] }
  | _ => none }
def tUi : Tfm C0 := fun args H K => match args, H with
  | [.at (.slc 0), .at (.val (.int .u64 t)), .agg [.val (.int .i64 _), .val (.int .i64 _)], .at (.val (.int .i64 at')), .at (.val (.int .u16 f))], [.row false .ent raw] => 0 ≤ t ∧ -9223372036854775808 ≤ at' ∧ at' ≤ 9223372036854775807 ∧ 0 ≤ f ∧ f ≤ 65535 ∧ K (.one (.at (vB true))) [.row false EC.ent raw] []
  | _, _ => False
def PUi (S : Arn) (i : Int) (l : List Ent) (need : Int) : Prop := ∃ t, upM S [i] t i ∧ t.list = l ∧ t.size = l.length ∧ l.length ≤ 150 ∧ need = 4 * (Hn ((l.length : Int) + 1) + 2) ∧ S.reads = 0
theorem retL_orders (S : Arn) (i : Int) : orderOf (retL S i) = orderOf S := by unfold retL; split <;> rfl
theorem mod_rng {a n x : Int} (hn : 0 < n) (e : x = a % n) : 0 ≤ x ∧ x < n := ⟨by rw [e]; exact Int.emod_nonneg _ (by omega), by rw [e]; exact Int.emod_lt_of_pos _ hn⟩
theorem not_some {o : Option Int} {v : Int} (h : o ≠ some v) (c : o.isSome = true) : (o.getD 0 == v) = false := by
  cases o with
  | none => cases c
  | some w => exact beq_false_of_ne fun e => h (by rw [show w = v from e])
theorem vc_ui (raw : List Ent) (t k v at' f : Int) (K : KT) (h0 : 0 ≤ t) (f1 : 0 ≤ f) (f2 : f ≤ 65535) (h : K (.one (.at (vB true))) [.row false EC.ent raw] []) :
    vc C0 (aUi raw PUi) Try.f6 [.at (.slc 0), .at (vU64 t), .agg [vI k, vI v], .at (vI at'), .at (.val (.int .u16 f))] [.row false EC.ent raw] (normK 1 K) := by
  generalize hP : PUi = P
  refine Eq.mp (show (((0 : Int) ≤ 150) ∧
((150 : Int) ≤ 1000000) ∧
(0 ≤ (↑(listE raw (Int.toNat 150)).length : Int)) ∧
((↑(listE raw (Int.toNat 150)).length : Int) ≤ 65536) ∧
(∀ p : Int,
  (((p) = (4 * (Hn ((↑(listE raw (Int.toNat 150)).length : Int) + 1) + 2))) →
  ((0 ≤ f) ∧
  (f ≤ 65535) ∧
  (0 ≤ p) ∧
  (p ≤ 60000) ∧
  (∀ s : Int,
    ((0 ≤ s) →
    ((s ≤ p + 8) →
    ((0 ≤ t) ∧
    (1 ≤ IntKind.i64.wrap (1 + s)) ∧
    (IntKind.i64.wrap (1 + s) ≤ 30000) ∧
    ((listE raw (Int.toNat 150)).length ≤ 30000) ∧
    (∀ S' : Arn,
      (∀ i : Int,
        ((PlantR (newS ((↑(listE raw (Int.toNat 150)).length : Int) + IntKind.i64.wrap (1 + s)).toNat) [] (listE raw (Int.toNat 150)) S' i) →
        ((brS (decide ((↑(listE raw (Int.toNat 150)).length : Int) > 0))
          ((brS (at'.tmod 3 != 0)
            (((0 < (↑(listE raw (Int.toNat 150)).length : Int)) ∧
            ((↑(listE raw (Int.toNat 150)).length : Int) ≤ 9223372036854775807) ∧
            (∀ x : Int,
              (((x) = (at' % (↑(listE raw (Int.toNat 150)).length : Int))) →
              ((0 ≤ x) ∧
              (x < (↑(listE raw (Int.toNat 150)).length : Int)) ∧
              (brS (at'.tmod 3 == 1)
                ((∃ x1 : XUi P,
                  (True ∧
                  (True ∧
                  True ∧
                  ((Value.int IntKind.i64 (p)) = (Value.int IntKind.i64 (x1.need))) ∧
                  True ∧
                  ((Value.int IntKind.u32 (i)) = (Value.int IntKind.u32 (x1.i))) ∧
                  True) ∧
                  ((raw) = (raw)) ∧
                  (True ∧
                  True ∧
                  True ∧
                  ((Value.int IntKind.u64 (S'.reads)) = (Value.int IntKind.u64 (x1.S.reads))) ∧
                  True) ∧
                  (True ∧
                  True ∧
                  True ∧
                  ((Value.int IntKind.u32 (S'.fresh)) = (Value.int IntKind.u32 (x1.S.fresh))) ∧
                  True) ∧
                  ((S'.nodes) = (x1.S.nodes)) ∧
                  ((S'.counts) = (x1.S.counts)) ∧
                  ((S'.used) = (x1.S.used)) ∧
                  ((S'.gen) = (x1.S.gen)) ∧
                  ((S'.rel) = (x1.S.rel)) ∧
                  ((listE raw (Int.toNat 150)) = (x1.l)) ∧
                  (((Value.int IntKind.i64 (((listE raw (Int.toNat 150)).getD x.toNat (0, 0)).fst)) = (Value.int IntKind.i64 (x1.k))) ∧
                  ((Value.int IntKind.i64 (((listE raw (Int.toNat 150)).getD x.toNat (0, 0)).snd)) = (Value.int IntKind.i64 (x1.v))) ∧
                  True) ∧
                  True)))
                ((∃ x1 : XUi P,
                  (True ∧
                  (True ∧
                  True ∧
                  ((Value.int IntKind.i64 (p)) = (Value.int IntKind.i64 (x1.need))) ∧
                  True ∧
                  ((Value.int IntKind.u32 (i)) = (Value.int IntKind.u32 (x1.i))) ∧
                  True) ∧
                  ((raw) = (raw)) ∧
                  (True ∧
                  True ∧
                  True ∧
                  ((Value.int IntKind.u64 (S'.reads)) = (Value.int IntKind.u64 (x1.S.reads))) ∧
                  True) ∧
                  (True ∧
                  True ∧
                  True ∧
                  ((Value.int IntKind.u32 (S'.fresh)) = (Value.int IntKind.u32 (x1.S.fresh))) ∧
                  True) ∧
                  ((S'.nodes) = (x1.S.nodes)) ∧
                  ((S'.counts) = (x1.S.counts)) ∧
                  ((S'.used) = (x1.S.used)) ∧
                  ((S'.gen) = (x1.S.gen)) ∧
                  ((S'.rel) = (x1.S.rel)) ∧
                  ((listE raw (Int.toNat 150)) = (x1.l)) ∧
                  (((Value.int IntKind.i64 (((listE raw (Int.toNat 150)).getD x.toNat (0, 0)).fst)) = (Value.int IntKind.i64 (x1.k))) ∧
                  ((Value.int IntKind.i64 (v)) = (Value.int IntKind.i64 (x1.v))) ∧
                  True) ∧
                  True)))))))))
            ((∃ x : XUi P,
              (True ∧
              (True ∧
              True ∧
              ((Value.int IntKind.i64 (p)) = (Value.int IntKind.i64 (x.need))) ∧
              True ∧
              ((Value.int IntKind.u32 (i)) = (Value.int IntKind.u32 (x.i))) ∧
              True) ∧
              ((raw) = (raw)) ∧
              (True ∧
              True ∧
              True ∧
              ((Value.int IntKind.u64 (S'.reads)) = (Value.int IntKind.u64 (x.S.reads))) ∧
              True) ∧
              (True ∧
              True ∧
              True ∧
              ((Value.int IntKind.u32 (S'.fresh)) = (Value.int IntKind.u32 (x.S.fresh))) ∧
              True) ∧
              ((S'.nodes) = (x.S.nodes)) ∧
              ((S'.counts) = (x.S.counts)) ∧
              ((S'.used) = (x.S.used)) ∧
              ((S'.gen) = (x.S.gen)) ∧
              ((S'.rel) = (x.S.rel)) ∧
              ((listE raw (Int.toNat 150)) = (x.l)) ∧
              (((Value.int IntKind.i64 (k)) = (Value.int IntKind.i64 (x.k))) ∧
              ((Value.int IntKind.i64 (v)) = (Value.int IntKind.i64 (x.v))) ∧
              True) ∧
              True)))))
          ((∃ x : XUi P,
            (True ∧
            (True ∧
            True ∧
            ((Value.int IntKind.i64 (p)) = (Value.int IntKind.i64 (x.need))) ∧
            True ∧
            ((Value.int IntKind.u32 (i)) = (Value.int IntKind.u32 (x.i))) ∧
            True) ∧
            ((raw) = (raw)) ∧
            (True ∧
            True ∧
            True ∧
            ((Value.int IntKind.u64 (S'.reads)) = (Value.int IntKind.u64 (x.S.reads))) ∧
            True) ∧
            (True ∧
            True ∧
            True ∧
            ((Value.int IntKind.u32 (S'.fresh)) = (Value.int IntKind.u32 (x.S.fresh))) ∧
            True) ∧
            ((S'.nodes) = (x.S.nodes)) ∧
            ((S'.counts) = (x.S.counts)) ∧
            ((S'.used) = (x.S.used)) ∧
            ((S'.gen) = (x.S.gen)) ∧
            ((S'.rel) = (x.S.rel)) ∧
            ((listE raw (Int.toNat 150)) = (x.l)) ∧
            (((Value.int IntKind.i64 (k)) = (Value.int IntKind.i64 (x.k))) ∧
            ((Value.int IntKind.i64 (v)) = (Value.int IntKind.i64 (x.v))) ∧
            True) ∧
            True)))) ∧
        (∀ x : XUi P,
          (True →
          (∀ x1 : Option Int,
            (((x1) = (getE x.l x.k)) →
            ((exW x.S) ∧
            (∀ d : List SlotT,
              (∀ o : List Int,
                (((d) = (slotsOf x.S)) →
                (((o) = (orderOf x.S)) →
                (∃ hs : List Int,
                  (∃ t1 : Tr,
                    ((upM x.S hs t1 x.i) ∧
                    (((getE t1.list x.k) = (some (x.v))) →
                    (∀ S'1 : Arn,
                      (∀ m : Nat,
                        (((S'1) = (retL (rdS x.S m) x.i)) →
                        ((m ≤ ht t1) →
                        ((0 ≤ IntKind.i64.wrap ((↑x.l.length : Int) + 1)) ∧
                        (IntKind.i64.wrap ((↑x.l.length : Int) + 1) ≤ 2147483647) ∧
                        (∀ h : Int,
                          (((h) = (Hn (IntKind.i64.wrap ((↑x.l.length : Int) + 1)))) →
                          ((0 ≤ x.S.reads) ∧
                          (x.S.reads ≤ S'1.reads) ∧
                          (S'1.reads ≤ 4000000000000000000) ∧
                          (S'1.reads - x.S.reads ≤ IntKind.i64.wrap (60 * IntKind.i64.wrap (h + 2))) ∧
                          (IntKind.i64.wrap (60 * IntKind.i64.wrap (h + 2)) ≤ 4000000000000000000) ∧
                          (brS (x1.isSome)
                            ((brS (x1.getD 0 == x.v)
                              ((brS (x.i == x.i)
                                ((brS (x.v == x1.getD 0)
                                  (((exW S'1) ∧
                                  (brS (S'1.free == (↑o.length : Int))
                                    ((∃ hs1 : List Int,
                                      ((Wf S'1 hs1) ∧
                                      ([x.i, x.i].Perm hs1) ∧
                                      ([x.i, x.i].length ≤ 1000000) ∧
                                      (K (SV.one (TV.at (At.val (Value.bool true)))) [(Chunk.row false (EC.ent) (raw))] []))))
                                    ((K (SV.one (TV.at (At.val (Value.bool false)))) [(Chunk.row false (EC.ent) (raw))] [])))))
                                  ((K (SV.one (TV.at (At.val (Value.bool false)))) [(Chunk.row false (EC.ent) (raw))] []))))
                                ((K (SV.one (TV.at (At.val (Value.bool false)))) [(Chunk.row false (EC.ent) (raw))] []))))
                              ((brS (decide ((↑o.length : Int) < x.need))
                                ((K (SV.one (TV.at (At.val (Value.bool false)))) [(Chunk.row false (EC.ent) (raw))] []))
                                (((exW S'1) ∧
                                (∀ d1 : List SlotT,
                                  (∀ o1 : List Int,
                                    (((d1) = (slotsOf S'1)) →
                                    (((o1) = (orderOf S'1)) →
                                    (brS (x.v == x1.getD 0)
                                      ((brS (true == x1.isSome)
                                        (((x.l.length ≤ 1000000) ∧
                                        (d1.length ≤ 1000000) ∧
                                        (∃ t2 : Tr,
                                          ((RepD d1 t2 x.i) ∧
                                          (Asc t2.list) ∧
                                          (t2.Bal) ∧
                                          (t2.size ≤ 2 * d1.length + 2) ∧
                                          (t2.size ≤ 1000000) ∧
                                          ((t2.list) = (insE x.l (x.k, x.v))))) ∧
                                        (keptD d d1) ∧
                                        (d.length ≤ 1000000) ∧
                                        (∃ hs1 : List Int,
                                          ((Wf S'1 hs1) ∧
                                          ([x.i, x.i].Perm hs1) ∧
                                          ([x.i, x.i].length ≤ 1000000) ∧
                                          (K (SV.one (TV.at (At.val (Value.bool (decide (IntKind.i64.wrap ((↑o.length : Int) - (↑o1.length : Int)) ≤ x.need)))))) [(Chunk.row false (EC.ent) (raw))] [])))))
                                        ((K (SV.one (TV.at (At.val (Value.bool false)))) [(Chunk.row false (EC.ent) (raw))] []))))
                                      ((K (SV.one (TV.at (At.val (Value.bool false)))) [(Chunk.row false (EC.ent) (raw))] [])))))))))))))
                            ((brS (decide ((↑o.length : Int) < x.need))
                              ((K (SV.one (TV.at (At.val (Value.bool false)))) [(Chunk.row false (EC.ent) (raw))] []))
                              (((exW S'1) ∧
                              (∀ d1 : List SlotT,
                                (∀ o1 : List Int,
                                  (((d1) = (slotsOf S'1)) →
                                  (((o1) = (orderOf S'1)) →
                                  (brS (x.v == x1.getD 0)
                                    ((brS (true == x1.isSome)
                                      (((x.l.length ≤ 1000000) ∧
                                      (d1.length ≤ 1000000) ∧
                                      (∃ t2 : Tr,
                                        ((RepD d1 t2 x.i) ∧
                                        (Asc t2.list) ∧
                                        (t2.Bal) ∧
                                        (t2.size ≤ 2 * d1.length + 2) ∧
                                        (t2.size ≤ 1000000) ∧
                                        ((t2.list) = (insE x.l (x.k, x.v))))) ∧
                                      (keptD d d1) ∧
                                      (d.length ≤ 1000000) ∧
                                      (∃ hs1 : List Int,
                                        ((Wf S'1 hs1) ∧
                                        ([x.i, x.i].Perm hs1) ∧
                                        ([x.i, x.i].length ≤ 1000000) ∧
                                        (K (SV.one (TV.at (At.val (Value.bool (decide (IntKind.i64.wrap ((↑o.length : Int) - (↑o1.length : Int)) ≤ x.need)))))) [(Chunk.row false (EC.ent) (raw))] [])))))
                                      ((K (SV.one (TV.at (At.val (Value.bool false)))) [(Chunk.row false (EC.ent) (raw))] []))))
                                    ((K (SV.one (TV.at (At.val (Value.bool false)))) [(Chunk.row false (EC.ent) (raw))] []))))))))))))))))))))) ∧
                    ((getE t1.list x.k ≠ some x.v) →
                    ((x.S.free < 4 * (Hn ((↑t1.size : Int) + 1) + 2)) →
                    (∀ S'1 : Arn,
                      (∀ m : Nat,
                        (((S'1) = (rdS x.S m)) →
                        ((m ≤ ht t1 + 1) →
                        ((0 ≤ IntKind.i64.wrap ((↑x.l.length : Int) + 1)) ∧
                        (IntKind.i64.wrap ((↑x.l.length : Int) + 1) ≤ 2147483647) ∧
                        (∀ h : Int,
                          (((h) = (Hn (IntKind.i64.wrap ((↑x.l.length : Int) + 1)))) →
                          ((0 ≤ x.S.reads) ∧
                          (x.S.reads ≤ S'1.reads) ∧
                          (S'1.reads ≤ 4000000000000000000) ∧
                          (S'1.reads - x.S.reads ≤ IntKind.i64.wrap (60 * IntKind.i64.wrap (h + 2))) ∧
                          (IntKind.i64.wrap (60 * IntKind.i64.wrap (h + 2)) ≤ 4000000000000000000) ∧
                          (brS (x1.isSome)
                            ((brS (x1.getD 0 == x.v)
                              ((K (SV.one (TV.at (At.val (Value.bool false)))) [(Chunk.row false (EC.ent) (raw))] []))
                              ((brS (decide ((↑o.length : Int) < x.need))
                                (((exW S'1) ∧
                                (∀ d1 : List SlotT,
                                  (∀ o1 : List Int,
                                    (((d1) = (slotsOf S'1)) →
                                    (((o1) = (orderOf S'1)) →
                                    (((d1) = (d)) ∧
                                    ((o1) = (o)) ∧
                                    (d1.length ≤ 1000000) ∧
                                    (o1.length ≤ 1000000) ∧
                                    (K (SV.one (TV.at (At.val (Value.bool true)))) [(Chunk.row false (EC.ent) (raw))] []))))))))
                                (((exW S'1) ∧
                                (∀ d1 : List SlotT,
                                  (∀ o1 : List Int,
                                    (((d1) = (slotsOf S'1)) →
                                    (((o1) = (orderOf S'1)) →
                                    (K (SV.one (TV.at (At.val (Value.bool false)))) [(Chunk.row false (EC.ent) (raw))] [])))))))))))
                            ((brS (decide ((↑o.length : Int) < x.need))
                              (((exW S'1) ∧
                              (∀ d1 : List SlotT,
                                (∀ o1 : List Int,
                                  (((d1) = (slotsOf S'1)) →
                                  (((o1) = (orderOf S'1)) →
                                  (((d1) = (d)) ∧
                                  ((o1) = (o)) ∧
                                  (d1.length ≤ 1000000) ∧
                                  (o1.length ≤ 1000000) ∧
                                  (K (SV.one (TV.at (At.val (Value.bool true)))) [(Chunk.row false (EC.ent) (raw))] []))))))))
                              (((exW S'1) ∧
                              (∀ d1 : List SlotT,
                                (∀ o1 : List Int,
                                  (((d1) = (slotsOf S'1)) →
                                  (((o1) = (orderOf S'1)) →
                                  (K (SV.one (TV.at (At.val (Value.bool false)))) [(Chunk.row false (EC.ent) (raw))] [])))))))))))))))))))) ∧
                    ((getE t1.list x.k ≠ some x.v) →
                    ((4 * (Hn ((↑t1.size : Int) + 1) + 2) ≤ x.S.free) →
                    (∀ S'1 : Arn,
                      (∀ j : Int,
                        (∀ o1 : Option Int,
                          (((o1) = (getE t1.list x.k)) →
                          ((TrR x.S hs (insE t1.list (x.k, x.v)) (iB t1.size) (5 * iB t1.size + ht t1 + 1) S'1 j) →
                          ((0 ≤ IntKind.i64.wrap ((↑x.l.length : Int) + 1)) ∧
                          (IntKind.i64.wrap ((↑x.l.length : Int) + 1) ≤ 2147483647) ∧
                          (∀ h : Int,
                            (((h) = (Hn (IntKind.i64.wrap ((↑x.l.length : Int) + 1)))) →
                            ((0 ≤ x.S.reads) ∧
                            (x.S.reads ≤ S'1.reads) ∧
                            (S'1.reads ≤ 4000000000000000000) ∧
                            (S'1.reads - x.S.reads ≤ IntKind.i64.wrap (60 * IntKind.i64.wrap (h + 2))) ∧
                            (IntKind.i64.wrap (60 * IntKind.i64.wrap (h + 2)) ≤ 4000000000000000000) ∧
                            (brS (x1.isSome)
                              ((brS (x1.getD 0 == x.v)
                                ((brS (j == x.i)
                                  ((brS (o1.getD 0 == x1.getD 0)
                                    ((brS (o1.isSome)
                                      (((exW S'1) ∧
                                      (brS (S'1.free == (↑o.length : Int))
                                        ((∃ hs1 : List Int,
                                          ((Wf S'1 hs1) ∧
                                          ([x.i, j].Perm hs1) ∧
                                          ([x.i, j].length ≤ 1000000) ∧
                                          (K (SV.one (TV.at (At.val (Value.bool true)))) [(Chunk.row false (EC.ent) (raw))] []))))
                                        ((K (SV.one (TV.at (At.val (Value.bool false)))) [(Chunk.row false (EC.ent) (raw))] [])))))
                                      ((K (SV.one (TV.at (At.val (Value.bool false)))) [(Chunk.row false (EC.ent) (raw))] []))))
                                    ((K (SV.one (TV.at (At.val (Value.bool false)))) [(Chunk.row false (EC.ent) (raw))] []))))
                                  ((K (SV.one (TV.at (At.val (Value.bool false)))) [(Chunk.row false (EC.ent) (raw))] []))))
                                ((brS (decide ((↑o.length : Int) < x.need))
                                  ((K (SV.one (TV.at (At.val (Value.bool false)))) [(Chunk.row false (EC.ent) (raw))] []))
                                  (((exW S'1) ∧
                                  (∀ d1 : List SlotT,
                                    (∀ o2 : List Int,
                                      (((d1) = (slotsOf S'1)) →
                                      (((o2) = (orderOf S'1)) →
                                      (brS (o1.getD 0 == x1.getD 0)
                                        ((brS (o1.isSome == x1.isSome)
                                          (((x.l.length ≤ 1000000) ∧
                                          (d1.length ≤ 1000000) ∧
                                          (∃ t2 : Tr,
                                            ((RepD d1 t2 j) ∧
                                            (Asc t2.list) ∧
                                            (t2.Bal) ∧
                                            (t2.size ≤ 2 * d1.length + 2) ∧
                                            (t2.size ≤ 1000000) ∧
                                            ((t2.list) = (insE x.l (x.k, x.v))))) ∧
                                          (keptD d d1) ∧
                                          (d.length ≤ 1000000) ∧
                                          (∃ hs1 : List Int,
                                            ((Wf S'1 hs1) ∧
                                            ([x.i, j].Perm hs1) ∧
                                            ([x.i, j].length ≤ 1000000) ∧
                                            (K (SV.one (TV.at (At.val (Value.bool (decide (IntKind.i64.wrap ((↑o.length : Int) - (↑o2.length : Int)) ≤ x.need)))))) [(Chunk.row false (EC.ent) (raw))] [])))))
                                          ((K (SV.one (TV.at (At.val (Value.bool false)))) [(Chunk.row false (EC.ent) (raw))] []))))
                                        ((K (SV.one (TV.at (At.val (Value.bool false)))) [(Chunk.row false (EC.ent) (raw))] [])))))))))))))
                              ((brS (decide ((↑o.length : Int) < x.need))
                                ((K (SV.one (TV.at (At.val (Value.bool false)))) [(Chunk.row false (EC.ent) (raw))] []))
                                (((exW S'1) ∧
                                (∀ d1 : List SlotT,
                                  (∀ o2 : List Int,
                                    (((d1) = (slotsOf S'1)) →
                                    (((o2) = (orderOf S'1)) →
                                    (brS (o1.getD 0 == x1.getD 0)
                                      ((brS (o1.isSome == x1.isSome)
                                        (((x.l.length ≤ 1000000) ∧
                                        (d1.length ≤ 1000000) ∧
                                        (∃ t2 : Tr,
                                          ((RepD d1 t2 j) ∧
                                          (Asc t2.list) ∧
                                          (t2.Bal) ∧
                                          (t2.size ≤ 2 * d1.length + 2) ∧
                                          (t2.size ≤ 1000000) ∧
                                          ((t2.list) = (insE x.l (x.k, x.v))))) ∧
                                        (keptD d d1) ∧
                                        (d.length ≤ 1000000) ∧
                                        (∃ hs1 : List Int,
                                          ((Wf S'1 hs1) ∧
                                          ([x.i, j].Perm hs1) ∧
                                          ([x.i, j].length ≤ 1000000) ∧
                                          (K (SV.one (TV.at (At.val (Value.bool (decide (IntKind.i64.wrap ((↑o.length : Int) - (↑o2.length : Int)) ≤ x.need)))))) [(Chunk.row false (EC.ent) (raw))] [])))))
                                        ((K (SV.one (TV.at (At.val (Value.bool false)))) [(Chunk.row false (EC.ent) (raw))] []))))
                                      ((K (SV.one (TV.at (At.val (Value.bool false)))) [(Chunk.row false (EC.ent) (raw))] []))))))))))))))))))))))))))))))))))))))))))))))) = _ by kernel_rfl) ?_
  subst hP
  obtain ⟨la, ll⟩ := listE_spec raw 150
  have e150 : Int.toNat 150 = 150 := rfl
  rw [e150]
  generalize listE raw 150 = l at *
  have hH := Hn_rng ((l.length : Int) + 1)
  refine ⟨by decide, by decide, by omega, by omega, fun p ep => ⟨f1, f2, by omega, by omega, fun s s1 s2 => ?_⟩⟩
  rw [wrap_id (x := 1 + s) (by omega) (by omega)]
  refine ⟨h0, by omega, by omega, by omega, fun S1 i hp => ?_⟩
  obtain ⟨t1, up, lt, zt⟩ := plant_up hp la (by omega)
  have rd0 : S1.reads = 0 := by rw [hp.rds]; rfl
  have hP : PUi S1 i l p := ⟨t1, up, lt, zt, ll, ep, rd0⟩
  refine ⟨brS_of (fun c => brS_of (fun _ => ⟨by have := of_decide_eq_true c; omega, by omega, fun x ex => ⟨?_, ?_, brS_of (fun _ => ⟨⟨S1, i, l, p, (l.getD x.toNat (0, 0)).1, (l.getD x.toNat (0, 0)).2, hP⟩, ?_⟩) fun _ => ⟨⟨S1, i, l, p, (l.getD x.toNat (0, 0)).1, v, hP⟩, ?_⟩⟩⟩) fun _ => ⟨⟨S1, i, l, p, k, v, hP⟩, ?_⟩) fun _ => ⟨⟨S1, i, l, p, k, v, hP⟩, ?_⟩, fun x _ => ?_⟩
  · exact (mod_rng (of_decide_eq_true c) ex).1
  · exact (mod_rng (of_decide_eq_true c) ex).2
  iterate 4 (· (repeat' first | exact trivial | exact rfl | refine And.intro ?_ ?_))
  clear hP hp up lt zt rd0 hH ep s1 s2 la ll t1 S1 i k v
  obtain ⟨S, i, m, need, k, v, ⟨t, up, lt, zt, ll, en, rd0⟩⟩ := x
  dsimp only
  obtain ⟨w, rp, bal, asc, sz, hl, rd⟩ := id up
  have xw : exW S := ⟨_, w⟩
  have hb := Bal.height bal (by omega)
  have hH := Hn_rng t.size
  have hH1 := Hn_rng ((m.length : Int) + 1)
  have hmo := Hn_mono1 t.size
  have hi := iB_Hn t.size
  have ol := order_free w
  have fn := w.free_nonneg
  have sl := slots_le w
  rw [zt] at hmo hH hi hb
  intro x1 e1
  rw [← lt] at e1
  refine ⟨xw, fun d o ed eo => ⟨[i], t, up, fun hs S1 n es hm => ?_, fun hn hf S1 n es hm => ?_, fun hn hf S1 j o1 eo1 tr => ?_⟩⟩
  · rw [wrap_id (x := (m.length : Int) + 1) (by omega) (by omega)]
    refine ⟨by omega, by omega, fun hh eh => ?_⟩
    rw [wrap_id (x := hh + 2) (by omega) (by omega), wrap_id (x := 60 * (hh + 2)) (by omega) (by omega)]
    have q1 : S1.reads = n := by rw [es, (retL_flds _ _).1]; show S.reads + (n : Int) = n; omega
    have g := hold_tr (a := 0) (b := n) w rp bal (by simp) (by omega) es (by omega) rfl
    have w1 := g.got.wf
    have fr : S1.free = S.free := by rw [es, retL_free]; rfl
    have ex : x1 = some v := by rw [e1, hs]
    rw [ex]
    exact ⟨by omega, by omega, by omega, by omega, by omega, bt7 rfl (bt7 (by simp) (bt7 (by simp) (bt7 (by simp) ⟨⟨_, w1⟩, bt7 (by rw [fr, eo, ol]; simp) ⟨_, w1, List.Perm.refl _, by simp, h⟩⟩)))⟩
  · rw [wrap_id (x := (m.length : Int) + 1) (by omega) (by omega)]
    refine ⟨by omega, by omega, fun hh eh => ?_⟩
    rw [wrap_id (x := hh + 2) (by omega) (by omega), wrap_id (x := 60 * (hh + 2)) (by omega) (by omega)]
    have q1 : S1.reads = n := by rw [es]; show S.reads + (n : Int) = n; omega
    have w1 : Wf S1 [i] := by rw [es]; exact w.rd (by omega)
    rw [zt] at hf
    refine ⟨by omega, by omega, by omega, by omega, by omega, brS_of (fun c => bf7 (not_some (by rw [e1]; exact hn) c) ?_) fun c => ?_⟩
    all_goals
      exact bt7 (decide_eq_true (by rw [eo]; omega)) ⟨⟨_, w1⟩, fun d1 o1 e2 e3 => ⟨by rw [e2, ed, es]; rfl, by rw [e3, eo, es]; rfl, by rw [e2]; have := slots_le w1; omega, by rw [e3]; have := order_len w1; omega, h⟩⟩
  · rw [wrap_id (x := (m.length : Int) + 1) (by omega) (by omega)]
    refine ⟨by omega, by omega, fun hh eh => ?_⟩
    rw [wrap_id (x := hh + 2) (by omega) (by omega), wrap_id (x := 60 * (hh + 2)) (by omega) (by omega)]
    have q0 := tr.got.rd0
    have q1 := tr.got.rd
    have w1 := tr.got.wf
    have f1 := tr.got.free w
    have fn1 := w1.free_nonneg
    have ol1 := order_free w1
    rw [zt] at hf f1 q1
    have eoo : o1 = x1 := by rw [e1, eo1]
    rw [eoo]
    have hT := tr.tree
    obtain ⟨u, ru, lu, bu⟩ := hT
    have ut := tr_tree w1 ru lu bu (insE_asc _ asc)
    rw [lt] at ut
    refine ⟨by omega, by omega, by omega, by omega, by omega, brS_of (fun c => bf7 (not_some (by rw [e1]; exact hn) c) ?_) fun c => ?_⟩
    all_goals
      refine bf7 (decide_eq_false (by rw [eo]; omega)) ⟨⟨_, w1⟩, fun d1 o2 e2 e3 => bt7 (by simp) (bt7 (by simp) ⟨by omega, by rw [e2]; have := slots_le w1; omega, ?_, ?_, by rw [ed]; omega, [j, i], w1, List.Perm.swap _ _ _, by simp, ?_⟩)⟩
      · rw [e2]; exact ut
      · rw [ed, e2]; exact kept_of w tr.got.stay tr.got.len
      · rw [eo, e3, ol, ol1, wrap_id (x := S.free - S1.free) (by omega) (by omega), decide_eq_true (by omega)]
        exact h
theorem s_ui : SoundT C0 6 tUi := by
  refine .of Try.func6 (by decide) rfl fun args H K h hB => ?_
  unfold tUi at h
  split at h <;> try exact h.elim
  rename_i t k v at' f raw
  obtain ⟨h1, _, _, h2, h3, h⟩ := h
  exact ⟨aUi raw PUi, ⟨frame C0.ok s_lst _, frame C0.ok s_nIns _, frame C0.ok s_spare14 _, frame C0.ok s_grow _, frame C0.ok s_aw14 _, frame C0.ok s_mod _, frame C0.ok s_get _, frame C0.ok s_dump _, frame C0.ok s_rds _, frame C0.ok s_upI _, frame C0.ok s_ht _, frame C0.ok s_wi _, frame C0.ok s_free _, frame C0.ok s_sound _, frame C0.ok s_sameD _, frame C0.ok s_ins _, frame C0.ok s_tr7 _, frame C0.ok s_kept _, trivial⟩, vc_ui raw t k v at' f K h1 h2 h3 h⟩
end Go.Proofs.Ytjbkckcjmmmooaa.Sx
end
