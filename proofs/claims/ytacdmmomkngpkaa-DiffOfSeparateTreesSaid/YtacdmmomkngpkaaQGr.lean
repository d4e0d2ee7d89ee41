/- Build, Grow, and the example of the chapter on bulk operations. -/
import Derived.Test.YtacdmmomkngpkaaQBl
import Derived.Test.YtacdmmomkngpkaaQKt
import Derived.Test.YtacdmmomkngpkaaArF
namespace Go.Proofs.Ytacdmmomkngpkaa.Sx
open Go

/-KEEP Wf exW inU live Arn.cap Arn.free Rep rdS Tr.size BuildR PlantR rangeR newS ascB-/
def tBldA : Tfm C0 := fun args H K => match args with
  | [.at (.ptr 0 0), .at (.slc 7)] => arMr H fun S rest => match rest with
    | [.row false .ent l] => ∃ hs, Wf S hs ∧ l.length ≤ 100000 ∧ (l.length : Int) ≤ S.free ∧ hs.length + l.length ≤ 800000000 ∧ ∀ S' i, BuildR S hs l S' i → K (.one (.at (vU i))) (chS S' ++ [.row false EC.ent l]) W7
    | _ => False
  | _ => False
theorem s_bldA : SoundT C0 81 tBldA := (s_bld 100001).weak fun args H K h => by
  unfold tBldA at h
  unfold tBld
  split at h <;> try exact h.elim
  unfold arMr at h ⊢
  split at h <;> try exact h.elim
  split at h <;> try exact h.elim
  obtain ⟨hs, h1, h2, h3, h4, h5⟩ := h
  exact ⟨hs, h1, by omega, h2, h3, h4, h5⟩
noncomputable def aBuild (S : Arn) (l : List Ent) : Ann C0 := { Γ := [(21, frameT [] tFree), (81, frameT [] tBldA)], inv := fun n => match n with
  | 2 => some { X := XA l, sl := [6], tf := fun x => [vi .i64 x.i], hf := fun _ => chS S ++ [.row false EC.ent l], μ := fun x => l.length - x.i }
  | _ => none }
def tBuild : Tfm C0 := fun args H K => match args with
  | [.at (.ptr 0 0), .at (.slc 7)] => arMr H fun S rest => match rest with
    | [.row false .ent l] => ∃ hs, Wf S hs ∧ l.length ≤ 100000 ∧ hs.length + l.length ≤ 800000000 ∧ (ascB l = false → K (.tup [.at (vU 0), .at (vI 7)]) (chS S ++ [.row false EC.ent l]) W7) ∧
      (ascB l = true → S.free < l.length → K (.tup [.at (vU 0), .at (vI 2)]) (chS S ++ [.row false EC.ent l]) W7) ∧
      (ascB l = true → (l.length : Int) ≤ S.free → ∀ S' i, BuildR S hs l S' i → K (.tup [.at (vU i), .at (vI 0)]) (chS S' ++ [.row false EC.ent l]) W7)
    | _ => False
  | _ => False
abbrev chSk (k : Nat) (S : Arn) : List (Chunk C0) := [.box [.ptr (k + 1) 0, .slc (k + 2), .slc (k + 3), vU64 S.reads], .box [.slc (k + 4), .slc (k + 5), .slc (k + 6), vU S.fresh], .row true EC.node S.nodes, .row true EC.int S.counts, .row true EC.bool S.used, .row true EC.u32 S.gen, .row true EC.u32 S.rel]
noncomputable def aGrow : Ann C0 := { Γ := [(14, frameT [] tNew), (46, frameT [] tPlantA)] }
def tGrow : Tfm C0 := fun args H K => match args, H with
  | [.at (.slc 0), .at (.val (.int .u64 t)), .at (.val (.int .i64 sp))], [.row false .ent l] => 0 ≤ t ∧ 1 ≤ sp ∧ sp ≤ 30000 ∧ l.length ≤ 30000 ∧ ∀ S' i, PlantR (newS ((l.length : Int) + sp).toNat) [] l S' i → K (.tup [.at (.ptr 1 0), .at (vU i), .at (vB true)]) ([.row false EC.ent l] ++ chSk 1 S') []
  | _, _ => False
noncomputable def aAwake15 : Ann C0 := { Γ := [(14, frameT [] tNew), (26, frameT [] tBuild), (75, frameT [] tNode), (59, frameT [] tList)] }
def tAwake15 : Tfm C0 := fun args H K => match args, H with
  | [], [] => K (.one (.at (vB true))) [] []
  | _, _ => False
theorem vc_build (S : Arn) (l : List Ent) (K : KT) (hs : List Int) (hw : Wf S hs) (h1 : l.length ≤ 100000) (h2 : hs.length + l.length ≤ 800000000) (ha : ascB l = false → K (.tup [.at (vU 0), .at (vI 7)]) (chS S ++ [.row false EC.ent l]) W7)
    (hb : ascB l = true → S.free < l.length → K (.tup [.at (vU 0), .at (vI 2)]) (chS S ++ [.row false EC.ent l]) W7) (hc : ascB l = true → (l.length : Int) ≤ S.free → ∀ S' i, BuildR S hs l S' i → K (.tup [.at (vU i), .at (vI 0)]) (chS S' ++ [.row false EC.ent l]) W7) :
    vc C0 (aBuild S l) Try.f26 [.at (.ptr 0 0), .at (.slc 7)] (chS S ++ [.row false EC.ent l]) (normK 8 (wideK W7 K)) := by
  refine Eq.mp (show ((∃ x : XA l,
  (True ∧
  (True ∧
  True ∧
  ((Value.int IntKind.i64 1) = (Value.int IntKind.i64 ((↑x.i : Int)))) ∧
  True) ∧
  (True ∧
  True ∧
  True ∧
  ((Value.int IntKind.u64 (S.reads)) = (Value.int IntKind.u64 (S.reads))) ∧
  True) ∧
  (True ∧
  True ∧
  True ∧
  ((Value.int IntKind.u32 (S.fresh)) = (Value.int IntKind.u32 (S.fresh))) ∧
  True) ∧
  ((S.nodes) = (S.nodes)) ∧
  ((S.counts) = (S.counts)) ∧
  ((S.used) = (S.used)) ∧
  ((S.gen) = (S.gen)) ∧
  ((S.rel) = (S.rel)) ∧
  ((l) = (l)) ∧
  True)) ∧
(∀ x : XA l,
  (True →
  (brS (decide ((↑x.i : Int) < (↑l.length : Int)))
    (((0 ≤ (↑x.i : Int)) ∧
    ((↑x.i : Int) < (↑l.length : Int)) ∧
    (0 ≤ IntKind.i64.wrap ((↑x.i : Int) - 1)) ∧
    (IntKind.i64.wrap ((↑x.i : Int) - 1) < (↑l.length : Int)) ∧
    (brS (decide ((eA l x.i).fst ≤ (l.getD (IntKind.i64.wrap ((↑x.i : Int) - 1)).toNat (0, 0)).fst))
      ((K (SV.tup [(TV.at (At.val (Value.int IntKind.u32 0))), (TV.at (At.val (Value.int IntKind.i64 7)))]) [(Chunk.box [(At.ptr 1 0), (At.slc 2), (At.slc 3), (At.val (Value.int IntKind.u64 (S.reads)))]), (Chunk.box [(At.slc 4), (At.slc 5), (At.slc 6), (At.val (Value.int IntKind.u32 (S.fresh)))]), (Chunk.row true (EC.node) (S.nodes)), (Chunk.row true (EC.int) (S.counts)), (Chunk.row true (EC.bool) (S.used)), (Chunk.row true (EC.u32) (S.gen)), (Chunk.row true (EC.u32) (S.rel)), (Chunk.row false (EC.ent) (l))] [0, 1, 2, 3, 4, 5, 6]))
      ((∃ x' : XA l,
        (True ∧
        ((True ∧
        True ∧
        ((Value.int IntKind.i64 (IntKind.i64.wrap ((↑x.i : Int) + 1))) = (Value.int IntKind.i64 ((↑x'.i : Int)))) ∧
        True) ∧
        (True ∧
        True ∧
        True ∧
        ((Value.int IntKind.u64 (S.reads)) = (Value.int IntKind.u64 (S.reads))) ∧
        True) ∧
        (True ∧
        True ∧
        True ∧
        ((Value.int IntKind.u32 (S.fresh)) = (Value.int IntKind.u32 (S.fresh))) ∧
        True) ∧
        ((S.nodes) = (S.nodes)) ∧
        ((S.counts) = (S.counts)) ∧
        ((S.used) = (S.used)) ∧
        ((S.gen) = (S.gen)) ∧
        ((S.rel) = (S.rel)) ∧
        ((l) = (l)) ∧
        True) ∧
        (l.length - x'.i < l.length - x.i)))))))
    (((exW S) ∧
    (brS (decide (S.free < (↑l.length : Int)))
      ((K (SV.tup [(TV.at (At.val (Value.int IntKind.u32 0))), (TV.at (At.val (Value.int IntKind.i64 2)))]) [(Chunk.box [(At.ptr 1 0), (At.slc 2), (At.slc 3), (At.val (Value.int IntKind.u64 (S.reads)))]), (Chunk.box [(At.slc 4), (At.slc 5), (At.slc 6), (At.val (Value.int IntKind.u32 (S.fresh)))]), (Chunk.row true (EC.node) (S.nodes)), (Chunk.row true (EC.int) (S.counts)), (Chunk.row true (EC.bool) (S.used)), (Chunk.row true (EC.u32) (S.gen)), (Chunk.row true (EC.u32) (S.rel)), (Chunk.row false (EC.ent) (l))] [0, 1, 2, 3, 4, 5, 6]))
      ((∃ hs : List Int,
        ((Wf S hs) ∧
        (l.length ≤ 100000) ∧
        ((↑l.length : Int) ≤ S.free) ∧
        (hs.length + l.length ≤ 800000000) ∧
        (∀ S' : Arn,
          (∀ i : Int,
            ((BuildR S hs l S' i) →
            (K (SV.tup [(TV.at (At.val (Value.int IntKind.u32 (i)))), (TV.at (At.val (Value.int IntKind.i64 0)))]) [(Chunk.box [(At.ptr 1 0), (At.slc 2), (At.slc 3), (At.val (Value.int IntKind.u64 (S'.reads)))]), (Chunk.box [(At.slc 4), (At.slc 5), (At.slc 6), (At.val (Value.int IntKind.u32 (S'.fresh)))]), (Chunk.row true (EC.node) (S'.nodes)), (Chunk.row true (EC.int) (S'.counts)), (Chunk.row true (EC.bool) (S'.used)), (Chunk.row true (EC.u32) (S'.gen)), (Chunk.row true (EC.u32) (S'.rel)), (Chunk.row false (EC.ent) (l))] [0, 1, 2, 3, 4, 5, 6])))))))))))))) = _ by kernel_rfl) ?_
  refine ⟨⟨⟨1, by omega, by omega, by simp⟩, ?_⟩, fun x _ => brS_of (fun hi => ?_) fun hi => ?_⟩
  · (repeat' first | exact trivial | exact rfl | refine And.intro ?_ ?_)
  · have hi : x.i < l.length := by have := of_decide_eq_true hi; omega
    have h1' := x.h.1
    have hs' := x.split hi
    have e : ((x.i : Int) - 1).toNat = x.i - 1 := by omega
    rw [wrap_id (x := (x.i : Int) - 1) (by omega) (by omega), e]
    refine ⟨by omega, by omega, by omega, by omega, brS_of (fun hd => ?_) fun hd => ?_⟩
    · refine ha ?_
      rw [Bool.eq_false_iff]
      intro hh
      have := (hs'.1 hh).1
      have hd := of_decide_eq_true hd
      simp [eA] at hd this
      omega
    · refine ⟨⟨x.i + 1, by omega, by omega, ?_⟩, ?_⟩
      · rw [ascB, decide_eq_true_eq] at hs'
        rw [hs', Nat.add_sub_cancel]
        refine ⟨fun h => h.2, fun h => ⟨?_, h⟩⟩
        have hd := of_decide_eq_false hd
        simp [eA] at hd ⊢
        omega
      · (repeat' first | exact trivial | exact rfl | refine And.intro ?_ ?_)
        · rw [wrap_id (by omega) (by omega)]; congr 1
        · show l.length - (x.i + 1) < l.length - x.i
          omega
  · have e := x.fin (by have := of_decide_eq_false hi; omega)
    refine ⟨⟨_, hw⟩, brS_of (fun d => hb e (of_decide_eq_true d)) fun d => ⟨hs, hw, h1, by have := of_decide_eq_false d; omega, h2, fun S' i hr => hc e (by have := of_decide_eq_false d; omega) S' i hr⟩⟩
theorem s_build : SoundT C0 26 tBuild := by
  refine .ofW W7 Try.func26 (by decide) rfl fun args H K h hB => ?_
  unfold tBuild at h
  split at h <;> try exact h.elim
  unfold arMr at h
  split at h <;> try exact h.elim
  split at h <;> try exact h.elim
  rename_i _ rd fr nd ct us gn rl _ l
  obtain ⟨hs, h1, h2, h3, h4, h5, h6⟩ := h
  exact ⟨aBuild ⟨us, gn, rl, fr, nd, ct, rd⟩ l, ⟨frame C0.ok s_free _, frame C0.ok s_bldA _, trivial⟩, vc_build ⟨us, gn, rl, fr, nd, ct, rd⟩ l K hs h1 h2 h3 h4 h5 h6⟩
theorem new_free {c : Nat} (h1 : 1 ≤ c) (h2 : c ≤ 65536) : (newS c).free = c := by
  unfold Arn.free Arn.cap newS; simp
theorem vc_grow (l : List Ent) (t sp : Int) (K : KT) (h1 : 0 ≤ t) (h2 : 1 ≤ sp) (h3 : sp ≤ 30000) (h4 : l.length ≤ 30000) (h : ∀ S' i, PlantR (newS ((l.length : Int) + sp).toNat) [] l S' i → K (.tup [.at (.ptr 1 0), .at (vU i), .at (vB true)]) ([.row false EC.ent l] ++ chSk 1 S') []) :
    vc C0 aGrow Try.f33 [.at (.slc 0), .at (vU64 t), .at (vI sp)] [.row false EC.ent l] (normK 1 K) := by
  refine Eq.mp (show (((IntKind.i64.wrap ((↑l.length : Int) + sp) < 1 ∨ 65536 < IntKind.i64.wrap ((↑l.length : Int) + sp)) →
(K (SV.tup [(TV.at (At.val (Value.pointer none))), (TV.at (At.val (Value.int IntKind.u32 0))), (TV.at (At.val (Value.bool false)))]) [(Chunk.row false (EC.ent) (l))] [])) ∧
((1 ≤ IntKind.i64.wrap ((↑l.length : Int) + sp)) →
((IntKind.i64.wrap ((↑l.length : Int) + sp) ≤ 65536) →
(∀ S : Arn,
  (((S) = (newS (IntKind.i64.wrap ((↑l.length : Int) + sp)).toNat)) →
  (∃ hs : List Int,
    ((Wf S hs) ∧
    (l.length ≤ 100000) ∧
    ((↑l.length : Int) ≤ S.free) ∧
    (hs.length + l.length ≤ 900000000) ∧
    (0 ≤ t) ∧
    (∀ S' : Arn,
      (∀ i : Int,
        ((PlantR S hs l S' i) →
        (K (SV.tup [(TV.at (At.ptr 1 0)), (TV.at (At.val (Value.int IntKind.u32 (i)))), (TV.at (At.val (Value.bool true)))]) [(Chunk.row false (EC.ent) (l)), (Chunk.box [(At.ptr 2 0), (At.slc 3), (At.slc 4), (At.val (Value.int IntKind.u64 (S'.reads)))]), (Chunk.box [(At.slc 5), (At.slc 6), (At.slc 7), (At.val (Value.int IntKind.u32 (S'.fresh)))]), (Chunk.row true (EC.node) (S'.nodes)), (Chunk.row true (EC.int) (S'.counts)), (Chunk.row true (EC.bool) (S'.used)), (Chunk.row true (EC.u32) (S'.gen)), (Chunk.row true (EC.u32) (S'.rel))] []))))))))))) = _ by kernel_rfl) ?_
  rw [wrap_id (x := (l.length : Int) + sp) (by omega) (by omega)]
  refine ⟨fun c => by omega, fun _ _ S hS => ?_⟩
  subst hS
  refine ⟨[], Wf.new (by omega) (by omega), by omega, ?_, by simp; omega, h1, h⟩
  rw [new_free (by omega) (by omega)]; omega
theorem s_grow : SoundT C0 33 tGrow := by
  refine .of Try.func33 (by decide) rfl fun args H K h hB => ?_
  unfold tGrow at h
  split at h <;> try exact h.elim
  rename_i t sp l
  obtain ⟨h1, h2, h3, h4, h5⟩ := h
  exact ⟨aGrow, ⟨frame C0.ok s_new _, frame C0.ok s_plantA _, trivial⟩, vc_grow l t sp K h1 h2 h3 h4 h5⟩
theorem range_all {t : Tr} (ha : Asc t.list) (hk : ∀ x ∈ t.list, -9223372036854775808 ≤ x.1 ∧ x.1 ≤ 9223372036854775807) (hs : t.size ≤ 1000000) : (rangeR t (-9223372036854775808) 9223372036854775807 2147483647).1 = t.list := by
  rw [rangeR, if_neg (by omega), lk_spec t _ _ _ ha, betE_all hk, List.take_of_length_le (by rw [t.list_len]; show t.size ≤ 2147483647; omega)]
theorem vc_awake15 (K : KT) (h : K (.one (.at (vB true))) [] []) : vc C0 aAwake15 Try.f23 [] [] (normK 0 K) := by
  refine Eq.mp (show ((((8 : Int) < 1 ∨ (65536 : Int) < 8) →
(K (SV.one (TV.at (At.val (Value.bool false)))) [] [])) ∧
(((1 : Int) ≤ 8) →
(((8 : Int) ≤ 65536) →
(∀ S : Arn,
  (((S) = (newS (Int.toNat 8))) →
  (∃ hs : List Int,
    ((Wf S hs) ∧
    (([(1, 0), (2, 0), (3, 0), (4, 0)] : List Ent).length ≤ 100000) ∧
    (hs.length + ([(1, 0), (2, 0), (3, 0), (4, 0)] : List Ent).length ≤ 800000000) ∧
    ((true = false) →
    ((inU 0) ∧
    (exW S) ∧
    (S.reads < 4000000000000000000) ∧
    (∀ S' : Arn,
      (((S') = (rdS S (S.us 0).toNat)) →
      (K (SV.one (TV.at (At.val (Value.bool false)))) [] []))))) ∧
    ((true = true) →
    ((S.free < (↑([(1, 0), (2, 0), (3, 0), (4, 0)] : List Ent).length : Int)) →
    ((inU 0) ∧
    (exW S) ∧
    (S.reads < 4000000000000000000) ∧
    (∀ S' : Arn,
      (((S') = (rdS S (S.us 0).toNat)) →
      (K (SV.one (TV.at (At.val (Value.bool false)))) [] [])))))) ∧
    ((true = true) →
    (((↑([(1, 0), (2, 0), (3, 0), (4, 0)] : List Ent).length : Int) ≤ S.free) →
    (∀ S' : Arn,
      (∀ i : Int,
        ((BuildR S hs ([(1, 0), (2, 0), (3, 0), (4, 0)] : List Ent) S' i) →
        ((inU i) ∧
        (exW S') ∧
        (S'.reads < 4000000000000000000) ∧
        (∀ S'1 : Arn,
          (((S'1) = (rdS S' (S'.us i).toNat)) →
          (brS (S'.us i)
            ((brS ((S'.nd i).key == 3)
              ((brS ((S'.nd i).size == 4)
                ((∃ hs1 : List Int,
                  (∃ t : Tr,
                    ((Wf S'1 hs1) ∧
                    (Rep S'1 t i) ∧
                    (t.size ≤ 1000000) ∧
                    (S'1.reads + (↑t.size : Int) ≤ 3000000000000000000) ∧
                    (∀ S'2 : Arn,
                      (∀ out : List Ent,
                        (((S'2) = (rdS S'1 (rangeR t (-9223372036854775808) 9223372036854775807 2147483647).snd)) →
                        (((out) = ((rangeR t (-9223372036854775808) 9223372036854775807 2147483647).fst)) →
                        (K (SV.one (TV.at (At.val (Value.bool ((↑out.length : Int) == 4))))) [] [])))))))))
                ((K (SV.one (TV.at (At.val (Value.bool false)))) [] []))))
              ((K (SV.one (TV.at (At.val (Value.bool false)))) [] []))))
            ((K (SV.one (TV.at (At.val (Value.bool false)))) [] [])))))))))))))))))) = _ by kernel_rfl) ?_
  refine ⟨fun c => by omega, fun _ _ S hS => ?_⟩
  have hS : S = newS 8 := hS
  have hw : Wf S [] := by rw [hS]; exact Wf.new (by decide) (by decide)
  have hf : S.free = 8 := by rw [hS]; rfl
  refine ⟨[], hw, by decide, by decide, fun c => (by cases c), fun _ c => ?_, fun _ _ S1 i hr => ?_⟩
  · rw [hf] at c; exact absurd c (by decide)
  · obtain ⟨t, r1, r2⟩ := hr.rep
    have hlist := r2.list
    have hsize : t.size = 4 := by rw [← t.list_len, hlist]; rfl
    have hsz := r1.size hr.wf
    have hrd : S1.reads = 0 := by rw [hr.rds, hS]; rfl
    cases t with
    | nil => simp [Tr.size] at hsize
    | node a k v b =>
      have hu := r1.1
      have hk : (S1.nd i).key = 3 := by
        rw [r1.2.1]
        have := r2.2.1
        exact (congrArg Prod.fst this).symm
      refine ⟨inU_of hr.wf (.inr hu), ⟨_, hr.wf⟩, by rw [hrd]; decide, fun S2 e2 => ?_⟩
      rw [hu] at e2 ⊢
      have e2 : S2 = rdS S1 1 := e2
      refine brS_of (fun _ => ?_) fun c => by cases c
      rw [hk]
      refine brS_of (fun _ => ?_) fun c => by simp at c
      rw [hsz, hsize]
      refine brS_of (fun _ => ?_) fun c => by simp at c
      have hw2 : Wf S2 [i] := by rw [e2]; exact hr.wf.rd (by rw [hrd]; decide)
      refine ⟨_, Tr.node a k v b, hw2, by rw [e2]; exact rep_rd r1 1, by omega, by rw [e2, hsize]; show S1.reads + ((1 : Nat) : Int) + 4 ≤ _; rw [hrd]; decide, fun S3 out e3 e4 => ?_⟩
      rw [range_all (by rw [hlist]; decide) (by rw [hlist]; intro x hx; simp at hx; rcases hx with rfl | rfl | rfl | rfl <;> decide) (by omega), hlist] at e4
      have e5 : ((out.length : Int) == 4) = true := by rw [e4]; rfl
      rw [e5]
      exact h
theorem s_awake15 : SoundT C0 23 tAwake15 := by
  refine .of Try.func23 (by decide) rfl fun args H K h hB => ?_
  unfold tAwake15 at h
  split at h <;> try exact h.elim
  exact ⟨aAwake15, ⟨frame C0.ok s_new _, frame C0.ok s_build _, frame C0.ok s_node _, frame C0.ok s_list _, trivial⟩, vc_awake15 K h⟩
end Go.Proofs.Ytacdmmomkngpkaa.Sx
