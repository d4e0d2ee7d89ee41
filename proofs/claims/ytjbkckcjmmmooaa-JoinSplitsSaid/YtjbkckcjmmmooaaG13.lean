/- A part of the proof. -/
import Derived.Test.YtjbkckcjmmmooaaG12
import Derived.Test.YtjbkckcjmmmooaaG7
import Derived.Test.YtjbkckcjmmmooaaG5
import Derived.Test.YtjbkckcjmmmooaaG9
import Derived.Test.YtjbkckcjmmmooaaG11
import Derived.Test.YtjbkckcjmmmooaaG10
section
/- Build, Grow, and the example of the chapter on bulk operations. -/
namespace Go.Proofs.Ytjbkckcjmmmooaa.Sx
open Go

/-KEEP Wf exW inU live Arn.cap Arn.free Rep rdS Tr.size BuildR PlantR rangeR newS ascB-/
def tBldA : Tfm C0 := fun args H K => match args with
  | [.at (.ptr 0 0), .at (.slc 7)] => arMr H fun S rest => match rest with
    | [.row false .ent l] => ∃ hs, Wf S hs ∧ l.length ≤ 100000 ∧ (l.length : Int) ≤ S.free ∧ hs.length + l.length ≤ 800000000 ∧ ∀ S' i, BuildR S hs l S' i → K (.one (.at (vU i))) (chS S' ++ [.row false EC.ent l]) W7
    | _ => False
  | _ => False
theorem s_bldA : SoundT C0 120 tBldA := (s_bld 100001).weak fun args H K h => by
  unfold tBldA at h
  unfold tBld
  split at h <;> try exact h.elim
  unfold arMr at h ⊢
  split at h <;> try exact h.elim
  split at h <;> try exact h.elim
  obtain ⟨hs, h1, h2, h3, h4, h5⟩ := h
  exact ⟨hs, h1, by omega, h2, h3, h4, h5⟩
noncomputable def aBuild (S : Arn) (l : List Ent) : Ann C0 := { Γ := [(22, frameT [] tFree), (120, frameT [] tBldA)], inv := fun n => match n with
  | 2 => some { X := XA l, sl := [6], tf := fun x => [vi .i64 x.i], hf := fun _ => chS S ++ [.row false EC.ent l], μ := fun x => l.length - x.i }
  | _ => none }
def tBuild : Tfm C0 := fun args H K => match args with
  | [.at (.ptr 0 0), .at (.slc 7)] => arMr H fun S rest => match rest with
    | [.row false .ent l] => ∃ hs, Wf S hs ∧ l.length ≤ 100000 ∧ hs.length + l.length ≤ 800000000 ∧ (ascB l = false → K (.tup [.at (vU 0), .at (vI 7)]) (chS S ++ [.row false EC.ent l]) W7) ∧
      (ascB l = true → S.free < l.length → K (.tup [.at (vU 0), .at (vI 2)]) (chS S ++ [.row false EC.ent l]) W7) ∧
      (ascB l = true → (l.length : Int) ≤ S.free → ∀ S' i, BuildR S hs l S' i → K (.tup [.at (vU i), .at (vI 0)]) (chS S' ++ [.row false EC.ent l]) W7)
    | _ => False
  | _ => False
abbrev chSk (k : Nat) (S : Arn) : List (Chunk C0) := [.box [.ptr (k + 1) 0, .slc (k + 2), .slc (k + 3), vU64 S.reads], .box [.slc (k + 4), .slc (k + 5), .slc (k + 6), vU S.fresh], .row true EC.node S.nodes, .row true EC.int S.counts, .row true EC.bool S.used, .row true EC.u32 S.gen, .row true EC.u32 S.rel]
noncomputable def aGrow : Ann C0 := { Γ := [(25, frameT [] tNew), (64, frameT [] tPlantA)] }
def tGrow : Tfm C0 := fun args H K => match args, H with
  | [.at (.slc 0), .at (.val (.int .u64 t)), .at (.val (.int .i64 sp))], [.row false .ent l] => 0 ≤ t ∧ 1 ≤ sp ∧ sp ≤ 30000 ∧ l.length ≤ 30000 ∧ ∀ S' i, PlantR (newS ((l.length : Int) + sp).toNat) [] l S' i → K (.tup [.at (.ptr 1 0), .at (vU i), .at (vB true)]) ([.row false EC.ent l] ++ chSk 1 S') []
  | _, _ => False
noncomputable def aAwake15 : Ann C0 := { Γ := [(25, frameT [] tNew), (93, frameT [] tBuild), (49, frameT [] tNode), (62, frameT [] tList)] }
def tAwake15 : Tfm C0 := fun args H K => match args, H with
  | [], [] => K (.one (.at (vB true))) [] []
  | _, _ => False
theorem vc_build (S : Arn) (l : List Ent) (K : KT) (hs : List Int) (hw : Wf S hs) (h1 : l.length ≤ 100000) (h2 : hs.length + l.length ≤ 800000000) (ha : ascB l = false → K (.tup [.at (vU 0), .at (vI 7)]) (chS S ++ [.row false EC.ent l]) W7)
    (hb : ascB l = true → S.free < l.length → K (.tup [.at (vU 0), .at (vI 2)]) (chS S ++ [.row false EC.ent l]) W7) (hc : ascB l = true → (l.length : Int) ≤ S.free → ∀ S' i, BuildR S hs l S' i → K (.tup [.at (vU i), .at (vI 0)]) (chS S' ++ [.row false EC.ent l]) W7) :
    vc C0 (aBuild S l) Try.f93 [.at (.ptr 0 0), .at (.slc 7)] (chS S ++ [.row false EC.ent l]) (normK 8 (wideK W7 K)) := by
  refine Eq.mp (show ((∃ x : XA l, (True ∧ (True ∧ True ∧ ((Value.int IntKind.i64 1) = (Value.int IntKind.i64 ((↑x.i : Int)))) ∧ True) ∧ (True ∧ True ∧ True ∧ ((Value.int IntKind.u64 (S.reads)) = (Value.int IntKind.u64 (S.reads))) ∧ True) ∧ (True ∧ True ∧ True ∧ ((Value.int IntKind.u32 (S.fresh)) = (Value.int IntKind.u32 (S.fresh))) ∧ True) ∧ ((S.nodes) = (S.nodes)) ∧ ((S.counts) = (S.counts)) ∧ ((S.used) = (S.used)) ∧ ((S.gen) = (S.gen)) ∧ ((S.rel) = (S.rel)) ∧ ((l) = (l)) ∧ True)) ∧
(∀ x : XA l, (True → (brS (decide ((↑x.i : Int) < (↑l.length : Int))) (((0 ≤ (↑x.i : Int)) ∧ ((↑x.i : Int) < (↑l.length : Int)) ∧ (0 ≤ IntKind.i64.wrap ((↑x.i : Int) - 1)) ∧ (IntKind.i64.wrap ((↑x.i : Int) - 1) < (↑l.length : Int)) ∧ (brS (decide ((eA l x.i).fst ≤ (l.getD (IntKind.i64.wrap ((↑x.i : Int) - 1)).toNat (0, 0)).fst)) ((K (SV.tup [(TV.at (At.val (Value.int IntKind.u32 0))), (TV.at (At.val (Value.int IntKind.i64 7)))]) [(Chunk.box [(At.ptr 1 0), (At.slc 2), (At.slc 3), (At.val (Value.int IntKind.u64 (S.reads)))]), (Chunk.box [(At.slc 4), (At.slc 5), (At.slc 6), (At.val (Value.int IntKind.u32 (S.fresh)))]), (Chunk.row true (EC.node) (S.nodes)), (Chunk.row true (EC.int) (S.counts)), (Chunk.row true (EC.bool) (S.used)), (Chunk.row true (EC.u32) (S.gen)), (Chunk.row true (EC.u32) (S.rel)), (Chunk.row false (EC.ent) (l))] [0, 1, 2, 3, 4, 5, 6])) ((∃ x' : XA l, (True ∧ ((True ∧ True ∧ ((Value.int IntKind.i64 (IntKind.i64.wrap ((↑x.i : Int) + 1))) = (Value.int IntKind.i64 ((↑x'.i : Int)))) ∧ True) ∧ (True ∧ True ∧
    True ∧ ((Value.int IntKind.u64 (S.reads)) = (Value.int IntKind.u64 (S.reads))) ∧ True) ∧ (True ∧ True ∧ True ∧ ((Value.int IntKind.u32 (S.fresh)) = (Value.int IntKind.u32 (S.fresh))) ∧ True) ∧ ((S.nodes) = (S.nodes)) ∧ ((S.counts) = (S.counts)) ∧ ((S.used) = (S.used)) ∧ ((S.gen) = (S.gen)) ∧ ((S.rel) = (S.rel)) ∧ ((l) = (l)) ∧ True) ∧ (l.length - x'.i < l.length - x.i))))))) (((exW S) ∧ (brS (decide (S.free < (↑l.length : Int))) ((K (SV.tup [(TV.at (At.val (Value.int IntKind.u32 0))), (TV.at (At.val (Value.int IntKind.i64 2)))]) [(Chunk.box [(At.ptr 1 0), (At.slc 2), (At.slc 3), (At.val (Value.int IntKind.u64 (S.reads)))]), (Chunk.box [(At.slc 4), (At.slc 5), (At.slc 6), (At.val (Value.int IntKind.u32 (S.fresh)))]), (Chunk.row true (EC.node) (S.nodes)), (Chunk.row true (EC.int) (S.counts)), (Chunk.row true (EC.bool) (S.used)), (Chunk.row true (EC.u32) (S.gen)), (Chunk.row true (EC.u32) (S.rel)), (Chunk.row false (EC.ent) (l))] [0, 1, 2, 3, 4, 5, 6])) ((∃ hs : List Int, ((Wf S hs) ∧ (l.length ≤ 100000) ∧ ((↑l.length : Int) ≤ S.free) ∧ (hs.length + l.length ≤ 800000000) ∧ (∀ S' : Arn, (∀ i : Int, ((BuildR S hs l S' i) →
    (K (SV.tup [(TV.at (At.val (Value.int IntKind.u32 (i)))), (TV.at (At.val (Value.int IntKind.i64 0)))]) [(Chunk.box [(At.ptr 1 0), (At.slc 2), (At.slc 3), (At.val (Value.int IntKind.u64 (S'.reads)))]), (Chunk.box [(At.slc 4), (At.slc 5), (At.slc 6), (At.val (Value.int IntKind.u32 (S'.fresh)))]), (Chunk.row true (EC.node) (S'.nodes)), (Chunk.row true (EC.int) (S'.counts)), (Chunk.row true (EC.bool) (S'.used)), (Chunk.row true (EC.u32) (S'.gen)), (Chunk.row true (EC.u32) (S'.rel)), (Chunk.row false (EC.ent) (l))] [0, 1, 2, 3, 4, 5, 6])))))))))))))) = _ by kernel_rfl) ?_
  refine ⟨⟨⟨1, by omega, by omega, by simp⟩, ?_⟩, fun x _ => brS_of (fun hi => ?_) fun hi => ?_⟩
  · (repeat' first | exact trivial | exact rfl | refine And.intro ?_ ?_)
  · have hi : x.i < l.length := by have := of_decide_eq_true hi; omega
    have h1' := x.h.1
    have hs' := x.split hi
    have e : ((x.i : Int) - 1).toNat = x.i - 1 := by omega
    rw [wrap_id (x := (x.i : Int) - 1) (by omega) (by omega), e]
    refine ⟨by omega, by omega, by omega, by omega, brS_of (fun hd => ?_) fun hd => ?_⟩
    · refine ha ?_
      rw [Bool.eq_false_iff]
      intro hh
      have := (hs'.1 hh).1
      have hd := of_decide_eq_true hd
      simp [eA] at hd this
      omega
    · refine ⟨⟨x.i + 1, by omega, by omega, ?_⟩, ?_⟩
      · rw [ascB, decide_eq_true_eq] at hs'
        rw [hs', Nat.add_sub_cancel]
        refine ⟨fun h => h.2, fun h => ⟨?_, h⟩⟩
        have hd := of_decide_eq_false hd
        simp [eA] at hd ⊢
        omega
      · (repeat' first | exact trivial | exact rfl | refine And.intro ?_ ?_)
        · rw [wrap_id (by omega) (by omega)]; congr 1
        · show l.length - (x.i + 1) < l.length - x.i
          omega
  · have e := x.fin (by have := of_decide_eq_false hi; omega)
    refine ⟨⟨_, hw⟩, brS_of (fun d => hb e (of_decide_eq_true d)) fun d => ⟨hs, hw, h1, by have := of_decide_eq_false d; omega, h2, fun S' i hr => hc e (by have := of_decide_eq_false d; omega) S' i hr⟩⟩
theorem s_build : SoundT C0 93 tBuild := by
  refine .ofW W7 Try.func93 (by decide) rfl fun args H K h hB => ?_
  unfold tBuild at h
  split at h <;> try exact h.elim
  unfold arMr at h
  split at h <;> try exact h.elim
  split at h <;> try exact h.elim
  rename_i _ rd fr nd ct us gn rl _ l
  obtain ⟨hs, h1, h2, h3, h4, h5, h6⟩ := h
  exact ⟨aBuild ⟨us, gn, rl, fr, nd, ct, rd⟩ l, ⟨frame C0.ok s_free _, frame C0.ok s_bldA _, trivial⟩, vc_build ⟨us, gn, rl, fr, nd, ct, rd⟩ l K hs h1 h2 h3 h4 h5 h6⟩
theorem new_free {c : Nat} (_ : 1 ≤ c) (_ : c ≤ 65536) : (newS c).free = c := by
  unfold Arn.free Arn.cap newS; simp
theorem vc_grow (l : List Ent) (t sp : Int) (K : KT) (h1 : 0 ≤ t) (h2 : 1 ≤ sp) (h3 : sp ≤ 30000) (h4 : l.length ≤ 30000) (h : ∀ S' i, PlantR (newS ((l.length : Int) + sp).toNat) [] l S' i → K (.tup [.at (.ptr 1 0), .at (vU i), .at (vB true)]) ([.row false EC.ent l] ++ chSk 1 S') []) :
    vc C0 aGrow Try.f17 [.at (.slc 0), .at (vU64 t), .at (vI sp)] [.row false EC.ent l] (normK 1 K) := by
  refine Eq.mp (show (((IntKind.i64.wrap ((↑l.length : Int) + sp) < 1 ∨ 65536 < IntKind.i64.wrap ((↑l.length : Int) + sp)) →
(K (SV.tup [(TV.at (At.val (Value.pointer none))), (TV.at (At.val (Value.int IntKind.u32 0))), (TV.at (At.val (Value.bool false)))]) [(Chunk.row false (EC.ent) (l))] [])) ∧
((1 ≤ IntKind.i64.wrap ((↑l.length : Int) + sp)) →
((IntKind.i64.wrap ((↑l.length : Int) + sp) ≤ 65536) →
(∀ S : Arn, (((S) = (newS (IntKind.i64.wrap ((↑l.length : Int) + sp)).toNat)) → (∃ hs : List Int, ((Wf S hs) ∧ (l.length ≤ 100000) ∧ ((↑l.length : Int) ≤ S.free) ∧ (hs.length + l.length ≤ 900000000) ∧ (0 ≤ t) ∧ (∀ S' : Arn, (∀ i : Int, ((PlantR S hs l S' i) → (K (SV.tup [(TV.at (At.ptr 1 0)), (TV.at (At.val (Value.int IntKind.u32 (i)))), (TV.at (At.val (Value.bool true)))]) [(Chunk.row false (EC.ent) (l)), (Chunk.box [(At.ptr 2 0), (At.slc 3), (At.slc 4), (At.val (Value.int IntKind.u64 (S'.reads)))]), (Chunk.box [(At.slc 5), (At.slc 6), (At.slc 7), (At.val (Value.int IntKind.u32 (S'.fresh)))]), (Chunk.row true (EC.node) (S'.nodes)), (Chunk.row true (EC.int) (S'.counts)), (Chunk.row true (EC.bool) (S'.used)), (Chunk.row true (EC.u32) (S'.gen)), (Chunk.row true (EC.u32) (S'.rel))] []))))))))))) = _ by kernel_rfl) ?_
  rw [wrap_id (x := (l.length : Int) + sp) (by omega) (by omega)]
  refine ⟨fun c => by omega, fun _ _ S hS => ?_⟩
  subst hS
  refine ⟨[], Wf.new (by omega) (by omega), by omega, ?_, by simp; omega, h1, h⟩
  rw [new_free (by omega) (by omega)]; omega
theorem s_grow : SoundT C0 17 tGrow := by
  refine .of Try.func17 (by decide) rfl fun args H K h hB => ?_
  unfold tGrow at h
  split at h <;> try exact h.elim
  rename_i t sp l
  obtain ⟨h1, h2, h3, h4, h5⟩ := h
  exact ⟨aGrow, ⟨frame C0.ok s_new _, frame C0.ok s_plantA _, trivial⟩, vc_grow l t sp K h1 h2 h3 h4 h5⟩
theorem range_all {t : Tr} (ha : Asc t.list) (hk : ∀ x ∈ t.list, -9223372036854775808 ≤ x.1 ∧ x.1 ≤ 9223372036854775807) (hs : t.size ≤ 1000000) : (rangeR t (-9223372036854775808) 9223372036854775807 2147483647).1 = t.list := by
  rw [rangeR, if_neg (by omega), lk_spec t _ _ _ ha, betE_all hk, List.take_of_length_le (by rw [t.list_len]; show t.size ≤ 2147483647; omega)]
theorem vc_awake15 (K : KT) (h : K (.one (.at (vB true))) [] []) : vc C0 aAwake15 Try.f57 [] [] (normK 0 K) := by
  refine Eq.mp (show ((((8 : Int) < 1 ∨ (65536 : Int) < 8) →
(K (SV.one (TV.at (At.val (Value.bool false)))) [] [])) ∧
(((1 : Int) ≤ 8) →
(((8 : Int) ≤ 65536) →
(∀ S : Arn, (((S) = (newS (Int.toNat 8))) → (∃ hs : List Int, ((Wf S hs) ∧ (([(1, 0), (2, 0), (3, 0), (4, 0)] : List Ent).length ≤ 100000) ∧ (hs.length + ([(1, 0), (2, 0), (3, 0), (4, 0)] : List Ent).length ≤ 800000000) ∧ ((true = false) → ((inU 0) ∧ (exW S) ∧ (S.reads < 4000000000000000000) ∧ (∀ S' : Arn, (((S') = (rdS S (S.us 0).toNat)) → (K (SV.one (TV.at (At.val (Value.bool false)))) [] []))))) ∧ ((true = true) → ((S.free < (↑([(1, 0), (2, 0), (3, 0), (4, 0)] : List Ent).length : Int)) → ((inU 0) ∧ (exW S) ∧ (S.reads < 4000000000000000000) ∧ (∀ S' : Arn, (((S') = (rdS S (S.us 0).toNat)) → (K (SV.one (TV.at (At.val (Value.bool false)))) [] [])))))) ∧ ((true = true) → (((↑([(1, 0), (2, 0), (3, 0), (4, 0)] : List Ent).length : Int) ≤ S.free) → (∀ S' : Arn, (∀ i : Int, ((BuildR S hs ([(1, 0), (2, 0), (3, 0), (4, 0)] : List Ent) S' i) → ((inU i) ∧ (exW S') ∧ (S'.reads < 4000000000000000000) ∧ (∀ S'1 : Arn, (((S'1) = (rdS S' (S'.us i).toNat)) → (brS (S'.us i) ((brS ((S'.nd i).key == 3) ((brS ((S'.nd i).size == 4) ((∃ hs1 : List Int, (∃ t : Tr, ((Wf S'1 hs1) ∧ (Rep S'1 t i) ∧ (t.size ≤ 1000000) ∧ (S'1.reads + (↑t.size : Int) ≤ 3000000000000000000) ∧ (∀ S'2 : Arn, (∀ out : List Ent, (((S'2) = (rdS S'1 (rangeR t (-9223372036854775808) 9223372036854775807 2147483647).snd)) →
    (((out) = ((rangeR t (-9223372036854775808) 9223372036854775807 2147483647).fst)) → (K (SV.one (TV.at (At.val (Value.bool ((↑out.length : Int) == 4))))) [] []))))))))) ((K (SV.one (TV.at (At.val (Value.bool false)))) [] [])))) ((K (SV.one (TV.at (At.val (Value.bool false)))) [] [])))) ((K (SV.one (TV.at (At.val (Value.bool false)))) [] [])))))))))))))))))) = _ by kernel_rfl) ?_
  refine ⟨fun c => by omega, fun _ _ S hS => ?_⟩
  have hS : S = newS 8 := hS
  have hw : Wf S [] := by rw [hS]; exact Wf.new (by decide) (by decide)
  have hf : S.free = 8 := by rw [hS]; rfl
  refine ⟨[], hw, by decide, by decide, fun c => (by cases c), fun _ c => ?_, fun _ _ S1 i hr => ?_⟩
  · rw [hf] at c; exact absurd c (by decide)
  · obtain ⟨t, r1, r2⟩ := hr.rep
    have hlist := r2.list
    have hsize : t.size = 4 := by rw [← t.list_len, hlist]; rfl
    have hsz := r1.size hr.wf
    have hrd : S1.reads = 0 := by rw [hr.rds, hS]; rfl
    cases t with
    | nil => simp [Tr.size] at hsize
    | node a k v b =>
      have hu := r1.1
      have hk : (S1.nd i).key = 3 := by
        rw [r1.2.1]
        have := r2.2.1
        exact (congrArg Prod.fst this).symm
      refine ⟨inU_of hr.wf (.inr hu), ⟨_, hr.wf⟩, by rw [hrd]; decide, fun S2 e2 => ?_⟩
      rw [hu] at e2 ⊢
      have e2 : S2 = rdS S1 1 := e2
      refine brS_of (fun _ => ?_) fun c => by cases c
      rw [hk]
      refine brS_of (fun _ => ?_) fun c => by simp at c
      rw [hsz, hsize]
      refine brS_of (fun _ => ?_) fun c => by simp at c
      have hw2 : Wf S2 [i] := by rw [e2]; exact hr.wf.rd (by rw [hrd]; decide)
      refine ⟨_, Tr.node a k v b, hw2, by rw [e2]; exact rep_rd r1 1, by omega, by rw [e2, hsize]; show S1.reads + ((1 : Nat) : Int) + 4 ≤ _; rw [hrd]; decide, fun S3 out e3 e4 => ?_⟩
      rw [range_all (by rw [hlist]; decide) (by rw [hlist]; intro x hx; simp at hx; rcases hx with rfl | rfl | rfl | rfl <;> decide) (by omega), hlist] at e4
      have e5 : ((out.length : Int) == 4) = true := by rw [e4]; rfl
      rw [e5]
      exact h
theorem s_awake15 : SoundT C0 57 tAwake15 := by
  refine .of Try.func57 (by decide) rfl fun args H K h hB => ?_
  unfold tAwake15 at h
  split at h <;> try exact h.elim
  exact ⟨aAwake15, ⟨frame C0.ok s_new _, frame C0.ok s_build _, frame C0.ok s_node _, frame C0.ok s_list _, trivial⟩, vc_awake15 K h⟩
end Go.Proofs.Ytjbkckcjmmmooaa.Sx
end
section
/- What the update laws share: Kept, spare, awake, lengths of dumps. -/
namespace Go.Proofs.Ytjbkckcjmmmooaa.Sx
open Go

/-KEEP Wf exW inU live Arn.cap Arn.free Rep rdS Tr.size Tr.list alcD slotsOf orderOf PlantR newS insE flt getE TrR upM Hn-/
/-- Every slot that is allocated in d is so in e, with the same node and generation. -/
def keptD (d e : List SlotT) : Prop := d.length = e.length ∧ ∀ i : Nat, i < d.length → (eS d i).alloc = true → (eS e i).alloc = true ∧ (eS e i).node = (eS d i).node ∧ (eS e i).gen = (eS d i).gen
structure XKp (d : List SlotT) where
  i : Nat
  h : i ≤ d.length
noncomputable def aKp (d e : List SlotT) (fl gl : List Int) : Ann C0 := { Γ := [], inv := fun n => match n with
  | 4 => some { X := XKp d, sl := [5, 2, 3], tf := fun x => [vi .i64 x.i, .one (.at (.ptr 4 0)), .one (.at (.ptr 5 0))], hf := fun _ => [.row false EC.slot d, .row false EC.u32 fl, .row false EC.slot e, .row false EC.u32 gl, .box [.slc 0, .slc 1], .box [.slc 2, .slc 3]], μ := fun x => d.length - x.i }
  | _ => none }
def tKept : Tfm C0 := fun args H K => match args, H with
  | [.agg [.slc 0, .slc 1], .agg [.slc 2, .slc 3]], [.row false .slot d, .row false .u32 fl, .row false .slot e, .row false .u32 gl] => keptD d e ∧ d.length ≤ 1000000 ∧ K (.one (.at (vB true))) [.row false EC.slot d, .row false EC.u32 fl, .row false EC.slot e, .row false EC.u32 gl] []
  | _, _ => False
def tSpare : Tfm C0 := fun args H K => match args, H with
  | [.at (.val (.int .u16 n)), .at (.val (.int .i64 need))], [] => 0 ≤ n ∧ n ≤ 65535 ∧ 0 ≤ need ∧ need ≤ 60000 ∧ ∀ s, 0 ≤ s → s ≤ need + 8 → K (.one (.at (vI s))) [] []
  | _, _ => False
noncomputable def aAw14 : Ann C0 := { Γ := [(25, frameT [] tNew), (21, frameT [] tUpIn), (20, frameT [] tUpDe), (61, frameT [] tSize)] }
def tAw14 : Tfm C0 := fun args H K => match args, H with
  | [], [] => K (.one (.at (vB true))) [] []
  | _, _ => False
theorem vc_kept (d e : List SlotT) (fl gl : List Int) (K : KT) (hk : keptD d e) (hl : d.length ≤ 1000000) (h : K (.one (.at (vB true))) [.row false EC.slot d, .row false EC.u32 fl, .row false EC.slot e, .row false EC.u32 gl] []) :
    vc C0 (aKp d e fl gl) Try.f39 [.agg [.slc 0, .slc 1], .agg [.slc 2, .slc 3]] [.row false EC.slot d, .row false EC.u32 fl, .row false EC.slot e, .row false EC.u32 gl] (normK 4 K) := by
  refine Eq.mp (show (brS ((↑d.length : Int) != (↑e.length : Int)) ((K (SV.one (TV.at (At.val (Value.bool false)))) [(Chunk.row false (EC.slot) (d)), (Chunk.row false (EC.u32) (fl)), (Chunk.row false (EC.slot) (e)), (Chunk.row false (EC.u32) (gl))] [])) (((∃ x : XKp d, (True ∧ (True ∧ True ∧ ((Value.int IntKind.i64 0) = (Value.int IntKind.i64 ((↑x.i : Int)))) ∧ True) ∧ ((d) = (d)) ∧ ((fl) = (fl)) ∧ ((e) = (e)) ∧ ((gl) = (gl)) ∧ (True ∧ True ∧ True) ∧ (True ∧ True ∧ True) ∧ True)) ∧ (∀ x : XKp d, (True → (brS (decide ((↑x.i : Int) < (↑d.length : Int))) (((0 ≤ (↑x.i : Int)) ∧ ((↑x.i : Int) < (↑d.length : Int)) ∧ (0 ≤ (↑x.i : Int)) ∧ ((↑x.i : Int) < (↑e.length : Int)) ∧ (brS ((eS d (↑x.i : Int).toNat).alloc) ((brS (!(eS e (↑x.i : Int).toNat).alloc) ((K (SV.one (TV.at (At.val (Value.bool false)))) [(Chunk.row false (EC.slot) (d)), (Chunk.row false (EC.u32) (fl)), (Chunk.row false (EC.slot) (e)), (Chunk.row false (EC.u32) (gl))] []))
    ((brS (!((eS d (↑x.i : Int).toNat).node.key == (eS e (↑x.i : Int).toNat).node.key && ((eS d (↑x.i : Int).toNat).node.value == (eS e (↑x.i : Int).toNat).node.value && ((eS d (↑x.i : Int).toNat).node.left == (eS e (↑x.i : Int).toNat).node.left && ((eS d (↑x.i : Int).toNat).node.right == (eS e (↑x.i : Int).toNat).node.right && ((eS d (↑x.i : Int).toNat).node.size == (eS e (↑x.i : Int).toNat).node.size && ((eS d (↑x.i : Int).toNat).node.sum == (eS e (↑x.i : Int).toNat).node.sum && ((eS d (↑x.i : Int).toNat).node.min == (eS e (↑x.i : Int).toNat).node.min && ((eS d (↑x.i : Int).toNat).node.max == (eS e (↑x.i : Int).toNat).node.max && true))))))))) ((K (SV.one (TV.at (At.val (Value.bool false)))) [(Chunk.row false (EC.slot) (d)), (Chunk.row false (EC.u32) (fl)), (Chunk.row false (EC.slot) (e)), (Chunk.row false (EC.u32) (gl))] [])) ((brS ((eS d (↑x.i : Int).toNat).gen != (eS e (↑x.i : Int).toNat).gen) ((K (SV.one (TV.at (At.val (Value.bool false)))) [(Chunk.row false (EC.slot) (d)), (Chunk.row false (EC.u32) (fl)), (Chunk.row false (EC.slot) (e)), (Chunk.row false (EC.u32) (gl))] [])) ((∃ x' : XKp d, (True ∧ ((True ∧ True ∧ ((Value.int IntKind.i64 (IntKind.i64.wrap ((↑x.i : Int) + 1))) = (Value.int IntKind.i64 ((↑x'.i : Int)))) ∧ True) ∧ ((d) = (d)) ∧ ((fl) = (fl)) ∧ ((e) = (e)) ∧ ((gl) = (gl)) ∧ (True ∧ True ∧ True) ∧ (True ∧ True ∧ True) ∧ True) ∧ (d.length - x'.i < d.length - x.i)))))))))) ((∃ x' : XKp d, (True ∧ ((True ∧ True ∧
    ((Value.int IntKind.i64 (IntKind.i64.wrap ((↑x.i : Int) + 1))) = (Value.int IntKind.i64 ((↑x'.i : Int)))) ∧ True) ∧ ((d) = (d)) ∧ ((fl) = (fl)) ∧ ((e) = (e)) ∧ ((gl) = (gl)) ∧ (True ∧ True ∧ True) ∧ (True ∧ True ∧ True) ∧ True) ∧ (d.length - x'.i < d.length - x.i))))) ∧ (brS ((eS d (↑x.i : Int).toNat).alloc) ((brS (!(eS e (↑x.i : Int).toNat).alloc) ((K (SV.one (TV.at (At.val (Value.bool false)))) [(Chunk.row false (EC.slot) (d)), (Chunk.row false (EC.u32) (fl)), (Chunk.row false (EC.slot) (e)), (Chunk.row false (EC.u32) (gl))] [])) ((brS (!((eS d (↑x.i : Int).toNat).node.key == (eS e (↑x.i : Int).toNat).node.key && ((eS d (↑x.i : Int).toNat).node.value == (eS e (↑x.i : Int).toNat).node.value && ((eS d (↑x.i : Int).toNat).node.left == (eS e (↑x.i : Int).toNat).node.left && ((eS d (↑x.i : Int).toNat).node.right == (eS e (↑x.i : Int).toNat).node.right && ((eS d (↑x.i : Int).toNat).node.size == (eS e (↑x.i : Int).toNat).node.size && ((eS d (↑x.i : Int).toNat).node.sum == (eS e (↑x.i : Int).toNat).node.sum && ((eS d (↑x.i : Int).toNat).node.min == (eS e (↑x.i : Int).toNat).node.min && ((eS d (↑x.i : Int).toNat).node.max == (eS e (↑x.i : Int).toNat).node.max && true))))))))) ((K (SV.one (TV.at (At.val (Value.bool false)))) [(Chunk.row false (EC.slot) (d)), (Chunk.row false (EC.u32) (fl)), (Chunk.row false (EC.slot) (e)), (Chunk.row false (EC.u32) (gl))] [])) ((brS ((eS d (↑x.i : Int).toNat).gen != (eS e (↑x.i : Int).toNat).gen)
    ((K (SV.one (TV.at (At.val (Value.bool false)))) [(Chunk.row false (EC.slot) (d)), (Chunk.row false (EC.u32) (fl)), (Chunk.row false (EC.slot) (e)), (Chunk.row false (EC.u32) (gl))] [])) ((∃ x' : XKp d, (True ∧ ((True ∧ True ∧ ((Value.int IntKind.i64 (IntKind.i64.wrap ((↑x.i : Int) + 1))) = (Value.int IntKind.i64 ((↑x'.i : Int)))) ∧ True) ∧ ((d) = (d)) ∧ ((fl) = (fl)) ∧ ((e) = (e)) ∧ ((gl) = (gl)) ∧ (True ∧ True ∧ True) ∧ (True ∧ True ∧ True) ∧ True) ∧ (d.length - x'.i < d.length - x.i)))))))))) ((∃ x' : XKp d, (True ∧ ((True ∧ True ∧ ((Value.int IntKind.i64 (IntKind.i64.wrap ((↑x.i : Int) + 1))) = (Value.int IntKind.i64 ((↑x'.i : Int)))) ∧ True) ∧ ((d) = (d)) ∧ ((fl) = (fl)) ∧ ((e) = (e)) ∧ ((gl) = (gl)) ∧ (True ∧ True ∧ True) ∧ (True ∧ True ∧ True) ∧ True) ∧ (d.length - x'.i < d.length - x.i))))))) ((K (SV.one (TV.at (At.val (Value.bool true)))) [(Chunk.row false (EC.slot) (d)), (Chunk.row false (EC.u32) (fl)), (Chunk.row false (EC.slot) (e)), (Chunk.row false (EC.u32) (gl))] [])))))))) = _ by kernel_rfl) ?_
  obtain ⟨k1, k2⟩ := hk
  refine bf7 (by simp [k1]) ⟨⟨⟨0, Nat.zero_le _⟩, ?_⟩, fun x _ => brS_of (fun c => ?_) fun c => h⟩
  · (repeat' first | exact trivial | exact rfl | refine And.intro ?_ ?_)
  obtain ⟨j, hj⟩ := x
  have c : j < d.length := by have := of_decide_eq_true c; dsimp only at this; omega
  have e0 : ((j : Int)).toNat = j := rfl
  dsimp only
  rw [e0]
  have fin : ∃ x' : XKp d, True ∧ ((True ∧ True ∧ ((Value.int IntKind.i64 (IntKind.i64.wrap ((j : Int) + 1))) = (Value.int IntKind.i64 ((x'.i : Int)))) ∧ True) ∧ (d = d) ∧ (fl = fl) ∧ (e = e) ∧ (gl = gl) ∧ (True ∧ True ∧ True) ∧ (True ∧ True ∧ True) ∧ True) ∧ (d.length - x'.i < d.length - j) := by
    refine ⟨⟨j + 1, c⟩, ?_⟩
    (repeat' first | exact trivial | exact rfl | refine And.intro ?_ ?_)
    · rw [wrap_id (by omega) (by omega)]; congr 1
    · show d.length - (j + 1) < d.length - j; omega
  refine ⟨by omega, by omega, by omega, by omega, ?_, ?_⟩
  all_goals
    refine brS_of (fun a => ?_) fun _ => fin
    obtain ⟨a1, a2, a3⟩ := k2 j c a
    refine bf7 (by rw [a1]; rfl) (bf7 ?_ (bf7 (by rw [a3]; simp) fin))
    rw [a2]; simp
theorem s_kept : SoundT C0 39 tKept := by
  refine .of Try.func39 (by decide) rfl fun args H K h hB => ?_
  unfold tKept at h
  split at h <;> try exact h.elim
  rename_i d fl e gl
  exact ⟨aKp d e fl gl, trivial, vc_kept d e fl gl K h.1 h.2.1 h.2.2⟩
theorem s_spare14 : SoundT C0 37 tSpare := by
  refine .of Try.func37 (by decide) rfl fun args H K h hB => ?_
  unfold tSpare at h
  split at h <;> try exact h.elim
  rename_i n need
  obtain ⟨h1, h2, h3, h4, h⟩ := h
  refine ⟨A0, trivial, Eq.mp (show (brS (n.tmod 4 == 0) (((IntKind.i64.wrap (need + 2) ≠ 0) ∧ (K (SV.one (TV.at (At.val (Value.int IntKind.i64 ((IntKind.i64.wrap n).tmod (IntKind.i64.wrap (need + 2))))))) [] []))) ((K (SV.one (TV.at (At.val (Value.int IntKind.i64 (IntKind.i64.wrap (need + IntKind.i64.wrap (n.tmod 9))))))) [] []))) = _ by kernel_rfl) ?_⟩
  rw [wrap_id (x := need + 2) (by omega) (by omega), wrap_id (x := n) (by omega) (by omega), Int.tmod_eq_emod_of_nonneg (a := n) (b := need + 2) h1, Int.tmod_eq_emod_of_nonneg (a := n) (b := 9) h1]
  refine brS_of (fun _ => ⟨by omega, h _ (Int.emod_nonneg _ (by omega)) ?_⟩) fun _ => ?_
  · have := Int.emod_lt_of_pos n (show 0 < need + 2 by omega); omega
  · rw [wrap_id (x := n % 9) (by omega) (by omega), wrap_id (by omega) (by omega)]
    exact h _ (by omega) (by omega)
theorem newS_free (c : Nat) : (newS c).free = c := by
  unfold Arn.free Arn.cap newS
  simp
theorem order_free {S : Arn} {hs : List Int} (w : Wf S hs) : ((orderOf S).length : Int) = S.free := by
  have h1 := w.n1; have h3 := w.fr
  unfold orderOf orderL upTo Arn.free Arn.cap
  simp
  omega
theorem kept_of {S S' : Arn} {hs : List Int} (w : Wf S hs) (st : Stay S S' hs) (hl : S'.used.length = S.used.length) : keptD (slotsOf S) (slotsOf S') := by
  have e : ncap S' = ncap S := by unfold ncap; rw [hl]
  refine ⟨by rw [slotsOf_len, slotsOf_len, e], fun i hi ha => ?_⟩
  rw [slotsOf_len] at hi
  have g1 : eS (slotsOf S) i = slotAt S i := slotsOf_get S hi
  have g2 : eS (slotsOf S') i = slotAt S' i := slotsOf_get S' (by omega)
  rw [g1] at ha ⊢
  rw [g2]
  have ha : S.us ((i : Int) + 1) = true := ha
  obtain ⟨s1, s2, s3⟩ := st _ (w.reached ha)
  exact ⟨s1, s2, s3⟩
theorem slots_le {S : Arn} {hs : List Int} (w : Wf S hs) : (slotsOf S).length ≤ 65537 := by have := w.n2; rw [slotsOf_len]; unfold ncap; omega
theorem tr_tree {S : Arn} {hs : List Int} {t : Tr} {j : Int} {L : List Ent} (w : Wf S hs) (rp : Rep S t j) (hL : t.list = L) (bal : t.Bal) (asc : Asc L) :
    ∃ t, RepD (slotsOf S) t j ∧ Asc t.list ∧ t.Bal ∧ t.size ≤ 2 * (slotsOf S).length + 2 ∧ t.size ≤ 1000000 ∧ t.list = L := by
  have asc' : Asc t.list := by rw [hL]; exact asc
  have few := rep_few w rp asc'
  have := slots_le w
  exact ⟨t, repD_of w rp, asc', bal, by omega, by omega, hL⟩
theorem plant_free {S : Arn} {hs : List Int} {l : List Ent} {c : Nat} {i : Int} (hp : PlantR (newS c) hs l S i) : S.free = c - l.length := by
  have h1 := hp.wf.free_nonneg.2.2.2
  have h2 : S.cap = c := by unfold Arn.cap; rw [hp.len]; simp [newS]
  have h3 : (newS c).nu = 0 := by simp [Arn.nu, newS, List.countP_replicate]
  have := hp.nu
  omega
theorem plant_up {S : Arn} {l : List Ent} {c : Nat} {i : Int} (hp : PlantR (newS c) [] l S i) (asc : Asc l) (hl : l.length ≤ 60000) : ∃ t, upM S [i] t i ∧ t.list = l ∧ t.size = l.length := by
  obtain ⟨t, r1, r2, r3⟩ := hp.rep
  have sz : t.size = l.length := by rw [← t.list_len, r2]
  have rd : S.reads = 0 := by rw [hp.rds]; rfl
  exact ⟨t, ⟨hp.wf, r1, r3, by rw [r2]; exact asc, by omega, by simp, by omega⟩, r2, sz⟩
theorem vc_aw14 (K : KT) (h : K (.one (.at (vB true))) [] []) : vc C0 aAw14 Try.f18 [] [] (normK 0 K) := by
  refine Eq.mp (show ((((60 : Int) < 1 ∨ (65536 : Int) < 60) →
(K (SV.one (TV.at (At.val (Value.bool false)))) [] [])) ∧
(((1 : Int) ≤ 60) →
(((60 : Int) ≤ 65536) →
(∀ S : Arn, (((S) = (newS (Int.toNat 60))) → (∃ hs : List Int, (∃ t : Tr, ((upM S hs t 0) ∧ (4 * (Hn ((↑t.size : Int) + 1) + 2) ≤ S.free) ∧ (∀ S' : Arn, (∀ j : Int, (∀ o : Option Int, (((o) = (getE t.list 2)) → ((TrR S hs (insE t.list (2, 20)) (iB t.size) (5 * iB t.size + ht t + 1) S' j) → (∃ hs1 : List Int, (∃ t1 : Tr, (∃ v : Int, ((upM S' hs1 t1 j) ∧ ((getE t1.list 2) = (some (v))) ∧ (4 * (Hn (↑t1.size : Int) + 2) ≤ S'.free) ∧ (∀ S'1 : Arn, (∀ j1 : Int, ((TrR S' hs1 (flt (neK 2) t1.list) (dB t1.size) (5 * dB t1.size + ht t1 + 1) S'1 j1) → (brS (!o.isSome) ((brS (j != 0) ((brS (j1 == 0) ((brS (v == 20) (((inU j) ∧ (exW S'1) ∧ (S'1.reads < 4000000000000000000) ∧ (∀ S'2 : Arn, (((S'2) = (rdS S'1 (S'1.us j).toNat)) → (K (SV.one (TV.at (At.val (Value.bool ((S'1.nd j).size == 1))))) [] []))))) ((K (SV.one (TV.at (At.val (Value.bool false)))) [] [])))) ((K (SV.one (TV.at (At.val (Value.bool false)))) [] [])))) ((K (SV.one (TV.at (At.val (Value.bool false)))) [] [])))) ((K (SV.one (TV.at (At.val (Value.bool false)))) [] []))))))))))))))))))))))) = _ by kernel_rfl) ?_
  refine ⟨fun c => by omega, fun _ _ S e => ?_⟩
  have e60 : Int.toNat 60 = 60 := rfl
  rw [e60] at e
  have w : Wf S [] := by rw [e]; exact Wf.new (by omega) (by omega)
  have f : S.free = 60 := by rw [e]; exact newS_free 60
  have rd : S.reads = 0 := by rw [e]; rfl
  have h0 := Hn_rng 0
  have a0 : Hn (0 : Int) = 0 := by decide
  have a1 : Hn (1 : Int) = 1 := by decide
  have i0 : iB 0 = 1 := by have := iB_Hn 0; have : (iB 0 : Int) = 4 * Hn 0 + 1 := this; omega
  refine ⟨[], .nil, ⟨w, rfl, trivial, List.Pairwise.nil, by decide, by simp, by omega⟩, ?_, fun S1 j o eo t1 => ?_⟩
  · show 4 * (Hn 1 + 2) ≤ S.free; omega
  have f1 := t1.got.free w
  have q1 := t1.got.rd
  rw [show Tr.nil.size = 0 from rfl] at f1 q1
  rw [show ht Tr.nil = 0 from rfl] at q1
  obtain ⟨t, rp, lt, bt⟩ := t1.tree
  have lt : t.list = [(2, 20)] := lt
  have sz : t.size = 1 := by rw [← t.list_len, lt]; rfl
  have hj : j ≠ 0 := fun e => by
    rw [e] at rp
    have := rp.zero t1.got.wf
    rw [this] at sz; cases sz
  refine ⟨[j], t, 20, ⟨t1.got.wf, rp, bt, by rw [lt]; exact List.pairwise_singleton _ _, by omega, by simp, by omega⟩, by rw [lt]; rfl, ?_, fun S2 j2 t2 => ?_⟩
  · rw [sz]; show 4 * (Hn 1 + 2) ≤ S1.free; omega
  have q2 := t2.got.rd
  have db : (dB t.size : Int) ≤ 4 * Hn t.size + 4 := dB_Hn _
  rw [sz] at db q2
  have a1' : Hn ((1 : Nat) : Int) = 1 := a1
  have hh := Bal.height bt (by omega)
  rw [sz] at hh
  obtain ⟨u, ru, lu, bu⟩ := t2.tree
  have lu : u.list = [] := by rw [lu, lt]; rfl
  have zu : u.size = 0 := by rw [← u.list_len, lu]; rfl
  have hj2 : j2 = 0 := by
    cases u with
    | nil => exact ru
    | node a k v b => simp [Tr.size] at zu
  have rp2 : Rep S2 t j := rp.held t1.got.wf t2.got.stay (.inr (by simp))
  have eo : o = none := eo
  refine bt7 (by rw [eo]; rfl) (bt7 (by simp [hj]) (bt7 (by simp [hj2]) (bt7 rfl ⟨inU_of t2.got.wf rp2.us, ⟨_, t2.got.wf⟩, by omega, fun S3 _ => ?_⟩)))
  rw [rp2.size t2.got.wf, sz]
  exact h
theorem s_aw14 : SoundT C0 18 tAw14 := by
  refine .of Try.func18 (by decide) rfl fun args H K h hB => ?_
  unfold tAw14 at h
  split at h <;> try exact h.elim
  exact ⟨aAw14, ⟨frame C0.ok s_new _, frame C0.ok s_upIn _, frame C0.ok s_upDe _, frame C0.ok s_size _, trivial⟩, vc_aw14 K h⟩
end Go.Proofs.Ytjbkckcjmmmooaa.Sx
end
section
/- What the join laws share: awake, spare, tree, pair. -/
namespace Go.Proofs.Ytjbkckcjmmmooaa.Sx
open Go

/-KEEP Wf exW inU live Arn.cap Arn.free Rep rdS retL Tr.size Tr.list Tr.Bal balN jB cB gN TrR Got flt ltK gtK getE Asc Hn ht entO List.head? List.getLast? PlantR newS slotsOf orderOf RepD jnM upM ordB-/
noncomputable def aTree13 : Ann C0 := { Γ := [(30, frameT [] tDump), (32, frameT [] tTr7)] }
def tTree13 : Tfm C0 := fun args H K => match args with
  | [.at (.ptr 0 0), .at (.val (.int .u32 i)), .at (.slc 7)] => arMr H fun S rest => match rest with
    | [.row false .ent l] => (∃ hs t, Wf S hs ∧ Rep S t i ∧ t.list = l ∧ t.Bal ∧ Asc l) ∧ K (.one (.at (vB true))) (chS S ++ [.row false EC.ent l]) []
    | _ => False
  | _ => False
noncomputable def aPair13 : Ann C0 := { Γ := [(15, frameT [] tMod), (25, frameT [] tNew), (64, frameT [] tPlantA)] }
noncomputable def aAw13 : Ann C0 := { Γ := [(17, frameT [] tGrow), (43, frameT [] tJjOk), (42, frameT [] tJsOk), (61, frameT [] tSize)] }
def tAw13 : Tfm C0 := fun args H K => match args, H with
  | [], [] => K (.one (.at (vB true))) [] []
  | _, _ => False
theorem mod_rng2 {a n x : Int} (hn : 0 < n) (e : x = a % n) : 0 ≤ x ∧ x < n := ⟨by rw [e]; exact Int.emod_nonneg _ (by omega), by rw [e]; exact Int.emod_lt_of_pos _ hn⟩
theorem s_spare13 : SoundT C0 47 tSpare := by
  refine .of Try.func47 (by decide) rfl fun args H K h hB => ?_
  unfold tSpare at h
  split at h <;> try exact h.elim
  rename_i n need
  obtain ⟨h1, h2, h3, h4, h⟩ := h
  refine ⟨A0, trivial, Eq.mp (show (brS (n.tmod 4 == 0) (((IntKind.i64.wrap (need + 2) ≠ 0) ∧ (K (SV.one (TV.at (At.val (Value.int IntKind.i64 ((IntKind.i64.wrap n).tmod (IntKind.i64.wrap (need + 2))))))) [] []))) ((K (SV.one (TV.at (At.val (Value.int IntKind.i64 (IntKind.i64.wrap (need + IntKind.i64.wrap (n.tmod 9))))))) [] []))) = _ by kernel_rfl) ?_⟩
  rw [wrap_id (x := need + 2) (by omega) (by omega), wrap_id (x := n) (by omega) (by omega), Int.tmod_eq_emod_of_nonneg (a := n) (b := need + 2) h1, Int.tmod_eq_emod_of_nonneg (a := n) (b := 9) h1]
  refine brS_of (fun _ => ⟨by omega, h _ (Int.emod_nonneg _ (by omega)) ?_⟩) fun _ => ?_
  · have := Int.emod_lt_of_pos n (show 0 < need + 2 by omega); omega
  · rw [wrap_id (x := n % 9) (by omega) (by omega), wrap_id (by omega) (by omega)]
    exact h _ (by omega) (by omega)
theorem vc_tree13 (S : Arn) (i : Int) (l : List Ent) (K : KT) (h0 : ∃ hs t, Wf S hs ∧ Rep S t i ∧ t.list = l ∧ t.Bal ∧ Asc l) (h : K (.one (.at (vB true))) (chS S ++ [.row false EC.ent l]) []) :
    vc C0 aTree13 Try.f44 [.at (.ptr 0 0), .at (vU i), .at (.slc 7)] (chS S ++ [.row false EC.ent l]) (normK 8 K) := by
  refine Eq.mp (show ((exW S) ∧
(∀ d : List SlotT, (∀ o : List Int, (((d) = (slotsOf S)) → (((o) = (orderOf S)) → ((d.length ≤ 1000000) ∧ (∃ t : Tr, ((RepD d t i) ∧ (Asc t.list) ∧ (t.Bal) ∧ (t.size ≤ 2 * d.length + 2) ∧ (t.size ≤ 1000000) ∧ ((t.list) = (l)))) ∧ (K (SV.one (TV.at (At.val (Value.bool true)))) [(Chunk.box [(At.ptr 1 0), (At.slc 2), (At.slc 3), (At.val (Value.int IntKind.u64 (S.reads)))]), (Chunk.box [(At.slc 4), (At.slc 5), (At.slc 6), (At.val (Value.int IntKind.u32 (S.fresh)))]), (Chunk.row true (EC.node) (S.nodes)), (Chunk.row true (EC.int) (S.counts)), (Chunk.row true (EC.bool) (S.used)), (Chunk.row true (EC.u32) (S.gen)), (Chunk.row true (EC.u32) (S.rel)), (Chunk.row false (EC.ent) (l))] []))))))) = _ by kernel_rfl) ?_
  obtain ⟨hs, t, w, rp, lt, bal, asc⟩ := h0
  have u := tr_tree w rp lt bal asc
  have sl := slots_le w
  exact ⟨⟨_, w⟩, fun d o ed _ => ⟨by rw [ed]; omega, by rw [ed]; exact u, h⟩⟩
theorem s_tree13 : SoundT C0 44 tTree13 := by
  refine .of Try.func44 (by decide) rfl fun args H K h hB => ?_
  unfold tTree13 at h
  split at h <;> try exact h.elim
  unfold arMr at h
  split at h <;> try exact h.elim
  split at h <;> try exact h.elim
  rename_i i _ rd fr nd ct us gn rl _ l
  exact ⟨aTree13, ⟨frame C0.ok s_dump _, frame C0.ok s_tr7 _, trivial⟩, vc_tree13 ⟨us, gn, rl, fr, nd, ct, rd⟩ i l K h.1 h.2⟩
/-- Two trees in a new arena. -/
structure PairR (c : Nat) (lx ly : List Ent) (S : Arn) (x y : Int) : Prop where
  wf : Wf S [x, y]
  rx : ∃ t, Rep S t x ∧ t.list = lx ∧ t.Bal
  ry : ∃ t, Rep S t y ∧ t.list = ly ∧ t.Bal
  rds : S.reads = 0
  free : S.free = c - lx.length - ly.length
abbrev chPr (raw l lx ly : List Ent) (S : Arn) : List (Chunk C0) := [.row false EC.ent raw, .row false EC.ent l, .box [.ptr 5 0, .slc 6, .slc 7, vU64 S.reads], .row false EC.ent lx, .row false EC.ent ly, .box [.slc 8, .slc 9, .slc 10, vU S.fresh], .row true EC.node S.nodes, .row true EC.int S.counts, .row true EC.bool S.used, .row true EC.u32 S.gen, .row true EC.u32 S.rel]
def tPair13 : Tfm C0 := fun args H K => match args, H with
  | [.at (.slc 1), .at (.val (.int .i64 _)), .at (.val (.int .i64 _)), .at (.val (.int .u64 t)), .at (.val (.int .i64 sp))], [.row false .ent raw, .row true .ent l] => l.length ≤ 1000 ∧ 0 ≤ t ∧ 0 ≤ sp ∧ sp ≤ 20000 ∧
    ∀ S x y p q, p ≤ q → q ≤ l.length → PairR (l.length + 1 + sp).toNat (l.take p) (l.drop q) S x y → K (.tup [.at (.ptr 2 0), .at (vU x), .at (vU y), .at (.slc 3), .at (.slc 4), .at (vB true)]) (chPr raw l (l.take p) (l.drop q) S) []
  | _, _ => False
theorem plant_pair {c : Nat} {lx ly : List Ent} {S S' : Arn} {x y : Int} (h1 : PlantR (newS c) [] lx S x) (h2 : PlantR S [x] ly S' y) : PairR c lx ly S' x y := by
  obtain ⟨t1, r1, l1, b1⟩ := h1.rep
  refine ⟨h2.wf.perm (List.Perm.swap _ _ _), ⟨t1, r1.held h1.wf h2.stay (.inr (by simp)), l1, b1⟩, h2.rep, by rw [h2.rds, h1.rds]; rfl, ?_⟩
  have a := h2.wf.free_nonneg.2.2.2
  have b := h2.nu
  have d := h1.nu
  have e : S'.cap = c := by unfold Arn.cap; rw [h2.len, h1.len]; simp [newS]
  have f : (newS c).nu = 0 := by simp [Arn.nu, newS, List.countP_replicate]
  omega
theorem vc_pair13 (raw l : List Ent) (at' sk t sp : Int) (K : KT) (hl : l.length ≤ 1000) (h0 : 0 ≤ t) (h1 : 0 ≤ sp) (h2 : sp ≤ 20000)
    (h : ∀ S x y p q, p ≤ q → q ≤ l.length → PairR (l.length + 1 + sp).toNat (l.take p) (l.drop q) S x y → K (.tup [.at (.ptr 2 0), .at (vU x), .at (vU y), .at (.slc 3), .at (.slc 4), .at (vB true)]) (chPr raw l (l.take p) (l.drop q) S) []) :
    vc C0 aPair13 Try.f46 [.at (.slc 1), .at (vI at'), .at (vI sk), .at (vU64 t), .at (vI sp)] [.row false EC.ent raw, .row true EC.ent l] (normK 2 K) := by
  refine Eq.mp (show ((0 < IntKind.i64.wrap ((↑l.length : Int) + 1)) ∧
(IntKind.i64.wrap ((↑l.length : Int) + 1) ≤ 9223372036854775807) ∧
(∀ x : Int, (((x) = (at' % IntKind.i64.wrap ((↑l.length : Int) + 1))) → (((0 : Int) < 3) ∧ ((3 : Int) ≤ 9223372036854775807) ∧ (∀ x1 : Int, (((x1) = (sk % 3)) → (((IntKind.i64.wrap (IntKind.i64.wrap ((↑l.length : Int) + 1) + sp) < 1 ∨ 65536 < IntKind.i64.wrap (IntKind.i64.wrap ((↑l.length : Int) + 1) + sp)) → (K (SV.tup [(TV.at (At.val (Value.pointer none))), (TV.at (At.val (Value.int IntKind.u32 0))), (TV.at (At.val (Value.int IntKind.u32 0))), (TV.at (At.slc 2)), (TV.at (At.slc 3)), (TV.at (At.val (Value.bool false)))]) [(Chunk.row false (EC.ent) (raw)), (Chunk.row true (EC.ent) (l)), (Chunk.row true (EC.ent) []), (Chunk.row true (EC.ent) [])] [])) ∧ ((1 ≤ IntKind.i64.wrap (IntKind.i64.wrap ((↑l.length : Int) + 1) + sp)) → ((IntKind.i64.wrap (IntKind.i64.wrap ((↑l.length : Int) + 1) + sp) ≤ 65536) → (∀ S : Arn, (((S) = (newS (IntKind.i64.wrap (IntKind.i64.wrap ((↑l.length : Int) + 1) + sp)).toNat)) → (((0 : Int) ≤ 0) ∧ (0 ≤ x) ∧ (x ≤ (↑l.length : Int)) ∧ (∃ hs : List Int, ((Wf S hs) ∧ ((List.drop (Int.toNat 0) (List.take x.toNat l)).length ≤ 100000) ∧ ((↑(List.drop (Int.toNat 0) (List.take x.toNat l)).length : Int) ≤ S.free) ∧ (hs.length + (List.drop (Int.toNat 0) (List.take x.toNat l)).length ≤ 900000000) ∧ (0 ≤ t) ∧ (∀ S' : Arn, (∀ i : Int, ((PlantR S hs (List.drop (Int.toNat 0) (List.take x.toNat l)) S' i) →
    ((0 ≤ if (↑l.length : Int) < IntKind.i64.wrap (x + x1) then (↑l.length : Int) else IntKind.i64.wrap (x + x1)) ∧ ((if (↑l.length : Int) < IntKind.i64.wrap (x + x1) then (↑l.length : Int) else IntKind.i64.wrap (x + x1)) ≤ (↑l.length : Int)) ∧ ((↑l.length : Int) ≤ (↑l.length : Int)) ∧ (∃ hs1 : List Int, ((Wf S' hs1) ∧ ((List.drop (if (↑l.length : Int) < IntKind.i64.wrap (x + x1) then (↑l.length : Int) else IntKind.i64.wrap (x + x1)).toNat (List.take (↑l.length : Int).toNat l)).length ≤ 100000) ∧ ((↑(List.drop (if (↑l.length : Int) < IntKind.i64.wrap (x + x1) then (↑l.length : Int) else IntKind.i64.wrap (x + x1)).toNat (List.take (↑l.length : Int).toNat l)).length : Int) ≤ S'.free) ∧ (hs1.length + (List.drop (if (↑l.length : Int) < IntKind.i64.wrap (x + x1) then (↑l.length : Int) else IntKind.i64.wrap (x + x1)).toNat (List.take (↑l.length : Int).toNat l)).length ≤ 900000000) ∧ (0 ≤ IntKind.u64.wrap (IntKind.u64.wrap (t * 7) + 3)) ∧ (∀ S'1 : Arn, (∀ i1 : Int, ((PlantR S' hs1 (List.drop (if (↑l.length : Int) < IntKind.i64.wrap (x + x1) then (↑l.length : Int) else IntKind.i64.wrap (x + x1)).toNat (List.take (↑l.length : Int).toNat l)) S'1 i1) → (((0 : Int) ≤ 0) ∧ (0 ≤ x) ∧ (x ≤ (↑l.length : Int)) ∧ (0 ≤ if (↑l.length : Int) < IntKind.i64.wrap (x + x1) then (↑l.length : Int) else IntKind.i64.wrap (x + x1)) ∧ ((if (↑l.length : Int) < IntKind.i64.wrap (x + x1) then (↑l.length : Int) else IntKind.i64.wrap (x + x1)) ≤ (↑l.length : Int)) ∧ ((↑l.length : Int) ≤ (↑l.length : Int)) ∧
    (K (SV.tup [(TV.at (At.ptr 2 0)), (TV.at (At.val (Value.int IntKind.u32 (i)))), (TV.at (At.val (Value.int IntKind.u32 (i1)))), (TV.at (At.slc 3)), (TV.at (At.slc 4)), (TV.at (At.val (Value.bool true)))]) [(Chunk.row false (EC.ent) (raw)), (Chunk.row false (EC.ent) (l)), (Chunk.box [(At.ptr 5 0), (At.slc 6), (At.slc 7), (At.val (Value.int IntKind.u64 (S'1.reads)))]), (Chunk.row false (EC.ent) (List.drop (Int.toNat 0) (List.take x.toNat l))), (Chunk.row false (EC.ent) (List.drop (if (↑l.length : Int) < IntKind.i64.wrap (x + x1) then (↑l.length : Int) else IntKind.i64.wrap (x + x1)).toNat (List.take (↑l.length : Int).toNat l))), (Chunk.box [(At.slc 8), (At.slc 9), (At.slc 10), (At.val (Value.int IntKind.u32 (S'1.fresh)))]), (Chunk.row true (EC.node) (S'1.nodes)), (Chunk.row true (EC.int) (S'1.counts)), (Chunk.row true (EC.bool) (S'1.used)), (Chunk.row true (EC.u32) (S'1.gen)), (Chunk.row true (EC.u32) (S'1.rel))] []))))))))))))))))))))))))) = _ by kernel_rfl) ?_
  rw [wrap_id (x := (l.length : Int) + 1) (by omega) (by omega), wrap_id (x := (l.length : Int) + 1 + sp) (by omega) (by omega)]
  refine ⟨by omega, by omega, fun x ex => ⟨by decide, by decide, fun x1 ex1 => ⟨fun c => by omega, fun _ _ S eS => ?_⟩⟩⟩
  obtain ⟨r1, r2⟩ := mod_rng2 (by omega) ex
  obtain ⟨r3, r4⟩ := mod_rng2 (by omega) ex1
  rw [wrap_id (x := x + x1) (by omega) (by omega)]
  have eq : ∃ q : Nat, (if (l.length : Int) < x + x1 then (l.length : Int) else x + x1) = (q : Int) ∧ x.toNat ≤ q ∧ q ≤ l.length := by
    split
    · exact ⟨l.length, rfl, by omega, Nat.le_refl _⟩
    · exact ⟨(x + x1).toNat, by omega, by omega, by omega⟩
  obtain ⟨q, e, q1, q2⟩ := eq
  rw [e]
  have e1 : List.drop (Int.toNat 0) (List.take x.toNat l) = l.take x.toNat := rfl
  have e2 : (q : Int).toNat = q := rfl
  have e3 : ((l.length : Int)).toNat = l.length := rfl
  rw [e1, e2, e3, List.take_length]
  have n1 : (l.take x.toNat).length ≤ l.length := by simp; omega
  have n2 : (l.drop q).length ≤ l.length - q := by simp
  have n3 : (l.take x.toNat).length = x.toNat := by simp; omega
  have w : Wf S [] := by rw [eS]; exact Wf.new (by omega) (by omega)
  have fr : S.free = (l.length : Int) + 1 + sp := by rw [eS, newS_free]; omega
  refine ⟨by decide, r1, by omega, [], w, by omega, by omega, by simp; omega, h0, fun S1 i hp => ?_⟩
  rw [eS] at hp
  have fr1 := plant_free hp
  refine ⟨by omega, by omega, by omega, [i], hp.wf, by omega, by omega, by simp; omega, ?_, fun S2 j hp2 => ⟨by decide, r1, by omega, by omega, by omega, by omega, ?_⟩⟩
  · unfold IntKind.wrap; simp [IntKind.signed, IntKind.bits]; omega
  · have key : ∀ z : List Ent, z = l.drop q → K (.tup [.at (.ptr 2 0), .at (vU i), .at (vU j), .at (.slc 3), .at (.slc 4), .at (vB true)]) (chPr raw l (l.take x.toNat) z S2) [] := fun z ez => by
      subst ez
      exact h S2 i j x.toNat q q1 q2 (plant_pair hp hp2)
    exact key _ (congrArg (List.drop q) (List.take_length (l := l)))
theorem s_pair13 : SoundT C0 46 tPair13 := by
  refine .of Try.func46 (by decide) rfl fun args H K h hB => ?_
  unfold tPair13 at h
  split at h <;> try exact h.elim
  rename_i at' sk t sp raw l
  exact ⟨aPair13, ⟨frame C0.ok s_mod _, frame C0.ok s_new _, frame C0.ok s_plantA _, trivial⟩, vc_pair13 raw l at' sk t sp K h.1 h.2.1 h.2.2.1 h.2.2.2.1 h.2.2.2.2⟩
theorem vc_aw13 (K : KT) (h : K (.one (.at (vB true))) [] []) : vc C0 aAw13 Try.f41 [] [] (normK 0 K) := by
  refine Eq.mp (show (((0 : Int) ≤ 0) ∧
((1 : Int) ≤ 60) ∧
((60 : Int) ≤ 30000) ∧
(([(1, 10)] : List Ent).length ≤ 30000) ∧
(∀ S' : Arn, (∀ i : Int, ((PlantR (newS ((↑([(1, 10)] : List Ent).length : Int) + 60).toNat) [] ([(1, 10)] : List Ent) S' i) → (∃ hs : List Int, (∃ tl : Tr, (∃ tr : Tr, ((jnM S' hs tl tr i 0) ∧ (S'.reads ≤ 900000000000000000) ∧ ((ordB tl.list 5 tr.list) = false) ∧ (4 * (Hn ((↑tl.size : Int) + (↑tr.size : Int) + 1) + 2) ≤ S'.free) ∧ (∀ S'1 : Arn, (∀ i1 : Int, ((TrR S' hs (tl.list ++ (5, 50) :: tr.list) (jB tl.size tr.size) (4 * jB tl.size tr.size + ht tl + ht tr + 2) S'1 i1) → (∃ hs1 : List Int, (∃ t : Tr, ((upM S'1 hs1 t i1) ∧ (12 * (Hn (↑t.size : Int) + 2) ≤ S'1.free) ∧ (∀ S'2 : Arn, (∀ x : Int, (∀ y : Int, (∀ o : Option Int, ((Got S'1 hs1 (7 * gN (t.size + 1) + 1) (35 * gN (t.size + 1) + 5 + 2 * ht t + 1) S'2 (x :: y :: hs1)) → ((∃ t1 : Tr, ((Rep S'2 t1 x) ∧ ((t1.list) = (flt (ltK 5) t.list)) ∧ (t1.Bal))) → ((∃ t2 : Tr, ((Rep S'2 t2 y) ∧ ((t2.list) = (flt (gtK 5) t.list)) ∧ (t2.Bal))) → (((o) = (getE t.list 5)) → (brS (o.isSome) ((brS (o.getD 0 == 50) ((brS (y == 0) (((inU i1) ∧ (exW S'2) ∧ (S'2.reads < 4000000000000000000) ∧ (∀ S'3 : Arn, (((S'3) = (rdS S'2 (S'2.us i1).toNat)) → (brS ((S'2.nd i1).size == 2) (((inU x) ∧ (exW S'3) ∧ (S'3.reads < 4000000000000000000) ∧ (∀ S'4 : Arn, (((S'4) = (rdS S'3 (S'3.us x).toNat)) → (K (SV.one (TV.at (At.val (Value.bool ((S'3.nd x).size == 1))))) [] []))))) ((K (SV.one (TV.at (At.val (Value.bool false)))) [] [])))))))
    ((K (SV.one (TV.at (At.val (Value.bool false)))) [] [])))) ((K (SV.one (TV.at (At.val (Value.bool false)))) [] [])))) ((K (SV.one (TV.at (At.val (Value.bool false)))) [] []))))))))))))))))))))))))) = _ by kernel_rfl) ?_
  refine ⟨by decide, by decide, by decide, by decide, fun S1 i hp => ?_⟩
  have fr := plant_free hp
  have fr : S1.free = 60 := by rw [fr]; rfl
  obtain ⟨t, r1, l1, b1⟩ := hp.rep
  have z1 : t.size = 1 := by rw [← t.list_len, l1]; rfl
  have rd : S1.reads = 0 := by rw [hp.rds]; rfl
  have a2 : Hn (2 : Int) = 2 := by decide
  have a1 : Hn (1 : Int) = 1 := by decide
  refine ⟨[i], t, .nil, ⟨hp.wf, r1, rfl, b1, trivial, by rw [z1]; decide, by simp, by omega⟩, by omega, by rw [l1]; rfl, ?_, fun S2 j tj => ?_⟩
  · rw [z1]
    have : Hn (((1 : Nat) : Int) + (Tr.nil.size : Int) + 1) = 2 := a2
    omega
  rw [l1] at tj
  have f2 := tj.got.free hp.wf
  have q2 := tj.got.rd
  have q20 := tj.got.rd0
  have jb : jB t.size Tr.nil.size ≤ 7 := by rw [z1]; have := jB_g (a := 1) (b := 0) (by omega); have : gN (1 + 0 + 1) = 1 := by decide
                                            have e : jB 1 Tr.nil.size = jB 1 0 := rfl
                                            omega
  have hb := Bal.height b1 (by omega)
  rw [z1, show ((1 : Nat) : Int) = 1 from rfl, a1] at hb
  have hn : ht Tr.nil = 0 := rfl
  obtain ⟨u, ru, lu, bu⟩ := tj.tree
  have lu : u.list = [(1, 10), (5, 50)] := lu
  have asc2 : Asc [(1, 10), (5, 50)] := List.pairwise_cons.2 ⟨fun x hx => by
    have : x = (5, 50) := by simpa using hx
    rw [this]
    decide, List.pairwise_singleton _ _⟩
  have zu : u.size = 2 := by rw [← u.list_len, lu]; rfl
  refine ⟨[j, i], u, ⟨tj.got.wf, ru, bu, by rw [lu]; exact asc2, by omega, by simp, by omega⟩, ?_, fun S3 x y o g t1 t2 eo => ?_⟩
  · rw [zu]; show 12 * (Hn 2 + 2) ≤ S2.free; omega
  obtain ⟨ta, ra, la, ba⟩ := t1
  obtain ⟨tb, rb, lb, bb⟩ := t2
  have la : ta.list = [(1, 10)] := by rw [la, lu]; rfl
  have lb : tb.list = [] := by rw [lb, lu]; rfl
  have za : ta.size = 1 := by rw [← ta.list_len, la]; rfl
  have zb : tb.size = 0 := by rw [← tb.list_len, lb]; rfl
  have eo : o = some 50 := by rw [eo, lu]; rfl
  have hy : y = 0 := by
    cases tb with
    | nil => exact rb
    | node a k v b => simp [Tr.size] at zb
  have rj : Rep S3 u j := ru.held tj.got.wf g.stay (.inr (by simp))
  have q3 := g.rd
  have q30 := g.rd0
  have hh := Bal.height bu (by omega)
  rw [zu] at q3 hh
  have a2' : Hn ((2 : Nat) : Int) = 2 := a2
  have hgn : gN (2 + 1) ≤ 80 := gN_rng _
  have w3 := g.wf
  have s3 := us_one (S3.us j)
  refine bt7 (by rw [eo]; rfl) (bt7 (by rw [eo]; rfl) (bt7 (by simp [hy]) ⟨inU_of w3 rj.us, ⟨_, w3⟩, by omega, fun S4 e4 => bt7 (by rw [rj.size w3, zu]; rfl) ?_⟩))
  have w4 : Wf S4 (x :: y :: j :: i :: []) := by rw [e4]; exact w3.rd (by omega)
  have ra4 : Rep S4 ta x := by rw [e4]; exact rep_rd ra _
  have q4 : S4.reads = S3.reads + (S3.us j).toNat := by rw [e4]; rfl
  refine ⟨inU_of w4 ra4.us, ⟨_, w4⟩, by omega, fun S5 _ => ?_⟩
  rw [ra4.size w4, za]
  exact h
theorem s_aw13 : SoundT C0 41 tAw13 := by
  refine .of Try.func41 (by decide) rfl fun args H K h hB => ?_
  unfold tAw13 at h
  split at h <;> try exact h.elim
  exact ⟨aAw13, ⟨frame C0.ok s_grow _, frame C0.ok s_jjOk _, frame C0.ok s_jsOk _, frame C0.ok s_size _, trivial⟩, vc_aw13 K h⟩
end Go.Proofs.Ytjbkckcjmmmooaa.Sx
end
section
/- The laws that Join undoes Split, and that Split splits. -/
namespace Go.Proofs.Ytjbkckcjmmmooaa.Sx
open Go

/-KEEP Wf exW inU live Arn.cap Arn.free Rep rdS retL Tr.size Tr.list Tr.Bal balN jB cB gN TrR Got flt ltK gtK getE Asc Hn ht entO List.head? List.getLast? PlantR newS slotsOf orderOf RepD jnM upM ordB listE Kept List.Perm-/
structure XJr (P : List Int → Nat → Arn → Prop) where
  S : Arn
  n : Nat
  L : List Int
  h : P L n S
noncomputable def aJu (raw : List Ent) (P : List Int → Nat → Arn → Prop) : Ann C0 := { quiet := [44, 22, 33], Γ := [(34, frameT [] tLst), (17, frameT [] tGrow), (41, frameT [] tAw13), (15, frameT [] tMod), (42, frameT [] tJsOk), (43, frameT [] tJjOk), (44, frameT [] tTree13), (29, frameT [] tRel), (22, frameT [] tFree), (33, frameT [] tCap)], inv := fun n => match n with
  | 13 => some { X := XJr P, sl := [8, 92, 90], tf := fun x => [.one (.at (.ptr 1 0)), vi .i64 x.n, .one (.at (.slc 8))], hf := fun x => [.row false EC.ent raw] ++ chSk 1 x.S ++ [.row true EC.u32 x.L], μ := fun x => 4 - x.n }
  | _ => none }
def tJu : Tfm C0 := fun args H K => match args, H with
  | [.at (.slc 0), .at (.val (.int .u64 t)), .at (.val (.int .i64 _))], [.row false .ent raw] => 0 ≤ t ∧ K (.one (.at (vB true))) [.row false EC.ent raw] []
  | _, _ => False
theorem Hn_ge (n m : Nat) (h : n ≤ m) : Hn n ≤ Hn m := by
  have a := gN_size n
  have b := gN_size m
  have c := gN_mono (v := n + 1) (w := m + 1) (by omega) (by omega)
  omega
theorem Hn_200 {n : Nat} (h : n ≤ 200) : Hn n ≤ 15 := by
  have a := Hn_ge n 200 h
  have : Hn ((200 : Nat) : Int) = 15 := by decide
  omega
theorem split_join {l : List Ent} {k v : Int} (ha : Asc l) (h : (k, v) ∈ l) : flt (ltK k) l ++ (k, v) :: flt (gtK k) l = l ∧ getE l k = some v := by
  obtain ⟨a, b, rfl⟩ := List.append_of_mem h
  rw [lt_at ha, gt_at ha]
  exact ⟨rfl, getE_at ha⟩
theorem ordB_false {L R : List Ent} {k : Int} (h1 : ∀ x ∈ L, x.1 < k) (h2 : ∀ x ∈ R, k < x.1) : ordB L k R = false := by
  have e1 : (L.getLast?.isSome && decide ((L.getLast?.getD (0, 0)).1 ≥ k)) = false := by
    cases h : L.getLast? with
    | none => rfl
    | some x =>
      have := h1 x (List.mem_of_getLast? h)
      show (true && decide (x.1 ≥ k)) = false
      rw [decide_eq_false (by omega)]; rfl
  have e2 : (R.head?.isSome && decide ((R.head?.getD (0, 0)).1 ≤ k)) = false := by
    cases h : R.head? with
    | none => rfl
    | some x =>
      have := h2 x (List.mem_of_head? h)
      show (true && decide (x.1 ≤ k)) = false
      rw [decide_eq_false (by omega)]; rfl
  unfold ordB
  rw [e1, e2]; rfl
theorem flt_lt_all {l : List Ent} {k : Int} : ∀ x ∈ flt (ltK k) l, x.1 < k := fun x hx => by
  have := (List.mem_filter.1 hx).2
  simpa [ltK] using this
theorem flt_gt_all {l : List Ent} {k : Int} : ∀ x ∈ flt (gtK k) l, k < x.1 := fun x hx => by
  have := (List.mem_filter.1 hx).2
  simpa [gtK] using this
def PJr (L : List Int) (n : Nat) (S : Arn) : Prop := L.length = 4 ∧ n ≤ 4 ∧ Wf S (L.drop n)
theorem vc_ju (raw : List Ent) (t at' : Int) (K : KT) (h0 : 0 ≤ t) (h : K (.one (.at (vB true))) [.row false EC.ent raw] []) :
    vc C0 (aJu raw PJr) Try.f8 [.at (.slc 0), .at (vU64 t), .at (vI at')] [.row false EC.ent raw] (normK 1 K) := by
  generalize hP : PJr = P
  refine Eq.mp (show (((0 : Int) ≤ 150) ∧
((150 : Int) ≤ 1000000) ∧
(0 ≤ t) ∧
((1 : Int) ≤ 400) ∧
((400 : Int) ≤ 30000) ∧
((listE raw (Int.toNat 150)).length ≤ 30000) ∧
(∀ S' : Arn, (∀ i : Int, ((PlantR (newS ((↑(listE raw (Int.toNat 150)).length : Int) + 400).toNat) [] (listE raw (Int.toNat 150)) S' i) → (brS ((↑(listE raw (Int.toNat 150)).length : Int) == 0) ((K (SV.one (TV.at (At.val (Value.bool true)))) [(Chunk.row false (EC.ent) (raw))] [])) (((0 < (↑(listE raw (Int.toNat 150)).length : Int)) ∧ ((↑(listE raw (Int.toNat 150)).length : Int) ≤ 9223372036854775807) ∧ (∀ x : Int, (((x) = (at' % (↑(listE raw (Int.toNat 150)).length : Int))) → ((0 ≤ x) ∧ (x < (↑(listE raw (Int.toNat 150)).length : Int)) ∧ (∃ hs : List Int, (∃ t1 : Tr, ((upM S' hs t1 i) ∧ (12 * (Hn (↑t1.size : Int) + 2) ≤ S'.free) ∧ (∀ S'1 : Arn, (∀ x1 : Int, (∀ y : Int, (∀ o : Option Int, ((Got S' hs (7 * gN (t1.size + 1) + 1) (35 * gN (t1.size + 1) + 5 + 2 * ht t1 + 1) S'1 (x1 :: y :: hs)) → ((∃ t11 : Tr, ((Rep S'1 t11 x1) ∧ ((t11.list) = (flt (ltK ((listE raw (Int.toNat 150)).getD x.toNat (0, 0)).fst) t1.list)) ∧ (t11.Bal))) → ((∃ t2 : Tr, ((Rep S'1 t2 y) ∧ ((t2.list) = (flt (gtK ((listE raw (Int.toNat 150)).getD x.toNat (0, 0)).fst) t1.list)) ∧ (t2.Bal))) → (((o) = (getE t1.list ((listE raw (Int.toNat 150)).getD x.toNat (0, 0)).fst)) → (∃ hs1 : List Int, (∃ tl : Tr, (∃ tr : Tr, ((jnM S'1 hs1 tl tr x1 y) ∧ (S'1.reads ≤ 900000000000000000) ∧ ((ordB tl.list ((listE raw (Int.toNat 150)).getD x.toNat (0, 0)).fst tr.list) = false) ∧
    (4 * (Hn ((↑tl.size : Int) + (↑tr.size : Int) + 1) + 2) ≤ S'1.free) ∧ (∀ S'2 : Arn, (∀ i1 : Int, ((TrR S'1 hs1 (tl.list ++ (((listE raw (Int.toNat 150)).getD x.toNat (0, 0)).fst, o.getD 0) :: tr.list) (jB tl.size tr.size) (4 * jB tl.size tr.size + ht tl + ht tr + 2) S'2 i1) → (brS (!o.isSome) ((K (SV.one (TV.at (At.val (Value.bool false)))) [(Chunk.row false (EC.ent) (raw))] [])) (((∃ hs2 : List Int, (∃ t2 : Tr, ((Wf S'2 hs2) ∧ (Rep S'2 t2 i1) ∧ ((t2.list) = (listE raw (Int.toNat 150))) ∧ (t2.Bal) ∧ (Asc (listE raw (Int.toNat 150)))))) ∧ (∃ x2 : XJr P, (True ∧ (True ∧ True ∧ ((Value.int IntKind.i64 4) = (Value.int IntKind.i64 4)) ∧ ((Value.int IntKind.i64 0) = (Value.int IntKind.i64 ((↑x2.n : Int)))) ∧ True) ∧ ((raw) = (raw)) ∧ (True ∧ True ∧ True ∧ ((Value.int IntKind.u64 (S'2.reads)) = (Value.int IntKind.u64 (x2.S.reads))) ∧ True) ∧ (True ∧ True ∧ True ∧ ((Value.int IntKind.u32 (S'2.fresh)) = (Value.int IntKind.u32 (x2.S.fresh))) ∧ True) ∧ ((S'2.nodes) = (x2.S.nodes)) ∧ ((S'2.counts) = (x2.S.counts)) ∧ ((S'2.used) = (x2.S.used)) ∧ ((S'2.gen) = (x2.S.gen)) ∧ ((S'2.rel) = (x2.S.rel)) ∧ ([(i), (x1), (y), (i1)] = (x2.L)) ∧ True)) ∧ (∀ x2 : XJr P, (True → (brS (decide ((↑x2.n : Int) < (↑[i, x1, y, i1].length : Int))) (((0 ≤ (↑x2.n : Int)) ∧ ((↑x2.n : Int) < (↑x2.L.length : Int)) ∧ (∃ hs2 : List Int, ((Wf x2.S (x2.L.getD (↑x2.n : Int).toNat 0 :: hs2)) ∧ (∀ S'3 : Arn, (∀ fr : Int, ((Wf S'3 hs2) → ((Kept x2.S S'3) → (∃ x' : XJr P, (True ∧ ((True ∧ True ∧
    ((Value.int IntKind.i64 4) = (Value.int IntKind.i64 4)) ∧ ((Value.int IntKind.i64 (IntKind.i64.wrap ((↑x2.n : Int) + 1))) = (Value.int IntKind.i64 ((↑x'.n : Int)))) ∧ True) ∧ ((raw) = (raw)) ∧ (True ∧ True ∧ True ∧ ((Value.int IntKind.u64 (S'3.reads)) = (Value.int IntKind.u64 (x'.S.reads))) ∧ True) ∧ (True ∧ True ∧ True ∧ ((Value.int IntKind.u32 (S'3.fresh)) = (Value.int IntKind.u32 (x'.S.fresh))) ∧ True) ∧ ((S'3.nodes) = (x'.S.nodes)) ∧ ((S'3.counts) = (x'.S.counts)) ∧ ((S'3.used) = (x'.S.used)) ∧ ((S'3.gen) = (x'.S.gen)) ∧ ((S'3.rel) = (x'.S.rel)) ∧ ((x2.L) = (x'.L)) ∧ True) ∧ (4 - x'.n < 4 - x2.n))))))))))) (((exW x2.S) ∧ (exW x2.S) ∧ (K (SV.one (TV.at (At.val (Value.bool (x2.S.free == x2.S.cap))))) [(Chunk.row false (EC.ent) (raw))] []))))))))))))))))))))))))))))))))))))) = _ by kernel_rfl) ?_
  subst hP
  obtain ⟨la, ll⟩ := listE_spec raw 150
  have e150 : Int.toNat 150 = 150 := rfl
  rw [e150]
  generalize listE raw 150 = l at *
  refine ⟨by decide, by decide, h0, by decide, by decide, by omega, fun S1 i hp => brS_of (fun _ => h) fun c => ?_⟩
  obtain ⟨t1, up, lt, zt⟩ := plant_up hp la (by omega)
  have rd0 : S1.reads = 0 := by rw [hp.rds]; rfl
  have fr := plant_free hp
  have c : 0 < l.length := by
    rcases Nat.eq_zero_or_pos l.length with e | e
    · rw [e] at c; cases c
    · exact e
  refine ⟨by omega, by omega, fun x ex => ?_⟩
  obtain ⟨x0, x1⟩ := mod_rng2 (by omega) ex
  refine ⟨x0, x1, ?_⟩
  have hx : l.getD x.toNat (0, 0) ∈ l := by rw [List.getD_eq_getElem?_getD, List.getElem?_eq_getElem (by omega)]; exact List.getElem_mem _
  generalize l.getD x.toNat (0, 0) = e at *
  obtain ⟨k, v⟩ := e
  obtain ⟨sj, sg⟩ := split_join la hx
  have hH := Hn_200 (n := l.length) (by omega)
  have hg := gN_size l.length
  have hb := Bal.height up.2.2.1 (by omega)
  rw [zt] at hb
  refine ⟨[i], t1, up, by rw [zt]; omega, fun S2 x2 y o g ta tb eo => ?_⟩
  rw [lt] at ta tb eo
  obtain ⟨ua, ra, la1, ba⟩ := ta
  obtain ⟨ub, rb, lb1, bb⟩ := tb
  have la1 : ua.list = flt (ltK k) l := la1
  have lb1 : ub.list = flt (gtK k) l := lb1
  have eo : o = some v := by rw [eo]; exact sg
  have f2 := g.free up.1
  have q2 := g.rd
  have q20 := g.rd0
  rw [zt] at f2 q2
  have za : ua.size ≤ l.length := by rw [← ua.list_len, la1]; exact flt_len
  have zb : ub.size ≤ l.length := by rw [← ub.list_len, lb1]; exact flt_len
  have zs : ua.size + ub.size + 1 = l.length := by
    have := congrArg List.length sj
    rw [List.length_append, List.length_cons, ← la1, ← lb1, ua.list_len, ub.list_len] at this
    omega
  have hH2 : Hn ((ua.size : Int) + ub.size + 1) ≤ 15 := by
    rw [show (ua.size : Int) + ub.size + 1 = (l.length : Int) by omega]; exact hH
  refine ⟨[x2, y, i], ua, ub, ⟨g.wf, ra, rb, ba, bb, by omega, by simp, by omega⟩, by omega, ?_, by omega, fun S3 j tj => bf7 (by rw [eo]; rfl) ⟨?_, ?_, fun z _ => ?_⟩⟩
  · rw [la1, lb1]; exact ordB_false flt_lt_all flt_gt_all
  · obtain ⟨u, ru, lu, bu⟩ := tj.tree
    exact ⟨_, u, tj.got.wf, ru, by rw [lu, la1, lb1, eo]; exact sj, bu, la⟩
  · refine ⟨⟨S3, 0, [i, x2, y, j], rfl, by omega, ?_⟩, ?_⟩
    · exact tj.got.wf.perm ((List.reverse_perm [i, y, x2, j]).trans ((List.Perm.swap x2 y [j]).cons i))
    (repeat' first | exact trivial | exact rfl | refine And.intro ?_ ?_)
  obtain ⟨S, n, L, hL, hn, w⟩ := z
  dsimp only
  have e4 : [i, x2, y, j].length = 4 := rfl
  refine brS_of (fun d => ?_) fun d => ?_
  · have d : (n : Int) < ([i, x2, y, j].length : Int) := of_decide_eq_true d
    have hlt : n < L.length := by omega
    have e : L.drop n = L.getD n 0 :: L.drop (n + 1) := by
      rw [List.drop_eq_getElem_cons hlt, List.getD_eq_getElem?_getD, List.getElem?_eq_getElem hlt]; rfl
    rw [e] at w
    refine ⟨by omega, by omega, L.drop (n + 1), w, fun S4 fr w4 _ => ⟨⟨S4, n + 1, L, hL, by omega, w4⟩, ?_⟩⟩
    (repeat' first | exact trivial | exact rfl | refine And.intro ?_ ?_)
    · rw [wrap_id (by omega) (by omega)]; congr 1
    · show 4 - (n + 1) < 4 - n; omega
  · have d : ¬ (n : Int) < ([i, x2, y, j].length : Int) := of_decide_eq_false d
    have en : n = L.length := by omega
    rw [en, List.drop_length] at w
    have xw : exW S := ⟨_, w⟩
    refine ⟨xw, xw, ?_⟩
    rw [w.empty.2]
    simpa using h
theorem s_ju : SoundT C0 8 tJu := by
  refine .of Try.func8 (by decide) rfl fun args H K h hB => ?_
  unfold tJu at h
  split at h <;> try exact h.elim
  rename_i t at' raw
  exact ⟨aJu raw PJr, ⟨frame C0.ok s_lst _, frame C0.ok s_grow _, frame C0.ok s_aw13 _, frame C0.ok s_mod _, frame C0.ok s_jsOk _, frame C0.ok s_jjOk _, frame C0.ok s_tree13 _, frame C0.ok s_rel _, frame C0.ok s_free _, frame C0.ok s_cap _, trivial⟩, vc_ju raw t at' K h.1 h.2⟩
end Go.Proofs.Ytjbkckcjmmmooaa.Sx
end
section
/- The reference's Head, Rank, Between. -/
namespace Go.Proofs.Ytjbkckcjmmmooaa.Sx
open Go

/-KEEP Wf exW inU live Arn.cap Arn.free Rep rdS Tr.size betE listE-/
structure XHd (n : Nat) (m : Int) where
  i : Nat
  h : i ≤ n ∧ i ≤ m.toNat
noncomputable def aHd (l : List Ent) (m : Int) : Ann C0 := { Γ := [], inv := fun n => match n with
  | 3 => some { X := XHd l.length m, sl := [6, 5], tf := fun x => [vi .i64 x.i, .one (.at (.slc 1))], hf := fun x => [.row false EC.ent l, .row true EC.ent (l.take x.i)], μ := fun x => l.length - x.i }
  | _ => none }
def tHd : Tfm C0 := fun args H K => match args, H with
  | [.at (.slc 0), .at (.val (.int .i64 m))], [.row false .ent l] => l.length ≤ 1000000 ∧ ∀ r : List Ent, r = l.take m.toNat → K (.one (.at (.slc 1))) [.row false EC.ent l, .row true EC.ent r] []
  | _, _ => False
theorem hd_next {l : List Ent} {i : Nat} (h : i < l.length) : l.take i ++ [eA l i] = l.take (i + 1) := by
  rw [List.take_add_one, List.getElem?_eq_getElem h]
  simp [eA, List.getD_eq_getElem?_getD, List.getElem?_eq_getElem h]
theorem vc_hd (l : List Ent) (m : Int) (K : KT) (h1 : l.length ≤ 1000000) (h : ∀ r : List Ent, r = l.take m.toNat → K (.one (.at (.slc 1))) [.row false EC.ent l, .row true EC.ent r] []) :
    vc C0 (aHd l m) Try.f51 [.at (.slc 0), .at (vI m)] [.row false EC.ent l] (normK 1 K) := by
  refine Eq.mp (show ((∃ x : XHd l.length m, (True ∧ (True ∧ ((Value.int IntKind.i64 (m)) = (Value.int IntKind.i64 (m))) ∧ True ∧ ((Value.int IntKind.i64 0) = (Value.int IntKind.i64 ((↑x.i : Int)))) ∧ True) ∧ ((l) = (l)) ∧ ([] = (List.take x.i l)) ∧ True)) ∧
(∀ x : XHd l.length m, (True → (brS (decide ((↑x.i : Int) < (↑l.length : Int))) ((brS (decide ((↑x.i : Int) < m)) (((0 ≤ (↑x.i : Int)) ∧ ((↑x.i : Int) < (↑l.length : Int)) ∧ (((List.take x.i l).length + [eA l x.i].length) * bytesOf C0 EC.ent ≤ 140737488355328) ∧ (∃ x' : XHd l.length m, (True ∧ ((True ∧ ((Value.int IntKind.i64 (m)) = (Value.int IntKind.i64 (m))) ∧ True ∧ ((Value.int IntKind.i64 (IntKind.i64.wrap ((↑x.i : Int) + 1))) = (Value.int IntKind.i64 ((↑x'.i : Int)))) ∧ True) ∧ ((l) = (l)) ∧ ((List.take x.i l ++ [eA l x.i]) = (List.take x'.i l)) ∧ True) ∧ (l.length - x'.i < l.length - x.i))))) ((K (SV.one (TV.at (At.slc 1))) [(Chunk.row false (EC.ent) (l)), (Chunk.row true (EC.ent) (List.take x.i l))] [])))) ((K (SV.one (TV.at (At.slc 1))) [(Chunk.row false (EC.ent) (l)), (Chunk.row true (EC.ent) (List.take x.i l))] [])))))) = _ by kernel_rfl) ?_
  rw [bytes_ent]
  refine ⟨⟨⟨0, Nat.zero_le _, Nat.zero_le _⟩, ?_⟩, fun x _ => ?_⟩
  · (repeat' first | exact trivial | exact rfl | refine And.intro ?_ ?_)
  obtain ⟨i, h2, h3⟩ := x
  dsimp only
  refine brS_of (fun c => brS_of (fun d => ?_) fun d => ?_) fun c => ?_
  · have c : i < l.length := by have := of_decide_eq_true c; omega
    have d : (i : Int) < m := of_decide_eq_true d
    refine ⟨by omega, by omega, ?_, ⟨i + 1, c, by omega⟩, ?_⟩
    · have : (l.take i).length ≤ l.length := by simp; omega
      show ((l.take i).length + 1) * 16 ≤ 140737488355328
      omega
    have v : IntKind.i64.wrap ((i : Int) + 1) = ((i + 1 : Nat) : Int) := by rw [wrap_id (by omega) (by omega)]; rfl
    (repeat' first | exact trivial | exact rfl | exact congrArg (Value.int IntKind.i64) v | exact hd_next c | refine And.intro ?_ ?_)
    show l.length - (i + 1) < l.length - i
    omega
  · have d : ¬ (i : Int) < m := of_decide_eq_false d
    have e : l.take i = l.take m.toNat := by rw [show i = m.toNat by omega]
    exact h _ e
  · have c : i = l.length := by have := of_decide_eq_false c; omega
    have e : l.take i = l.take m.toNat := by rw [List.take_of_length_le (by omega), List.take_of_length_le (by omega)]
    exact h _ e
theorem s_hd : SoundT C0 51 tHd := by
  refine .of Try.func51 (by decide) rfl fun args H K h hB => ?_
  unfold tHd at h
  split at h <;> try exact h.elim
  rename_i m l
  exact ⟨aHd l m, trivial, vc_hd l m K h.1 h.2⟩
def rkE (l : List Ent) (key : Int) : Nat := (l.filter fun x => decide (x.1 < key)).length
noncomputable def aRk9 (l : List Ent) (key : Int) : Ann C0 := { Γ := [], inv := fun n => match n with
  | 3 => some { X := XIx l.length, sl := [6, 5], tf := fun x => [vi .i64 x.i, vi .i64 (rkE (l.take x.i) key)], hf := fun _ => [.row false EC.ent l], μ := fun x => l.length - x.i }
  | _ => none }
def tRk9 : Tfm C0 := fun args H K => match args, H with
  | [.at (.slc 0), .at (.val (.int .i64 key))], [.row false .ent l] => l.length ≤ 1000000 ∧ ∀ n, n = (rkE l key : Int) → K (.one (.at (vI n))) [.row false EC.ent l] []
  | _, _ => False
theorem rkE_snoc {l : List Ent} {i : Nat} {x : Ent} {key : Int} (h : l[i]? = some x) : rkE (l.take (i + 1)) key = rkE (l.take i) key + if x.1 < key then 1 else 0 := by
  rw [take_snoc h]
  unfold rkE
  rw [List.filter_append, List.length_append]
  congr 1
  simp only [List.filter_cons, List.filter_nil]
  by_cases c : x.1 < key
  · simp [c]
  · simp [c]
theorem rkE_le (l : List Ent) (key : Int) : rkE l key ≤ l.length := List.length_filter_le _ _
theorem vc_rk9 (l : List Ent) (key : Int) (K : KT) (h1 : l.length ≤ 1000000) (h : ∀ n, n = (rkE l key : Int) → K (.one (.at (vI n))) [.row false EC.ent l] []) :
    vc C0 (aRk9 l key) Try.f52 [.at (.slc 0), .at (vI key)] [.row false EC.ent l] (normK 1 K) := by
  refine Eq.mp (show ((∃ x : XIx l.length, (True ∧ (True ∧ ((Value.int IntKind.i64 (key)) = (Value.int IntKind.i64 (key))) ∧ ((Value.int IntKind.i64 0) = (Value.int IntKind.i64 ((↑(rkE (List.take x.i l) key) : Int)))) ∧ ((Value.int IntKind.i64 0) = (Value.int IntKind.i64 ((↑x.i : Int)))) ∧ True) ∧ ((l) = (l)) ∧ True)) ∧
(∀ x : XIx l.length, (True → (brS (decide ((↑x.i : Int) < (↑l.length : Int))) (((0 ≤ (↑x.i : Int)) ∧ ((↑x.i : Int) < (↑l.length : Int)) ∧ (brS (decide ((eA l x.i).fst < key)) ((∃ x' : XIx l.length, (True ∧ ((True ∧ ((Value.int IntKind.i64 (key)) = (Value.int IntKind.i64 (key))) ∧ ((Value.int IntKind.i64 (IntKind.i64.wrap ((↑(rkE (List.take x.i l) key) : Int) + 1))) = (Value.int IntKind.i64 ((↑(rkE (List.take x'.i l) key) : Int)))) ∧ ((Value.int IntKind.i64 (IntKind.i64.wrap ((↑x.i : Int) + 1))) = (Value.int IntKind.i64 ((↑x'.i : Int)))) ∧ True) ∧ ((l) = (l)) ∧ True) ∧ (l.length - x'.i < l.length - x.i)))) ((∃ x' : XIx l.length, (True ∧ ((True ∧ ((Value.int IntKind.i64 (key)) = (Value.int IntKind.i64 (key))) ∧ ((Value.int IntKind.i64 ((↑(rkE (List.take x.i l) key) : Int))) = (Value.int IntKind.i64 ((↑(rkE (List.take x'.i l) key) : Int)))) ∧ ((Value.int IntKind.i64 (IntKind.i64.wrap ((↑x.i : Int) + 1))) = (Value.int IntKind.i64 ((↑x'.i : Int)))) ∧ True) ∧ ((l) = (l)) ∧ True) ∧ (l.length - x'.i < l.length - x.i))))))) ((K (SV.one (TV.at (At.val (Value.int IntKind.i64 ((↑(rkE (List.take x.i l) key) : Int)))))) [(Chunk.row false (EC.ent) (l))] [])))))) = _ by kernel_rfl) ?_
  refine ⟨⟨⟨0, Nat.zero_le _⟩, ?_⟩, fun x _ => ?_⟩
  · (repeat' first | exact trivial | exact rfl | refine And.intro ?_ ?_)
  obtain ⟨i, hi⟩ := x
  dsimp only
  refine brS_of (fun c => ?_) fun c => ?_
  · have c : i < l.length := by have := of_decide_eq_true c; omega
    have hx := eA_get c
    have e := rkE_snoc (key := key) hx
    have hr := rkE_le (l.take i) key
    have hl : (l.take i).length ≤ l.length := by simp; omega
    have v : IntKind.i64.wrap ((i : Int) + 1) = ((i + 1 : Nat) : Int) := by rw [wrap_id (by omega) (by omega)]; rfl
    have mu : l.length - (i + 1) < l.length - i := by omega
    refine ⟨by omega, by omega, brS_of (fun d => ⟨⟨i + 1, c⟩, ?_⟩) fun d => ⟨⟨i + 1, c⟩, ?_⟩⟩
    · rw [if_pos (of_decide_eq_true d)] at e
      have v2 : IntKind.i64.wrap ((rkE (l.take i) key : Int) + 1) = (rkE (l.take (i + 1)) key : Int) := by rw [wrap_id (by omega) (by omega), e]; rfl
      (repeat' first | exact trivial | exact rfl | exact congrArg (Value.int IntKind.i64) v | exact congrArg (Value.int IntKind.i64) v2 | exact mu | refine And.intro ?_ ?_)
    · rw [if_neg (of_decide_eq_false d)] at e
      have v2 : (rkE (l.take i) key : Int) = (rkE (l.take (i + 1)) key : Int) := by rw [e]; rfl
      (repeat' first | exact trivial | exact rfl | exact congrArg (Value.int IntKind.i64) v | exact congrArg (Value.int IntKind.i64) v2 | exact mu | refine And.intro ?_ ?_)
  · have c : i = l.length := by have := of_decide_eq_false c; omega
    exact h _ (by rw [c, List.take_length])
theorem s_rk9 : SoundT C0 52 tRk9 := by
  refine .of Try.func52 (by decide) rfl fun args H K h hB => ?_
  unfold tRk9 at h
  split at h <;> try exact h.elim
  rename_i key l
  exact ⟨aRk9 l key, trivial, vc_rk9 l key K h.1 h.2⟩
structure XBet (l : List Ent) where
  i : Nat
  h : i ≤ l.length
noncomputable def aBet (l : List Ent) (lo hi : Int) : Ann C0 := { Γ := [], inv := fun n => match n with
  | 3 => some { X := XBet l, sl := [8, 7], tf := fun x => [vi .i64 x.i, .one (.at (.slc 1))], hf := fun x => [.row false EC.ent l, .row true EC.ent (betE (l.take x.i) lo hi)], μ := fun x => l.length - x.i }
  | _ => none }
def tBet : Tfm C0 := fun args H K => match args, H with
  | [.at (.slc 0), .at (.val (.int .i64 lo)), .at (.val (.int .i64 hi))], [.row false .ent l] => l.length ≤ 1000000 ∧ ∀ r : List Ent, r = betE l lo hi → K (.one (.at (.slc 1))) [.row false EC.ent l, .row true EC.ent r] []
  | _, _ => False
theorem betE_snoc {l : List Ent} {lo hi : Int} {i : Nat} {x : Ent} (h : l[i]? = some x) : betE (l.take (i + 1)) lo hi = betE (l.take i) lo hi ++ (if (decide (lo ≤ x.1) && decide (x.1 ≤ hi)) = true then [x] else []) := by
  rw [take_snoc h]
  unfold betE
  rw [List.filter_append]
  simp only [List.filter_cons, List.filter_nil]
theorem betE_len (l : List Ent) (lo hi : Int) (i : Nat) : (betE (l.take i) lo hi).length ≤ i := by
  unfold betE
  exact Nat.le_trans (List.length_filter_le _ _) (List.length_take_le _ _)
theorem vc_bet (l : List Ent) (lo hi : Int) (K : KT) (hsm : l.length ≤ 1000000) (h : ∀ r : List Ent, r = betE l lo hi → K (.one (.at (.slc 1))) [.row false EC.ent l, .row true EC.ent r] []) :
    vc C0 (aBet l lo hi) Try.f58 [.at (.slc 0), .at (vI lo), .at (vI hi)] [.row false EC.ent l] (normK 1 K) := by
  refine Eq.mp (show ((∃ x : XBet l, (True ∧ (True ∧ ((Value.int IntKind.i64 (lo)) = (Value.int IntKind.i64 (lo))) ∧ ((Value.int IntKind.i64 (hi)) = (Value.int IntKind.i64 (hi))) ∧ True ∧ ((Value.int IntKind.i64 0) = (Value.int IntKind.i64 ((↑x.i : Int)))) ∧ True) ∧ ((l) = (l)) ∧ ([] = (betE (List.take x.i l) lo hi)) ∧ True)) ∧
(∀ x : XBet l, (True → (brS (decide ((↑x.i : Int) < (↑l.length : Int))) (((0 ≤ (↑x.i : Int)) ∧ ((↑x.i : Int) < (↑l.length : Int)) ∧ (brS (decide (lo ≤ (eA l x.i).fst)) (((0 ≤ (↑x.i : Int)) ∧ ((↑x.i : Int) < (↑l.length : Int)) ∧ (brS (decide ((eA l x.i).fst ≤ hi)) (((0 ≤ (↑x.i : Int)) ∧ ((↑x.i : Int) < (↑l.length : Int)) ∧ (((betE (List.take x.i l) lo hi).length + [eA l x.i].length) * bytesOf C0 EC.ent ≤ 140737488355328) ∧ (∃ x' : XBet l, (True ∧ ((True ∧ ((Value.int IntKind.i64 (lo)) = (Value.int IntKind.i64 (lo))) ∧ ((Value.int IntKind.i64 (hi)) = (Value.int IntKind.i64 (hi))) ∧ True ∧ ((Value.int IntKind.i64 (IntKind.i64.wrap ((↑x.i : Int) + 1))) = (Value.int IntKind.i64 ((↑x'.i : Int)))) ∧ True) ∧ ((l) = (l)) ∧ ((betE (List.take x.i l) lo hi ++ [eA l x.i]) = (betE (List.take x'.i l) lo hi)) ∧ True) ∧ (l.length - x'.i < l.length - x.i))))) ((∃ x' : XBet l, (True ∧ ((True ∧ ((Value.int IntKind.i64 (lo)) = (Value.int IntKind.i64 (lo))) ∧ ((Value.int IntKind.i64 (hi)) = (Value.int IntKind.i64 (hi))) ∧ True ∧ ((Value.int IntKind.i64 (IntKind.i64.wrap ((↑x.i : Int) + 1))) = (Value.int IntKind.i64 ((↑x'.i : Int)))) ∧ True) ∧ ((l) = (l)) ∧
    ((betE (List.take x.i l) lo hi) = (betE (List.take x'.i l) lo hi)) ∧ True) ∧ (l.length - x'.i < l.length - x.i))))))) ((∃ x' : XBet l, (True ∧ ((True ∧ ((Value.int IntKind.i64 (lo)) = (Value.int IntKind.i64 (lo))) ∧ ((Value.int IntKind.i64 (hi)) = (Value.int IntKind.i64 (hi))) ∧ True ∧ ((Value.int IntKind.i64 (IntKind.i64.wrap ((↑x.i : Int) + 1))) = (Value.int IntKind.i64 ((↑x'.i : Int)))) ∧ True) ∧ ((l) = (l)) ∧ ((betE (List.take x.i l) lo hi) = (betE (List.take x'.i l) lo hi)) ∧ True) ∧ (l.length - x'.i < l.length - x.i))))))) ((K (SV.one (TV.at (At.slc 1))) [(Chunk.row false (EC.ent) (l)), (Chunk.row true (EC.ent) (betE (List.take x.i l) lo hi))] [])))))) = _ by kernel_rfl) ?_
  refine ⟨⟨⟨0, Nat.zero_le _⟩, by simp [betE]⟩, fun x _ => brS_of (fun hi' => ?_) fun hi' => ?_⟩
  · have hi' : x.i < l.length := by simpa using hi'
    have hx := eA_get hi'
    have hs := betE_snoc (lo := lo) (hi := hi) hx
    have hlen := betE_len l lo hi x.i
    have w1 : IntKind.i64.wrap ((x.i : Int) + 1) = ((x.i + 1 : Nat) : Int) := by rw [wrap_id (by omega) (by omega)]; simp
    simp only [w1, bytes_ent]
    refine ⟨by omega, by omega, brS_of (fun h1 => ⟨by omega, by omega, brS_of (fun h2 => ⟨by omega, by omega, ?_, ⟨⟨x.i + 1, by omega⟩, ?_⟩⟩) fun h2 => ⟨⟨x.i + 1, by omega⟩, ?_⟩⟩) fun h1 => ⟨⟨x.i + 1, by omega⟩, ?_⟩⟩
    · simp; omega
    · rw [if_pos (by rw [h1, h2]; rfl)] at hs
      simp [hs]; omega
    · rw [if_neg (by rw [h1, h2]; decide)] at hs
      simp [hs]; omega
    · rw [if_neg (by rw [h1]; simp)] at hs
      simp [hs]; omega
  · have hi' : x.i = l.length := by have := x.h; simp at hi'; omega
    rw [hi', List.take_length]
    exact h _ rfl
theorem s_bet : SoundT C0 58 tBet := by
  refine .of Try.func58 (by decide) rfl fun args H K h hB => ?_
  unfold tBet at h
  split at h <;> try exact h.elim
  rename_i lo hi l
  exact ⟨aBet l lo hi, trivial, vc_bet l lo hi K h.1 h.2⟩
end Go.Proofs.Ytjbkckcjmmmooaa.Sx
end
