/- The reference's lists: Delete; the kit's valid list. -/
import Derived.Test.YtdgodcamadalhaaSxRd
namespace Go.Proofs.Ytdgodcamadalhaa.Sx
open Go

noncomputable def aDel : Ann C0 := { Γ := [(66, frameT [] tOut)] }
def tDel : Tfm C0 := fun args H K => match args, H with
  | [.at (.slc 0), .at (.val (.int .i64 q))], [.row false .ent l] => l.length ≤ 1000000 ∧ K (.one (.at (.slc 1))) [.row false EC.ent l, .row true EC.ent (outE l q q)] []
  | _, _ => False
theorem vc_del (l : List Ent) (q : Int) (K : KT) (h1 : l.length ≤ 1000000) (h2 : K (.one (.at (.slc 1))) [.row false EC.ent l, .row true EC.ent (outE l q q)] []) :
    vc C0 aDel Try.f32 [.at (.slc 0), .at (.val (.int .i64 q))] [.row false EC.ent l] (normK 1 K) := by
  have e : ((l.length ≤ 1000000) ∧
(K (SV.one (TV.at (At.slc 1))) [(Chunk.row false (EC.ent) (l)), (Chunk.row true (EC.ent) (outE l q q))] [])) = vc C0 aDel Try.f32 [.at (.slc 0), .at (.val (.int .i64 q))] [.row false EC.ent l] (normK 1 K) := by kernel_rfl
  rw [← e]
  exact ⟨h1, h2⟩
theorem s_del : SoundT C0 32 tDel := by
  refine .of Try.func32 (by decide) rfl fun args H K h hB => ?_
  unfold tDel at h
  split at h <;> try exact h.elim
  rename_i q l
  have hG : GOK C0 aDel.Γ := ⟨frame C0.ok s_out _, trivial⟩
  exact ⟨aDel, hG, vc_del l q K h.1 h.2⟩

structure XLst (l : List Ent) (most : Int) where
  i : Nat
  h : i ≤ l.length ∧ (i : Int) ≤ most
noncomputable def aLst (l : List Ent) (most : Int) : Ann C0 := { Γ := [(31, frameT [] tIns)], inv := fun n => match n with
  | 3 => some { X := XLst l most, sl := [6, 5], tf := fun x => [vi .i64 x.i, .one (.at (.slc 1))], hf := fun x => [.row false EC.ent l, .row true EC.ent (listE l x.i)], μ := fun x => l.length - x.i }
  | _ => none }
def tLst : Tfm C0 := fun args H K => match args, H with
  | [.at (.slc 0), .at (.val (.int .i64 most))], [.row false .ent l] => 0 ≤ most ∧ most ≤ 1000000 ∧ K (.one (.at (.slc 1))) [.row false EC.ent l, .row true EC.ent (listE l most.toNat)] []
  | _, _ => False
theorem listE_snoc {l : List Ent} {i : Nat} {x : Ent} (h : l[i]? = some x) : listE l (i + 1) = insE (listE l i) x := by
  unfold listE
  rw [take_snoc h]
  simp
theorem listE_full {l : List Ent} {n : Nat} (h : l.length ≤ n) : listE l n = listE l l.length := by
  unfold listE
  rw [List.take_of_length_le h, List.take_of_length_le (Nat.le_refl _)]
theorem vc_lst (l : List Ent) (most : Int) (K : KT) (hmax : l.length ≤ 9223372036854775807) (h0 : 0 ≤ most) (h1 : most ≤ 1000000) (h : K (.one (.at (.slc 1))) [.row false EC.ent l, .row true EC.ent (listE l most.toNat)] []) :
    vc C0 (aLst l most) Try.f23 [.at (.slc 0), .at (.val (.int .i64 most))] [.row false EC.ent l] (normK 1 K) := by
  refine Eq.mp (show ((∃ x : XLst l most,
  (True ∧
  (True ∧
  ((Value.int IntKind.i64 (most)) = (Value.int IntKind.i64 (most))) ∧
  True ∧
  ((Value.int IntKind.i64 0) = (Value.int IntKind.i64 ((↑x.i : Int)))) ∧
  True) ∧
  ((l) = (l)) ∧
  ([] = (listE l x.i)) ∧
  True)) ∧
(∀ x : XLst l most,
  (True →
  (brS (decide ((↑x.i : Int) < (↑l.length : Int)))
    ((brS (decide ((↑x.i : Int) < most))
      (((0 ≤ (↑x.i : Int)) ∧
      ((↑x.i : Int) < (↑l.length : Int)) ∧
      ((listE l x.i).length ≤ 1000000) ∧
      (∃ x' : XLst l most,
        (True ∧
        ((True ∧
        ((Value.int IntKind.i64 (most)) = (Value.int IntKind.i64 (most))) ∧
        True ∧
        ((Value.int IntKind.i64 (IntKind.i64.wrap ((↑x.i : Int) + 1))) = (Value.int IntKind.i64 ((↑x'.i : Int)))) ∧
        True) ∧
        ((l) = (l)) ∧
        ((insE (listE l x.i) ((eA l x.i).fst, (eA l x.i).snd)) = (listE l x'.i)) ∧
        True) ∧
        (l.length - x'.i < l.length - x.i)))))
      ((K (SV.one (TV.at (At.slc 1))) [(Chunk.row false (EC.ent) (l)), (Chunk.row true (EC.ent) (listE l x.i))] []))))
    ((K (SV.one (TV.at (At.slc 1))) [(Chunk.row false (EC.ent) (l)), (Chunk.row true (EC.ent) (listE l x.i))] [])))))) = _ by kernel_rfl) ?_
  refine ⟨⟨⟨0, Nat.zero_le _, h0⟩, by simp [listE]⟩, fun x _ => brS_of (fun hi => brS_of (fun hm => ?_) fun hm => ?_) fun hi => ?_⟩
  · have hi : x.i < l.length := by simpa using hi
    have hm : (x.i : Int) < most := by simpa using hm
    have hs := listE_snoc (eA_get hi)
    have hlen := (listE_spec l x.i).2
    have w1 : IntKind.i64.wrap ((x.i : Int) + 1) = ((x.i + 1 : Nat) : Int) := by rw [wrap_in (by omega) (by omega)]; simp
    simp only [w1]
    refine ⟨by omega, by omega, by omega, ⟨x.i + 1, by omega, by omega⟩, ?_⟩
    simp [hs]; omega
  · have e : most.toNat = x.i := by have := x.h.2; simp at hm; omega
    rw [e] at h; exact h
  · have hi : x.i = l.length := by have := x.h.1; simp at hi; omega
    have := x.h.2
    rw [listE_full (n := most.toNat) (by omega), ← hi] at h; exact h
theorem s_lst : SoundT C0 23 tLst := by
  refine .of Try.func23 (by decide) rfl fun args H K h hB => ?_
  unfold tLst at h
  split at h <;> try exact h.elim
  rename_i most l
  exact ⟨aLst l most, ⟨frame C0.ok s_ins _, trivial⟩, vc_lst l most K (hB 0 _ _ _ rfl) h.1 h.2.1 h.2.2⟩

/-- The value that a policy chooses, and the remainder. -/
def tChoose : Tfm C0 := fun args H K => match args, H with
  | [.at (.val (.int .i64 p)), .at (.val (.int .i64 v)), .at (.val (.int .i64 w))], [] => ∀ x, x = chooseP p v w → K (.one (.at (vI x))) [] []
  | _, _ => False
def tMod : Tfm C0 := fun args H K => match args, H with
  | [.at (.val (.int .i64 k)), .at (.val (.int .i64 n))], [] => 0 < n ∧ n ≤ 9223372036854775807 ∧ ∀ x, x = k % n → K (.one (.at (vI x))) [] []
  | _, _ => False
theorem s_choose : SoundT C0 77 tChoose := by
  refine .of Try.func77 (by decide) rfl fun args H K h hB => ⟨A0, trivial, ?_⟩
  unfold tChoose at h
  split at h <;> try exact h.elim
  rename_i p v w
  have h := h _ rfl
  refine Eq.mp (show (brS (p == 1)
  ((K (SV.one (TV.at (At.val (Value.int IntKind.i64 (v))))) [] []))
  ((brS (p == 2)
    ((K (SV.one (TV.at (At.val (Value.int IntKind.i64 (w))))) [] []))
    ((brS (p == 3)
      ((K (SV.one (TV.at (At.val (Value.int IntKind.i64 (IntKind.i64.wrap (v + w)))))) [] []))
      ((brS (p == 4)
        ((K (SV.one (TV.at (At.val (Value.int IntKind.i64 (if w < v then w else v))))) [] []))
        ((K (SV.one (TV.at (At.val (Value.int IntKind.i64 (if w > v then w else v))))) [] []))))))))) = _ by kernel_rfl) ?_
  unfold chooseP at h
  refine brS_of (fun e => ?_) fun e => brS_of (fun e1 => ?_) fun e1 => brS_of (fun e2 => ?_) fun e2 => brS_of (fun e3 => ?_) fun e3 => ?_
  all_goals simp only [beq_iff_eq, beq_eq_false_iff_ne, ne_eq] at *
  · rw [if_pos e] at h; exact h
  · rw [if_neg e, if_pos e1] at h; exact h
  · rw [if_neg e, if_neg e1, if_pos e2] at h; rw [show IntKind.i64.wrap (v + w) = RowKit.wrap64 (v + w) from IntWalk.i64_left _]; exact h
  · rw [if_neg e, if_neg e1, if_neg e2, if_pos e3] at h; exact h
  · rw [if_neg e, if_neg e1, if_neg e2, if_neg e3] at h; exact h
theorem s_mod : SoundT C0 14 tMod := by
  refine .of Try.func14 (by decide) rfl fun args H K h hB => ⟨A0, trivial, ?_⟩
  unfold tMod at h
  split at h <;> try exact h.elim
  rename_i k n
  obtain ⟨h0, h1, h⟩ := h
  have h := h _ rfl
  refine Eq.mp (show ((n ≠ 0) ∧
(brS (decide (k.tmod n < 0))
  ((K (SV.one (TV.at (At.val (Value.int IntKind.i64 (IntKind.i64.wrap (k.tmod n + n)))))) [] []))
  ((K (SV.one (TV.at (At.val (Value.int IntKind.i64 (k.tmod n))))) [] [])))) = _ by kernel_rfl) ⟨by omega, brS_of (fun e => ?_) fun e => ?_⟩
  all_goals simp only [decide_eq_true_eq, decide_eq_false_iff_not] at e
  · have e1 : k.tmod n + n = k % n := by
      rw [Int.tmod_eq_emod] at e ⊢
      split at e <;> rename_i hc
      · have := Int.emod_nonneg k (show n ≠ 0 by omega); omega
      · rw [if_neg hc]
        have : (n.natAbs : Int) = n := by omega
        omega
    have h2 := Int.emod_nonneg k (show n ≠ 0 by omega)
    have h3 := Int.emod_lt_of_pos k h0
    rw [e1, wrap_in (by omega) (by omega)]; exact h
  · have e1 : k.tmod n = k % n := by
      rw [Int.tmod_eq_emod] at e ⊢
      split at e <;> rename_i hc
      · rw [if_pos hc]; omega
      · have h3 := Int.emod_lt_of_pos k h0
        have : (n.natAbs : Int) = n := by omega
        omega
    rw [e1]; exact h
end Go.Proofs.Ytdgodcamadalhaa.Sx
