/- Equal dumps, and the count of a slot of a dump. -/
import Derived.Test.YtacdmmomkngpkaaQSo
namespace Go.Proofs.Ytacdmmomkngpkaa.Sx
open Go

/-KEEP Wf exW inU alcD slotsOf orderOf-/
noncomputable def aSameS (l m : List SlotT) : Ann C0 := { Γ := [], inv := fun n => match n with
  | 4 => some { X := XIx l.length, sl := [5], tf := fun x => [vi .i64 x.i], hf := fun _ => [.row false EC.slot l, .row false EC.slot m], μ := fun x => l.length - x.i }
  | _ => none }
def tSameS : Tfm C0 := fun args H K => match args, H with
  | [.at (.slc 0), .at (.slc 1)], [.row false .slot l, .row false .slot m] => l = m ∧ l.length ≤ 1000000 ∧ K (.one (.at (vB true))) [.row false EC.slot l, .row false EC.slot m] []
  | _, _ => False
noncomputable def aSameU (l m : List Int) : Ann C0 := { Γ := [], inv := fun n => match n with
  | 4 => some { X := XIx l.length, sl := [5], tf := fun x => [vi .i64 x.i], hf := fun _ => [.row false EC.u32 l, .row false EC.u32 m], μ := fun x => l.length - x.i }
  | _ => none }
def tSameU : Tfm C0 := fun args H K => match args, H with
  | [.at (.slc 0), .at (.slc 1)], [.row false .u32 l, .row false .u32 m] => l = m ∧ l.length ≤ 1000000 ∧ K (.one (.at (vB true))) [.row false EC.u32 l, .row false EC.u32 m] []
  | _, _ => False
noncomputable def aSameD : Ann C0 := { Γ := [(82, frameT [] tSameS), (44, frameT [] tSameU)] }
def tSameD : Tfm C0 := fun args H K => match args, H with
  | [.agg [.slc 0, .slc 1], .agg [.slc 2, .slc 3]], [.row false .slot d, .row false .u32 f, .row false .slot e, .row false .u32 g] => d = e ∧ f = g ∧ d.length ≤ 1000000 ∧ f.length ≤ 1000000 ∧ K (.one (.at (vB true))) [.row false EC.slot d, .row false EC.u32 f, .row false EC.slot e, .row false EC.u32 g] []
  | _, _ => False
def cntD (d : List SlotT) (i : Int) : Int := if alcD d i = true then (sltD d i).count else 0
noncomputable def aCn24 : Ann C0 := { Γ := [(42, frameT [] tAlc)] }
def tCn24 : Tfm C0 := fun args H K => match args, H with
  | [.agg [.slc 0, .slc 1], .at (.val (.int .u32 i))], [.row false .slot d, .row false .u32 fl] => inU i ∧ d.length ≤ 1000000 ∧ ∀ c, c = cntD d i → K (.one (.at (vI c))) [.row false EC.slot d, .row false EC.u32 fl] []
  | _, _ => False
theorem vc_sameS (l : List SlotT) (K : KT) (h1 : l.length ≤ 1000000) (h : K (.one (.at (vB true))) [.row false EC.slot l, .row false EC.slot l] []) :
    vc C0 (aSameS l l) Try.f82 [.at (.slc 0), .at (.slc 1)] [.row false EC.slot l, .row false EC.slot l] (normK 2 K) := by
  have hm : ∀ m : List SlotT, m = l → vc C0 (aSameS l m) Try.f82 [.at (.slc 0), .at (.slc 1)] [.row false EC.slot l, .row false EC.slot m] (normK 2 K) := fun m em => by
    refine Eq.mp (show (brS ((↑l.length : Int) != (↑m.length : Int))
  ((K (SV.one (TV.at (At.val (Value.bool false)))) [(Chunk.row false (EC.slot) (l)), (Chunk.row false (EC.slot) (m))] []))
  (((∃ x : XIx l.length,
    (True ∧
    (True ∧
    True ∧
    ((Value.int IntKind.i64 0) = (Value.int IntKind.i64 ((↑x.i : Int)))) ∧
    True) ∧
    ((l) = (l)) ∧
    ((m) = (m)) ∧
    True)) ∧
  (∀ x : XIx l.length,
    (True →
    (brS (decide ((↑x.i : Int) < (↑l.length : Int)))
      (((0 ≤ (↑x.i : Int)) ∧
      ((↑x.i : Int) < (↑l.length : Int)) ∧
      (0 ≤ (↑x.i : Int)) ∧
      ((↑x.i : Int) < (↑m.length : Int)) ∧
      (brS (!((eS l (↑x.i : Int).toNat).alloc == (eS m (↑x.i : Int).toNat).alloc && ((eS l (↑x.i : Int).toNat).count == (eS m (↑x.i : Int).toNat).count && ((eS l (↑x.i : Int).toNat).gen == (eS m (↑x.i : Int).toNat).gen && ((eS l (↑x.i : Int).toNat).node.key == (eS m (↑x.i : Int).toNat).node.key && ((eS l (↑x.i : Int).toNat).node.value == (eS m (↑x.i : Int).toNat).node.value && ((eS l (↑x.i : Int).toNat).node.left == (eS m (↑x.i : Int).toNat).node.left && ((eS l (↑x.i : Int).toNat).node.right == (eS m (↑x.i : Int).toNat).node.right && ((eS l (↑x.i : Int).toNat).node.size == (eS m (↑x.i : Int).toNat).node.size && ((eS l (↑x.i : Int).toNat).node.sum == (eS m (↑x.i : Int).toNat).node.sum && ((eS l (↑x.i : Int).toNat).node.min == (eS m (↑x.i : Int).toNat).node.min && ((eS l (↑x.i : Int).toNat).node.max == (eS m (↑x.i : Int).toNat).node.max && true))))))) && true)))))
        ((K (SV.one (TV.at (At.val (Value.bool false)))) [(Chunk.row false (EC.slot) (l)), (Chunk.row false (EC.slot) (m))] []))
        ((∃ x' : XIx l.length,
          (True ∧
          ((True ∧
          True ∧
          ((Value.int IntKind.i64 (IntKind.i64.wrap ((↑x.i : Int) + 1))) = (Value.int IntKind.i64 ((↑x'.i : Int)))) ∧
          True) ∧
          ((l) = (l)) ∧
          ((m) = (m)) ∧
          True) ∧
          (l.length - x'.i < l.length - x.i)))))))
      ((K (SV.one (TV.at (At.val (Value.bool true)))) [(Chunk.row false (EC.slot) (l)), (Chunk.row false (EC.slot) (m))] [])))))))) = _ by kernel_rfl) ?_
    subst em
    refine brS_of (fun c => by simp at c) fun _ => ⟨⟨⟨0, Nat.zero_le _⟩, ?_⟩, fun x _ => brS_of (fun c => ?_) fun c => h⟩
    · (repeat' first | exact trivial | exact rfl | refine And.intro ?_ ?_)
    have c : x.i < m.length := by have := of_decide_eq_true c; omega
    refine ⟨by omega, by omega, by omega, by omega, brS_of (fun e => by simp at e) fun _ => ⟨⟨x.i + 1, c⟩, ?_⟩⟩
    (repeat' first | exact trivial | exact rfl | refine And.intro ?_ ?_)
    · rw [wrap_id (by omega) (by omega)]; congr 1
    · show m.length - (x.i + 1) < _; omega
  exact hm l rfl
theorem s_sameS : SoundT C0 82 tSameS := by
  refine .of Try.func82 (by decide) rfl fun args H K h hB => ?_
  unfold tSameS at h
  split at h <;> try exact h.elim
  rename_i l m
  obtain ⟨rfl, h1, h⟩ := h
  exact ⟨aSameS l l, trivial, vc_sameS l K h1 h⟩
theorem vc_sameU (l : List Int) (K : KT) (h1 : l.length ≤ 1000000) (h : K (.one (.at (vB true))) [.row false EC.u32 l, .row false EC.u32 l] []) :
    vc C0 (aSameU l l) Try.f44 [.at (.slc 0), .at (.slc 1)] [.row false EC.u32 l, .row false EC.u32 l] (normK 2 K) := by
  have hm : ∀ m : List Int, m = l → vc C0 (aSameU l m) Try.f44 [.at (.slc 0), .at (.slc 1)] [.row false EC.u32 l, .row false EC.u32 m] (normK 2 K) := fun m em => by
    refine Eq.mp (show (brS ((↑l.length : Int) != (↑m.length : Int))
  ((K (SV.one (TV.at (At.val (Value.bool false)))) [(Chunk.row false (EC.u32) (l)), (Chunk.row false (EC.u32) (m))] []))
  (((∃ x : XIx l.length,
    (True ∧
    (True ∧
    True ∧
    ((Value.int IntKind.i64 0) = (Value.int IntKind.i64 ((↑x.i : Int)))) ∧
    True) ∧
    ((l) = (l)) ∧
    ((m) = (m)) ∧
    True)) ∧
  (∀ x : XIx l.length,
    (True →
    (brS (decide ((↑x.i : Int) < (↑l.length : Int)))
      (((0 ≤ (↑x.i : Int)) ∧
      ((↑x.i : Int) < (↑l.length : Int)) ∧
      (0 ≤ (↑x.i : Int)) ∧
      ((↑x.i : Int) < (↑m.length : Int)) ∧
      (brS (l.getD (↑x.i : Int).toNat 0 != m.getD (↑x.i : Int).toNat 0)
        ((K (SV.one (TV.at (At.val (Value.bool false)))) [(Chunk.row false (EC.u32) (l)), (Chunk.row false (EC.u32) (m))] []))
        ((∃ x' : XIx l.length,
          (True ∧
          ((True ∧
          True ∧
          ((Value.int IntKind.i64 (IntKind.i64.wrap ((↑x.i : Int) + 1))) = (Value.int IntKind.i64 ((↑x'.i : Int)))) ∧
          True) ∧
          ((l) = (l)) ∧
          ((m) = (m)) ∧
          True) ∧
          (l.length - x'.i < l.length - x.i)))))))
      ((K (SV.one (TV.at (At.val (Value.bool true)))) [(Chunk.row false (EC.u32) (l)), (Chunk.row false (EC.u32) (m))] [])))))))) = _ by kernel_rfl) ?_
    subst em
    refine brS_of (fun c => by simp at c) fun _ => ⟨⟨⟨0, Nat.zero_le _⟩, ?_⟩, fun x _ => brS_of (fun c => ?_) fun c => h⟩
    · (repeat' first | exact trivial | exact rfl | refine And.intro ?_ ?_)
    have c : x.i < m.length := by have := of_decide_eq_true c; omega
    refine ⟨by omega, by omega, by omega, by omega, brS_of (fun e => by simp at e) fun _ => ⟨⟨x.i + 1, c⟩, ?_⟩⟩
    (repeat' first | exact trivial | exact rfl | refine And.intro ?_ ?_)
    · rw [wrap_id (by omega) (by omega)]; congr 1
    · show m.length - (x.i + 1) < _; omega
  exact hm l rfl
theorem s_sameU : SoundT C0 44 tSameU := by
  refine .of Try.func44 (by decide) rfl fun args H K h hB => ?_
  unfold tSameU at h
  split at h <;> try exact h.elim
  rename_i l m
  obtain ⟨rfl, h1, h⟩ := h
  exact ⟨aSameU l l, trivial, vc_sameU l K h1 h⟩
theorem s_sameD : SoundT C0 28 tSameD := by
  refine .of Try.func28 (by decide) rfl fun args H K h hB => ?_
  unfold tSameD at h
  split at h <;> try exact h.elim
  rename_i d f e g
  refine ⟨aSameD, ⟨frame C0.ok s_sameS _, frame C0.ok s_sameU _, trivial⟩, Eq.mp (show (((d) = (e)) ∧
(d.length ≤ 1000000) ∧
((f) = (g)) ∧
(f.length ≤ 1000000) ∧
(K (SV.one (TV.at (At.val (Value.bool true)))) [(Chunk.row false (EC.slot) (d)), (Chunk.row false (EC.u32) (f)), (Chunk.row false (EC.slot) (e)), (Chunk.row false (EC.u32) (g))] [])) = _ by kernel_rfl) ?_⟩
  exact ⟨h.1, h.2.2.1, h.2.1, h.2.2.2.1, h.2.2.2.2⟩
theorem s_cn24 : SoundT C0 62 tCn24 := by
  refine .of Try.func62 (by decide) rfl fun args H K h hB => ?_
  unfold tCn24 at h
  split at h <;> try exact h.elim
  rename_i i d fl
  refine ⟨aCn24, ⟨frame C0.ok s_alc _, trivial⟩, Eq.mp (show ((inU i) ∧
(d.length ≤ 1000000) ∧
(brS (!alcD d i)
  ((K (SV.one (TV.at (At.val (Value.int IntKind.i64 0)))) [(Chunk.row false (EC.slot) (d)), (Chunk.row false (EC.u32) (fl))] []))
  (((0 ≤ IntKind.u32.wrap (i - 1)) ∧
  (IntKind.u32.wrap (i - 1) < (↑d.length : Int)) ∧
  (K (SV.one (TV.at (At.val (Value.int IntKind.i64 ((eS d (IntKind.u32.wrap (i - 1)).toNat).count))))) [(Chunk.row false (EC.slot) (d)), (Chunk.row false (EC.u32) (fl))] []))))) = _ by kernel_rfl) ?_⟩
  obtain ⟨h1, h2, h⟩ := h
  refine ⟨h1, h2, brS_of (fun c => h _ ?_) fun c => ?_⟩
  · unfold cntD; rw [if_neg (by simpa using c)]
  · have c : alcD d i = true := by simpa using c
    obtain ⟨a, b⟩ := alcD_rng c
    have b : i ≤ ((d.length : Nat) : Int) := b
    obtain ⟨u1, u2⟩ := h1
    rw [wrap_u32 (x := i - 1) (by omega) (by omega)]
    refine ⟨by omega, by omega, h _ ?_⟩
    unfold cntD; rw [if_pos c]; rfl
end Go.Proofs.Ytacdmmomkngpkaa.Sx
