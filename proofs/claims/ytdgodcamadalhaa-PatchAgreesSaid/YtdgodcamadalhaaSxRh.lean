/- The reference's lookups in lists and patches. -/
import Derived.Test.YtdgodcamadalhaaSxRg
namespace Go.Proofs.Ytdgodcamadalhaa.Sx
open Go

noncomputable def aGet19 : Ann C0 := { Γ := [(30, frameT [] tGet)] }
def tGet19 : Tfm C0 := fun args H K => match args, H with
  | [.at (.slc 0), .at (.val (.int .i64 q))], [.row false .ent l] => ∀ x : Option Int, x = getE l q → K (.one (optA x)) [.row false EC.ent l] []
  | _, _ => False
theorem vc_get19 (l : List Ent) (q : Int) (K : KT) (h : ∀ x : Option Int, x = getE l q → K (.one (optA x)) [.row false EC.ent l] []) :
    vc C0 aGet19 Try.f69 [.at (.slc 0), .at (.val (.int .i64 q))] [.row false EC.ent l] (normK 1 K) := by
  refine Eq.mp (show (∀ x : Option Int,
  (((x) = (getE l q)) →
  (K (SV.one (TV.agg [(At.val (Value.int IntKind.i64 (x.getD 0))), (At.val (Value.bool (x.isSome)))])) [(Chunk.row false (EC.ent) (l))] []))) = _ by kernel_rfl) ?_
  exact fun x hx => h x hx
theorem s_get19 : SoundT C0 69 tGet19 := by
  refine .of Try.func69 (by decide) rfl fun args H K h hB => ?_
  unfold tGet19 at h
  split at h <;> try exact h.elim
  rename_i q l
  exact ⟨aGet19, ⟨frame C0.ok s_get _, trivial⟩, vc_get19 l q K h⟩

structure XFnd (p : List Chg) (q : Int) where
  i : Nat
  h : i ≤ p.length ∧ fnd Chg.key p q = fnd Chg.key (p.drop i) q
noncomputable def aFnd (p : List Chg) (q : Int) : Ann C0 := { Γ := [], inv := fun n => match n with
  | 2 => some { X := XFnd p q, sl := [6, 4], tf := fun x => [vi .i64 x.i, .one (.at (.ptr 1 0))], hf := fun _ => [.row false EC.chg p, .box [vI 0, vI 0, vI 0, vI 0]], μ := fun x => p.length - x.i }
  | _ => none }
def tFnd : Tfm C0 := fun args H K => match args, H with
  | [.at (.slc 0), .at (.val (.int .i64 q))], [.row false .chg p] => ∀ (c : Chg) (b : Bool), b = (fnd Chg.key p q).isSome → c = (fnd Chg.key p q).getD ⟨0, 0, 0, 0⟩ → K (.tup [chgA c, .at (vB b)]) [.row false EC.chg p] []
  | _, _ => False
theorem vc_fnd (p : List Chg) (q : Int) (K : KT) (hmax : p.length ≤ 9223372036854775807) (h : ∀ (c : Chg) (b : Bool), b = (fnd Chg.key p q).isSome → c = (fnd Chg.key p q).getD ⟨0, 0, 0, 0⟩ → K (.tup [chgA c, .at (vB b)]) [.row false EC.chg p] []) :
    vc C0 (aFnd p q) Try.f74 [.at (.slc 0), .at (.val (.int .i64 q))] [.row false EC.chg p] (normK 1 K) := by
  refine Eq.mp (show ((∃ x : XFnd p q,
  (True ∧
  (True ∧
  ((Value.int IntKind.i64 (q)) = (Value.int IntKind.i64 (q))) ∧
  True ∧
  ((Value.int IntKind.i64 0) = (Value.int IntKind.i64 ((↑x.i : Int)))) ∧
  True) ∧
  ((p) = (p)) ∧
  (((Value.int IntKind.i64 0) = (Value.int IntKind.i64 0)) ∧
  ((Value.int IntKind.i64 0) = (Value.int IntKind.i64 0)) ∧
  ((Value.int IntKind.i64 0) = (Value.int IntKind.i64 0)) ∧
  ((Value.int IntKind.i64 0) = (Value.int IntKind.i64 0)) ∧
  True) ∧
  True)) ∧
(∀ x : XFnd p q,
  (True →
  (brS (decide ((↑x.i : Int) < (↑p.length : Int)))
    (((0 ≤ (↑x.i : Int)) ∧
    ((↑x.i : Int) < (↑p.length : Int)) ∧
    (brS ((cA p x.i).key == q)
      (((0 ≤ (↑x.i : Int)) ∧
      ((↑x.i : Int) < (↑p.length : Int)) ∧
      (K (SV.tup [(TV.agg [(At.val (Value.int IntKind.i64 ((cA p x.i).kind))), (At.val (Value.int IntKind.i64 ((cA p x.i).key))), (At.val (Value.int IntKind.i64 ((cA p x.i).old))), (At.val (Value.int IntKind.i64 ((cA p x.i).new)))]), (TV.at (At.val (Value.bool true)))]) [(Chunk.row false (EC.chg) (p))] [])))
      ((∃ x' : XFnd p q,
        (True ∧
        ((True ∧
        ((Value.int IntKind.i64 (q)) = (Value.int IntKind.i64 (q))) ∧
        True ∧
        ((Value.int IntKind.i64 (IntKind.i64.wrap ((↑x.i : Int) + 1))) = (Value.int IntKind.i64 ((↑x'.i : Int)))) ∧
        True) ∧
        ((p) = (p)) ∧
        (((Value.int IntKind.i64 0) = (Value.int IntKind.i64 0)) ∧
        ((Value.int IntKind.i64 0) = (Value.int IntKind.i64 0)) ∧
        ((Value.int IntKind.i64 0) = (Value.int IntKind.i64 0)) ∧
        ((Value.int IntKind.i64 0) = (Value.int IntKind.i64 0)) ∧
        True) ∧
        True) ∧
        (p.length - x'.i < p.length - x.i)))))))
    ((K (SV.tup [(TV.agg [(At.val (Value.int IntKind.i64 0)), (At.val (Value.int IntKind.i64 0)), (At.val (Value.int IntKind.i64 0)), (At.val (Value.int IntKind.i64 0))]), (TV.at (At.val (Value.bool false)))]) [(Chunk.row false (EC.chg) (p))] [])))))) = _ by kernel_rfl) ?_
  refine ⟨⟨⟨0, Nat.zero_le _, rfl⟩, by simp⟩, fun x _ => brS_of (fun hi => ?_) fun hi => ?_⟩
  · have hi : x.i < p.length := by simpa using hi
    have hs : fnd Chg.key (p.drop x.i) q = if (cA p x.i).key = q then some (cA p x.i) else fnd Chg.key (p.drop (x.i + 1)) q := by rw [drop_cons (cA_get hi), fnd_cons]
    refine ⟨by omega, by omega, brS_of (fun hd => ⟨by omega, by omega, ?_⟩) fun hd => ?_⟩
    · have e : fnd Chg.key p q = some (cA p x.i) := by rw [x.h.2, hs, if_pos (by simpa using hd)]
      exact h (cA p x.i) true (by rw [e]; rfl) (by rw [e]; rfl)
    · refine ⟨⟨x.i + 1, by omega, ?_⟩, trivial, ?_, ?_⟩
      · rw [x.h.2, hs, if_neg (by simpa using hd)]
      · rw [wrap_in (by omega) (by omega)]; simp
      · show p.length - (x.i + 1) < p.length - x.i
        omega
  · have hi : x.i = p.length := by have := x.h.1; simp at hi; omega
    have e : fnd Chg.key p q = none := by rw [x.h.2, hi, List.drop_length]; rfl
    exact h ⟨0, 0, 0, 0⟩ false (by rw [e]; rfl) (by rw [e]; rfl)
theorem s_fnd : SoundT C0 74 tFnd := by
  refine .of Try.func74 (by decide) rfl fun args H K h hB => ?_
  unfold tFnd at h
  split at h <;> try exact h.elim
  rename_i q p
  exact ⟨aFnd p q, trivial, vc_fnd p q K (hB 0 _ _ _ rfl) h⟩
end Go.Proofs.Ytdgodcamadalhaa.Sx
