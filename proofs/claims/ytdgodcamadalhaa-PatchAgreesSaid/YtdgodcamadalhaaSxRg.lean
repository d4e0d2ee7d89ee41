/- The reference's check of a patch. -/
import Derived.Test.YtdgodcamadalhaaSxRf
namespace Go.Proofs.Ytdgodcamadalhaa.Sx
open Go

structure XW3 (p : List Chg) where
  i : Nat
  c : Chg
  d : Chg
  ok : Bool
  h : i < p.length ∧ valB p = valGo (prevK p i) (p.drop i) ∧ p[i]? = some c ∧ CmpR c d ok
structure XW4 (p : List Chg) where
  i : Nat
  b : Bool
  h : i < p.length ∧ valB p = (!b && valGo (prevK p (i + 1)) (p.drop (i + 1)))
noncomputable def aValid19 (p : List Chg) : Ann C0 := { Γ := [(70, frameT [] (tBefore optA)), (71, frameT [] (tAfter optA)), (72, frameT [] tChange19)], quiet := [70, 71, 72], inv := fun n => match n with
  | 2 => some { X := XV1 p, sl := [3], tf := fun x => [vi .i64 x.i], hf := fun _ => [.row false EC.chg p], μ := fun x => p.length - x.i }
  | 1006 => some { X := XW3 p, sl := [3, 4, 5, 6], tf := fun z => [vi .i64 z.i, .one (.at (.ptr 1 0)), .one (.at (.ptr 2 0)), vb z.ok], hf := fun z => [.row false EC.chg p, .box [vI z.c.kind, vI z.c.key, vI z.c.old, vI z.c.new], .box [vI z.d.kind, vI z.d.key, vI z.d.old, vI z.d.new]], rel := fun T _ z => slotI T 3 z.i }
  | 1007 => some { X := XW4 p, sl := [3, 58], tf := fun z => [vi .i64 z.i, vb z.b], hf := fun _ => [.row false EC.chg p], rel := fun T _ z => slotI T 3 z.i }
  | _ => none }
theorem vc_valid19 (p : List Chg) (K : KT) (hmax : p.length ≤ 9223372036854775807) (h : K (.one (.at (vB (valB p)))) [.row false EC.chg p] []) : vc C0 (aValid19 p) Try.f41 [.at (.slc 0)] [.row false EC.chg p] (normK 1 K) := by
  refine Eq.mp (show ((∃ x : XV1 p,
  (True ∧
  (True ∧
  ((Value.int IntKind.i64 0) = (Value.int IntKind.i64 ((↑x.i : Int)))) ∧
  True) ∧
  ((p) = (p)) ∧
  True)) ∧
(∀ x : XV1 p,
  (True →
  (brS (decide ((↑x.i : Int) < (↑p.length : Int)))
    (((0 ≤ (↑x.i : Int)) ∧
    ((↑x.i : Int) < (↑p.length : Int)) ∧
    ((∀ x1 : Option Int,
      (((x1) = ({ kind := (cA p x.i).kind, key := (cA p x.i).key, old := (cA p x.i).old, new := (cA p x.i).new : Chg }.before)) →
      ((∀ x2 : Option Int,
        (((x2) = ({ kind := (cA p x.i).kind, key := (cA p x.i).key, old := (cA p x.i).old, new := (cA p x.i).new : Chg }.after)) →
        ((∀ d : Chg,
          (∀ ok : Bool,
            ((ChgR (cA p x.i).key x1.isSome (x1.getD 0) x2.isSome (x2.getD 0) d ok) →
            (∃ x3 : XW3 p,
              ((((↑x.i : Int)) = ((↑x3.i : Int))) ∧
              (True ∧
              ((Value.int IntKind.i64 ((↑x.i : Int))) = (Value.int IntKind.i64 ((↑x3.i : Int)))) ∧
              True ∧
              True ∧
              ((Value.bool (ok)) = (Value.bool (x3.ok))) ∧
              True) ∧
              ((p) = (p)) ∧
              (((Value.int IntKind.i64 ((cA p x.i).kind)) = (Value.int IntKind.i64 (x3.c.kind))) ∧
              ((Value.int IntKind.i64 ((cA p x.i).key)) = (Value.int IntKind.i64 (x3.c.key))) ∧
              ((Value.int IntKind.i64 ((cA p x.i).old)) = (Value.int IntKind.i64 (x3.c.old))) ∧
              ((Value.int IntKind.i64 ((cA p x.i).new)) = (Value.int IntKind.i64 (x3.c.new))) ∧
              True) ∧
              (((Value.int IntKind.i64 (d.kind)) = (Value.int IntKind.i64 (x3.d.kind))) ∧
              ((Value.int IntKind.i64 (d.key)) = (Value.int IntKind.i64 (x3.d.key))) ∧
              ((Value.int IntKind.i64 (d.old)) = (Value.int IntKind.i64 (x3.d.old))) ∧
              ((Value.int IntKind.i64 (d.new)) = (Value.int IntKind.i64 (x3.d.new))) ∧
              True) ∧
              True))))) ∧
        (∀ d : Chg,
          (∀ ok : Bool,
            ((ChgR (cA p x.i).key x1.isSome (x1.getD 0) x2.isSome (x2.getD 0) d ok) →
            (∃ x3 : XW3 p,
              ((((↑x.i : Int)) = ((↑x3.i : Int))) ∧
              (True ∧
              ((Value.int IntKind.i64 ((↑x.i : Int))) = (Value.int IntKind.i64 ((↑x3.i : Int)))) ∧
              True ∧
              True ∧
              ((Value.bool (ok)) = (Value.bool (x3.ok))) ∧
              True) ∧
              ((p) = (p)) ∧
              (((Value.int IntKind.i64 ((cA p x.i).kind)) = (Value.int IntKind.i64 (x3.c.kind))) ∧
              ((Value.int IntKind.i64 ((cA p x.i).key)) = (Value.int IntKind.i64 (x3.c.key))) ∧
              ((Value.int IntKind.i64 ((cA p x.i).old)) = (Value.int IntKind.i64 (x3.c.old))) ∧
              ((Value.int IntKind.i64 ((cA p x.i).new)) = (Value.int IntKind.i64 (x3.c.new))) ∧
              True) ∧
              (((Value.int IntKind.i64 (d.kind)) = (Value.int IntKind.i64 (x3.d.kind))) ∧
              ((Value.int IntKind.i64 (d.key)) = (Value.int IntKind.i64 (x3.d.key))) ∧
              ((Value.int IntKind.i64 (d.old)) = (Value.int IntKind.i64 (x3.d.old))) ∧
              ((Value.int IntKind.i64 (d.new)) = (Value.int IntKind.i64 (x3.d.new))) ∧
              True) ∧
              True)))))))) ∧
      (∀ x2 : Option Int,
        (((x2) = ({ kind := (cA p x.i).kind, key := (cA p x.i).key, old := (cA p x.i).old, new := (cA p x.i).new : Chg }.after)) →
        (∀ d : Chg,
          (∀ ok : Bool,
            ((ChgR (cA p x.i).key x1.isSome (x1.getD 0) x2.isSome (x2.getD 0) d ok) →
            (∃ x3 : XW3 p,
              ((((↑x.i : Int)) = ((↑x3.i : Int))) ∧
              (True ∧
              ((Value.int IntKind.i64 ((↑x.i : Int))) = (Value.int IntKind.i64 ((↑x3.i : Int)))) ∧
              True ∧
              True ∧
              ((Value.bool (ok)) = (Value.bool (x3.ok))) ∧
              True) ∧
              ((p) = (p)) ∧
              (((Value.int IntKind.i64 ((cA p x.i).kind)) = (Value.int IntKind.i64 (x3.c.kind))) ∧
              ((Value.int IntKind.i64 ((cA p x.i).key)) = (Value.int IntKind.i64 (x3.c.key))) ∧
              ((Value.int IntKind.i64 ((cA p x.i).old)) = (Value.int IntKind.i64 (x3.c.old))) ∧
              ((Value.int IntKind.i64 ((cA p x.i).new)) = (Value.int IntKind.i64 (x3.c.new))) ∧
              True) ∧
              (((Value.int IntKind.i64 (d.kind)) = (Value.int IntKind.i64 (x3.d.kind))) ∧
              ((Value.int IntKind.i64 (d.key)) = (Value.int IntKind.i64 (x3.d.key))) ∧
              ((Value.int IntKind.i64 (d.old)) = (Value.int IntKind.i64 (x3.d.old))) ∧
              ((Value.int IntKind.i64 (d.new)) = (Value.int IntKind.i64 (x3.d.new))) ∧
              True) ∧
              True)))))))))) ∧
    (∀ x1 : Option Int,
      (((x1) = ({ kind := (cA p x.i).kind, key := (cA p x.i).key, old := (cA p x.i).old, new := (cA p x.i).new : Chg }.before)) →
      (∀ x2 : Option Int,
        (((x2) = ({ kind := (cA p x.i).kind, key := (cA p x.i).key, old := (cA p x.i).old, new := (cA p x.i).new : Chg }.after)) →
        (∀ d : Chg,
          (∀ ok : Bool,
            ((ChgR (cA p x.i).key x1.isSome (x1.getD 0) x2.isSome (x2.getD 0) d ok) →
            (∃ x3 : XW3 p,
              ((((↑x.i : Int)) = ((↑x3.i : Int))) ∧
              (True ∧
              ((Value.int IntKind.i64 ((↑x.i : Int))) = (Value.int IntKind.i64 ((↑x3.i : Int)))) ∧
              True ∧
              True ∧
              ((Value.bool (ok)) = (Value.bool (x3.ok))) ∧
              True) ∧
              ((p) = (p)) ∧
              (((Value.int IntKind.i64 ((cA p x.i).kind)) = (Value.int IntKind.i64 (x3.c.kind))) ∧
              ((Value.int IntKind.i64 ((cA p x.i).key)) = (Value.int IntKind.i64 (x3.c.key))) ∧
              ((Value.int IntKind.i64 ((cA p x.i).old)) = (Value.int IntKind.i64 (x3.c.old))) ∧
              ((Value.int IntKind.i64 ((cA p x.i).new)) = (Value.int IntKind.i64 (x3.c.new))) ∧
              True) ∧
              (((Value.int IntKind.i64 (d.kind)) = (Value.int IntKind.i64 (x3.d.kind))) ∧
              ((Value.int IntKind.i64 (d.key)) = (Value.int IntKind.i64 (x3.d.key))) ∧
              ((Value.int IntKind.i64 (d.old)) = (Value.int IntKind.i64 (x3.d.old))) ∧
              ((Value.int IntKind.i64 (d.new)) = (Value.int IntKind.i64 (x3.d.new))) ∧
              True) ∧
              True)))))))))) ∧
    (∀ x1 : XW3 p,
      ((((↑x.i : Int)) = ((↑x1.i : Int))) →
      ((brS (decide (x1.c.kind < 1))
        ((∃ x2 : XW4 p,
          ((((↑x1.i : Int)) = ((↑x2.i : Int))) ∧
          (True ∧
          ((Value.int IntKind.i64 ((↑x1.i : Int))) = (Value.int IntKind.i64 ((↑x2.i : Int)))) ∧
          ((Value.bool true) = (Value.bool (x2.b))) ∧
          True) ∧
          ((p) = (p)) ∧
          True)))
        ((brS (decide (x1.c.kind > 3))
          ((∃ x2 : XW4 p,
            ((((↑x1.i : Int)) = ((↑x2.i : Int))) ∧
            (True ∧
            ((Value.int IntKind.i64 ((↑x1.i : Int))) = (Value.int IntKind.i64 ((↑x2.i : Int)))) ∧
            ((Value.bool true) = (Value.bool (x2.b))) ∧
            True) ∧
            ((p) = (p)) ∧
            True)))
          ((brS (!x1.ok)
            ((∃ x2 : XW4 p,
              ((((↑x1.i : Int)) = ((↑x2.i : Int))) ∧
              (True ∧
              ((Value.int IntKind.i64 ((↑x1.i : Int))) = (Value.int IntKind.i64 ((↑x2.i : Int)))) ∧
              ((Value.bool true) = (Value.bool (x2.b))) ∧
              True) ∧
              ((p) = (p)) ∧
              True)))
            ((brS (!(x1.c.kind == x1.d.kind && (x1.c.key == x1.d.key && (x1.c.old == x1.d.old && (x1.c.new == x1.d.new && true)))))
              ((∃ x2 : XW4 p,
                ((((↑x1.i : Int)) = ((↑x2.i : Int))) ∧
                (True ∧
                ((Value.int IntKind.i64 ((↑x1.i : Int))) = (Value.int IntKind.i64 ((↑x2.i : Int)))) ∧
                ((Value.bool true) = (Value.bool (x2.b))) ∧
                True) ∧
                ((p) = (p)) ∧
                True)))
              ((brS (decide ((↑x1.i : Int) > 0))
                (((0 ≤ IntKind.i64.wrap ((↑x1.i : Int) - 1)) ∧
                (IntKind.i64.wrap ((↑x1.i : Int) - 1) < (↑p.length : Int)) ∧
                (∃ x2 : XW4 p,
                  ((((↑x1.i : Int)) = ((↑x2.i : Int))) ∧
                  (True ∧
                  ((Value.int IntKind.i64 ((↑x1.i : Int))) = (Value.int IntKind.i64 ((↑x2.i : Int)))) ∧
                  ((Value.bool (decide (x1.c.key ≤ (p.getD (IntKind.i64.wrap ((↑x1.i : Int) - 1)).toNat { kind := 0, key := 0, old := 0, new := 0 : Chg }).key))) = (Value.bool (x2.b))) ∧
                  True) ∧
                  ((p) = (p)) ∧
                  True))))
                ((∃ x2 : XW4 p,
                  ((((↑x1.i : Int)) = ((↑x2.i : Int))) ∧
                  (True ∧
                  ((Value.int IntKind.i64 ((↑x1.i : Int))) = (Value.int IntKind.i64 ((↑x2.i : Int)))) ∧
                  ((Value.bool false) = (Value.bool (x2.b))) ∧
                  True) ∧
                  ((p) = (p)) ∧
                  True)))))))))))) ∧
      (∀ x2 : XW4 p,
        ((((↑x1.i : Int)) = ((↑x2.i : Int))) →
        (brS (x2.b)
          ((K (SV.one (TV.at (At.val (Value.bool false)))) [(Chunk.row false (EC.chg) (p))] []))
          ((∃ x' : XV1 p,
            (True ∧
            ((True ∧
            ((Value.int IntKind.i64 (IntKind.i64.wrap ((↑x2.i : Int) + 1))) = (Value.int IntKind.i64 ((↑x'.i : Int)))) ∧
            True) ∧
            ((p) = (p)) ∧
            True) ∧
            (p.length - x'.i < p.length - x.i))))))))))))
    ((K (SV.one (TV.at (At.val (Value.bool true)))) [(Chunk.row false (EC.chg) (p))] [])))))) = _ by kernel_rfl) ?_
  refine ⟨⟨⟨0, Nat.zero_le _, rfl⟩, by simp⟩, fun x _ => brS_of (fun hi => ?_) fun hi => ?_⟩
  · have hi : x.i < p.length := by simpa using hi
    have hc := cA_get hi
    have key : ∀ (x3 x4 : Option Int) (d : Chg) (ok : Bool), x3 = (cA p x.i).before → x4 = (cA p x.i).after → ChgR (cA p x.i).key x3.isSome (x3.getD 0) x4.isSome (x4.getD 0) d ok → CmpR (cA p x.i) d ok := by
      intro x3 x4 d ok e3 e4 hr
      subst e3 e4
      obtain ⟨h1, h2, h3⟩ := hr _ _ rfl rfl rfl rfl
      exact ⟨h1, h3⟩
    refine ⟨by omega, by omega, ⟨fun x3 e3 => ⟨fun x4 e4 => ⟨fun d ok hr => ?_, fun d ok hr => ?_⟩, fun x4 e4 d ok hr => ?_⟩, fun x4 e4 x3 e3 d ok hr => ?_⟩, fun x1 r1 => ⟨?_, fun x2 r2 => ?_⟩⟩
    iterate 4 exact ⟨⟨x.i, cA p x.i, d, ok, hi, x.h.2, hc, key _ _ _ _ ‹_› ‹_› hr⟩, by simp⟩
    · have hs := valGo_step x1.h.2.2.1
      rw [← x1.h.2.1, x1.h.2.2.2.ok] at hs
      have h1 := x1.h.1
      have stop : decide x1.c.ok = false → ∃ x2 : XW4 p, x2.i = x1.i ∧ x2.b = true := fun e => ⟨⟨x1.i, true, h1, by
        have := valGo_step x1.h.2.2.1
        rw [← x1.h.2.1, e] at this
        simpa using this⟩, rfl, rfl⟩
      rw [chg_eqB]
      refine brS_of (fun e => ?_) fun e => brS_of (fun e1 => ?_) fun e1 => brS_of (fun e2 => ?_) fun e2 => brS_of (fun e3 => ?_) fun e3 => brS_of (fun e4 => ?_) fun e4 => ?_
      · obtain ⟨x2, a1, a2⟩ := stop (by apply decide_eq_false; intro hok; have := Chg.ok_kind hok; simp at e; omega)
        exact ⟨x2, by simp [a1, a2]⟩
      · obtain ⟨x2, a1, a2⟩ := stop (by apply decide_eq_false; intro hok; have := Chg.ok_kind hok; simp at e1; omega)
        exact ⟨x2, by simp [a1, a2]⟩
      · obtain ⟨x2, a1, a2⟩ := stop (by rw [x1.h.2.2.2.ok]; simp at e2; simp [e2])
        exact ⟨x2, by simp [a1, a2]⟩
      · obtain ⟨x2, a1, a2⟩ := stop (by rw [x1.h.2.2.2.ok]; simp at e3; simp; exact fun _ hh => e3 hh.symm)
        exact ⟨x2, by simp [a1, a2]⟩
      · have h0 : 0 < x1.i := by simpa using e4
        rw [wrap_in (by omega) (by omega)]
        obtain ⟨k, hk⟩ : ∃ k, x1.i = k + 1 := ⟨x1.i - 1, by omega⟩
        have hp' : p[k]? = some (cA p k) := cA_get (by omega)
        have e5 : ((x1.i : Int) - 1).toNat = k := by omega
        have := lowB_succ hp' x1.c.key
        rw [← hk] at this
        simp at e2 e3
        refine ⟨by omega, by omega, ⟨x1.i, lowB p x1.i x1.c.key, h1, ?_⟩, ?_⟩
        · rw [hs]; simp [e2, e3]
        · simp only [e5, this]; simp [cA]
      · have h0 : x1.i = 0 := by simp at e4; omega
        have : lowB p x1.i x1.c.key = false := by rw [h0]; rfl
        simp at e2 e3
        refine ⟨⟨x1.i, false, h1, ?_⟩, by simp⟩
        rw [hs, this]; simp [e2, e3]
    · refine brS_of (fun hb => ?_) fun hb => ?_
      · have e : valB p = false := by rw [x2.h.2, hb]; rfl
        rw [e] at h; exact h
      · have h1 := x2.h.1
        refine ⟨⟨x2.i + 1, by omega, by rw [x2.h.2, hb]; rfl⟩, trivial, ?_, ?_⟩
        · rw [wrap_in (by omega) (by omega)]; simp
        · show p.length - (x2.i + 1) < p.length - x.i
          omega
  · have hi : x.i = p.length := by have := x.h.1; simp at hi; omega
    have e : valB p = true := by rw [x.h.2, hi, List.drop_length]; cases prevK p p.length <;> rfl
    rw [e] at h; exact h
theorem s_valid19 : SoundT C0 41 tValid := by
  refine .of Try.func41 (by decide) rfl fun args H K h hB => ?_
  unfold tValid at h
  split at h <;> try exact h.elim
  rename_i p
  exact ⟨aValid19 p, ⟨frame C0.ok s_before19 _, frame C0.ok s_after19 _, frame C0.ok s_change19 _, trivial⟩, vc_valid19 p K (hB 0 _ _ _ rfl) h⟩
end Go.Proofs.Ytdgodcamadalhaa.Sx
