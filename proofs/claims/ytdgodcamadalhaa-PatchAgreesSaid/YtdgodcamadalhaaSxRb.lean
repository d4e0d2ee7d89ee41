/- The patch layer's checks: what they answer. -/
import Derived.Test.YtdgodcamadalhaaSxRa
import Derived.Test.YtdgodcamadalhaaPatD
namespace Go.Proofs.Ytdgodcamadalhaa.Sx
open Go

theorem fold_C (p : List Chg) (n : Nat) : p.getD (n : Int).toNat ⟨0, 0, 0, 0⟩ = cA p n := rfl
theorem fold_E (p : List Ent) (n : Nat) : p.getD (n : Int).toNat (0, 0) = eA p n := rfl
theorem wrap_in {x : Int} (h0 : -9223372036854775808 ≤ x) (h1 : x ≤ 9223372036854775807) : IntKind.i64.wrap x = x := by
  rw [IntKind.wrap_i64]; omega

structure XV1 (p : List Chg) where
  i : Nat
  h : i ≤ p.length ∧ valB p = valGo (prevK p i) (p.drop i)
structure XV2 (p : List Chg) where
  i : Nat
  c : Chg
  h : i < p.length ∧ valB p = valGo (prevK p i) (p.drop i) ∧ p[i]? = some c ∧ lowB p i c.key = false
structure XV3 (p : List Chg) extends XV2 p where
  d : Chg
  ok : Bool
  hd : CmpR c d ok
structure XV4 (p : List Chg) where
  i : Nat
  c : Chg
  b : Bool
  h : i < p.length ∧ valB p = valGo (prevK p i) (p.drop i) ∧ p[i]? = some c ∧ b = lowB p i c.key
noncomputable def aValid (p : List Chg) : Ann C0 := { Γ := [(62, frameT [] (tBefore mayA)), (61, frameT [] (tAfter mayA)), (63, frameT [] tChange)], quiet := [62, 61, 63], inv := fun n => match n with
  | 2 => some { X := XV1 p, sl := [9], tf := fun x => [vi .i64 x.i], hf := fun _ => [.row false EC.chg p], μ := fun x => p.length - x.i }
  | 1005 => some { X := XV4 p, sl := [9, 4, 26], tf := fun z => [vi .i64 z.i, .one (.at (.ptr 1 0)), vb z.b], hf := fun z => [.row false EC.chg p, .box [vI z.c.kind, vI z.c.key, vI z.c.old, vI z.c.new]], rel := fun T _ z => slotI T 9 z.i }
  | 1008 => some { X := XV2 p, sl := [9, 4], tf := fun z => [vi .i64 z.i, .one (.at (.ptr 1 0))], hf := fun z => [.row false EC.chg p, .box [vI z.c.kind, vI z.c.key, vI z.c.old, vI z.c.new]], rel := fun T _ z => slotI T 9 z.i }
  | 1009 => some { X := XV3 p, sl := [9, 4, 5, 6], tf := fun z => [vi .i64 z.i, .one (.at (.ptr 1 0)), .one (.at (.ptr 2 0)), vb z.ok], hf := fun z => [.row false EC.chg p, .box [vI z.c.kind, vI z.c.key, vI z.c.old, vI z.c.new], .box [vI z.d.kind, vI z.d.key, vI z.d.old, vI z.d.new]], rel := fun T _ z => slotI T 9 z.i }
  | _ => none }
def tValid : Tfm C0 := fun args H K => match args, H with
  | [.at (.slc 0)], [.row false .chg p] => K (.one (.at (vB (valB p)))) [.row false EC.chg p] []
  | _, _ => False

theorem vc_valid (p : List Chg) (K : KT) (hmax : p.length ≤ 9223372036854775807) (h : K (.one (.at (vB (valB p)))) [.row false EC.chg p] []) : vc C0 (aValid p) Try.f38 [.at (.slc 0)] [.row false EC.chg p] (normK 1 K) := by
  refine Eq.mp (show ((∃ x : XV1 p,
  (True ∧
  (True ∧
  True ∧
  ((Value.int IntKind.i64 ((↑p.length : Int))) = (Value.int IntKind.i64 ((↑p.length : Int)))) ∧
  ((Value.int IntKind.i64 0) = (Value.int IntKind.i64 ((↑x.i : Int)))) ∧
  True) ∧
  ((p) = (p)) ∧
  True)) ∧
(∀ x : XV1 p,
  (True →
  (brS (decide ((↑x.i : Int) < (↑p.length : Int)))
    (((0 ≤ (↑x.i : Int)) ∧
    ((↑x.i : Int) < (↑p.length : Int)) ∧
    (brS (decide ((↑x.i : Int) > 0))
      (((0 ≤ IntKind.i64.wrap ((↑x.i : Int) - 1)) ∧
      (IntKind.i64.wrap ((↑x.i : Int) - 1) < (↑p.length : Int)) ∧
      (∃ x1 : XV4 p,
        ((((↑x.i : Int)) = ((↑x1.i : Int))) ∧
        (True ∧
        True ∧
        True ∧
        ((Value.int IntKind.i64 ((↑p.length : Int))) = (Value.int IntKind.i64 ((↑p.length : Int)))) ∧
        ((Value.int IntKind.i64 ((↑x.i : Int))) = (Value.int IntKind.i64 ((↑x1.i : Int)))) ∧
        ((Value.bool (decide ((cA p x.i).key ≤ (p.getD (IntKind.i64.wrap ((↑x.i : Int) - 1)).toNat { kind := 0, key := 0, old := 0, new := 0 : Chg }).key))) = (Value.bool (x1.b))) ∧
        True) ∧
        ((p) = (p)) ∧
        (((Value.int IntKind.i64 ((cA p x.i).kind)) = (Value.int IntKind.i64 (x1.c.kind))) ∧
        ((Value.int IntKind.i64 ((cA p x.i).key)) = (Value.int IntKind.i64 (x1.c.key))) ∧
        ((Value.int IntKind.i64 ((cA p x.i).old)) = (Value.int IntKind.i64 (x1.c.old))) ∧
        ((Value.int IntKind.i64 ((cA p x.i).new)) = (Value.int IntKind.i64 (x1.c.new))) ∧
        True) ∧
        True))))
      ((∃ x1 : XV4 p,
        ((((↑x.i : Int)) = ((↑x1.i : Int))) ∧
        (True ∧
        True ∧
        True ∧
        ((Value.int IntKind.i64 ((↑p.length : Int))) = (Value.int IntKind.i64 ((↑p.length : Int)))) ∧
        ((Value.int IntKind.i64 ((↑x.i : Int))) = (Value.int IntKind.i64 ((↑x1.i : Int)))) ∧
        ((Value.bool false) = (Value.bool (x1.b))) ∧
        True) ∧
        ((p) = (p)) ∧
        (((Value.int IntKind.i64 ((cA p x.i).kind)) = (Value.int IntKind.i64 (x1.c.kind))) ∧
        ((Value.int IntKind.i64 ((cA p x.i).key)) = (Value.int IntKind.i64 (x1.c.key))) ∧
        ((Value.int IntKind.i64 ((cA p x.i).old)) = (Value.int IntKind.i64 (x1.c.old))) ∧
        ((Value.int IntKind.i64 ((cA p x.i).new)) = (Value.int IntKind.i64 (x1.c.new))) ∧
        True) ∧
        True)))) ∧
    (∀ x1 : XV4 p,
      ((((↑x.i : Int)) = ((↑x1.i : Int))) →
      (brS (x1.b)
        ((K (SV.one (TV.at (At.val (Value.bool false)))) [(Chunk.row false (EC.chg) (p))] []))
        (((brS (x1.c.kind != 1)
          ((brS (x1.c.kind != 2)
            ((brS (x1.c.kind != 3)
              ((K (SV.one (TV.at (At.val (Value.bool false)))) [(Chunk.row false (EC.chg) (p))] []))
              ((∃ x2 : XV2 p,
                ((((↑x1.i : Int)) = ((↑x2.i : Int))) ∧
                (True ∧
                True ∧
                True ∧
                ((Value.int IntKind.i64 ((↑p.length : Int))) = (Value.int IntKind.i64 ((↑p.length : Int)))) ∧
                ((Value.int IntKind.i64 ((↑x1.i : Int))) = (Value.int IntKind.i64 ((↑x2.i : Int)))) ∧
                True) ∧
                ((p) = (p)) ∧
                (((Value.int IntKind.i64 (x1.c.kind)) = (Value.int IntKind.i64 (x2.c.kind))) ∧
                ((Value.int IntKind.i64 (x1.c.key)) = (Value.int IntKind.i64 (x2.c.key))) ∧
                ((Value.int IntKind.i64 (x1.c.old)) = (Value.int IntKind.i64 (x2.c.old))) ∧
                ((Value.int IntKind.i64 (x1.c.new)) = (Value.int IntKind.i64 (x2.c.new))) ∧
                True) ∧
                True)))))
            ((∃ x2 : XV2 p,
              ((((↑x1.i : Int)) = ((↑x2.i : Int))) ∧
              (True ∧
              True ∧
              True ∧
              ((Value.int IntKind.i64 ((↑p.length : Int))) = (Value.int IntKind.i64 ((↑p.length : Int)))) ∧
              ((Value.int IntKind.i64 ((↑x1.i : Int))) = (Value.int IntKind.i64 ((↑x2.i : Int)))) ∧
              True) ∧
              ((p) = (p)) ∧
              (((Value.int IntKind.i64 (x1.c.kind)) = (Value.int IntKind.i64 (x2.c.kind))) ∧
              ((Value.int IntKind.i64 (x1.c.key)) = (Value.int IntKind.i64 (x2.c.key))) ∧
              ((Value.int IntKind.i64 (x1.c.old)) = (Value.int IntKind.i64 (x2.c.old))) ∧
              ((Value.int IntKind.i64 (x1.c.new)) = (Value.int IntKind.i64 (x2.c.new))) ∧
              True) ∧
              True)))))
          ((∃ x2 : XV2 p,
            ((((↑x1.i : Int)) = ((↑x2.i : Int))) ∧
            (True ∧
            True ∧
            True ∧
            ((Value.int IntKind.i64 ((↑p.length : Int))) = (Value.int IntKind.i64 ((↑p.length : Int)))) ∧
            ((Value.int IntKind.i64 ((↑x1.i : Int))) = (Value.int IntKind.i64 ((↑x2.i : Int)))) ∧
            True) ∧
            ((p) = (p)) ∧
            (((Value.int IntKind.i64 (x1.c.kind)) = (Value.int IntKind.i64 (x2.c.kind))) ∧
            ((Value.int IntKind.i64 (x1.c.key)) = (Value.int IntKind.i64 (x2.c.key))) ∧
            ((Value.int IntKind.i64 (x1.c.old)) = (Value.int IntKind.i64 (x2.c.old))) ∧
            ((Value.int IntKind.i64 (x1.c.new)) = (Value.int IntKind.i64 (x2.c.new))) ∧
            True) ∧
            True)))) ∧
        (∀ x2 : XV2 p,
          ((((↑x1.i : Int)) = ((↑x2.i : Int))) →
          (((∀ x3 : Option Int,
            (((x3) = ({ kind := x2.c.kind, key := x2.c.key, old := x2.c.old, new := x2.c.new : Chg }.before)) →
            ((∀ x4 : Option Int,
              (((x4) = ({ kind := x2.c.kind, key := x2.c.key, old := x2.c.old, new := x2.c.new : Chg }.after)) →
              ((∀ d : Chg,
                (∀ ok : Bool,
                  ((ChgR x2.c.key x3.isSome (x3.getD 0) x4.isSome (x4.getD 0) d ok) →
                  (∃ x5 : XV3 p,
                    ((((↑x2.i : Int)) = ((↑x5.i : Int))) ∧
                    (True ∧
                    True ∧
                    True ∧
                    ((Value.bool (ok)) = (Value.bool (x5.ok))) ∧
                    True ∧
                    ((Value.int IntKind.i64 ((↑p.length : Int))) = (Value.int IntKind.i64 ((↑p.length : Int)))) ∧
                    ((Value.int IntKind.i64 ((↑x2.i : Int))) = (Value.int IntKind.i64 ((↑x5.i : Int)))) ∧
                    True) ∧
                    ((p) = (p)) ∧
                    (((Value.int IntKind.i64 (x2.c.kind)) = (Value.int IntKind.i64 (x5.c.kind))) ∧
                    ((Value.int IntKind.i64 (x2.c.key)) = (Value.int IntKind.i64 (x5.c.key))) ∧
                    ((Value.int IntKind.i64 (x2.c.old)) = (Value.int IntKind.i64 (x5.c.old))) ∧
                    ((Value.int IntKind.i64 (x2.c.new)) = (Value.int IntKind.i64 (x5.c.new))) ∧
                    True) ∧
                    (((Value.int IntKind.i64 (d.kind)) = (Value.int IntKind.i64 (x5.d.kind))) ∧
                    ((Value.int IntKind.i64 (d.key)) = (Value.int IntKind.i64 (x5.d.key))) ∧
                    ((Value.int IntKind.i64 (d.old)) = (Value.int IntKind.i64 (x5.d.old))) ∧
                    ((Value.int IntKind.i64 (d.new)) = (Value.int IntKind.i64 (x5.d.new))) ∧
                    True) ∧
                    True))))) ∧
              (∀ d : Chg,
                (∀ ok : Bool,
                  ((ChgR x2.c.key x3.isSome (x3.getD 0) x4.isSome (x4.getD 0) d ok) →
                  (∃ x5 : XV3 p,
                    ((((↑x2.i : Int)) = ((↑x5.i : Int))) ∧
                    (True ∧
                    True ∧
                    True ∧
                    ((Value.bool (ok)) = (Value.bool (x5.ok))) ∧
                    True ∧
                    ((Value.int IntKind.i64 ((↑p.length : Int))) = (Value.int IntKind.i64 ((↑p.length : Int)))) ∧
                    ((Value.int IntKind.i64 ((↑x2.i : Int))) = (Value.int IntKind.i64 ((↑x5.i : Int)))) ∧
                    True) ∧
                    ((p) = (p)) ∧
                    (((Value.int IntKind.i64 (x2.c.kind)) = (Value.int IntKind.i64 (x5.c.kind))) ∧
                    ((Value.int IntKind.i64 (x2.c.key)) = (Value.int IntKind.i64 (x5.c.key))) ∧
                    ((Value.int IntKind.i64 (x2.c.old)) = (Value.int IntKind.i64 (x5.c.old))) ∧
                    ((Value.int IntKind.i64 (x2.c.new)) = (Value.int IntKind.i64 (x5.c.new))) ∧
                    True) ∧
                    (((Value.int IntKind.i64 (d.kind)) = (Value.int IntKind.i64 (x5.d.kind))) ∧
                    ((Value.int IntKind.i64 (d.key)) = (Value.int IntKind.i64 (x5.d.key))) ∧
                    ((Value.int IntKind.i64 (d.old)) = (Value.int IntKind.i64 (x5.d.old))) ∧
                    ((Value.int IntKind.i64 (d.new)) = (Value.int IntKind.i64 (x5.d.new))) ∧
                    True) ∧
                    True)))))))) ∧
            (∀ x4 : Option Int,
              (((x4) = ({ kind := x2.c.kind, key := x2.c.key, old := x2.c.old, new := x2.c.new : Chg }.after)) →
              (∀ d : Chg,
                (∀ ok : Bool,
                  ((ChgR x2.c.key x3.isSome (x3.getD 0) x4.isSome (x4.getD 0) d ok) →
                  (∃ x5 : XV3 p,
                    ((((↑x2.i : Int)) = ((↑x5.i : Int))) ∧
                    (True ∧
                    True ∧
                    True ∧
                    ((Value.bool (ok)) = (Value.bool (x5.ok))) ∧
                    True ∧
                    ((Value.int IntKind.i64 ((↑p.length : Int))) = (Value.int IntKind.i64 ((↑p.length : Int)))) ∧
                    ((Value.int IntKind.i64 ((↑x2.i : Int))) = (Value.int IntKind.i64 ((↑x5.i : Int)))) ∧
                    True) ∧
                    ((p) = (p)) ∧
                    (((Value.int IntKind.i64 (x2.c.kind)) = (Value.int IntKind.i64 (x5.c.kind))) ∧
                    ((Value.int IntKind.i64 (x2.c.key)) = (Value.int IntKind.i64 (x5.c.key))) ∧
                    ((Value.int IntKind.i64 (x2.c.old)) = (Value.int IntKind.i64 (x5.c.old))) ∧
                    ((Value.int IntKind.i64 (x2.c.new)) = (Value.int IntKind.i64 (x5.c.new))) ∧
                    True) ∧
                    (((Value.int IntKind.i64 (d.kind)) = (Value.int IntKind.i64 (x5.d.kind))) ∧
                    ((Value.int IntKind.i64 (d.key)) = (Value.int IntKind.i64 (x5.d.key))) ∧
                    ((Value.int IntKind.i64 (d.old)) = (Value.int IntKind.i64 (x5.d.old))) ∧
                    ((Value.int IntKind.i64 (d.new)) = (Value.int IntKind.i64 (x5.d.new))) ∧
                    True) ∧
                    True)))))))))) ∧
          (∀ x3 : Option Int,
            (((x3) = ({ kind := x2.c.kind, key := x2.c.key, old := x2.c.old, new := x2.c.new : Chg }.before)) →
            (∀ x4 : Option Int,
              (((x4) = ({ kind := x2.c.kind, key := x2.c.key, old := x2.c.old, new := x2.c.new : Chg }.after)) →
              (∀ d : Chg,
                (∀ ok : Bool,
                  ((ChgR x2.c.key x3.isSome (x3.getD 0) x4.isSome (x4.getD 0) d ok) →
                  (∃ x5 : XV3 p,
                    ((((↑x2.i : Int)) = ((↑x5.i : Int))) ∧
                    (True ∧
                    True ∧
                    True ∧
                    ((Value.bool (ok)) = (Value.bool (x5.ok))) ∧
                    True ∧
                    ((Value.int IntKind.i64 ((↑p.length : Int))) = (Value.int IntKind.i64 ((↑p.length : Int)))) ∧
                    ((Value.int IntKind.i64 ((↑x2.i : Int))) = (Value.int IntKind.i64 ((↑x5.i : Int)))) ∧
                    True) ∧
                    ((p) = (p)) ∧
                    (((Value.int IntKind.i64 (x2.c.kind)) = (Value.int IntKind.i64 (x5.c.kind))) ∧
                    ((Value.int IntKind.i64 (x2.c.key)) = (Value.int IntKind.i64 (x5.c.key))) ∧
                    ((Value.int IntKind.i64 (x2.c.old)) = (Value.int IntKind.i64 (x5.c.old))) ∧
                    ((Value.int IntKind.i64 (x2.c.new)) = (Value.int IntKind.i64 (x5.c.new))) ∧
                    True) ∧
                    (((Value.int IntKind.i64 (d.kind)) = (Value.int IntKind.i64 (x5.d.kind))) ∧
                    ((Value.int IntKind.i64 (d.key)) = (Value.int IntKind.i64 (x5.d.key))) ∧
                    ((Value.int IntKind.i64 (d.old)) = (Value.int IntKind.i64 (x5.d.old))) ∧
                    ((Value.int IntKind.i64 (d.new)) = (Value.int IntKind.i64 (x5.d.new))) ∧
                    True) ∧
                    True)))))))))) ∧
          (∀ x3 : XV3 p,
            ((((↑x2.i : Int)) = ((↑x3.i : Int))) →
            (brS (!x3.ok)
              ((K (SV.one (TV.at (At.val (Value.bool false)))) [(Chunk.row false (EC.chg) (p))] []))
              ((brS (!(x3.d.kind == x3.c.kind && (x3.d.key == x3.c.key && (x3.d.old == x3.c.old && (x3.d.new == x3.c.new && true)))))
                ((K (SV.one (TV.at (At.val (Value.bool false)))) [(Chunk.row false (EC.chg) (p))] []))
                ((∃ x' : XV1 p,
                  (True ∧
                  ((True ∧
                  True ∧
                  ((Value.int IntKind.i64 ((↑p.length : Int))) = (Value.int IntKind.i64 ((↑p.length : Int)))) ∧
                  ((Value.int IntKind.i64 (IntKind.i64.wrap ((↑x3.i : Int) + 1))) = (Value.int IntKind.i64 ((↑x'.i : Int)))) ∧
                  True) ∧
                  ((p) = (p)) ∧
                  True) ∧
                  (p.length - x'.i < p.length - x.i)))))))))))))))))))
    ((K (SV.one (TV.at (At.val (Value.bool true)))) [(Chunk.row false (EC.chg) (p))] [])))))) = _ by kernel_rfl) ?_
  refine ⟨⟨⟨0, Nat.zero_le _, rfl⟩, by simp⟩, fun x _ => brS_of (fun hi => ?_) fun hi => ?_⟩
  · have hi : x.i < p.length := by simpa using hi
    have hc := cA_get hi
    refine ⟨by omega, by omega, ?_, fun x1 r1 => brS_of (fun hb => ?_) fun hb => ⟨?_, fun x2 r2 => ⟨?_, fun x3 r3 => ?_⟩⟩⟩
    · refine brS_of (fun h0 => ?_) fun h0 => ?_
      · have h0 : 0 < x.i := by simpa using h0
        rw [wrap_in (by omega) (by omega)]
        refine ⟨by omega, by omega, ⟨x.i, _, _, hi, x.h.2, hc, rfl⟩, rfl, ?_⟩
        have e : ((x.i : Int) - 1).toNat = x.i - 1 := by omega
        obtain ⟨k, hk⟩ : ∃ k, x.i = k + 1 := ⟨x.i - 1, by omega⟩
        have hp' : p[k]? = some (cA p k) := cA_get (by omega)
        have e2 : x.i - 1 = k := by omega
        have := lowB_succ hp' (cA p x.i).key
        rw [← hk] at this
        simp only [e, e2, this]
        simp [cA]
      · have h0 : x.i = 0 := by simp at h0; omega
        refine ⟨⟨x.i, _, _, hi, x.h.2, hc, rfl⟩, rfl, ?_⟩
        have : lowB p x.i (cA p x.i).key = false := by rw [h0]; rfl
        simp only [this]
        simp
    · have := valGo_step x1.h.2.2.1
      have e : valB p = false := by rw [x1.h.2.1, this, ← x1.h.2.2.2, hb]; rfl
      rw [e] at h; exact h
    · have hx : lowB p x1.i x1.c.key = false := by rw [← x1.h.2.2.2, hb]
      have stay : ∃ x2 : XV2 p, x2.i = x1.i ∧ x2.c = x1.c := ⟨⟨x1.i, x1.c, x1.h.1, x1.h.2.1, x1.h.2.2.1, hx⟩, rfl, rfl⟩
      obtain ⟨x2, e1, e2⟩ := stay
      refine brS_of (fun k1 => brS_of (fun k2 => brS_of (fun k3 => ?_) fun k3 => ?_) fun k2 => ?_) fun k1 => ?_
      · have hno : decide x1.c.ok = false := by
          apply decide_eq_false
          intro hok
          have := Chg.ok_kind hok
          simp at k1 k2 k3
          omega
        have e : valB p = false := by rw [x1.h.2.1, valGo_step x1.h.2.2.1, hno]; simp
        rw [e] at h; exact h
      all_goals exact ⟨x2, by simp [e1, e2]⟩
    · have key : ∀ (x3 x4 : Option Int) (d : Chg) (ok : Bool), x3 = x2.c.before → x4 = x2.c.after → ChgR x2.c.key x3.isSome (x3.getD 0) x4.isSome (x4.getD 0) d ok → CmpR x2.c d ok := by
        intro x3 x4 d ok e3 e4 hr
        subst e3 e4
        obtain ⟨h1, h2, h3⟩ := hr _ _ rfl rfl rfl rfl
        exact ⟨h1, h3⟩
      refine ⟨fun x3 e3 => ⟨fun x4 e4 => ⟨fun d ok hr => ?_, fun d ok hr => ?_⟩, fun x4 e4 d ok hr => ?_⟩, fun x4 e4 x3 e3 d ok hr => ?_⟩
      all_goals exact ⟨⟨x2, d, ok, key _ _ _ _ ‹_› ‹_› hr⟩, by simp⟩
    · have hs := valGo_step x3.h.2.2.1
      rw [x3.h.2.2.2, x3.hd.ok] at hs
      rw [chg_eqB]
      refine brS_of (fun ho => ?_) fun ho => brS_of (fun hd => ?_) fun hd => ?_
      · have e : valB p = false := by rw [x3.h.2.1, hs]; simp at ho; simp [ho]
        rw [e] at h; exact h
      · have e : valB p = false := by rw [x3.h.2.1, hs]; simp at hd; simp [hd]
        rw [e] at h; exact h
      · have hlt := x3.h.1
        refine ⟨⟨x3.i + 1, by omega, ?_⟩, trivial, ?_, ?_⟩
        · rw [x3.h.2.1, hs]; simp at ho hd; simp [ho, hd]
        · rw [wrap_in (by omega) (by omega)]; simp
        · show p.length - (x3.i + 1) < p.length - x.i
          omega
  · have hi : x.i = p.length := by have := x.h.1; simp at hi; omega
    have e : valB p = true := by rw [x.h.2, hi, List.drop_length]; cases prevK p p.length <;> rfl
    rw [e] at h; exact h

theorem s_valid : SoundT C0 38 tValid := by
  refine .of Try.func38 (by decide) rfl fun args H K h hB => ?_
  unfold tValid at h
  split at h <;> try exact h.elim
  rename_i p
  exact ⟨aValid p, ⟨frame C0.ok s_before _, frame C0.ok s_after _, frame C0.ok s_change _, trivial⟩, vc_valid p K (hB 0 _ _ _ rfl) h⟩
end Go.Proofs.Ytdgodcamadalhaa.Sx
