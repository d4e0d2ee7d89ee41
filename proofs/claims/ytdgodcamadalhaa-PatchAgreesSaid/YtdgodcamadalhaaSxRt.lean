/- The reference's Compose and Rebase. -/
import Derived.Test.YtdgodcamadalhaaSxRr
import Derived.Test.YtdgodcamadalhaaSxRp
import Derived.Test.YtdgodcamadalhaaSxRl
import Derived.Test.YtdgodcamadalhaaSxRs
namespace Go.Proofs.Ytdgodcamadalhaa.Sx
open Go

def fndD (p : List Chg) (k : Int) : Chg := (fnd Chg.key p k).getD ⟨0, 0, 0, 0⟩
def fndS (p : List Chg) (k : Int) : Bool := (fnd Chg.key p k).isSome
def tFndD : Tfm C0 := fun args H K => match args, H with
  | [.at (.slc 0), .at (.val (.int .i64 q))], [.row false .chg p] => K (.tup [chgA (fndD p q), .at (vB (fndS p q))]) [.row false EC.chg p] []
  | _, _ => False
theorem s_fndD : SoundT C0 74 tFndD := s_fnd.weak fun args H K h => by
  unfold tFndD at h
  split at h <;> try exact h.elim
  intro c b hb hc
  subst hb hc
  exact h
abbrev bxD (c : Chg) : Chunk C0 := .box [vI c.kind, vI c.key, vI c.old, vI c.new]
def ksE (p q : List Chg) : List Int := keys3 (kE p) (kE q) []
def zk (p q : List Chg) (k : Int) : Option Chg × Option Chg := (fnd Chg.key p k, fnd Chg.key q k)
structure XC9 (p q : List Chg) where
  i : Nat
  out : List Chg
  h : i ≤ (ksE p q).length ∧ out.length ≤ i ∧ comp p q = (compGo (((ksE p q).drop i).map (zk p q))).map (out ++ ·)
structure XC9b (p q : List Chg) extends XC9 p q where
  b : Bool
  hb : b = !decide ((fndD p (iA (ksE p q) i)).after = (fndD q (iA (ksE p q) i)).before)
structure XC9c (p q : List Chg) extends XC9 p q where
  d : Chg
  ok : Bool
  hd : ok = (mkChg (iA (ksE p q) i) (fndD p (iA (ksE p q) i)).before (fndD q (iA (ksE p q) i)).after).isSome ∧ ∀ e, mkChg (iA (ksE p q) i) (fndD p (iA (ksE p q) i)).before (fndD q (iA (ksE p q) i)).after = some e → d = e
noncomputable def aComp19 (p q : List Chg) : Ann C0 := { quiet := [70, 71, 72], Γ := [(41, frameT [] tValid), (73, frameT [] tKeys19), (74, frameT [] tFndD), (70, frameT [] (tBefore optA)), (71, frameT [] (tAfter optA)), (72, frameT [] tChange19)], inv := fun k => match k with
  | 6 => some { X := XC9 p q, sl := [8, 7, 6], tf := fun x => [vi .i64 x.i, .one (.at (.slc 3)), .one (.at (.slc 2))], hf := fun x => [.row false EC.chg p, .row false EC.chg q, .row true EC.chg x.out, .row true EC.i64 (ksE p q)], μ := fun x => (ksE p q).length - x.i }
  | 1018 => some { X := XC9b p q, sl := [81], tf := fun x => [vb x.b], hf := fun x => [.row false EC.chg p, .row false EC.chg q, .row true EC.chg x.out, .row true EC.i64 (ksE p q), bxD (fndD p (iA (ksE p q) x.i)), bxD (fndD q (iA (ksE p q) x.i))], rel := fun T _ x => slotI T 8 x.i }
  | 1011 => some { X := XC9c p q, sl := [14, 13], tf := fun x => [vb x.ok, .one (.at (.ptr 4 0))], hf := fun x => [.row false EC.chg p, .row false EC.chg q, .row true EC.chg x.out, .row true EC.i64 (ksE p q), bxD x.d], rel := fun T _ x => slotI T 8 x.i }
  | _ => none }
theorem kE_get (p : List Chg) (k : Int) : (getE (kE p) k).isSome = (fnd Chg.key p k).isSome := by
  induction p with
  | nil => rfl
  | cons c t ih =>
    show (if c.key = k then some (0 : Int) else getE (kE t) k).isSome = _
    rw [fnd_cons]
    by_cases h : c.key = k
    · rw [if_pos h, if_pos h]; rfl
    · rw [if_neg h, if_neg h, ih]
theorem ksE_mem (p q : List Chg) (k : Int) : k ∈ ksE p q ↔ (fnd Chg.key p k).isSome = true ∨ (fnd Chg.key q k).isSome = true := by
  unfold ksE
  rw [keys3_mem, kE_get, kE_get]
  simp [getE]
theorem ksE_len (p q : List Chg) : (ksE p q).length ≤ p.length + q.length := by
  have := keys3_len (kE p) (kE q) []
  unfold ksE
  simp [kE] at this ⊢; omega
theorem pC_ks {p q : List Chg} (hp : Val p) (hq : Val q) : pC p q = (ksE p q).map (zk p q) :=
  pairs_eq p q hp.1 hq.1 (ksE p q) (keys3_srt _ _ _) (ksE_mem p q)
theorem fndD_some {p : List Chg} {k : Int} (h : fndS p k = true) : fnd Chg.key p k = some (fndD p k) ∧ (fndD p k).key = k := by
  obtain ⟨c, hc⟩ := Option.isSome_iff_exists.1 h
  have : fndD p k = c := by unfold fndD; rw [hc]; rfl
  rw [this]
  exact ⟨hc, fnd_key hc⟩
theorem fndS_none {p : List Chg} {k : Int} (h : fndS p k = false) : fnd Chg.key p k = none := by
  unfold fndS at h
  cases hc : fnd Chg.key p k with
  | none => rfl
  | some c => rw [hc] at h; cases h
theorem comp1_len1 (z : Option Chg × Option Chg) : (comp1 z).length ≤ 1 := by
  obtain ⟨a, b⟩ := z
  cases a <;> cases b <;> simp [comp1]
theorem c9_step {p q : List Chg} (x : XC9 p q) (hi : x.i < (ksE p q).length) :
    (meet1 (zk p q (iA (ksE p q) x.i)) = false → comp p q = none) ∧
    (meet1 (zk p q (iA (ksE p q) x.i)) = true → ∀ out', out' = x.out ++ comp1 (zk p q (iA (ksE p q) x.i)) → x.i + 1 ≤ (ksE p q).length ∧ out'.length ≤ x.i + 1 ∧ comp p q = (compGo (((ksE p q).drop (x.i + 1)).map (zk p q))).map (out' ++ ·)) := by
  obtain ⟨h1, h2, h3⟩ := x.h
  rw [drop_cons (iA_get hi), List.map_cons] at h3
  simp only [compGo] at h3
  refine ⟨fun h => ?_, fun h out' ho => ⟨hi, ?_, ?_⟩⟩
  · rw [h3, h]; rfl
  · have := comp1_len1 (zk p q (iA (ksE p q) x.i)); rw [ho, List.length_append]; omega
  · rw [h3, h, ho]
    simp only [if_true, Option.map_map]
    congr 1
    funext r
    simp
theorem vc_comp19 (p q : List Chg) (K : KT) (hsm : p.length + q.length ≤ 1000000) (h : ∀ (r : List Chg) (e : Int), (r, e) = compR p q → K (.tup [.at (.slc 2), .at (vI e)]) [.row false EC.chg p, .row false EC.chg q, .row true EC.chg r] []) :
    vc C0 (aComp19 p q) Try.f43 [.at (.slc 0), .at (.slc 1)] [.row false EC.chg p, .row false EC.chg q] (normK 2 K) := by
  refine Eq.mp (show (brS (!valB p)
  ((K (SV.tup [(TV.at (At.slc 2)), (TV.at (At.val (Value.int IntKind.i64 1)))]) [(Chunk.row false (EC.chg) (p)), (Chunk.row false (EC.chg) (q)), (Chunk.row true (EC.chg) [])] []))
  ((brS (!valB q)
    ((K (SV.tup [(TV.at (At.slc 2)), (TV.at (At.val (Value.int IntKind.i64 1)))]) [(Chunk.row false (EC.chg) (p)), (Chunk.row false (EC.chg) (q)), (Chunk.row true (EC.chg) [])] []))
    (((p.length + q.length ≤ 1000000) ∧
    (∃ x : XC9 p q,
      (True ∧
      (True ∧
      True ∧
      True ∧
      True ∧
      ((Value.int IntKind.i64 0) = (Value.int IntKind.i64 ((↑x.i : Int)))) ∧
      True) ∧
      ((p) = (p)) ∧
      ((q) = (q)) ∧
      ([] = (x.out)) ∧
      ((keys3 (kE p) (kE q) []) = (ksE p q)) ∧
      True)) ∧
    (∀ x : XC9 p q,
      (True →
      (brS (decide ((↑x.i : Int) < (↑(ksE p q).length : Int)))
        (((0 ≤ (↑x.i : Int)) ∧
        ((↑x.i : Int) < (↑(ksE p q).length : Int)) ∧
        (0 ≤ (↑x.i : Int)) ∧
        ((↑x.i : Int) < (↑(ksE p q).length : Int)) ∧
        (brS (!fndS q (iA (ksE p q) x.i))
          ((((x.out.length + [{ kind := (fndD p (iA (ksE p q) x.i)).kind, key := (fndD p (iA (ksE p q) x.i)).key, old := (fndD p (iA (ksE p q) x.i)).old, new := (fndD p (iA (ksE p q) x.i)).new : Chg }].length) * bytesOf C0 EC.chg ≤ 140737488355328) ∧
          (∃ x' : XC9 p q,
            (True ∧
            ((True ∧
            True ∧
            True ∧
            True ∧
            ((Value.int IntKind.i64 (IntKind.i64.wrap ((↑x.i : Int) + 1))) = (Value.int IntKind.i64 ((↑x'.i : Int)))) ∧
            True) ∧
            ((p) = (p)) ∧
            ((q) = (q)) ∧
            ((x.out ++ [{ kind := (fndD p (iA (ksE p q) x.i)).kind, key := (fndD p (iA (ksE p q) x.i)).key, old := (fndD p (iA (ksE p q) x.i)).old, new := (fndD p (iA (ksE p q) x.i)).new : Chg }]) = (x'.out)) ∧
            ((ksE p q) = (ksE p q)) ∧
            True) ∧
            ((ksE p q).length - x'.i < (ksE p q).length - x.i)))))
          ((brS (!fndS p (iA (ksE p q) x.i))
            ((((x.out.length + [{ kind := (fndD q (iA (ksE p q) x.i)).kind, key := (fndD q (iA (ksE p q) x.i)).key, old := (fndD q (iA (ksE p q) x.i)).old, new := (fndD q (iA (ksE p q) x.i)).new : Chg }].length) * bytesOf C0 EC.chg ≤ 140737488355328) ∧
            (∃ x' : XC9 p q,
              (True ∧
              ((True ∧
              True ∧
              True ∧
              True ∧
              ((Value.int IntKind.i64 (IntKind.i64.wrap ((↑x.i : Int) + 1))) = (Value.int IntKind.i64 ((↑x'.i : Int)))) ∧
              True) ∧
              ((p) = (p)) ∧
              ((q) = (q)) ∧
              ((x.out ++ [{ kind := (fndD q (iA (ksE p q) x.i)).kind, key := (fndD q (iA (ksE p q) x.i)).key, old := (fndD q (iA (ksE p q) x.i)).old, new := (fndD q (iA (ksE p q) x.i)).new : Chg }]) = (x'.out)) ∧
              ((ksE p q) = (ksE p q)) ∧
              True) ∧
              ((ksE p q).length - x'.i < (ksE p q).length - x.i)))))
            (((∀ x1 : Option Int,
              (((x1) = ({ kind := (fndD p (iA (ksE p q) x.i)).kind, key := (fndD p (iA (ksE p q) x.i)).key, old := (fndD p (iA (ksE p q) x.i)).old, new := (fndD p (iA (ksE p q) x.i)).new : Chg }.after)) →
              (∀ x2 : Option Int,
                (((x2) = ({ kind := (fndD q (iA (ksE p q) x.i)).kind, key := (fndD q (iA (ksE p q) x.i)).key, old := (fndD q (iA (ksE p q) x.i)).old, new := (fndD q (iA (ksE p q) x.i)).new : Chg }.before)) →
                (∃ x3 : XC9b p q,
                  ((((↑x.i : Int)) = ((↑x3.i : Int))) ∧
                  (True ∧
                  True ∧
                  True ∧
                  True ∧
                  ((Value.int IntKind.i64 ((↑x.i : Int))) = (Value.int IntKind.i64 ((↑x.i : Int)))) ∧
                  True ∧
                  True ∧
                  ((Value.bool (!(x1.getD 0 == x2.getD 0 && (x1.isSome == x2.isSome && true)))) = (Value.bool (x3.b))) ∧
                  True) ∧
                  ((p) = (p)) ∧
                  ((q) = (q)) ∧
                  ((x.out) = (x3.out)) ∧
                  ((ksE p q) = (ksE p q)) ∧
                  (((Value.int IntKind.i64 ((fndD p (iA (ksE p q) x.i)).kind)) = (Value.int IntKind.i64 ((fndD p (iA (ksE p q) x3.i)).kind))) ∧
                  ((Value.int IntKind.i64 ((fndD p (iA (ksE p q) x.i)).key)) = (Value.int IntKind.i64 ((fndD p (iA (ksE p q) x3.i)).key))) ∧
                  ((Value.int IntKind.i64 ((fndD p (iA (ksE p q) x.i)).old)) = (Value.int IntKind.i64 ((fndD p (iA (ksE p q) x3.i)).old))) ∧
                  ((Value.int IntKind.i64 ((fndD p (iA (ksE p q) x.i)).new)) = (Value.int IntKind.i64 ((fndD p (iA (ksE p q) x3.i)).new))) ∧
                  True) ∧
                  (((Value.int IntKind.i64 ((fndD q (iA (ksE p q) x.i)).kind)) = (Value.int IntKind.i64 ((fndD q (iA (ksE p q) x3.i)).kind))) ∧
                  ((Value.int IntKind.i64 ((fndD q (iA (ksE p q) x.i)).key)) = (Value.int IntKind.i64 ((fndD q (iA (ksE p q) x3.i)).key))) ∧
                  ((Value.int IntKind.i64 ((fndD q (iA (ksE p q) x.i)).old)) = (Value.int IntKind.i64 ((fndD q (iA (ksE p q) x3.i)).old))) ∧
                  ((Value.int IntKind.i64 ((fndD q (iA (ksE p q) x.i)).new)) = (Value.int IntKind.i64 ((fndD q (iA (ksE p q) x3.i)).new))) ∧
                  True) ∧
                  True)))))) ∧
            (∀ x1 : XC9b p q,
              ((((↑x.i : Int)) = ((↑x1.i : Int))) →
              (brS (x1.b)
                ((K (SV.tup [(TV.at (At.slc 2)), (TV.at (At.val (Value.int IntKind.i64 9)))]) [(Chunk.row false (EC.chg) (p)), (Chunk.row false (EC.chg) (q)), (Chunk.row true (EC.chg) [])] []))
                ((((0 ≤ (↑x.i : Int)) ∧
                ((↑x.i : Int) < (↑(ksE p q).length : Int)) ∧
                (∀ x2 : Option Int,
                  (((x2) = ({ kind := (fndD p (iA (ksE p q) x1.i)).kind, key := (fndD p (iA (ksE p q) x1.i)).key, old := (fndD p (iA (ksE p q) x1.i)).old, new := (fndD p (iA (ksE p q) x1.i)).new : Chg }.before)) →
                  ((∀ x3 : Option Int,
                    (((x3) = ({ kind := (fndD q (iA (ksE p q) x1.i)).kind, key := (fndD q (iA (ksE p q) x1.i)).key, old := (fndD q (iA (ksE p q) x1.i)).old, new := (fndD q (iA (ksE p q) x1.i)).new : Chg }.after)) →
                    ((∀ d : Chg,
                      (∀ ok : Bool,
                        ((ChgR (iA (ksE p q) x.i) x2.isSome (x2.getD 0) x3.isSome (x3.getD 0) d ok) →
                        (∃ x4 : XC9c p q,
                          ((((↑x.i : Int)) = ((↑x4.i : Int))) ∧
                          (True ∧
                          True ∧
                          True ∧
                          True ∧
                          ((Value.int IntKind.i64 ((↑x.i : Int))) = (Value.int IntKind.i64 ((↑x.i : Int)))) ∧
                          True ∧
                          ((Value.bool (ok)) = (Value.bool (x4.ok))) ∧
                          True) ∧
                          ((p) = (p)) ∧
                          ((q) = (q)) ∧
                          ((x1.out) = (x4.out)) ∧
                          ((ksE p q) = (ksE p q)) ∧
                          (((Value.int IntKind.i64 (d.kind)) = (Value.int IntKind.i64 (x4.d.kind))) ∧
                          ((Value.int IntKind.i64 (d.key)) = (Value.int IntKind.i64 (x4.d.key))) ∧
                          ((Value.int IntKind.i64 (d.old)) = (Value.int IntKind.i64 (x4.d.old))) ∧
                          ((Value.int IntKind.i64 (d.new)) = (Value.int IntKind.i64 (x4.d.new))) ∧
                          True) ∧
                          True))))) ∧
                    (∀ d : Chg,
                      (∀ ok : Bool,
                        ((ChgR (iA (ksE p q) x.i) x2.isSome (x2.getD 0) x3.isSome (x3.getD 0) d ok) →
                        (∃ x4 : XC9c p q,
                          ((((↑x.i : Int)) = ((↑x4.i : Int))) ∧
                          (True ∧
                          True ∧
                          True ∧
                          True ∧
                          ((Value.int IntKind.i64 ((↑x.i : Int))) = (Value.int IntKind.i64 ((↑x.i : Int)))) ∧
                          True ∧
                          ((Value.bool (ok)) = (Value.bool (x4.ok))) ∧
                          True) ∧
                          ((p) = (p)) ∧
                          ((q) = (q)) ∧
                          ((x1.out) = (x4.out)) ∧
                          ((ksE p q) = (ksE p q)) ∧
                          (((Value.int IntKind.i64 (d.kind)) = (Value.int IntKind.i64 (x4.d.kind))) ∧
                          ((Value.int IntKind.i64 (d.key)) = (Value.int IntKind.i64 (x4.d.key))) ∧
                          ((Value.int IntKind.i64 (d.old)) = (Value.int IntKind.i64 (x4.d.old))) ∧
                          ((Value.int IntKind.i64 (d.new)) = (Value.int IntKind.i64 (x4.d.new))) ∧
                          True) ∧
                          True)))))))) ∧
                  (∀ x3 : Option Int,
                    (((x3) = ({ kind := (fndD q (iA (ksE p q) x1.i)).kind, key := (fndD q (iA (ksE p q) x1.i)).key, old := (fndD q (iA (ksE p q) x1.i)).old, new := (fndD q (iA (ksE p q) x1.i)).new : Chg }.after)) →
                    (∀ d : Chg,
                      (∀ ok : Bool,
                        ((ChgR (iA (ksE p q) x.i) x2.isSome (x2.getD 0) x3.isSome (x3.getD 0) d ok) →
                        (∃ x4 : XC9c p q,
                          ((((↑x.i : Int)) = ((↑x4.i : Int))) ∧
                          (True ∧
                          True ∧
                          True ∧
                          True ∧
                          ((Value.int IntKind.i64 ((↑x.i : Int))) = (Value.int IntKind.i64 ((↑x.i : Int)))) ∧
                          True ∧
                          ((Value.bool (ok)) = (Value.bool (x4.ok))) ∧
                          True) ∧
                          ((p) = (p)) ∧
                          ((q) = (q)) ∧
                          ((x1.out) = (x4.out)) ∧
                          ((ksE p q) = (ksE p q)) ∧
                          (((Value.int IntKind.i64 (d.kind)) = (Value.int IntKind.i64 (x4.d.kind))) ∧
                          ((Value.int IntKind.i64 (d.key)) = (Value.int IntKind.i64 (x4.d.key))) ∧
                          ((Value.int IntKind.i64 (d.old)) = (Value.int IntKind.i64 (x4.d.old))) ∧
                          ((Value.int IntKind.i64 (d.new)) = (Value.int IntKind.i64 (x4.d.new))) ∧
                          True) ∧
                          True)))))))))) ∧
                (∀ x2 : Option Int,
                  (((x2) = ({ kind := (fndD p (iA (ksE p q) x1.i)).kind, key := (fndD p (iA (ksE p q) x1.i)).key, old := (fndD p (iA (ksE p q) x1.i)).old, new := (fndD p (iA (ksE p q) x1.i)).new : Chg }.before)) →
                  (∀ x3 : Option Int,
                    (((x3) = ({ kind := (fndD q (iA (ksE p q) x1.i)).kind, key := (fndD q (iA (ksE p q) x1.i)).key, old := (fndD q (iA (ksE p q) x1.i)).old, new := (fndD q (iA (ksE p q) x1.i)).new : Chg }.after)) →
                    (∀ d : Chg,
                      (∀ ok : Bool,
                        ((ChgR (iA (ksE p q) x.i) x2.isSome (x2.getD 0) x3.isSome (x3.getD 0) d ok) →
                        (∃ x4 : XC9c p q,
                          ((((↑x.i : Int)) = ((↑x4.i : Int))) ∧
                          (True ∧
                          True ∧
                          True ∧
                          True ∧
                          ((Value.int IntKind.i64 ((↑x.i : Int))) = (Value.int IntKind.i64 ((↑x.i : Int)))) ∧
                          True ∧
                          ((Value.bool (ok)) = (Value.bool (x4.ok))) ∧
                          True) ∧
                          ((p) = (p)) ∧
                          ((q) = (q)) ∧
                          ((x1.out) = (x4.out)) ∧
                          ((ksE p q) = (ksE p q)) ∧
                          (((Value.int IntKind.i64 (d.kind)) = (Value.int IntKind.i64 (x4.d.kind))) ∧
                          ((Value.int IntKind.i64 (d.key)) = (Value.int IntKind.i64 (x4.d.key))) ∧
                          ((Value.int IntKind.i64 (d.old)) = (Value.int IntKind.i64 (x4.d.old))) ∧
                          ((Value.int IntKind.i64 (d.new)) = (Value.int IntKind.i64 (x4.d.new))) ∧
                          True) ∧
                          True)))))))))) ∧
                (∀ x2 : XC9c p q,
                  ((((↑x.i : Int)) = ((↑x2.i : Int))) →
                  (brS (x2.ok)
                    ((((x2.out.length + [{ kind := x2.d.kind, key := x2.d.key, old := x2.d.old, new := x2.d.new : Chg }].length) * bytesOf C0 EC.chg ≤ 140737488355328) ∧
                    (∃ x' : XC9 p q,
                      (True ∧
                      ((True ∧
                      True ∧
                      True ∧
                      True ∧
                      ((Value.int IntKind.i64 (IntKind.i64.wrap ((↑x.i : Int) + 1))) = (Value.int IntKind.i64 ((↑x'.i : Int)))) ∧
                      True) ∧
                      ((p) = (p)) ∧
                      ((q) = (q)) ∧
                      ((x2.out ++ [{ kind := x2.d.kind, key := x2.d.key, old := x2.d.old, new := x2.d.new : Chg }]) = (x'.out)) ∧
                      ((ksE p q) = (ksE p q)) ∧
                      True) ∧
                      ((ksE p q).length - x'.i < (ksE p q).length - x.i)))))
                    ((∃ x' : XC9 p q,
                      (True ∧
                      ((True ∧
                      True ∧
                      True ∧
                      True ∧
                      ((Value.int IntKind.i64 (IntKind.i64.wrap ((↑x.i : Int) + 1))) = (Value.int IntKind.i64 ((↑x'.i : Int)))) ∧
                      True) ∧
                      ((p) = (p)) ∧
                      ((q) = (q)) ∧
                      ((x2.out) = (x'.out)) ∧
                      ((ksE p q) = (ksE p q)) ∧
                      True) ∧
                      ((ksE p q).length - x'.i < (ksE p q).length - x.i)))))))))))))))))))
        ((K (SV.tup [(TV.at (At.slc 2)), (TV.at (At.val (Value.int IntKind.i64 0)))]) [(Chunk.row false (EC.chg) (p)), (Chunk.row false (EC.chg) (q)), (Chunk.row true (EC.chg) (x.out))] [])))))))))) = _ by kernel_rfl) ?_
  simp only [bytes_chg]
  have hlen := ksE_len p q
  refine brS_of (fun c1 => h [] 1 (by simp at c1; simp [compR, c1])) fun c1 => brS_of (fun c2 => h [] 1 (by simp at c2; simp [compR, c2])) fun c2 => ?_
  have v1 : valB p = true := by simpa using c1
  have v2 : valB q = true := by simpa using c2
  have good : ∀ z, comp p q = some z → K (.tup [.at (.slc 2), .at (vI 0)]) [.row false EC.chg p, .row false EC.chg q, .row true EC.chg z] [] := fun z hz => h z 0 (by simp [compR, v1, v2, hz])
  have bad : comp p q = none → K (.tup [.at (.slc 2), .at (vI 9)]) [.row false EC.chg p, .row false EC.chg q, .row true EC.chg []] [] := fun hz => h [] 9 (by simp [compR, v1, v2, hz])
  refine ⟨hsm, ⟨⟨0, [], Nat.zero_le _, Nat.le_refl _, ?_⟩, trivial, ⟨trivial, trivial, trivial, trivial, rfl, trivial⟩, trivial, trivial, rfl, rfl, trivial⟩, fun x _ => brS_of (fun hi => ?_) fun hi => ?_⟩
  · unfold comp
    rw [pC_ks (valB_iff.1 v1) (valB_iff.1 v2)]
    simp
  · have hi : x.i < (ksE p q).length := by simpa using hi
    obtain ⟨s1, s2⟩ := c9_step x hi
    have hxo := x.h.2.1
    have hkm : iA (ksE p q) x.i ∈ ksE p q := List.mem_of_getElem? (iA_get hi)
    have hkm := (ksE_mem p q _).1 hkm
    refine ⟨by omega, by omega, by omega, by omega, brS_of (fun e1 => ?_) fun e1 => brS_of (fun e2 => ?_) fun e2 => ?_⟩
    · have e1 : fndS q (iA (ksE p q) x.i) = false := by simpa using e1
      have n1 := fndS_none e1
      have e2 : fndS p (iA (ksE p q) x.i) = true := by
        rcases hkm with hk | hk
        · exact hk
        · rw [n1] at hk; cases hk
      have n2 := (fndD_some e2).1
      have hz : zk p q (iA (ksE p q) x.i) = (some (fndD p (iA (ksE p q) x.i)), none) := by unfold zk; rw [n1, n2]
      rw [hz] at s1 s2
      rw [wrap_next hi (by omega)]
      refine ⟨?_, ⟨x.i + 1, _, s2 rfl _ rfl⟩, ?_⟩
      · simp; omega
      · refine ⟨trivial, ⟨⟨trivial, trivial, trivial, trivial, rfl, trivial⟩, trivial, trivial, rfl, trivial, trivial⟩, ?_⟩
        show (ksE p q).length - (x.i + 1) < _; omega
    · have e2 : fndS p (iA (ksE p q) x.i) = false := by simpa using e2
      have n2 := fndS_none e2
      have e1 : fndS q (iA (ksE p q) x.i) = true := by simpa using e1
      have n1 := (fndD_some e1).1
      have hz : zk p q (iA (ksE p q) x.i) = (none, some (fndD q (iA (ksE p q) x.i))) := by unfold zk; rw [n1, n2]
      rw [hz] at s1 s2
      rw [wrap_next hi (by omega)]
      refine ⟨?_, ⟨x.i + 1, _, s2 rfl _ rfl⟩, ?_⟩
      · simp; omega
      · refine ⟨trivial, ⟨⟨trivial, trivial, trivial, trivial, rfl, trivial⟩, trivial, trivial, rfl, trivial, trivial⟩, ?_⟩
        show (ksE p q).length - (x.i + 1) < _; omega
    · have e1 : fndS q (iA (ksE p q) x.i) = true := by simpa using e1
      have e2 : fndS p (iA (ksE p q) x.i) = true := by simpa using e2
      obtain ⟨n1, k1⟩ := fndD_some e1
      obtain ⟨n2, k2⟩ := fndD_some e2
      have hz : zk p q (iA (ksE p q) x.i) = (some (fndD p (iA (ksE p q) x.i)), some (fndD q (iA (ksE p q) x.i))) := by unfold zk; rw [n1, n2]
      rw [hz] at s1 s2
      refine ⟨fun a ha b hb => ⟨⟨x, _, rfl⟩, rfl, ?_⟩, fun x1 r1 => brS_of (fun eb => ?_) fun eb => ⟨⟨by omega, by omega, ?_⟩, fun x2 r2 => ?_⟩⟩
      · subst ha hb; rw [opt_eqB]; simp
      all_goals (have r1 : x1.i = x.i := by omega)
      all_goals (have hbb := x1.hb; rw [eb, r1] at hbb)
      · refine bad (s1 ?_)
        simpa [meet1] using hbb
      · repeat' (first | refine And.intro ?_ ?_ | intro _)
        all_goals (rename_i hR; subst_vars; rw [r1] at hR; exact ⟨⟨⟨x.i, x1.out, by rw [← r1]; exact x1.h⟩, _, _, chgR_some (x := (fndD p (iA (ksE p q) x.i)).before) (y := (fndD q (iA (ksE p q) x.i)).after) hR⟩, by simp⟩)
      · have r2 : x2.i = x.i := by omega
        have hd := x2.hd
        rw [r2] at hd
        have s2' := (c9_step x2.toXC9 (by rw [r2]; exact hi)).2
        rw [r2, hz] at s2'
        have hm : meet1 (some (fndD p (iA (ksE p q) x.i)), some (fndD q (iA (ksE p q) x.i))) = true := by simpa [meet1] using hbb
        have s2' := s2' hm
        simp only [comp1, k2] at s2'
        rw [chg_list hd] at s2'
        have := x2.h.2.1
        rw [wrap_next hi (by omega)]
        refine brS_of (fun b1 => ⟨?_, ⟨x.i + 1, x2.out ++ [x2.d], s2' _ (by rw [b1]; rfl)⟩, trivial, ⟨⟨trivial, trivial, trivial, trivial, rfl, trivial⟩, trivial, trivial, rfl, trivial, trivial⟩, ?_⟩) fun b1 => ⟨⟨x.i + 1, x2.out, s2' _ (by rw [b1]; simp)⟩, trivial, ⟨⟨trivial, trivial, trivial, trivial, rfl, trivial⟩, trivial, trivial, rfl, trivial, trivial⟩, ?_⟩
        · simp; omega
        · show (ksE p q).length - (x.i + 1) < _; omega
        · show (ksE p q).length - (x.i + 1) < _; omega
  · have hi : x.i = (ksE p q).length := by have := x.h.1; simp at hi; omega
    refine good x.out ?_
    rw [x.h.2.2, hi, List.drop_length]
    simp [compGo]
theorem s_comp19 : SoundT C0 43 tComp := by
  refine .of Try.func43 (by decide) rfl fun args H K h hB => ?_
  unfold tComp at h
  split at h <;> try exact h.elim
  rename_i p q
  exact ⟨aComp19 p q, ⟨frame C0.ok s_valid19 _, frame C0.ok s_keys19 _, frame C0.ok s_fndD _, frame C0.ok s_before19 _, frame C0.ok s_after19 _, frame C0.ok s_change19 _, trivial⟩, vc_comp19 p q K h.1 h.2⟩
end Go.Proofs.Ytdgodcamadalhaa.Sx
