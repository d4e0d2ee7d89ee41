/- The reference's Invert and keys. -/
import Derived.Test.YtdgodcamadalhaaSxRn
namespace Go.Proofs.Ytdgodcamadalhaa.Sx
open Go

noncomputable def aInv19 (p : List Chg) : Ann C0 := { quiet := [70, 71, 72], Γ := [(41, frameT [] tValid), (70, frameT [] (tBefore optA)), (71, frameT [] (tAfter optA)), (72, frameT [] tChange19)], inv := fun k => match k with
  | 5 => some { X := XNp p, sl := [5, 4], tf := fun x => [vi .i64 x.i, .one (.at (.slc 1))], hf := fun x => [.row false EC.chg p, .row true EC.chg ((p.take x.i).map inv1)], μ := fun x => p.length - x.i }
  | 1008 => some { X := XND p, sl := [6], tf := fun _ => [.one (.at (.ptr 2 0))], hf := fun x => [.row false EC.chg p, .row true EC.chg ((p.take x.i).map inv1), .box [vI x.d.kind, vI x.d.key, vI x.d.old, vI x.d.new]], rel := fun T _ x => slotI T 5 x.i }
  | _ => none }
theorem vc_inv19 (p : List Chg) (K : KT) (hsm : p.length ≤ 1000000) (h : ∀ (r : List Chg) (e : Int), (r, e) = invR p → K (.tup [.at (.slc 1), .at (vI e)]) [.row false EC.chg p, .row true EC.chg r] []) :
    vc C0 (aInv19 p) Try.f42 [.at (.slc 0)] [.row false EC.chg p] (normK 1 K) := by
  refine Eq.mp (show (brS (!valB p)
  ((K (SV.tup [(TV.at (At.slc 1)), (TV.at (At.val (Value.int IntKind.i64 1)))]) [(Chunk.row false (EC.chg) (p)), (Chunk.row true (EC.chg) [])] []))
  (((∃ x : XNp p,
    (True ∧
    (True ∧
    True ∧
    ((Value.int IntKind.i64 0) = (Value.int IntKind.i64 ((↑x.i : Int)))) ∧
    True) ∧
    ((p) = (p)) ∧
    ([] = (List.map inv1 (List.take x.i p))) ∧
    True)) ∧
  (∀ x : XNp p,
    (True →
    (brS (decide ((↑x.i : Int) < (↑p.length : Int)))
      ((((0 ≤ (↑x.i : Int)) ∧
      ((↑x.i : Int) < (↑p.length : Int)) ∧
      (0 ≤ (↑x.i : Int)) ∧
      ((↑x.i : Int) < (↑p.length : Int)) ∧
      (0 ≤ (↑x.i : Int)) ∧
      ((↑x.i : Int) < (↑p.length : Int)) ∧
      (∀ x1 : Option Int,
        (((x1) = ({ kind := (cA p x.i).kind, key := (cA p x.i).key, old := (cA p x.i).old, new := (cA p x.i).new : Chg }.after)) →
        ((∀ x2 : Option Int,
          (((x2) = ({ kind := (cA p x.i).kind, key := (cA p x.i).key, old := (cA p x.i).old, new := (cA p x.i).new : Chg }.before)) →
          ((∀ d : Chg,
            (∀ ok : Bool,
              ((ChgR (cA p x.i).key x1.isSome (x1.getD 0) x2.isSome (x2.getD 0) d ok) →
              (∃ x3 : XND p,
                ((((↑x.i : Int)) = ((↑x3.i : Int))) ∧
                (True ∧
                True ∧
                ((Value.int IntKind.i64 ((↑x.i : Int))) = (Value.int IntKind.i64 ((↑x.i : Int)))) ∧
                True ∧
                True) ∧
                ((p) = (p)) ∧
                ((List.map inv1 (List.take x.i p)) = (List.map inv1 (List.take x3.i p))) ∧
                (((Value.int IntKind.i64 (d.kind)) = (Value.int IntKind.i64 (x3.d.kind))) ∧
                ((Value.int IntKind.i64 (d.key)) = (Value.int IntKind.i64 (x3.d.key))) ∧
                ((Value.int IntKind.i64 (d.old)) = (Value.int IntKind.i64 (x3.d.old))) ∧
                ((Value.int IntKind.i64 (d.new)) = (Value.int IntKind.i64 (x3.d.new))) ∧
                True) ∧
                True))))) ∧
          (∀ d : Chg,
            (∀ ok : Bool,
              ((ChgR (cA p x.i).key x1.isSome (x1.getD 0) x2.isSome (x2.getD 0) d ok) →
              (∃ x3 : XND p,
                ((((↑x.i : Int)) = ((↑x3.i : Int))) ∧
                (True ∧
                True ∧
                ((Value.int IntKind.i64 ((↑x.i : Int))) = (Value.int IntKind.i64 ((↑x.i : Int)))) ∧
                True ∧
                True) ∧
                ((p) = (p)) ∧
                ((List.map inv1 (List.take x.i p)) = (List.map inv1 (List.take x3.i p))) ∧
                (((Value.int IntKind.i64 (d.kind)) = (Value.int IntKind.i64 (x3.d.kind))) ∧
                ((Value.int IntKind.i64 (d.key)) = (Value.int IntKind.i64 (x3.d.key))) ∧
                ((Value.int IntKind.i64 (d.old)) = (Value.int IntKind.i64 (x3.d.old))) ∧
                ((Value.int IntKind.i64 (d.new)) = (Value.int IntKind.i64 (x3.d.new))) ∧
                True) ∧
                True)))))))) ∧
        (∀ x2 : Option Int,
          (((x2) = ({ kind := (cA p x.i).kind, key := (cA p x.i).key, old := (cA p x.i).old, new := (cA p x.i).new : Chg }.before)) →
          (∀ d : Chg,
            (∀ ok : Bool,
              ((ChgR (cA p x.i).key x1.isSome (x1.getD 0) x2.isSome (x2.getD 0) d ok) →
              (∃ x3 : XND p,
                ((((↑x.i : Int)) = ((↑x3.i : Int))) ∧
                (True ∧
                True ∧
                ((Value.int IntKind.i64 ((↑x.i : Int))) = (Value.int IntKind.i64 ((↑x.i : Int)))) ∧
                True ∧
                True) ∧
                ((p) = (p)) ∧
                ((List.map inv1 (List.take x.i p)) = (List.map inv1 (List.take x3.i p))) ∧
                (((Value.int IntKind.i64 (d.kind)) = (Value.int IntKind.i64 (x3.d.kind))) ∧
                ((Value.int IntKind.i64 (d.key)) = (Value.int IntKind.i64 (x3.d.key))) ∧
                ((Value.int IntKind.i64 (d.old)) = (Value.int IntKind.i64 (x3.d.old))) ∧
                ((Value.int IntKind.i64 (d.new)) = (Value.int IntKind.i64 (x3.d.new))) ∧
                True) ∧
                True)))))))))) ∧
      (∀ x1 : Option Int,
        (((x1) = ({ kind := (cA p x.i).kind, key := (cA p x.i).key, old := (cA p x.i).old, new := (cA p x.i).new : Chg }.after)) →
        (∀ x2 : Option Int,
          (((x2) = ({ kind := (cA p x.i).kind, key := (cA p x.i).key, old := (cA p x.i).old, new := (cA p x.i).new : Chg }.before)) →
          (∀ d : Chg,
            (∀ ok : Bool,
              ((ChgR (cA p x.i).key x1.isSome (x1.getD 0) x2.isSome (x2.getD 0) d ok) →
              (∃ x3 : XND p,
                ((((↑x.i : Int)) = ((↑x3.i : Int))) ∧
                (True ∧
                True ∧
                ((Value.int IntKind.i64 ((↑x.i : Int))) = (Value.int IntKind.i64 ((↑x.i : Int)))) ∧
                True ∧
                True) ∧
                ((p) = (p)) ∧
                ((List.map inv1 (List.take x.i p)) = (List.map inv1 (List.take x3.i p))) ∧
                (((Value.int IntKind.i64 (d.kind)) = (Value.int IntKind.i64 (x3.d.kind))) ∧
                ((Value.int IntKind.i64 (d.key)) = (Value.int IntKind.i64 (x3.d.key))) ∧
                ((Value.int IntKind.i64 (d.old)) = (Value.int IntKind.i64 (x3.d.old))) ∧
                ((Value.int IntKind.i64 (d.new)) = (Value.int IntKind.i64 (x3.d.new))) ∧
                True) ∧
                True)))))))))) ∧
      (∀ x1 : XND p,
        ((((↑x.i : Int)) = ((↑x1.i : Int))) →
        ((((List.map inv1 (List.take x1.i p)).length + [{ kind := x1.d.kind, key := x1.d.key, old := x1.d.old, new := x1.d.new : Chg }].length) * bytesOf C0 EC.chg ≤ 140737488355328) ∧
        (∃ x' : XNp p,
          (True ∧
          ((True ∧
          True ∧
          ((Value.int IntKind.i64 (IntKind.i64.wrap ((↑x.i : Int) + 1))) = (Value.int IntKind.i64 ((↑x'.i : Int)))) ∧
          True) ∧
          ((p) = (p)) ∧
          ((List.map inv1 (List.take x1.i p) ++ [{ kind := x1.d.kind, key := x1.d.key, old := x1.d.old, new := x1.d.new : Chg }]) = (List.map inv1 (List.take x'.i p))) ∧
          True) ∧
          (p.length - x'.i < p.length - x.i))))))))
      ((K (SV.tup [(TV.at (At.slc 1)), (TV.at (At.val (Value.int IntKind.i64 0)))]) [(Chunk.row false (EC.chg) (p)), (Chunk.row true (EC.chg) (List.map inv1 (List.take x.i p)))] [])))))))) = _ by kernel_rfl) ?_
  simp only [bytes_chg]
  refine brS_of (fun c1 => h [] 1 (by simp at c1; simp [invR, c1])) fun c1 => ⟨⟨⟨0, Nat.zero_le _⟩, by simp⟩, fun x _ => brS_of (fun hi => ⟨⟨by omega, by simpa using hi, by omega, by simpa using hi, by omega, by simpa using hi, ?_⟩, fun x1 r1 => ?_⟩) fun hi => ?_⟩
  · repeat' (first | refine And.intro ?_ ?_ | intro _)
    all_goals (rename_i hR; subst_vars; exact ⟨⟨x.i, _, chgR_inv (c := cA p x.i) hR⟩, by simp⟩)
  · have hi : x.i < p.length := by simpa using hi
    have r1 : x1.i = x.i := by omega
    have hs := take_snoc (cA_get hi)
    have hd := x1.h
    rw [r1] at hd
    rw [wrap_next hi (by omega), r1]
    refine ⟨?_, ⟨x.i + 1, by omega⟩, ?_⟩
    · simp; omega
    · have e : List.map inv1 (List.take x.i p) ++ [x1.d] = List.map inv1 (List.take (x.i + 1) p) := by rw [hs, hd]; simp
      refine ⟨trivial, ⟨⟨trivial, trivial, rfl, trivial⟩, trivial, e, trivial⟩, ?_⟩
      show p.length - (x.i + 1) < _
      omega
  · have hi : x.i = p.length := by have := x.h; simp at hi; omega
    have h2 : ∀ z : List Chg, z = inv p → K (.tup [.at (.slc 1), .at (vI 0)]) [.row false EC.chg p, .row true EC.chg z] [] := fun z hz => h z 0 (by simp at c1; simp [invR, c1, hz])
    exact h2 _ (by rw [hi]; exact congrArg (List.map inv1) (List.take_length (l := p)))
theorem s_inv19 : SoundT C0 42 tInv := by
  refine .of Try.func42 (by decide) rfl fun args H K h hB => ?_
  unfold tInv at h
  split at h <;> try exact h.elim
  rename_i p
  exact ⟨aInv19 p, ⟨frame C0.ok s_valid19 _, frame C0.ok s_before19 _, frame C0.ok s_after19 _, frame C0.ok s_change19 _, trivial⟩, vc_inv19 p K h.1 h.2⟩
def kE (p : List Chg) : List Ent := p.map fun c => (c.key, 0)
noncomputable def aKeys19 (p q : List Chg) : Ann C0 := { Γ := [(68, frameT [] tKeys)], inv := fun k => match k with
  | 3 => some { X := XNp p, sl := [7, 5, 6], tf := fun x => [vi .i64 x.i, .one (.at (.slc 2)), .one (.at (.slc 3))], hf := fun x => [.row false EC.chg p, .row false EC.chg q, .row true EC.ent (kE (p.take x.i)), .row true EC.ent []], μ := fun x => p.length - x.i }
  | 7 => some { X := XNp q, sl := [8, 5, 6], tf := fun x => [vi .i64 x.i, .one (.at (.slc 2)), .one (.at (.slc 3))], hf := fun x => [.row false EC.chg p, .row false EC.chg q, .row true EC.ent (kE p), .row true EC.ent (kE (q.take x.i))], μ := fun x => q.length - x.i }
  | _ => none }
def tKeys19 : Tfm C0 := fun args H K => match args, H with
  | [.at (.slc 0), .at (.slc 1)], [.row false .chg p, .row false .chg q] => p.length + q.length ≤ 1000000 ∧ K (.one (.at (.slc 2))) [.row false EC.chg p, .row false EC.chg q, .row true EC.i64 (keys3 (kE p) (kE q) [])] []
  | _, _ => False
theorem vc_keys19 (p q : List Chg) (K : KT) (hsm : p.length + q.length ≤ 1000000) (h : K (.one (.at (.slc 2))) [.row false EC.chg p, .row false EC.chg q, .row true EC.i64 (keys3 (kE p) (kE q) [])] []) :
    vc C0 (aKeys19 p q) Try.f73 [.at (.slc 0), .at (.slc 1)] [.row false EC.chg p, .row false EC.chg q] (normK 2 K) := by
  refine Eq.mp (show ((∃ x : XNp p,
  (True ∧
  (True ∧
  True ∧
  True ∧
  True ∧
  ((Value.int IntKind.i64 0) = (Value.int IntKind.i64 ((↑x.i : Int)))) ∧
  True) ∧
  ((p) = (p)) ∧
  ((q) = (q)) ∧
  ([] = (kE (List.take x.i p))) ∧
  (([] : List Ent) = []) ∧
  True)) ∧
(∀ x : XNp p,
  (True →
  (brS (decide ((↑x.i : Int) < (↑p.length : Int)))
    (((0 ≤ (↑x.i : Int)) ∧
    ((↑x.i : Int) < (↑p.length : Int)) ∧
    (((kE (List.take x.i p)).length + [((cA p x.i).key, 0)].length) * bytesOf C0 EC.ent ≤ 140737488355328) ∧
    (∃ x' : XNp p,
      (True ∧
      ((True ∧
      True ∧
      True ∧
      True ∧
      ((Value.int IntKind.i64 (IntKind.i64.wrap ((↑x.i : Int) + 1))) = (Value.int IntKind.i64 ((↑x'.i : Int)))) ∧
      True) ∧
      ((p) = (p)) ∧
      ((q) = (q)) ∧
      ((kE (List.take x.i p) ++ [((cA p x.i).key, 0)]) = (kE (List.take x'.i p))) ∧
      (([] : List Ent) = []) ∧
      True) ∧
      (p.length - x'.i < p.length - x.i)))))
    (((∃ x1 : XNp q,
      (True ∧
      (True ∧
      True ∧
      True ∧
      ((Value.int IntKind.i64 0) = (Value.int IntKind.i64 ((↑x1.i : Int)))) ∧
      True) ∧
      ((p) = (p)) ∧
      ((q) = (q)) ∧
      ((kE (List.take x.i p)) = (kE p)) ∧
      ([] = (kE (List.take x1.i q))) ∧
      True)) ∧
    (∀ x1 : XNp q,
      (True →
      (brS (decide ((↑x1.i : Int) < (↑q.length : Int)))
        (((0 ≤ (↑x1.i : Int)) ∧
        ((↑x1.i : Int) < (↑q.length : Int)) ∧
        (((kE (List.take x1.i q)).length + [((cA q x1.i).key, 0)].length) * bytesOf C0 EC.ent ≤ 140737488355328) ∧
        (∃ x' : XNp q,
          (True ∧
          ((True ∧
          True ∧
          True ∧
          ((Value.int IntKind.i64 (IntKind.i64.wrap ((↑x1.i : Int) + 1))) = (Value.int IntKind.i64 ((↑x'.i : Int)))) ∧
          True) ∧
          ((p) = (p)) ∧
          ((q) = (q)) ∧
          ((kE p) = (kE p)) ∧
          ((kE (List.take x1.i q) ++ [((cA q x1.i).key, 0)]) = (kE (List.take x'.i q))) ∧
          True) ∧
          (q.length - x'.i < q.length - x1.i)))))
        ((((kE p).length + (kE (List.take x1.i q)).length + ([] : List Ent).length ≤ 1000000) ∧
        (K (SV.one (TV.at (At.slc 2))) [(Chunk.row false (EC.chg) (p)), (Chunk.row false (EC.chg) (q)), (Chunk.row true (EC.i64) (keys3 (kE p) (kE (List.take x1.i q)) []))] [])))))))))))) = _ by kernel_rfl) ?_
  simp only [bytes_ent]
  refine ⟨⟨⟨0, Nat.zero_le _⟩, trivial, ⟨trivial, trivial, trivial, trivial, rfl, trivial⟩, trivial, trivial, rfl, trivial, trivial⟩, fun x _ => brS_of (fun hi => ?_) fun hi => ?_⟩
  · have hi : x.i < p.length := by simpa using hi
    rw [wrap_next hi (by omega)]
    refine ⟨by omega, by omega, ?_, ⟨x.i + 1, by omega⟩, trivial, ⟨⟨trivial, trivial, trivial, trivial, rfl, trivial⟩, trivial, trivial, ?_, trivial, trivial⟩, ?_⟩
    · simp [kE]; omega
    · unfold kE; rw [take_snoc (cA_get hi)]; simp
    · show p.length - (x.i + 1) < _; omega
  · have hi : x.i = p.length := by have := x.h; simp at hi; omega
    refine ⟨⟨⟨0, Nat.zero_le _⟩, trivial, ⟨trivial, trivial, trivial, rfl, trivial⟩, trivial, trivial, ?_, rfl, trivial⟩, fun y _ => brS_of (fun hj => ?_) fun hj => ?_⟩
    · rw [hi, List.take_length]
    · have hj : y.i < q.length := by simpa using hj
      rw [wrap_next hj (by omega)]
      refine ⟨by omega, by omega, ?_, ⟨y.i + 1, by omega⟩, trivial, ⟨⟨trivial, trivial, trivial, rfl, trivial⟩, trivial, trivial, trivial, ?_, trivial⟩, ?_⟩
      · simp [kE]; omega
      · unfold kE; rw [take_snoc (cA_get hj)]; simp
      · show q.length - (y.i + 1) < _; omega
    · have hj : y.i = q.length := by have := y.h; simp at hj; omega
      rw [hj, List.take_length]
      exact ⟨by simp [kE]; omega, h⟩
theorem s_keys19 : SoundT C0 73 tKeys19 := by
  refine .of Try.func73 (by decide) rfl fun args H K h hB => ?_
  unfold tKeys19 at h
  split at h <;> try exact h.elim
  rename_i p q
  exact ⟨aKeys19 p q, ⟨frame C0.ok s_keys _, trivial⟩, vc_keys19 p q K h.1 h.2⟩
end Go.Proofs.Ytdgodcamadalhaa.Sx
