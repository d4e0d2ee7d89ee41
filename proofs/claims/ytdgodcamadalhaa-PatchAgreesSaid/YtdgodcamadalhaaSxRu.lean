/- The reference's Rebase. -/
import Derived.Test.YtdgodcamadalhaaSxRt
namespace Go.Proofs.Ytdgodcamadalhaa.Sx
open Go

structure XR9 (p q : List Chg) where
  i : Nat
  out : List Chg
  cf : List Int
  h : i ≤ p.length ∧ out.length ≤ i ∧ cf.length ≤ i ∧ reb p q = (rebP ((p.drop i).map fun c => (c, fnd Chg.key q c.key))).map (fun r => (out ++ r.1, cf ++ r.2))
structure XR9b (p q : List Chg) extends XR9 p q where
  b : Bool
  hb : b = !decide ((cA p i).before = (fndD q (cA p i).key).before)
structure XR9c (p q : List Chg) extends XR9 p q where
  b : Bool
  hb : b = !decide ((cA p i).after = (fndD q (cA p i).key).after)
noncomputable def aReb19 (p q : List Chg) : Ann C0 := { quiet := [70, 71], Γ := [(41, frameT [] tValid), (74, frameT [] tFndD), (70, frameT [] (tBefore optA)), (71, frameT [] (tAfter optA))], inv := fun k => match k with
  | 6 => some { X := XR9 p q, sl := [9, 7, 8], tf := fun x => [vi .i64 x.i, .one (.at (.slc 2)), .one (.at (.slc 3))], hf := fun x => [.row false EC.chg p, .row false EC.chg q, .row true EC.chg x.out, .row true EC.i64 x.cf], μ := fun x => p.length - x.i }
  | 1013 => some { X := XR9b p q, sl := [45], tf := fun x => [vb x.b], hf := fun x => [.row false EC.chg p, .row false EC.chg q, .row true EC.chg x.out, .row true EC.i64 x.cf, bxD (cA p x.i), bxD (fndD q (cA p x.i).key)], rel := fun T _ x => slotI T 9 x.i }
  | 1015 => some { X := XR9c p q, sl := [51], tf := fun x => [vb x.b], hf := fun x => [.row false EC.chg p, .row false EC.chg q, .row true EC.chg x.out, .row true EC.i64 x.cf, bxD (cA p x.i), bxD (fndD q (cA p x.i).key)], rel := fun T _ x => slotI T 9 x.i }
  | _ => none }
theorem keep1_len (z : Option Chg × Option Chg) : (keep1 z).length ≤ 1 := by
  obtain ⟨a, b⟩ := z
  cases a <;> cases b <;> simp [keep1]
theorem conf1_len (z : Option Chg × Option Chg) : (conf1 z).length ≤ 1 := by
  obtain ⟨a, b⟩ := z
  cases a <;> cases b <;> simp [conf1]
  split <;> simp
theorem r9_step {p q : List Chg} (x : XR9 p q) (hi : x.i < p.length) {d : Option Chg} (hd : fnd Chg.key q (cA p x.i).key = d) :
    (base1 (some (cA p x.i), d) = false → reb p q = none) ∧
    (base1 (some (cA p x.i), d) = true → ∀ out' cf', out' = x.out ++ keep1 (some (cA p x.i), d) → cf' = x.cf ++ conf1 (some (cA p x.i), d) → x.i + 1 ≤ p.length ∧ out'.length ≤ x.i + 1 ∧ cf'.length ≤ x.i + 1 ∧ reb p q = (rebP ((p.drop (x.i + 1)).map fun c => (c, fnd Chg.key q c.key))).map (fun r => (out' ++ r.1, cf' ++ r.2))) := by
  obtain ⟨h1, h2, h3, h4⟩ := x.h
  rw [drop_cons (cA_get hi), List.map_cons, hd] at h4
  simp only [rebP] at h4
  refine ⟨fun h => ?_, fun h out' cf' ho hc => ⟨hi, ?_, ?_, ?_⟩⟩
  · rw [h4, h]; rfl
  · have := keep1_len (some (cA p x.i), d); rw [ho, List.length_append]; omega
  · have := conf1_len (some (cA p x.i), d); rw [hc, List.length_append]; omega
  · rw [h4, h, ho, hc]
    simp only [if_true, Option.map_map]
    congr 1
    funext r
    simp
theorem vc_reb19 (p q : List Chg) (K : KT) (hsm : p.length + q.length ≤ 1000000) (h : ∀ (r : List Chg) (c : List Int) (e : Int), (r, c, e) = rebR p q → K (.tup [.at (.slc 2), .at (.slc 3), .at (vI e)]) [.row false EC.chg p, .row false EC.chg q, .row true EC.chg r, .row true EC.i64 c] []) :
    vc C0 (aReb19 p q) Try.f44 [.at (.slc 0), .at (.slc 1)] [.row false EC.chg p, .row false EC.chg q] (normK 2 K) := by
  refine Eq.mp (show (brS (!valB p)
  ((K (SV.tup [(TV.at (At.slc 2)), (TV.at (At.slc 3)), (TV.at (At.val (Value.int IntKind.i64 1)))]) [(Chunk.row false (EC.chg) (p)), (Chunk.row false (EC.chg) (q)), (Chunk.row true (EC.chg) []), (Chunk.row true (EC.i64) [])] []))
  ((brS (!valB q)
    ((K (SV.tup [(TV.at (At.slc 2)), (TV.at (At.slc 3)), (TV.at (At.val (Value.int IntKind.i64 1)))]) [(Chunk.row false (EC.chg) (p)), (Chunk.row false (EC.chg) (q)), (Chunk.row true (EC.chg) []), (Chunk.row true (EC.i64) [])] []))
    (((∃ x : XR9 p q,
      (True ∧
      (True ∧
      True ∧
      True ∧
      True ∧
      ((Value.int IntKind.i64 0) = (Value.int IntKind.i64 ((↑x.i : Int)))) ∧
      True) ∧
      ((p) = (p)) ∧
      ((q) = (q)) ∧
      ([] = (x.out)) ∧
      ([] = (x.cf)) ∧
      True)) ∧
    (∀ x : XR9 p q,
      (True →
      (brS (decide ((↑x.i : Int) < (↑p.length : Int)))
        (((0 ≤ (↑x.i : Int)) ∧
        ((↑x.i : Int) < (↑p.length : Int)) ∧
        (brS (!fndS q (cA p x.i).key)
          ((((x.out.length + [{ kind := (cA p x.i).kind, key := (cA p x.i).key, old := (cA p x.i).old, new := (cA p x.i).new : Chg }].length) * bytesOf C0 EC.chg ≤ 140737488355328) ∧
          (∃ x' : XR9 p q,
            (True ∧
            ((True ∧
            True ∧
            True ∧
            True ∧
            ((Value.int IntKind.i64 (IntKind.i64.wrap ((↑x.i : Int) + 1))) = (Value.int IntKind.i64 ((↑x'.i : Int)))) ∧
            True) ∧
            ((p) = (p)) ∧
            ((q) = (q)) ∧
            ((x.out ++ [{ kind := (cA p x.i).kind, key := (cA p x.i).key, old := (cA p x.i).old, new := (cA p x.i).new : Chg }]) = (x'.out)) ∧
            ((x.cf) = (x'.cf)) ∧
            True) ∧
            (p.length - x'.i < p.length - x.i)))))
          (((∀ x1 : Option Int,
            (((x1) = ({ kind := (cA p x.i).kind, key := (cA p x.i).key, old := (cA p x.i).old, new := (cA p x.i).new : Chg }.before)) →
            (∀ x2 : Option Int,
              (((x2) = ({ kind := (fndD q (cA p x.i).key).kind, key := (fndD q (cA p x.i).key).key, old := (fndD q (cA p x.i).key).old, new := (fndD q (cA p x.i).key).new : Chg }.before)) →
              (∃ x3 : XR9b p q,
                ((((↑x.i : Int)) = ((↑x3.i : Int))) ∧
                (True ∧
                True ∧
                True ∧
                True ∧
                ((Value.int IntKind.i64 ((↑x.i : Int))) = (Value.int IntKind.i64 ((↑x.i : Int)))) ∧
                True ∧
                True ∧
                ((Value.bool (!(x1.getD 0 == x2.getD 0 && (x1.isSome == x2.isSome && true)))) = (Value.bool (x3.b))) ∧
                True) ∧
                ((p) = (p)) ∧
                ((q) = (q)) ∧
                ((x.out) = (x3.out)) ∧
                ((x.cf) = (x3.cf)) ∧
                (((Value.int IntKind.i64 ((cA p x.i).kind)) = (Value.int IntKind.i64 ((cA p x3.i).kind))) ∧
                ((Value.int IntKind.i64 ((cA p x.i).key)) = (Value.int IntKind.i64 ((cA p x3.i).key))) ∧
                ((Value.int IntKind.i64 ((cA p x.i).old)) = (Value.int IntKind.i64 ((cA p x3.i).old))) ∧
                ((Value.int IntKind.i64 ((cA p x.i).new)) = (Value.int IntKind.i64 ((cA p x3.i).new))) ∧
                True) ∧
                (((Value.int IntKind.i64 ((fndD q (cA p x.i).key).kind)) = (Value.int IntKind.i64 ((fndD q (cA p x3.i).key).kind))) ∧
                ((Value.int IntKind.i64 ((fndD q (cA p x.i).key).key)) = (Value.int IntKind.i64 ((fndD q (cA p x3.i).key).key))) ∧
                ((Value.int IntKind.i64 ((fndD q (cA p x.i).key).old)) = (Value.int IntKind.i64 ((fndD q (cA p x3.i).key).old))) ∧
                ((Value.int IntKind.i64 ((fndD q (cA p x.i).key).new)) = (Value.int IntKind.i64 ((fndD q (cA p x3.i).key).new))) ∧
                True) ∧
                True)))))) ∧
          (∀ x1 : XR9b p q,
            ((((↑x.i : Int)) = ((↑x1.i : Int))) →
            (brS (x1.b)
              ((K (SV.tup [(TV.at (At.slc 2)), (TV.at (At.slc 3)), (TV.at (At.val (Value.int IntKind.i64 9)))]) [(Chunk.row false (EC.chg) (p)), (Chunk.row false (EC.chg) (q)), (Chunk.row true (EC.chg) []), (Chunk.row true (EC.i64) [])] []))
              (((∀ x2 : Option Int,
                (((x2) = ({ kind := (cA p x1.i).kind, key := (cA p x1.i).key, old := (cA p x1.i).old, new := (cA p x1.i).new : Chg }.after)) →
                (∀ x3 : Option Int,
                  (((x3) = ({ kind := (fndD q (cA p x1.i).key).kind, key := (fndD q (cA p x1.i).key).key, old := (fndD q (cA p x1.i).key).old, new := (fndD q (cA p x1.i).key).new : Chg }.after)) →
                  (∃ x4 : XR9c p q,
                    ((((↑x.i : Int)) = ((↑x4.i : Int))) ∧
                    (True ∧
                    True ∧
                    True ∧
                    True ∧
                    ((Value.int IntKind.i64 ((↑x.i : Int))) = (Value.int IntKind.i64 ((↑x.i : Int)))) ∧
                    True ∧
                    ((Value.bool (!(x2.getD 0 == x3.getD 0 && (x2.isSome == x3.isSome && true)))) = (Value.bool (x4.b))) ∧
                    True) ∧
                    ((p) = (p)) ∧
                    ((q) = (q)) ∧
                    ((x1.out) = (x4.out)) ∧
                    ((x1.cf) = (x4.cf)) ∧
                    (((Value.int IntKind.i64 ((cA p x1.i).kind)) = (Value.int IntKind.i64 ((cA p x4.i).kind))) ∧
                    ((Value.int IntKind.i64 ((cA p x1.i).key)) = (Value.int IntKind.i64 ((cA p x4.i).key))) ∧
                    ((Value.int IntKind.i64 ((cA p x1.i).old)) = (Value.int IntKind.i64 ((cA p x4.i).old))) ∧
                    ((Value.int IntKind.i64 ((cA p x1.i).new)) = (Value.int IntKind.i64 ((cA p x4.i).new))) ∧
                    True) ∧
                    (((Value.int IntKind.i64 ((fndD q (cA p x1.i).key).kind)) = (Value.int IntKind.i64 ((fndD q (cA p x4.i).key).kind))) ∧
                    ((Value.int IntKind.i64 ((fndD q (cA p x1.i).key).key)) = (Value.int IntKind.i64 ((fndD q (cA p x4.i).key).key))) ∧
                    ((Value.int IntKind.i64 ((fndD q (cA p x1.i).key).old)) = (Value.int IntKind.i64 ((fndD q (cA p x4.i).key).old))) ∧
                    ((Value.int IntKind.i64 ((fndD q (cA p x1.i).key).new)) = (Value.int IntKind.i64 ((fndD q (cA p x4.i).key).new))) ∧
                    True) ∧
                    True)))))) ∧
              (∀ x2 : XR9c p q,
                ((((↑x.i : Int)) = ((↑x2.i : Int))) →
                (brS (x2.b)
                  ((((x2.cf.length + [(cA p x2.i).key].length) * bytesOf C0 EC.i64 ≤ 140737488355328) ∧
                  (∃ x' : XR9 p q,
                    (True ∧
                    ((True ∧
                    True ∧
                    True ∧
                    True ∧
                    ((Value.int IntKind.i64 (IntKind.i64.wrap ((↑x.i : Int) + 1))) = (Value.int IntKind.i64 ((↑x'.i : Int)))) ∧
                    True) ∧
                    ((p) = (p)) ∧
                    ((q) = (q)) ∧
                    ((x2.out) = (x'.out)) ∧
                    ((x2.cf ++ [(cA p x2.i).key]) = (x'.cf)) ∧
                    True) ∧
                    (p.length - x'.i < p.length - x.i)))))
                  ((∃ x' : XR9 p q,
                    (True ∧
                    ((True ∧
                    True ∧
                    True ∧
                    True ∧
                    ((Value.int IntKind.i64 (IntKind.i64.wrap ((↑x.i : Int) + 1))) = (Value.int IntKind.i64 ((↑x'.i : Int)))) ∧
                    True) ∧
                    ((p) = (p)) ∧
                    ((q) = (q)) ∧
                    ((x2.out) = (x'.out)) ∧
                    ((x2.cf) = (x'.cf)) ∧
                    True) ∧
                    (p.length - x'.i < p.length - x.i)))))))))))))))))
        ((K (SV.tup [(TV.at (At.slc 2)), (TV.at (At.slc 3)), (TV.at (At.val (Value.int IntKind.i64 0)))]) [(Chunk.row false (EC.chg) (p)), (Chunk.row false (EC.chg) (q)), (Chunk.row true (EC.chg) (x.out)), (Chunk.row true (EC.i64) (x.cf))] [])))))))))) = _ by kernel_rfl) ?_
  simp only [bytes_chg, bytes_i64]
  refine brS_of (fun c1 => h [] [] 1 (by simp at c1; simp [rebR, c1])) fun c1 => brS_of (fun c2 => h [] [] 1 (by simp at c2; simp [rebR, c2])) fun c2 => ?_
  have v1 : valB p = true := by simpa using c1
  have v2 : valB q = true := by simpa using c2
  have good : ∀ z w, reb p q = some (z, w) → K (.tup [.at (.slc 2), .at (.slc 3), .at (vI 0)]) [.row false EC.chg p, .row false EC.chg q, .row true EC.chg z, .row true EC.i64 w] [] := fun z w hz => h z w 0 (by simp [rebR, v1, v2, hz])
  have bad : reb p q = none → K (.tup [.at (.slc 2), .at (.slc 3), .at (vI 9)]) [.row false EC.chg p, .row false EC.chg q, .row true EC.chg [], .row true EC.i64 []] [] := fun hz => h [] [] 9 (by simp [rebR, v1, v2, hz])
  refine ⟨⟨⟨0, [], [], Nat.zero_le _, Nat.le_refl _, Nat.le_refl _, ?_⟩, trivial, ⟨trivial, trivial, trivial, trivial, rfl, trivial⟩, trivial, trivial, rfl, rfl, trivial⟩, fun x _ => brS_of (fun hi => ?_) fun hi => ?_⟩
  · rw [reb_left (valB_iff.1 v1).1 (valB_iff.1 v2).1]
    simp
  · have hi : x.i < p.length := by simpa using hi
    have hxo := x.h.2.1
    refine ⟨by omega, by omega, brS_of (fun e1 => ?_) fun e1 => ?_⟩
    · have e1 : fndS q (cA p x.i).key = false := by simpa using e1
      obtain ⟨s1, s2⟩ := r9_step x hi (fndS_none e1)
      rw [wrap_next hi (by omega)]
      refine ⟨?_, ⟨x.i + 1, _, x.cf, s2 rfl _ _ rfl (by simp [conf1])⟩, ?_⟩
      · simp; omega
      · refine ⟨trivial, ⟨⟨trivial, trivial, trivial, trivial, rfl, trivial⟩, trivial, trivial, rfl, rfl, trivial⟩, ?_⟩
        show p.length - (x.i + 1) < _; omega
    · have e1 : fndS q (cA p x.i).key = true := by simpa using e1
      obtain ⟨n1, k1⟩ := fndD_some e1
      obtain ⟨s1, s2⟩ := r9_step x hi n1
      refine ⟨fun a ha b hb => ⟨⟨x, _, rfl⟩, rfl, ?_⟩, fun x1 r1 => brS_of (fun eb => ?_) fun eb => ⟨fun a ha b hb => ⟨⟨x1.toXR9, _, rfl⟩, r1, ?_⟩, fun x2 r2 => ?_⟩⟩
      · subst ha hb; rw [opt_eqB]; simp
      all_goals (have r1 : x1.i = x.i := by omega)
      all_goals (have hbb := x1.hb; rw [eb, r1] at hbb)
      · refine bad (s1 ?_)
        simpa [base1] using hbb
      · subst ha hb; rw [opt_eqB]; simp
      · have r2 : x2.i = x.i := by omega
        have hb2 := x2.hb
        have s2' := (r9_step x2.toXR9 (d := some (fndD q (cA p x.i).key)) (by rw [r2]; exact hi) (by rw [r2]; exact n1)).2
        rw [r2] at s2' hb2
        have hm : base1 (some (cA p x.i), some (fndD q (cA p x.i).key)) = true := by simpa [base1] using hbb
        have s2' := s2' hm
        simp only [keep1, conf1] at s2'
        have h3 := x2.h.2.2.1
        rw [wrap_next hi (by omega)]
        refine brS_of (fun b1 => ⟨?_, ⟨x.i + 1, x2.out, x2.cf ++ [(cA p x2.i).key], s2' _ _ (by simp) ?_⟩, trivial, ⟨⟨trivial, trivial, trivial, trivial, rfl, trivial⟩, trivial, trivial, rfl, rfl, trivial⟩, ?_⟩) fun b1 => ⟨⟨x.i + 1, x2.out, x2.cf, s2' _ _ (by simp) ?_⟩, trivial, ⟨⟨trivial, trivial, trivial, trivial, rfl, trivial⟩, trivial, trivial, rfl, rfl, trivial⟩, ?_⟩
        · simp; omega
        · rw [b1] at hb2
          rw [r2, if_neg (by simpa using hb2)]
        · show p.length - (x.i + 1) < _; omega
        · rw [b1] at hb2
          rw [if_pos (by simpa using hb2)]; simp
        · show p.length - (x.i + 1) < _; omega
  · have hi : x.i = p.length := by have := x.h.1; simp at hi; omega
    refine good x.out x.cf ?_
    rw [x.h.2.2.2, hi, List.drop_length]
    simp [rebP]
theorem s_reb19 : SoundT C0 44 tReb := by
  refine .of Try.func44 (by decide) rfl fun args H K h hB => ?_
  unfold tReb at h
  split at h <;> try exact h.elim
  rename_i p q
  exact ⟨aReb19 p q, ⟨frame C0.ok s_valid19 _, frame C0.ok s_fndD _, frame C0.ok s_before19 _, frame C0.ok s_after19 _, trivial⟩, vc_reb19 p q K h.1 h.2⟩
end Go.Proofs.Ytdgodcamadalhaa.Sx
