/- The reference's conflicts. -/
import Derived.Test.YtdgodcamadalhaaSxRi
namespace Go.Proofs.Ytdgodcamadalhaa.Sx
open Go

/-- The test as the text makes it, on values and presence. -/
def cfB (x y z : Option Int) : Bool := !(decide (y = z)) && (!(decide (x = y)) && !(decide (x = z)))
def cf1 (b o t : List Ent) (k : Int) : List Int := if cfB (getE b k) (getE o k) (getE t k) then [k] else []
def cfE (b o t : List Ent) : List Int := (keys3 b o t).flatMap (cf1 b o t)
structure XCf (b o t : List Ent) where
  i : Nat
  h : i ≤ (keys3 b o t).length
structure XCg (b o t : List Ent) extends XCf b o t where
  c : Bool
  hc : c = cfB (getE b (iA (keys3 b o t) i)) (getE o (iA (keys3 b o t) i)) (getE t (iA (keys3 b o t) i))
noncomputable def aCf (b o t : List Ent) : Ann C0 := { Γ := [(68, frameT [] tKeys), (30, frameT [] tGet)], inv := fun k => match k with
  | 4 => some { X := XCf b o t, sl := [9, 8, 7], tf := fun x => [vi .i64 x.i, .one (.at (.slc 3)), .one (.at (.slc 4))], hf := fun x => [.row false EC.ent b, .row false EC.ent o, .row false EC.ent t, .row true EC.i64 (keys3 b o t), .row true EC.i64 (((keys3 b o t).take x.i).flatMap (cf1 b o t))], μ := fun x => (keys3 b o t).length - x.i }
  | 1010 => some { X := XCg b o t, sl := [83], tf := fun x => [vb x.c], hf := fun x => [.row false EC.ent b, .row false EC.ent o, .row false EC.ent t, .row true EC.i64 (keys3 b o t), .row true EC.i64 (((keys3 b o t).take x.i).flatMap (cf1 b o t))], rel := fun T _ x => slotI T 9 x.i }
  | _ => none }
def tCf : Tfm C0 := fun args H K => match args, H with
  | [.at (.slc 0), .at (.slc 1), .at (.slc 2)], [.row false .ent b, .row false .ent o, .row false .ent t] => b.length + o.length + t.length ≤ 1000000 ∧ K (.one (.at (.slc 3))) [.row false EC.ent b, .row false EC.ent o, .row false EC.ent t, .row true EC.i64 (cfE b o t)] []
  | _, _ => False
theorem beq_dec (a b : Int) : (a == b) = decide (a = b) := Bool.eq_iff_iff.2 (by simp)
theorem cf1_len (b o t : List Ent) (k : Int) : (cf1 b o t k).length ≤ 1 := by unfold cf1; split <;> simp
theorem vc_cf (b o t : List Ent) (K : KT) (hsm : b.length + o.length + t.length ≤ 1000000) (h : K (.one (.at (.slc 3))) [.row false EC.ent b, .row false EC.ent o, .row false EC.ent t, .row true EC.i64 (cfE b o t)] []) :
    vc C0 (aCf b o t) Try.f36 [.at (.slc 0), .at (.slc 1), .at (.slc 2)] [.row false EC.ent b, .row false EC.ent o, .row false EC.ent t] (normK 3 K) := by
  refine Eq.mp (show ((b.length + o.length + t.length ≤ 1000000) ∧
(∃ x : XCf b o t,
  (True ∧
  (True ∧
  True ∧
  True ∧
  True ∧
  True ∧
  ((Value.int IntKind.i64 0) = (Value.int IntKind.i64 ((↑x.i : Int)))) ∧
  True) ∧
  ((b) = (b)) ∧
  ((o) = (o)) ∧
  ((t) = (t)) ∧
  ((keys3 b o t) = (keys3 b o t)) ∧
  ([] = (List.flatMap (cf1 b o t) (List.take x.i (keys3 b o t)))) ∧
  True)) ∧
(∀ x : XCf b o t,
  (True →
  (brS (decide ((↑x.i : Int) < (↑(keys3 b o t).length : Int)))
    (((0 ≤ (↑x.i : Int)) ∧
    ((↑x.i : Int) < (↑(keys3 b o t).length : Int)) ∧
    (∀ x1 : Option Int,
      (((x1) = (getE b (iA (keys3 b o t) x.i))) →
      ((0 ≤ (↑x.i : Int)) ∧
      ((↑x.i : Int) < (↑(keys3 b o t).length : Int)) ∧
      (∀ x2 : Option Int,
        (((x2) = (getE o (iA (keys3 b o t) x.i))) →
        ((0 ≤ (↑x.i : Int)) ∧
        ((↑x.i : Int) < (↑(keys3 b o t).length : Int)) ∧
        (∀ x3 : Option Int,
          (((x3) = (getE t (iA (keys3 b o t) x.i))) →
          ((brS (x2.isSome == x3.isSome)
            ((brS (!x2.getD 0 == x3.getD 0)
              ((brS (x1.isSome == x2.isSome)
                ((brS (!x1.getD 0 == x2.getD 0)
                  ((brS (x1.isSome == x3.isSome)
                    ((∃ x4 : XCg b o t,
                      ((((↑x.i : Int)) = ((↑x4.i : Int))) ∧
                      (True ∧
                      True ∧
                      True ∧
                      True ∧
                      True ∧
                      ((Value.int IntKind.i64 ((↑x.i : Int))) = (Value.int IntKind.i64 ((↑x.i : Int)))) ∧
                      ((Value.bool (!x1.getD 0 == x3.getD 0)) = (Value.bool (x4.c))) ∧
                      True) ∧
                      ((b) = (b)) ∧
                      ((o) = (o)) ∧
                      ((t) = (t)) ∧
                      ((keys3 b o t) = (keys3 b o t)) ∧
                      ((List.flatMap (cf1 b o t) (List.take x.i (keys3 b o t))) = (List.flatMap (cf1 b o t) (List.take x4.i (keys3 b o t)))) ∧
                      True)))
                    ((∃ x4 : XCg b o t,
                      ((((↑x.i : Int)) = ((↑x4.i : Int))) ∧
                      (True ∧
                      True ∧
                      True ∧
                      True ∧
                      True ∧
                      ((Value.int IntKind.i64 ((↑x.i : Int))) = (Value.int IntKind.i64 ((↑x.i : Int)))) ∧
                      ((Value.bool true) = (Value.bool (x4.c))) ∧
                      True) ∧
                      ((b) = (b)) ∧
                      ((o) = (o)) ∧
                      ((t) = (t)) ∧
                      ((keys3 b o t) = (keys3 b o t)) ∧
                      ((List.flatMap (cf1 b o t) (List.take x.i (keys3 b o t))) = (List.flatMap (cf1 b o t) (List.take x4.i (keys3 b o t)))) ∧
                      True)))))
                  ((∃ x4 : XCg b o t,
                    ((((↑x.i : Int)) = ((↑x4.i : Int))) ∧
                    (True ∧
                    True ∧
                    True ∧
                    True ∧
                    True ∧
                    ((Value.int IntKind.i64 ((↑x.i : Int))) = (Value.int IntKind.i64 ((↑x.i : Int)))) ∧
                    ((Value.bool false) = (Value.bool (x4.c))) ∧
                    True) ∧
                    ((b) = (b)) ∧
                    ((o) = (o)) ∧
                    ((t) = (t)) ∧
                    ((keys3 b o t) = (keys3 b o t)) ∧
                    ((List.flatMap (cf1 b o t) (List.take x.i (keys3 b o t))) = (List.flatMap (cf1 b o t) (List.take x4.i (keys3 b o t)))) ∧
                    True)))))
                ((brS (x1.isSome == x3.isSome)
                  ((∃ x4 : XCg b o t,
                    ((((↑x.i : Int)) = ((↑x4.i : Int))) ∧
                    (True ∧
                    True ∧
                    True ∧
                    True ∧
                    True ∧
                    ((Value.int IntKind.i64 ((↑x.i : Int))) = (Value.int IntKind.i64 ((↑x.i : Int)))) ∧
                    ((Value.bool (!x1.getD 0 == x3.getD 0)) = (Value.bool (x4.c))) ∧
                    True) ∧
                    ((b) = (b)) ∧
                    ((o) = (o)) ∧
                    ((t) = (t)) ∧
                    ((keys3 b o t) = (keys3 b o t)) ∧
                    ((List.flatMap (cf1 b o t) (List.take x.i (keys3 b o t))) = (List.flatMap (cf1 b o t) (List.take x4.i (keys3 b o t)))) ∧
                    True)))
                  ((∃ x4 : XCg b o t,
                    ((((↑x.i : Int)) = ((↑x4.i : Int))) ∧
                    (True ∧
                    True ∧
                    True ∧
                    True ∧
                    True ∧
                    ((Value.int IntKind.i64 ((↑x.i : Int))) = (Value.int IntKind.i64 ((↑x.i : Int)))) ∧
                    ((Value.bool true) = (Value.bool (x4.c))) ∧
                    True) ∧
                    ((b) = (b)) ∧
                    ((o) = (o)) ∧
                    ((t) = (t)) ∧
                    ((keys3 b o t) = (keys3 b o t)) ∧
                    ((List.flatMap (cf1 b o t) (List.take x.i (keys3 b o t))) = (List.flatMap (cf1 b o t) (List.take x4.i (keys3 b o t)))) ∧
                    True)))))))
              ((∃ x4 : XCg b o t,
                ((((↑x.i : Int)) = ((↑x4.i : Int))) ∧
                (True ∧
                True ∧
                True ∧
                True ∧
                True ∧
                ((Value.int IntKind.i64 ((↑x.i : Int))) = (Value.int IntKind.i64 ((↑x.i : Int)))) ∧
                ((Value.bool false) = (Value.bool (x4.c))) ∧
                True) ∧
                ((b) = (b)) ∧
                ((o) = (o)) ∧
                ((t) = (t)) ∧
                ((keys3 b o t) = (keys3 b o t)) ∧
                ((List.flatMap (cf1 b o t) (List.take x.i (keys3 b o t))) = (List.flatMap (cf1 b o t) (List.take x4.i (keys3 b o t)))) ∧
                True)))))
            ((brS (x1.isSome == x2.isSome)
              ((brS (!x1.getD 0 == x2.getD 0)
                ((brS (x1.isSome == x3.isSome)
                  ((∃ x4 : XCg b o t,
                    ((((↑x.i : Int)) = ((↑x4.i : Int))) ∧
                    (True ∧
                    True ∧
                    True ∧
                    True ∧
                    True ∧
                    ((Value.int IntKind.i64 ((↑x.i : Int))) = (Value.int IntKind.i64 ((↑x.i : Int)))) ∧
                    ((Value.bool (!x1.getD 0 == x3.getD 0)) = (Value.bool (x4.c))) ∧
                    True) ∧
                    ((b) = (b)) ∧
                    ((o) = (o)) ∧
                    ((t) = (t)) ∧
                    ((keys3 b o t) = (keys3 b o t)) ∧
                    ((List.flatMap (cf1 b o t) (List.take x.i (keys3 b o t))) = (List.flatMap (cf1 b o t) (List.take x4.i (keys3 b o t)))) ∧
                    True)))
                  ((∃ x4 : XCg b o t,
                    ((((↑x.i : Int)) = ((↑x4.i : Int))) ∧
                    (True ∧
                    True ∧
                    True ∧
                    True ∧
                    True ∧
                    ((Value.int IntKind.i64 ((↑x.i : Int))) = (Value.int IntKind.i64 ((↑x.i : Int)))) ∧
                    ((Value.bool true) = (Value.bool (x4.c))) ∧
                    True) ∧
                    ((b) = (b)) ∧
                    ((o) = (o)) ∧
                    ((t) = (t)) ∧
                    ((keys3 b o t) = (keys3 b o t)) ∧
                    ((List.flatMap (cf1 b o t) (List.take x.i (keys3 b o t))) = (List.flatMap (cf1 b o t) (List.take x4.i (keys3 b o t)))) ∧
                    True)))))
                ((∃ x4 : XCg b o t,
                  ((((↑x.i : Int)) = ((↑x4.i : Int))) ∧
                  (True ∧
                  True ∧
                  True ∧
                  True ∧
                  True ∧
                  ((Value.int IntKind.i64 ((↑x.i : Int))) = (Value.int IntKind.i64 ((↑x.i : Int)))) ∧
                  ((Value.bool false) = (Value.bool (x4.c))) ∧
                  True) ∧
                  ((b) = (b)) ∧
                  ((o) = (o)) ∧
                  ((t) = (t)) ∧
                  ((keys3 b o t) = (keys3 b o t)) ∧
                  ((List.flatMap (cf1 b o t) (List.take x.i (keys3 b o t))) = (List.flatMap (cf1 b o t) (List.take x4.i (keys3 b o t)))) ∧
                  True)))))
              ((brS (x1.isSome == x3.isSome)
                ((∃ x4 : XCg b o t,
                  ((((↑x.i : Int)) = ((↑x4.i : Int))) ∧
                  (True ∧
                  True ∧
                  True ∧
                  True ∧
                  True ∧
                  ((Value.int IntKind.i64 ((↑x.i : Int))) = (Value.int IntKind.i64 ((↑x.i : Int)))) ∧
                  ((Value.bool (!x1.getD 0 == x3.getD 0)) = (Value.bool (x4.c))) ∧
                  True) ∧
                  ((b) = (b)) ∧
                  ((o) = (o)) ∧
                  ((t) = (t)) ∧
                  ((keys3 b o t) = (keys3 b o t)) ∧
                  ((List.flatMap (cf1 b o t) (List.take x.i (keys3 b o t))) = (List.flatMap (cf1 b o t) (List.take x4.i (keys3 b o t)))) ∧
                  True)))
                ((∃ x4 : XCg b o t,
                  ((((↑x.i : Int)) = ((↑x4.i : Int))) ∧
                  (True ∧
                  True ∧
                  True ∧
                  True ∧
                  True ∧
                  ((Value.int IntKind.i64 ((↑x.i : Int))) = (Value.int IntKind.i64 ((↑x.i : Int)))) ∧
                  ((Value.bool true) = (Value.bool (x4.c))) ∧
                  True) ∧
                  ((b) = (b)) ∧
                  ((o) = (o)) ∧
                  ((t) = (t)) ∧
                  ((keys3 b o t) = (keys3 b o t)) ∧
                  ((List.flatMap (cf1 b o t) (List.take x.i (keys3 b o t))) = (List.flatMap (cf1 b o t) (List.take x4.i (keys3 b o t)))) ∧
                  True)))))))) ∧
          (∀ x4 : XCg b o t,
            ((((↑x.i : Int)) = ((↑x4.i : Int))) →
            (brS (x4.c)
              (((0 ≤ (↑x.i : Int)) ∧
              ((↑x.i : Int) < (↑(keys3 b o t).length : Int)) ∧
              (((List.flatMap (cf1 b o t) (List.take x4.i (keys3 b o t))).length + [iA (keys3 b o t) x.i].length) * bytesOf C0 EC.i64 ≤ 140737488355328) ∧
              (∃ x' : XCf b o t,
                (True ∧
                ((True ∧
                True ∧
                True ∧
                True ∧
                True ∧
                ((Value.int IntKind.i64 (IntKind.i64.wrap ((↑x.i : Int) + 1))) = (Value.int IntKind.i64 ((↑x'.i : Int)))) ∧
                True) ∧
                ((b) = (b)) ∧
                ((o) = (o)) ∧
                ((t) = (t)) ∧
                ((keys3 b o t) = (keys3 b o t)) ∧
                ((List.flatMap (cf1 b o t) (List.take x4.i (keys3 b o t)) ++ [iA (keys3 b o t) x.i]) = (List.flatMap (cf1 b o t) (List.take x'.i (keys3 b o t)))) ∧
                True) ∧
                ((keys3 b o t).length - x'.i < (keys3 b o t).length - x.i)))))
              ((∃ x' : XCf b o t,
                (True ∧
                ((True ∧
                True ∧
                True ∧
                True ∧
                True ∧
                ((Value.int IntKind.i64 (IntKind.i64.wrap ((↑x.i : Int) + 1))) = (Value.int IntKind.i64 ((↑x'.i : Int)))) ∧
                True) ∧
                ((b) = (b)) ∧
                ((o) = (o)) ∧
                ((t) = (t)) ∧
                ((keys3 b o t) = (keys3 b o t)) ∧
                ((List.flatMap (cf1 b o t) (List.take x4.i (keys3 b o t))) = (List.flatMap (cf1 b o t) (List.take x'.i (keys3 b o t)))) ∧
                True) ∧
                ((keys3 b o t).length - x'.i < (keys3 b o t).length - x.i))))))))))))))))))
    ((K (SV.one (TV.at (At.slc 3))) [(Chunk.row false (EC.ent) (b)), (Chunk.row false (EC.ent) (o)), (Chunk.row false (EC.ent) (t)), (Chunk.row true (EC.i64) (List.flatMap (cf1 b o t) (List.take x.i (keys3 b o t))))] [])))))) = _ by kernel_rfl) ?_
  have hk := keys3_len b o t
  refine ⟨hsm, ⟨⟨0, Nat.zero_le _⟩, by simp⟩, fun x _ => brS_of (fun hi => ?_) fun hi => ?_⟩
  · have hi : x.i < (keys3 b o t).length := by simpa using hi
    refine ⟨by omega, by omega, fun x1 e1 => ⟨by omega, by omega, fun x2 e2 => ⟨by omega, by omega, fun x3 e3 => ⟨?_, fun y ry => ?_⟩⟩⟩⟩
    · clear h hk hsm
      repeat' (refine brS_of (fun _ => ?_) fun _ => ?_)
      all_goals refine ⟨⟨x, cfB x1 x2 x3, by rw [e1, e2, e3]⟩, rfl, ⟨trivial, trivial, trivial, trivial, trivial, rfl, ?_, trivial⟩, rfl, rfl, rfl, rfl, rfl, trivial⟩
      all_goals (show Value.bool _ = Value.bool (cfB x1 x2 x3); clear e1 e2 e3 hi; congr 1; unfold cfB; cases x1 <;> cases x2 <;> cases x3 <;> simp_all <;> exact beq_dec _ _)
    · have ry : y.i = x.i := by omega
      have hs := flat_snoc (cf1 b o t) (iA_get hi)
      have hlen := flat_len1 (cf1_len b o t) (keys3 b o t) x.i
      have hc := y.hc
      rw [ry] at hc
      simp only [wrap_next hi (by omega), bytes_i64, ry]
      have fl : ∀ d, d = cf1 b o t (iA (keys3 b o t) x.i) → (((keys3 b o t).take x.i).flatMap (cf1 b o t)) ++ d = ((keys3 b o t).take (x.i + 1)).flatMap (cf1 b o t) := fun d hd => by rw [hd, hs]
      refine brS_of (fun q => ⟨by omega, by omega, ?_, ⟨x.i + 1, by omega⟩, ?_⟩) fun q => ⟨⟨x.i + 1, by omega⟩, ?_⟩
      · simp only [List.length_singleton]; omega
      · have e := fl [iA (keys3 b o t) x.i] (by unfold cf1; rw [← hc, q]; rfl)
        refine ⟨trivial, ⟨⟨trivial, trivial, trivial, trivial, trivial, rfl, trivial⟩, trivial, trivial, trivial, trivial, e, trivial⟩, ?_⟩
        show _ - (x.i + 1) < _
        omega
      · have e := fl [] (by unfold cf1; rw [← hc, q]; rfl)
        rw [List.append_nil] at e
        refine ⟨trivial, ⟨⟨trivial, trivial, trivial, trivial, trivial, rfl, trivial⟩, trivial, trivial, trivial, trivial, e, trivial⟩, ?_⟩
        show _ - (x.i + 1) < _
        omega
  · have hi : x.i = (keys3 b o t).length := by have := x.h; simp at hi; omega
    have h2 : ∀ z : List Int, z = cfE b o t → K (.one (.at (.slc 3))) [.row false EC.ent b, .row false EC.ent o, .row false EC.ent t, .row true EC.i64 z] [] := fun z hz => by subst hz; exact h
    exact h2 _ (by rw [hi]; exact congrArg (List.flatMap (cf1 b o t)) (List.take_length (l := keys3 b o t)))
theorem s_cf : SoundT C0 36 tCf := by
  refine .of Try.func36 (by decide) rfl fun args H K h hB => ?_
  unfold tCf at h
  split at h <;> try exact h.elim
  rename_i b o t
  exact ⟨aCf b o t, ⟨frame C0.ok s_keys _, frame C0.ok s_get _, trivial⟩, vc_cf b o t K h.1 h.2⟩
/-- The conflicts of three lists are the keys in conflict. -/
theorem cfE_srt (b o t : List Ent) : Srt id (cfE b o t) := by
  have e : cfE b o t = (keys3 b o t).filter fun k => cfB (getE b k) (getE o k) (getE t k) := by
    unfold cfE
    induction keys3 b o t with
    | nil => rfl
    | cons k l ih =>
      rw [List.flatMap_cons, ih, List.filter_cons]
      unfold cf1
      split <;> rfl
  rw [e]
  exact (keys3_srt b o t).filter _
theorem cfE_mem (b o t : List Ent) (k : Int) : k ∈ cfE b o t ↔ Cf b o t k := by
  unfold cfE
  rw [List.mem_flatMap]
  constructor
  · rintro ⟨q, _, hq⟩
    unfold cf1 at hq
    split at hq
    · rename_i hc
      simp only [List.mem_singleton] at hq
      subst hq
      simp only [cfB, Bool.and_eq_true, Bool.not_eq_true', decide_eq_false_iff_not] at hc
      exact hc
    · cases hq
  · intro hc
    refine ⟨k, ?_, ?_⟩
    · rw [keys3_mem]
      unfold Cf at hc
      cases h1 : getE b k <;> cases h2 : getE o k <;> cases h3 : getE t k <;> simp_all
    · have : cfB (getE b k) (getE o k) (getE t k) = true := by
        simp only [cfB, Bool.and_eq_true, Bool.not_eq_true', decide_eq_false_iff_not]
        exact hc
      unfold cf1
      rw [if_pos this]
      simp
end Go.Proofs.Ytdgodcamadalhaa.Sx
