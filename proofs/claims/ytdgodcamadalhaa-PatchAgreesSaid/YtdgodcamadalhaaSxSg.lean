/- The law that the patch functions agree with the reference. -/
import Derived.Test.YtdgodcamadalhaaSxSb
import Derived.Test.YtdgodcamadalhaaSxRn
import Derived.Test.YtdgodcamadalhaaSxRs
import Derived.Test.YtdgodcamadalhaaSxRu
namespace Go.Proofs.Ytdgodcamadalhaa.Sx
open Go

def longB (l m : List Ent) (p q : List Chg) : Bool := decide (80 < l.length) || (decide (80 < m.length) || (decide (80 < p.length) || decide (80 < q.length)))
noncomputable def aLong : Ann C0 := { Γ := [] }
def tLong : Tfm C0 := fun args H K => match args, H with
  | [.at (.slc 0), .at (.slc 1), .at (.slc 2), .at (.slc 3)], [.row false .ent l, .row false .ent m, .row false .chg p, .row false .chg q] => K (.one (.at (vB (longB l m p q)))) [.row false EC.ent l, .row false EC.ent m, .row false EC.chg p, .row false EC.chg q] []
  | _, _ => False
theorem vc_long (l m : List Ent) (p q : List Chg) (K : KT) (h : K (.one (.at (vB (longB l m p q)))) [.row false EC.ent l, .row false EC.ent m, .row false EC.chg p, .row false EC.chg q] []) :
    vc C0 aLong Try.f39 [.at (.slc 0), .at (.slc 1), .at (.slc 2), .at (.slc 3)] [.row false EC.ent l, .row false EC.ent m, .row false EC.chg p, .row false EC.chg q] (normK 4 K) := by
  refine Eq.mp (show (brS (decide ((↑l.length : Int) > 80))
  ((K (SV.one (TV.at (At.val (Value.bool true)))) [(Chunk.row false (EC.ent) (l)), (Chunk.row false (EC.ent) (m)), (Chunk.row false (EC.chg) (p)), (Chunk.row false (EC.chg) (q))] []))
  ((brS (decide ((↑m.length : Int) > 80))
    ((K (SV.one (TV.at (At.val (Value.bool true)))) [(Chunk.row false (EC.ent) (l)), (Chunk.row false (EC.ent) (m)), (Chunk.row false (EC.chg) (p)), (Chunk.row false (EC.chg) (q))] []))
    ((brS (decide ((↑p.length : Int) > 80))
      ((K (SV.one (TV.at (At.val (Value.bool true)))) [(Chunk.row false (EC.ent) (l)), (Chunk.row false (EC.ent) (m)), (Chunk.row false (EC.chg) (p)), (Chunk.row false (EC.chg) (q))] []))
      ((K (SV.one (TV.at (At.val (Value.bool (decide ((↑q.length : Int) > 80)))))) [(Chunk.row false (EC.ent) (l)), (Chunk.row false (EC.ent) (m)), (Chunk.row false (EC.chg) (p)), (Chunk.row false (EC.chg) (q))] []))))))) = _ by kernel_rfl) ?_
  have fin : ∀ b, b = longB l m p q → K (.one (.at (vB b))) [.row false EC.ent l, .row false EC.ent m, .row false EC.chg p, .row false EC.chg q] [] := fun b hb => by subst hb; exact h
  refine brS_of (fun c1 => fin _ ?_) fun c1 => brS_of (fun c2 => fin _ ?_) fun c2 => brS_of (fun c3 => fin _ ?_) fun c3 => fin _ ?_
  all_goals unfold longB
  · have : 80 < l.length := by have := of_decide_eq_true c1; omega
    simp [this]
  · have : 80 < m.length := by have := of_decide_eq_true c2; omega
    simp [this]
  · have : 80 < p.length := by have := of_decide_eq_true c3; omega
    simp [this]
  · have h1 : ¬ 80 < l.length := by have := of_decide_eq_false c1; omega
    have h2 : ¬ 80 < m.length := by have := of_decide_eq_false c2; omega
    have h3 : ¬ 80 < p.length := by have := of_decide_eq_false c3; omega
    have h4 : ((q.length : Int) > 80) ↔ 80 < q.length := by omega
    simp [h1, h2, h3]
    omega
theorem s_long : SoundT C0 39 tLong := by
  refine .of Try.func39 (by decide) rfl fun args H K h hB => ?_
  unfold tLong at h
  split at h <;> try exact h.elim
  rename_i l m p q
  exact ⟨aLong, trivial, vc_long l m p q K h⟩
theorem s_btw19R : SoundT C0 24 tBtw := s_btw19.weak fun args H K h => by
  unfold tBtw at h
  split at h <;> try exact h.elim
  rename_i l m
  refine ⟨h.1, fun h1 h2 => ?_, fun h1 => ?_⟩
  · have hh : ∀ z, z = btw l m → K (.tup [.at (.slc 2), .at (vI 0)]) [.row false EC.ent l, .row false EC.ent m, .row true EC.chg z] [] := fun z hz => h.2 z 0 (by rw [hz]; unfold btwR; rw [h1, h2]; rfl)
    exact hh _ (difE_btw (by simpa [ascB] using h1) (by simpa [ascB] using h2))
  · refine h.2 [] 1 ?_
    unfold btwR
    rcases h1 with h1 | h1 <;> rw [h1] <;> simp
noncomputable def aAgr (l m : List Ent) (p q : List Chg) : Ann C0 := { Γ := [(39, frameT [] tLong), (26, frameT [] tAwake), (28, frameT [] tApp), (40, frameT [] tApp19), (37, frameT [] tBtw), (24, frameT [] tBtw), (38, frameT [] tValid), (41, frameT [] tValid), (29, frameT [] tSame_ent), (27, frameT [] tSame_chg), (33, frameT [] tInv), (42, frameT [] tInv), (25, frameT [] tComp), (43, frameT [] tComp), (34, frameT [] tReb), (44, frameT [] tReb), (35, frameT [] tSame_i64)], inv := fun n => match n with
  | 1009 => some { X := Unit, sl := [], tf := fun _ => [], hf := fun _ => [.row false EC.ent l, .row false EC.ent m, .row false EC.chg p, .row false EC.chg q] }
  | 1013 => some { X := Unit, sl := [], tf := fun _ => [], hf := fun _ => [.row false EC.ent l, .row false EC.ent m, .row false EC.chg p, .row false EC.chg q] }
  | 1017 => some { X := Unit, sl := [], tf := fun _ => [], hf := fun _ => [.row false EC.ent l, .row false EC.ent m, .row false EC.chg p, .row false EC.chg q] }
  | _ => none }
def tAgr : Tfm C0 := fun args H K => match args, H with
  | [.at (.slc 0), .at (.slc 1), .at (.slc 2), .at (.slc 3)], [.row false .ent l, .row false .ent m, .row false .chg p, .row false .chg q] => K (.one (.at (vB true))) [.row false EC.ent l, .row false EC.ent m, .row false EC.chg p, .row false EC.chg q] []
  | _, _ => False
theorem bf {b : Bool} {t f : Prop} (h : b = false) (hf : f) : brS b t f := by rw [h]; exact hf
theorem app19R_nil {l : List Ent} {p : List Chg} (hp : p.length = 0) (hl : ascB l = true) : app19R l p = (l, 0) := by
  have e : p = [] := List.length_eq_zero_iff.1 hp
  subst e
  unfold app19R
  rw [hl]; rfl
theorem vc_agr (l m : List Ent) (p q : List Chg) (K : KT) (h : K (.one (.at (vB true))) [.row false EC.ent l, .row false EC.ent m, .row false EC.chg p, .row false EC.chg q] []) :
    vc C0 (aAgr l m p q) Try.f11 [.at (.slc 0), .at (.slc 1), .at (.slc 2), .at (.slc 3)] [.row false EC.ent l, .row false EC.ent m, .row false EC.chg p, .row false EC.chg q] (normK 4 K) := by
  refine Eq.mp (show (brS (longB l m p q)
  ((K (SV.one (TV.at (At.val (Value.bool true)))) [(Chunk.row false (EC.ent) (l)), (Chunk.row false (EC.ent) (m)), (Chunk.row false (EC.chg) (p)), (Chunk.row false (EC.chg) (q))] []))
  (((l.length + p.length ≤ 1000000) ∧
  (∀ r : List Ent,
    (∀ e : Int,
      (((Prod.mk (r) (e)) = (appR l p)) →
      ((l.length + p.length ≤ 1000000) ∧
      (∀ r1 : List Ent,
        (∀ e1 : Int,
          (((Prod.mk (r1) (e1)) = (app19R l p)) →
          ((l.length + m.length ≤ 1000000) ∧
          (∀ r2 : List Chg,
            (∀ e2 : Int,
              (((Prod.mk (r2) (e2)) = (btwR l m)) →
              ((l.length + m.length ≤ 1000000) ∧
              (∀ r3 : List Chg,
                (∀ e3 : Int,
                  (((Prod.mk (r3) (e3)) = (btwR l m)) →
                  ((brS (!valB p == valB p)
                    ((K (SV.one (TV.at (At.val (Value.bool false)))) [(Chunk.row false (EC.ent) (l)), (Chunk.row false (EC.ent) (m)), (Chunk.row false (EC.chg) (p)), (Chunk.row false (EC.chg) (q))] []))
                    ((brS (!sameB r r1)
                      ((K (SV.one (TV.at (At.val (Value.bool false)))) [(Chunk.row false (EC.ent) (l)), (Chunk.row false (EC.ent) (m)), (Chunk.row false (EC.chg) (p)), (Chunk.row false (EC.chg) (q))] []))
                      ((brS (e != e1)
                        ((K (SV.one (TV.at (At.val (Value.bool false)))) [(Chunk.row false (EC.ent) (l)), (Chunk.row false (EC.ent) (m)), (Chunk.row false (EC.chg) (p)), (Chunk.row false (EC.chg) (q))] []))
                        ((brS (!sameB r2 r3)
                          ((K (SV.one (TV.at (At.val (Value.bool false)))) [(Chunk.row false (EC.ent) (l)), (Chunk.row false (EC.ent) (m)), (Chunk.row false (EC.chg) (p)), (Chunk.row false (EC.chg) (q))] []))
                          ((brS (e2 != e3)
                            ((K (SV.one (TV.at (At.val (Value.bool false)))) [(Chunk.row false (EC.ent) (l)), (Chunk.row false (EC.ent) (m)), (Chunk.row false (EC.chg) (p)), (Chunk.row false (EC.chg) (q))] []))
                            ((∃ x : Unit,
                              (True ∧
                              (True ∧
                              True ∧
                              True) ∧
                              ((l) = (l)) ∧
                              ((m) = (m)) ∧
                              ((p) = (p)) ∧
                              ((q) = (q)) ∧
                              True)))))))))))) ∧
                  (∀ x : Unit,
                    (True →
                    ((p.length ≤ 1000000) ∧
                    (∀ r4 : List Chg,
                      (∀ e4 : Int,
                        (((Prod.mk (r4) (e4)) = (invR p)) →
                        ((p.length ≤ 1000000) ∧
                        (∀ r5 : List Chg,
                          (∀ e5 : Int,
                            (((Prod.mk (r5) (e5)) = (invR p)) →
                            ((brS (!sameB r4 r5)
                              ((K (SV.one (TV.at (At.val (Value.bool false)))) [(Chunk.row false (EC.ent) (l)), (Chunk.row false (EC.ent) (m)), (Chunk.row false (EC.chg) (p)), (Chunk.row false (EC.chg) (q))] []))
                              ((brS (e4 != e5)
                                ((K (SV.one (TV.at (At.val (Value.bool false)))) [(Chunk.row false (EC.ent) (l)), (Chunk.row false (EC.ent) (m)), (Chunk.row false (EC.chg) (p)), (Chunk.row false (EC.chg) (q))] []))
                                ((∃ x1 : Unit,
                                  (True ∧
                                  (True ∧
                                  True ∧
                                  True) ∧
                                  ((l) = (l)) ∧
                                  ((m) = (m)) ∧
                                  ((p) = (p)) ∧
                                  ((q) = (q)) ∧
                                  True)))))) ∧
                            (∀ x1 : Unit,
                              (True →
                              ((p.length + q.length ≤ 1000000) ∧
                              (∀ r6 : List Chg,
                                (∀ e6 : Int,
                                  (((Prod.mk (r6) (e6)) = (compR p q)) →
                                  ((p.length + q.length ≤ 1000000) ∧
                                  (∀ r7 : List Chg,
                                    (∀ e7 : Int,
                                      (((Prod.mk (r7) (e7)) = (compR p q)) →
                                      ((brS (!sameB r6 r7)
                                        ((K (SV.one (TV.at (At.val (Value.bool false)))) [(Chunk.row false (EC.ent) (l)), (Chunk.row false (EC.ent) (m)), (Chunk.row false (EC.chg) (p)), (Chunk.row false (EC.chg) (q))] []))
                                        ((brS (e6 != e7)
                                          ((K (SV.one (TV.at (At.val (Value.bool false)))) [(Chunk.row false (EC.ent) (l)), (Chunk.row false (EC.ent) (m)), (Chunk.row false (EC.chg) (p)), (Chunk.row false (EC.chg) (q))] []))
                                          ((∃ x2 : Unit,
                                            (True ∧
                                            (True ∧
                                            True ∧
                                            True) ∧
                                            ((l) = (l)) ∧
                                            ((m) = (m)) ∧
                                            ((p) = (p)) ∧
                                            ((q) = (q)) ∧
                                            True)))))) ∧
                                      (∀ x2 : Unit,
                                        (True →
                                        ((p.length + q.length ≤ 1000000) ∧
                                        (∀ r8 : List Chg,
                                          (∀ c : List Int,
                                            (∀ e8 : Int,
                                              (((Prod.mk (r8) (Prod.mk (c) (e8))) = (rebR p q)) →
                                              ((p.length + q.length ≤ 1000000) ∧
                                              (∀ r9 : List Chg,
                                                (∀ c1 : List Int,
                                                  (∀ e9 : Int,
                                                    (((Prod.mk (r9) (Prod.mk (c1) (e9))) = (rebR p q)) →
                                                    (brS (sameB r8 r9)
                                                      ((brS (sameB c c1)
                                                        ((K (SV.one (TV.at (At.val (Value.bool (e8 == e9))))) [(Chunk.row false (EC.ent) (l)), (Chunk.row false (EC.ent) (m)), (Chunk.row false (EC.chg) (p)), (Chunk.row false (EC.chg) (q))] []))
                                                        ((K (SV.one (TV.at (At.val (Value.bool false)))) [(Chunk.row false (EC.ent) (l)), (Chunk.row false (EC.ent) (m)), (Chunk.row false (EC.chg) (p)), (Chunk.row false (EC.chg) (q))] []))))
                                                      ((K (SV.one (TV.at (At.val (Value.bool false)))) [(Chunk.row false (EC.ent) (l)), (Chunk.row false (EC.ent) (m)), (Chunk.row false (EC.chg) (p)), (Chunk.row false (EC.chg) (q))] []))))))))))))))))))))))))))))))))))))))))))))))))) ∧
      (((p.length) = 0) →
      (((ascB l) = true) →
      ((l.length + m.length ≤ 1000000) ∧
      (∀ r1 : List Chg,
        (∀ e1 : Int,
          (((Prod.mk (r1) (e1)) = (btwR l m)) →
          ((l.length + m.length ≤ 1000000) ∧
          (∀ r2 : List Chg,
            (∀ e2 : Int,
              (((Prod.mk (r2) (e2)) = (btwR l m)) →
              ((brS (!valB p == valB p)
                ((K (SV.one (TV.at (At.val (Value.bool false)))) [(Chunk.row false (EC.ent) (l)), (Chunk.row false (EC.ent) (m)), (Chunk.row false (EC.chg) (p)), (Chunk.row false (EC.chg) (q))] []))
                ((brS (!sameB r l)
                  ((K (SV.one (TV.at (At.val (Value.bool false)))) [(Chunk.row false (EC.ent) (l)), (Chunk.row false (EC.ent) (m)), (Chunk.row false (EC.chg) (p)), (Chunk.row false (EC.chg) (q))] []))
                  ((brS (e != 0)
                    ((K (SV.one (TV.at (At.val (Value.bool false)))) [(Chunk.row false (EC.ent) (l)), (Chunk.row false (EC.ent) (m)), (Chunk.row false (EC.chg) (p)), (Chunk.row false (EC.chg) (q))] []))
                    ((brS (!sameB r1 r2)
                      ((K (SV.one (TV.at (At.val (Value.bool false)))) [(Chunk.row false (EC.ent) (l)), (Chunk.row false (EC.ent) (m)), (Chunk.row false (EC.chg) (p)), (Chunk.row false (EC.chg) (q))] []))
                      ((brS (e1 != e2)
                        ((K (SV.one (TV.at (At.val (Value.bool false)))) [(Chunk.row false (EC.ent) (l)), (Chunk.row false (EC.ent) (m)), (Chunk.row false (EC.chg) (p)), (Chunk.row false (EC.chg) (q))] []))
                        ((∃ x : Unit,
                          (True ∧
                          (True ∧
                          True ∧
                          True) ∧
                          ((l) = (l)) ∧
                          ((m) = (m)) ∧
                          ((p) = (p)) ∧
                          ((q) = (q)) ∧
                          True)))))))))))) ∧
              (∀ x : Unit,
                (True →
                ((p.length ≤ 1000000) ∧
                (∀ r3 : List Chg,
                  (∀ e3 : Int,
                    (((Prod.mk (r3) (e3)) = (invR p)) →
                    ((p.length ≤ 1000000) ∧
                    (∀ r4 : List Chg,
                      (∀ e4 : Int,
                        (((Prod.mk (r4) (e4)) = (invR p)) →
                        ((brS (!sameB r3 r4)
                          ((K (SV.one (TV.at (At.val (Value.bool false)))) [(Chunk.row false (EC.ent) (l)), (Chunk.row false (EC.ent) (m)), (Chunk.row false (EC.chg) (p)), (Chunk.row false (EC.chg) (q))] []))
                          ((brS (e3 != e4)
                            ((K (SV.one (TV.at (At.val (Value.bool false)))) [(Chunk.row false (EC.ent) (l)), (Chunk.row false (EC.ent) (m)), (Chunk.row false (EC.chg) (p)), (Chunk.row false (EC.chg) (q))] []))
                            ((∃ x1 : Unit,
                              (True ∧
                              (True ∧
                              True ∧
                              True) ∧
                              ((l) = (l)) ∧
                              ((m) = (m)) ∧
                              ((p) = (p)) ∧
                              ((q) = (q)) ∧
                              True)))))) ∧
                        (∀ x1 : Unit,
                          (True →
                          ((p.length + q.length ≤ 1000000) ∧
                          (∀ r5 : List Chg,
                            (∀ e5 : Int,
                              (((Prod.mk (r5) (e5)) = (compR p q)) →
                              ((p.length + q.length ≤ 1000000) ∧
                              (∀ r6 : List Chg,
                                (∀ e6 : Int,
                                  (((Prod.mk (r6) (e6)) = (compR p q)) →
                                  ((brS (!sameB r5 r6)
                                    ((K (SV.one (TV.at (At.val (Value.bool false)))) [(Chunk.row false (EC.ent) (l)), (Chunk.row false (EC.ent) (m)), (Chunk.row false (EC.chg) (p)), (Chunk.row false (EC.chg) (q))] []))
                                    ((brS (e5 != e6)
                                      ((K (SV.one (TV.at (At.val (Value.bool false)))) [(Chunk.row false (EC.ent) (l)), (Chunk.row false (EC.ent) (m)), (Chunk.row false (EC.chg) (p)), (Chunk.row false (EC.chg) (q))] []))
                                      ((∃ x2 : Unit,
                                        (True ∧
                                        (True ∧
                                        True ∧
                                        True) ∧
                                        ((l) = (l)) ∧
                                        ((m) = (m)) ∧
                                        ((p) = (p)) ∧
                                        ((q) = (q)) ∧
                                        True)))))) ∧
                                  (∀ x2 : Unit,
                                    (True →
                                    ((p.length + q.length ≤ 1000000) ∧
                                    (∀ r7 : List Chg,
                                      (∀ c : List Int,
                                        (∀ e7 : Int,
                                          (((Prod.mk (r7) (Prod.mk (c) (e7))) = (rebR p q)) →
                                          ((p.length + q.length ≤ 1000000) ∧
                                          (∀ r8 : List Chg,
                                            (∀ c1 : List Int,
                                              (∀ e8 : Int,
                                                (((Prod.mk (r8) (Prod.mk (c1) (e8))) = (rebR p q)) →
                                                (brS (sameB r7 r8)
                                                  ((brS (sameB c c1)
                                                    ((K (SV.one (TV.at (At.val (Value.bool (e7 == e8))))) [(Chunk.row false (EC.ent) (l)), (Chunk.row false (EC.ent) (m)), (Chunk.row false (EC.chg) (p)), (Chunk.row false (EC.chg) (q))] []))
                                                    ((K (SV.one (TV.at (At.val (Value.bool false)))) [(Chunk.row false (EC.ent) (l)), (Chunk.row false (EC.ent) (m)), (Chunk.row false (EC.chg) (p)), (Chunk.row false (EC.chg) (q))] []))))
                                                  ((K (SV.one (TV.at (At.val (Value.bool false)))) [(Chunk.row false (EC.ent) (l)), (Chunk.row false (EC.ent) (m)), (Chunk.row false (EC.chg) (p)), (Chunk.row false (EC.chg) (q))] []))))))))))))))))))))))))))))))))))))))))))))))))))))))) = _ by kernel_rfl) ?_
  have fin : ∀ b, b = true → K (.one (.at (vB b))) [.row false EC.ent l, .row false EC.ent m, .row false EC.chg p, .row false EC.chg q] [] := fun b hb => by subst hb; exact h
  refine brS_of (fun _ => h) fun c => ?_
  have hs : l.length ≤ 80 ∧ m.length ≤ 80 ∧ p.length ≤ 80 ∧ q.length ≤ 80 := by
    unfold longB at c
    simp at c
    omega
  obtain ⟨s1, s2, s3, s4⟩ := hs
  clear c
  refine ⟨by omega, fun r e he => ⟨by omega, fun r1 e1 he1 => ?_, fun hp hl => ?_⟩⟩
  · rw [app19R_eq] at he1
    obtain ⟨rfl, rfl⟩ := Prod.mk.inj (he.trans he1.symm)
    have ns : ∀ {α : Type} [DecidableEq α] (z : List α), (!sameB z z) = false := fun z => by rw [sameB_refl]; rfl
    refine ⟨by omega, fun r2 e2 h2 => ⟨by omega, fun r3 e3 h3 => ?_⟩⟩
    obtain ⟨rfl, rfl⟩ := Prod.mk.inj (h2.trans h3.symm)
    refine ⟨bf (by simp) (bf (ns _) (bf (by simp) (bf (ns _) (bf (by simp) ⟨(), by simp⟩)))), fun _ _ => ⟨by omega, fun r4 e4 h4 => ⟨by omega, fun r5 e5 h5 => ?_⟩⟩⟩
    obtain ⟨rfl, rfl⟩ := Prod.mk.inj (h4.trans h5.symm)
    refine ⟨bf (ns _) (bf (by simp) ⟨(), by simp⟩), fun _ _ => ⟨by omega, fun r6 e6 h6 => ⟨by omega, fun r7 e7 h7 => ?_⟩⟩⟩
    obtain ⟨rfl, rfl⟩ := Prod.mk.inj (h6.trans h7.symm)
    refine ⟨bf (ns _) (bf (by simp) ⟨(), by simp⟩), fun _ _ => ⟨by omega, fun r8 c8 e8 h8 => ⟨by omega, fun r9 c9 e9 h9 => ?_⟩⟩⟩
    obtain ⟨rfl, e10⟩ := Prod.mk.inj (h8.trans h9.symm)
    obtain ⟨rfl, rfl⟩ := Prod.mk.inj e10
    exact bt (sameB_refl _) (bt (sameB_refl _) (fin _ (by simp)))
  · rw [← app19R_eq, app19R_nil hp hl] at he
    obtain ⟨rfl, rfl⟩ := Prod.mk.inj he
    have ns : ∀ {α : Type} [DecidableEq α] (z : List α), (!sameB z z) = false := fun z => by rw [sameB_refl]; rfl
    refine ⟨by omega, fun r2 e2 h2 => ⟨by omega, fun r3 e3 h3 => ?_⟩⟩
    obtain ⟨rfl, rfl⟩ := Prod.mk.inj (h2.trans h3.symm)
    refine ⟨bf (by simp) (bf (ns _) (bf (by simp) (bf (ns _) (bf (by simp) ⟨(), by simp⟩)))), fun _ _ => ⟨by omega, fun r4 e4 h4 => ⟨by omega, fun r5 e5 h5 => ?_⟩⟩⟩
    obtain ⟨rfl, rfl⟩ := Prod.mk.inj (h4.trans h5.symm)
    refine ⟨bf (ns _) (bf (by simp) ⟨(), by simp⟩), fun _ _ => ⟨by omega, fun r6 e6 h6 => ⟨by omega, fun r7 e7 h7 => ?_⟩⟩⟩
    obtain ⟨rfl, rfl⟩ := Prod.mk.inj (h6.trans h7.symm)
    refine ⟨bf (ns _) (bf (by simp) ⟨(), by simp⟩), fun _ _ => ⟨by omega, fun r8 c8 e8 h8 => ⟨by omega, fun r9 c9 e9 h9 => ?_⟩⟩⟩
    obtain ⟨rfl, e10⟩ := Prod.mk.inj (h8.trans h9.symm)
    obtain ⟨rfl, rfl⟩ := Prod.mk.inj e10
    exact bt (sameB_refl _) (bt (sameB_refl _) (fin _ (by simp)))
theorem s_agr : SoundT C0 11 tAgr := by
  refine .of Try.func11 (by decide) rfl fun args H K h hB => ?_
  unfold tAgr at h
  split at h <;> try exact h.elim
  rename_i l m p q
  exact ⟨aAgr l m p q, ⟨frame C0.ok s_long _, frame C0.ok s_awake _, frame C0.ok s_app _, frame C0.ok s_app19 _, frame C0.ok s_btw _, frame C0.ok s_btw19R _, frame C0.ok s_valid _, frame C0.ok s_valid19 _, frame C0.ok s_same9 _, frame C0.ok s_same19 _, frame C0.ok s_inv _, frame C0.ok s_inv19 _, frame C0.ok s_comp _, frame C0.ok s_comp19 _, frame C0.ok s_reb _, frame C0.ok s_reb19 _, frame C0.ok s_sameI _, trivial⟩, vc_agr l m p q K h⟩
end Go.Proofs.Ytdgodcamadalhaa.Sx
