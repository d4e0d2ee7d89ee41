/- The law of composing patches. -/
import Derived.Test.YtdgodcamadalhaaSxSa
import Derived.Test.YtdgodcamadalhaaSxRo
namespace Go.Proofs.Ytdgodcamadalhaa.Sx
open Go

noncomputable def aCps : Ann C0 := { Γ := [(22, frameT [] tLists), (24, frameT [] tBtwA), (25, frameT [] tComp), (28, frameT [] tApp), (26, frameT [] tAwake), (27, frameT [] tSame_chg), (29, frameT [] tSame_ent)] }
def tCps : Tfm C0 := fun args H K => match args, H with
  | [.at (.slc 0), .at (.slc 1), .at (.slc 2), .at (.val (.bool s))], [.row false .ent x, .row false .ent y, .row false .ent z] => K (.one (.at (vB true))) [.row false EC.ent x, .row false EC.ent y, .row false EC.ent z] []
  | _, _ => False
theorem bt {b : Bool} {t f : Prop} (h : b = true) (ht : t) : brS b t f := by rw [h]; exact ht
theorem compR_nil_right {l m : List Ent} (hl : Asc l) (hm : Asc m) : compR (btw l m) [] = (btw l m, 0) := by
  have h1 : valB (btw l m) = true := valB_iff.2 (btw_val hl hm)
  have h2 : valB [] = true := rfl
  unfold compR
  rw [h1, h2, comp_nil_right]; rfl
theorem compR_nil_left {l m : List Ent} (hl : Asc l) (hm : Asc m) : compR [] (btw l m) = (btw l m, 0) := by
  have h1 : valB (btw l m) = true := valB_iff.2 (btw_val hl hm)
  have h2 : valB [] = true := rfl
  unfold compR
  rw [h1, h2, comp_nil_left]; rfl
theorem appR_btw {l m : List Ent} (hl : Asc l) (hm : Asc m) : appR l (btw l m) = (m, 0) := by
  have h1 : valB (btw l m) = true := valB_iff.2 (btw_val hl hm)
  unfold appR
  rw [h1, asc_b hl, app_btw hl hm]; rfl
theorem vc_cps (x y z : List Ent) (s : Bool) (K : KT) (h : K (.one (.at (vB true))) [.row false EC.ent x, .row false EC.ent y, .row false EC.ent z] []) :
    vc C0 aCps Try.f6 [.at (.slc 0), .at (.slc 1), .at (.slc 2), .at (.val (.bool s))] [.row false EC.ent x, .row false EC.ent y, .row false EC.ent z] (normK 3 K) := by
  refine Eq.mp (show (∀ l : List Ent,
  (∀ m : List Ent,
    (∀ n : List Ent,
      (((Prod.mk (l) (Prod.mk (m) (n))) = (listsE x y z s)) →
      (((l.length + m.length ≤ 1000000) ∧
      (Asc l) ∧
      (Asc m) ∧
      (m.length + n.length ≤ 1000000) ∧
      (Asc m) ∧
      (Asc n) ∧
      (l.length + n.length ≤ 1000000) ∧
      (Asc l) ∧
      (Asc n) ∧
      ((btw l m).length + (btw m n).length ≤ 1000000) ∧
      (∀ r : List Chg,
        (∀ e : Int,
          (((Prod.mk (r) (e)) = (compR (btw l m) (btw m n))) →
          (((btw l m).length + ([] : List Ent).length ≤ 1000000) ∧
          (∀ r1 : List Chg,
            (∀ e1 : Int,
              (((Prod.mk (r1) (e1)) = (compR (btw l m) [])) →
              ((([] : List Ent).length + (btw l m).length ≤ 1000000) ∧
              (∀ r2 : List Chg,
                (∀ e2 : Int,
                  (((Prod.mk (r2) (e2)) = (compR [] (btw l m))) →
                  ((l.length + r.length ≤ 1000000) ∧
                  (∀ r3 : List Ent,
                    (∀ e3 : Int,
                      (((Prod.mk (r3) (e3)) = (appR l r)) →
                      (brS (e == 0)
                        ((brS (e1 == 0)
                          ((brS (e2 == 0)
                            ((brS (e3 == 0)
                              ((brS (sameB r (btw l n))
                                ((brS (sameB r1 (btw l m))
                                  ((brS (sameB r2 (btw l m))
                                    ((K (SV.one (TV.at (At.val (Value.bool (sameB r3 n))))) [(Chunk.row false (EC.ent) (x)), (Chunk.row false (EC.ent) (y)), (Chunk.row false (EC.ent) (z))] []))
                                    ((K (SV.one (TV.at (At.val (Value.bool false)))) [(Chunk.row false (EC.ent) (x)), (Chunk.row false (EC.ent) (y)), (Chunk.row false (EC.ent) (z))] []))))
                                  ((K (SV.one (TV.at (At.val (Value.bool false)))) [(Chunk.row false (EC.ent) (x)), (Chunk.row false (EC.ent) (y)), (Chunk.row false (EC.ent) (z))] []))))
                                ((K (SV.one (TV.at (At.val (Value.bool false)))) [(Chunk.row false (EC.ent) (x)), (Chunk.row false (EC.ent) (y)), (Chunk.row false (EC.ent) (z))] []))))
                              ((K (SV.one (TV.at (At.val (Value.bool false)))) [(Chunk.row false (EC.ent) (x)), (Chunk.row false (EC.ent) (y)), (Chunk.row false (EC.ent) (z))] []))))
                            ((K (SV.one (TV.at (At.val (Value.bool false)))) [(Chunk.row false (EC.ent) (x)), (Chunk.row false (EC.ent) (y)), (Chunk.row false (EC.ent) (z))] []))))
                          ((K (SV.one (TV.at (At.val (Value.bool false)))) [(Chunk.row false (EC.ent) (x)), (Chunk.row false (EC.ent) (y)), (Chunk.row false (EC.ent) (z))] []))))
                        ((K (SV.one (TV.at (At.val (Value.bool false)))) [(Chunk.row false (EC.ent) (x)), (Chunk.row false (EC.ent) (y)), (Chunk.row false (EC.ent) (z))] []))))))))))))))))))) ∧
      (((m) = (l)) →
      ((l.length + l.length ≤ 1000000) ∧
      (Asc l) ∧
      (Asc l) ∧
      (l.length + n.length ≤ 1000000) ∧
      (Asc l) ∧
      (Asc n) ∧
      (l.length + n.length ≤ 1000000) ∧
      (Asc l) ∧
      (Asc n) ∧
      ((btw l l).length + (btw l n).length ≤ 1000000) ∧
      (∀ r : List Chg,
        (∀ e : Int,
          (((Prod.mk (r) (e)) = (compR (btw l l) (btw l n))) →
          (((btw l l).length + ([] : List Ent).length ≤ 1000000) ∧
          (∀ r1 : List Chg,
            (∀ e1 : Int,
              (((Prod.mk (r1) (e1)) = (compR (btw l l) [])) →
              ((([] : List Ent).length + (btw l l).length ≤ 1000000) ∧
              (∀ r2 : List Chg,
                (∀ e2 : Int,
                  (((Prod.mk (r2) (e2)) = (compR [] (btw l l))) →
                  ((l.length + r.length ≤ 1000000) ∧
                  (∀ r3 : List Ent,
                    (∀ e3 : Int,
                      (((Prod.mk (r3) (e3)) = (appR l r)) →
                      (brS (e == 0)
                        ((brS (e1 == 0)
                          ((brS (e2 == 0)
                            ((brS (e3 == 0)
                              ((brS (sameB r (btw l n))
                                ((brS (sameB r1 (btw l l))
                                  ((brS (sameB r2 (btw l l))
                                    ((K (SV.one (TV.at (At.val (Value.bool (sameB r3 n))))) [(Chunk.row false (EC.ent) (x)), (Chunk.row false (EC.ent) (y)), (Chunk.row false (EC.ent) (z))] []))
                                    ((K (SV.one (TV.at (At.val (Value.bool false)))) [(Chunk.row false (EC.ent) (x)), (Chunk.row false (EC.ent) (y)), (Chunk.row false (EC.ent) (z))] []))))
                                  ((K (SV.one (TV.at (At.val (Value.bool false)))) [(Chunk.row false (EC.ent) (x)), (Chunk.row false (EC.ent) (y)), (Chunk.row false (EC.ent) (z))] []))))
                                ((K (SV.one (TV.at (At.val (Value.bool false)))) [(Chunk.row false (EC.ent) (x)), (Chunk.row false (EC.ent) (y)), (Chunk.row false (EC.ent) (z))] []))))
                              ((K (SV.one (TV.at (At.val (Value.bool false)))) [(Chunk.row false (EC.ent) (x)), (Chunk.row false (EC.ent) (y)), (Chunk.row false (EC.ent) (z))] []))))
                            ((K (SV.one (TV.at (At.val (Value.bool false)))) [(Chunk.row false (EC.ent) (x)), (Chunk.row false (EC.ent) (y)), (Chunk.row false (EC.ent) (z))] []))))
                          ((K (SV.one (TV.at (At.val (Value.bool false)))) [(Chunk.row false (EC.ent) (x)), (Chunk.row false (EC.ent) (y)), (Chunk.row false (EC.ent) (z))] []))))
                        ((K (SV.one (TV.at (At.val (Value.bool false)))) [(Chunk.row false (EC.ent) (x)), (Chunk.row false (EC.ent) (y)), (Chunk.row false (EC.ent) (z))] [])))))))))))))))))))) ∧
      (((n) = (l)) →
      ((l.length + m.length ≤ 1000000) ∧
      (Asc l) ∧
      (Asc m) ∧
      (m.length + l.length ≤ 1000000) ∧
      (Asc m) ∧
      (Asc l) ∧
      (l.length + l.length ≤ 1000000) ∧
      (Asc l) ∧
      (Asc l) ∧
      ((btw l m).length + (btw m l).length ≤ 1000000) ∧
      (∀ r : List Chg,
        (∀ e : Int,
          (((Prod.mk (r) (e)) = (compR (btw l m) (btw m l))) →
          (((btw l m).length + ([] : List Ent).length ≤ 1000000) ∧
          (∀ r1 : List Chg,
            (∀ e1 : Int,
              (((Prod.mk (r1) (e1)) = (compR (btw l m) [])) →
              ((([] : List Ent).length + (btw l m).length ≤ 1000000) ∧
              (∀ r2 : List Chg,
                (∀ e2 : Int,
                  (((Prod.mk (r2) (e2)) = (compR [] (btw l m))) →
                  ((l.length + r.length ≤ 1000000) ∧
                  (∀ r3 : List Ent,
                    (∀ e3 : Int,
                      (((Prod.mk (r3) (e3)) = (appR l r)) →
                      (brS (e == 0)
                        ((brS (e1 == 0)
                          ((brS (e2 == 0)
                            ((brS (e3 == 0)
                              ((brS (sameB r (btw l l))
                                ((brS (sameB r1 (btw l m))
                                  ((brS (sameB r2 (btw l m))
                                    ((K (SV.one (TV.at (At.val (Value.bool (sameB r3 l))))) [(Chunk.row false (EC.ent) (x)), (Chunk.row false (EC.ent) (y)), (Chunk.row false (EC.ent) (z))] []))
                                    ((K (SV.one (TV.at (At.val (Value.bool false)))) [(Chunk.row false (EC.ent) (x)), (Chunk.row false (EC.ent) (y)), (Chunk.row false (EC.ent) (z))] []))))
                                  ((K (SV.one (TV.at (At.val (Value.bool false)))) [(Chunk.row false (EC.ent) (x)), (Chunk.row false (EC.ent) (y)), (Chunk.row false (EC.ent) (z))] []))))
                                ((K (SV.one (TV.at (At.val (Value.bool false)))) [(Chunk.row false (EC.ent) (x)), (Chunk.row false (EC.ent) (y)), (Chunk.row false (EC.ent) (z))] []))))
                              ((K (SV.one (TV.at (At.val (Value.bool false)))) [(Chunk.row false (EC.ent) (x)), (Chunk.row false (EC.ent) (y)), (Chunk.row false (EC.ent) (z))] []))))
                            ((K (SV.one (TV.at (At.val (Value.bool false)))) [(Chunk.row false (EC.ent) (x)), (Chunk.row false (EC.ent) (y)), (Chunk.row false (EC.ent) (z))] []))))
                          ((K (SV.one (TV.at (At.val (Value.bool false)))) [(Chunk.row false (EC.ent) (x)), (Chunk.row false (EC.ent) (y)), (Chunk.row false (EC.ent) (z))] []))))
                        ((K (SV.one (TV.at (At.val (Value.bool false)))) [(Chunk.row false (EC.ent) (x)), (Chunk.row false (EC.ent) (y)), (Chunk.row false (EC.ent) (z))] [])))))))))))))))))))) ∧
      (((m) = (l)) →
      (((n) = (l)) →
      ((l.length + l.length ≤ 1000000) ∧
      (Asc l) ∧
      (Asc l) ∧
      (l.length + l.length ≤ 1000000) ∧
      (Asc l) ∧
      (Asc l) ∧
      (l.length + l.length ≤ 1000000) ∧
      (Asc l) ∧
      (Asc l) ∧
      ((btw l l).length + (btw l l).length ≤ 1000000) ∧
      (∀ r : List Chg,
        (∀ e : Int,
          (((Prod.mk (r) (e)) = (compR (btw l l) (btw l l))) →
          (((btw l l).length + ([] : List Ent).length ≤ 1000000) ∧
          (∀ r1 : List Chg,
            (∀ e1 : Int,
              (((Prod.mk (r1) (e1)) = (compR (btw l l) [])) →
              ((([] : List Ent).length + (btw l l).length ≤ 1000000) ∧
              (∀ r2 : List Chg,
                (∀ e2 : Int,
                  (((Prod.mk (r2) (e2)) = (compR [] (btw l l))) →
                  ((l.length + r.length ≤ 1000000) ∧
                  (∀ r3 : List Ent,
                    (∀ e3 : Int,
                      (((Prod.mk (r3) (e3)) = (appR l r)) →
                      (brS (e == 0)
                        ((brS (e1 == 0)
                          ((brS (e2 == 0)
                            ((brS (e3 == 0)
                              ((brS (sameB r (btw l l))
                                ((brS (sameB r1 (btw l l))
                                  ((brS (sameB r2 (btw l l))
                                    ((K (SV.one (TV.at (At.val (Value.bool (sameB r3 l))))) [(Chunk.row false (EC.ent) (x)), (Chunk.row false (EC.ent) (y)), (Chunk.row false (EC.ent) (z))] []))
                                    ((K (SV.one (TV.at (At.val (Value.bool false)))) [(Chunk.row false (EC.ent) (x)), (Chunk.row false (EC.ent) (y)), (Chunk.row false (EC.ent) (z))] []))))
                                  ((K (SV.one (TV.at (At.val (Value.bool false)))) [(Chunk.row false (EC.ent) (x)), (Chunk.row false (EC.ent) (y)), (Chunk.row false (EC.ent) (z))] []))))
                                ((K (SV.one (TV.at (At.val (Value.bool false)))) [(Chunk.row false (EC.ent) (x)), (Chunk.row false (EC.ent) (y)), (Chunk.row false (EC.ent) (z))] []))))
                              ((K (SV.one (TV.at (At.val (Value.bool false)))) [(Chunk.row false (EC.ent) (x)), (Chunk.row false (EC.ent) (y)), (Chunk.row false (EC.ent) (z))] []))))
                            ((K (SV.one (TV.at (At.val (Value.bool false)))) [(Chunk.row false (EC.ent) (x)), (Chunk.row false (EC.ent) (y)), (Chunk.row false (EC.ent) (z))] []))))
                          ((K (SV.one (TV.at (At.val (Value.bool false)))) [(Chunk.row false (EC.ent) (x)), (Chunk.row false (EC.ent) (y)), (Chunk.row false (EC.ent) (z))] []))))
                        ((K (SV.one (TV.at (At.val (Value.bool false)))) [(Chunk.row false (EC.ent) (x)), (Chunk.row false (EC.ent) (y)), (Chunk.row false (EC.ent) (z))] [])))))))))))))))))))))))))) = _ by kernel_rfl) ?_
  intro l m n e
  obtain ⟨h1, h2, h3⟩ := listsE_spec e
  have fin : ∀ b, b = true → K (.one (.at (vB b))) [.row false EC.ent x, .row false EC.ent y, .row false EC.ent z] [] := fun b hb => by subst hb; exact h
  refine ⟨?_, fun _ => ?_, fun _ => ?_, fun _ _ => ?_⟩
  · refine ⟨by omega, h1.1, h2.1, by omega, h2.1, h3.1, by omega, h1.1, h3.1, Nat.le_trans (Nat.add_le_add (bl h1 h2) (bl h2 h3)) (by decide), fun r e he => ?_⟩
    rw [compR_btw h1.1 h2.1 h3.1] at he
    obtain ⟨rfl, rfl⟩ := Prod.mk.inj he
    refine ⟨Nat.le_trans (bl h1 h2) (by decide), fun r1 e1 he1 => ?_⟩
    rw [compR_nil_right h1.1 h2.1] at he1
    obtain ⟨rfl, rfl⟩ := Prod.mk.inj he1
    refine ⟨by rw [List.length_nil, Nat.zero_add]; exact Nat.le_trans (bl h1 h2) (by decide), fun r2 e2 he2 => ?_⟩
    rw [compR_nil_left h1.1 h2.1] at he2
    obtain ⟨rfl, rfl⟩ := Prod.mk.inj he2
    refine ⟨Nat.le_trans (Nat.add_le_add h1.2 (bl h1 h3)) (by decide), fun r3 e3 he3 => ?_⟩
    rw [appR_btw h1.1 h3.1] at he3
    obtain ⟨rfl, rfl⟩ := Prod.mk.inj he3
    exact bt rfl (bt rfl (bt rfl (bt rfl (bt (sameB_refl _) (bt (sameB_refl _) (bt (sameB_refl _) (fin _ (sameB_refl _))))))))
  · refine ⟨by omega, h1.1, h1.1, by omega, h1.1, h3.1, by omega, h1.1, h3.1, Nat.le_trans (Nat.add_le_add (bl h1 h1) (bl h1 h3)) (by decide), fun r e he => ?_⟩
    rw [compR_btw h1.1 h1.1 h3.1] at he
    obtain ⟨rfl, rfl⟩ := Prod.mk.inj he
    refine ⟨Nat.le_trans (bl h1 h1) (by decide), fun r1 e1 he1 => ?_⟩
    rw [compR_nil_right h1.1 h1.1] at he1
    obtain ⟨rfl, rfl⟩ := Prod.mk.inj he1
    refine ⟨by rw [List.length_nil, Nat.zero_add]; exact Nat.le_trans (bl h1 h1) (by decide), fun r2 e2 he2 => ?_⟩
    rw [compR_nil_left h1.1 h1.1] at he2
    obtain ⟨rfl, rfl⟩ := Prod.mk.inj he2
    refine ⟨Nat.le_trans (Nat.add_le_add h1.2 (bl h1 h3)) (by decide), fun r3 e3 he3 => ?_⟩
    rw [appR_btw h1.1 h3.1] at he3
    obtain ⟨rfl, rfl⟩ := Prod.mk.inj he3
    exact bt rfl (bt rfl (bt rfl (bt rfl (bt (sameB_refl _) (bt (sameB_refl _) (bt (sameB_refl _) (fin _ (sameB_refl _))))))))
  · refine ⟨by omega, h1.1, h2.1, by omega, h2.1, h1.1, by omega, h1.1, h1.1, Nat.le_trans (Nat.add_le_add (bl h1 h2) (bl h2 h1)) (by decide), fun r e he => ?_⟩
    rw [compR_btw h1.1 h2.1 h1.1] at he
    obtain ⟨rfl, rfl⟩ := Prod.mk.inj he
    refine ⟨Nat.le_trans (bl h1 h2) (by decide), fun r1 e1 he1 => ?_⟩
    rw [compR_nil_right h1.1 h2.1] at he1
    obtain ⟨rfl, rfl⟩ := Prod.mk.inj he1
    refine ⟨by rw [List.length_nil, Nat.zero_add]; exact Nat.le_trans (bl h1 h2) (by decide), fun r2 e2 he2 => ?_⟩
    rw [compR_nil_left h1.1 h2.1] at he2
    obtain ⟨rfl, rfl⟩ := Prod.mk.inj he2
    refine ⟨Nat.le_trans (Nat.add_le_add h1.2 (bl h1 h1)) (by decide), fun r3 e3 he3 => ?_⟩
    rw [appR_btw h1.1 h1.1] at he3
    obtain ⟨rfl, rfl⟩ := Prod.mk.inj he3
    exact bt rfl (bt rfl (bt rfl (bt rfl (bt (sameB_refl _) (bt (sameB_refl _) (bt (sameB_refl _) (fin _ (sameB_refl _))))))))
  · refine ⟨by omega, h1.1, h1.1, by omega, h1.1, h1.1, by omega, h1.1, h1.1, Nat.le_trans (Nat.add_le_add (bl h1 h1) (bl h1 h1)) (by decide), fun r e he => ?_⟩
    rw [compR_btw h1.1 h1.1 h1.1] at he
    obtain ⟨rfl, rfl⟩ := Prod.mk.inj he
    refine ⟨Nat.le_trans (bl h1 h1) (by decide), fun r1 e1 he1 => ?_⟩
    rw [compR_nil_right h1.1 h1.1] at he1
    obtain ⟨rfl, rfl⟩ := Prod.mk.inj he1
    refine ⟨by rw [List.length_nil, Nat.zero_add]; exact Nat.le_trans (bl h1 h1) (by decide), fun r2 e2 he2 => ?_⟩
    rw [compR_nil_left h1.1 h1.1] at he2
    obtain ⟨rfl, rfl⟩ := Prod.mk.inj he2
    refine ⟨Nat.le_trans (Nat.add_le_add h1.2 (bl h1 h1)) (by decide), fun r3 e3 he3 => ?_⟩
    rw [appR_btw h1.1 h1.1] at he3
    obtain ⟨rfl, rfl⟩ := Prod.mk.inj he3
    exact bt rfl (bt rfl (bt rfl (bt rfl (bt (sameB_refl _) (bt (sameB_refl _) (bt (sameB_refl _) (fin _ (sameB_refl _))))))))
theorem s_cps : SoundT C0 6 tCps := by
  refine .of Try.func6 (by decide) rfl fun args H K h hB => ?_
  unfold tCps at h
  split at h <;> try exact h.elim
  rename_i s x y z
  exact ⟨aCps, ⟨frame C0.ok s_lists _, frame C0.ok s_btwA _, frame C0.ok s_comp _, frame C0.ok s_app _, frame C0.ok s_awake _, frame C0.ok s_same19 _, frame C0.ok s_same9 _, trivial⟩, vc_cps x y z s K h⟩
end Go.Proofs.Ytdgodcamadalhaa.Sx
