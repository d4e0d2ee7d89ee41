/- The law of inverting patches. -/
import Derived.Test.YtdgodcamadalhaaSxSb
import Derived.Test.YtdgodcamadalhaaSxRn
namespace Go.Proofs.Ytdgodcamadalhaa.Sx
open Go

noncomputable def aIvs : Ann C0 := { Γ := [(22, frameT [] tLists), (24, frameT [] tBtwA), (25, frameT [] tComp), (28, frameT [] tApp), (33, frameT [] tInv), (26, frameT [] tAwake), (27, frameT [] tSame_chg), (29, frameT [] tSame_ent)] }
def tIvs : Tfm C0 := fun args H K => match args, H with
  | [.at (.slc 0), .at (.slc 1), .at (.val (.bool s))], [.row false .ent x, .row false .ent y] => K (.one (.at (vB true))) [.row false EC.ent x, .row false EC.ent y] []
  | _, _ => False
theorem invR_btw {l m : List Ent} (hl : Asc l) (hm : Asc m) : invR (btw l m) = (btw m l, 0) := by
  have h1 : valB (btw l m) = true := valB_iff.2 (btw_val hl hm)
  unfold invR
  rw [h1, inv_btw hl hm]; rfl
theorem vc_ivs (x y : List Ent) (s : Bool) (K : KT) (h : K (.one (.at (vB true))) [.row false EC.ent x, .row false EC.ent y] []) :
    vc C0 aIvs Try.f8 [.at (.slc 0), .at (.slc 1), .at (.val (.bool s))] [.row false EC.ent x, .row false EC.ent y] (normK 2 K) := by
  refine Eq.mp (show (∀ l : List Ent,
  (∀ m : List Ent,
    (∀ n : List Ent,
      (((Prod.mk (l) (Prod.mk (m) (n))) = (listsE x y [] s)) →
      (((l.length + m.length ≤ 1000000) ∧
      (Asc l) ∧
      (Asc m) ∧
      ((btw l m).length ≤ 1000000) ∧
      (∀ r : List Chg,
        (∀ e : Int,
          (((Prod.mk (r) (e)) = (invR (btw l m))) →
          ((r.length ≤ 1000000) ∧
          (∀ r1 : List Chg,
            (∀ e1 : Int,
              (((Prod.mk (r1) (e1)) = (invR r)) →
              ((m.length + r.length ≤ 1000000) ∧
              (∀ r2 : List Ent,
                (∀ e2 : Int,
                  (((Prod.mk (r2) (e2)) = (appR m r)) →
                  (((btw l m).length + r.length ≤ 1000000) ∧
                  (∀ r3 : List Chg,
                    (∀ e3 : Int,
                      (((Prod.mk (r3) (e3)) = (compR (btw l m) r)) →
                      (brS (e == 0)
                        ((brS (e1 == 0)
                          ((brS (e2 == 0)
                            ((brS (e3 == 0)
                              ((brS (sameB r1 (btw l m))
                                ((brS (sameB r2 l)
                                  ((K (SV.one (TV.at (At.val (Value.bool ((↑r3.length : Int) == 0))))) [(Chunk.row false (EC.ent) (x)), (Chunk.row false (EC.ent) (y))] []))
                                  ((K (SV.one (TV.at (At.val (Value.bool false)))) [(Chunk.row false (EC.ent) (x)), (Chunk.row false (EC.ent) (y))] []))))
                                ((K (SV.one (TV.at (At.val (Value.bool false)))) [(Chunk.row false (EC.ent) (x)), (Chunk.row false (EC.ent) (y))] []))))
                              ((K (SV.one (TV.at (At.val (Value.bool false)))) [(Chunk.row false (EC.ent) (x)), (Chunk.row false (EC.ent) (y))] []))))
                            ((K (SV.one (TV.at (At.val (Value.bool false)))) [(Chunk.row false (EC.ent) (x)), (Chunk.row false (EC.ent) (y))] []))))
                          ((K (SV.one (TV.at (At.val (Value.bool false)))) [(Chunk.row false (EC.ent) (x)), (Chunk.row false (EC.ent) (y))] []))))
                        ((K (SV.one (TV.at (At.val (Value.bool false)))) [(Chunk.row false (EC.ent) (x)), (Chunk.row false (EC.ent) (y))] []))))))))))))))))))) ∧
      (((m) = (l)) →
      ((l.length + l.length ≤ 1000000) ∧
      (Asc l) ∧
      (Asc l) ∧
      ((btw l l).length ≤ 1000000) ∧
      (∀ r : List Chg,
        (∀ e : Int,
          (((Prod.mk (r) (e)) = (invR (btw l l))) →
          ((r.length ≤ 1000000) ∧
          (∀ r1 : List Chg,
            (∀ e1 : Int,
              (((Prod.mk (r1) (e1)) = (invR r)) →
              ((l.length + r.length ≤ 1000000) ∧
              (∀ r2 : List Ent,
                (∀ e2 : Int,
                  (((Prod.mk (r2) (e2)) = (appR l r)) →
                  (((btw l l).length + r.length ≤ 1000000) ∧
                  (∀ r3 : List Chg,
                    (∀ e3 : Int,
                      (((Prod.mk (r3) (e3)) = (compR (btw l l) r)) →
                      (brS (e == 0)
                        ((brS (e1 == 0)
                          ((brS (e2 == 0)
                            ((brS (e3 == 0)
                              ((brS (sameB r1 (btw l l))
                                ((brS (sameB r2 l)
                                  ((K (SV.one (TV.at (At.val (Value.bool ((↑r3.length : Int) == 0))))) [(Chunk.row false (EC.ent) (x)), (Chunk.row false (EC.ent) (y))] []))
                                  ((K (SV.one (TV.at (At.val (Value.bool false)))) [(Chunk.row false (EC.ent) (x)), (Chunk.row false (EC.ent) (y))] []))))
                                ((K (SV.one (TV.at (At.val (Value.bool false)))) [(Chunk.row false (EC.ent) (x)), (Chunk.row false (EC.ent) (y))] []))))
                              ((K (SV.one (TV.at (At.val (Value.bool false)))) [(Chunk.row false (EC.ent) (x)), (Chunk.row false (EC.ent) (y))] []))))
                            ((K (SV.one (TV.at (At.val (Value.bool false)))) [(Chunk.row false (EC.ent) (x)), (Chunk.row false (EC.ent) (y))] []))))
                          ((K (SV.one (TV.at (At.val (Value.bool false)))) [(Chunk.row false (EC.ent) (x)), (Chunk.row false (EC.ent) (y))] []))))
                        ((K (SV.one (TV.at (At.val (Value.bool false)))) [(Chunk.row false (EC.ent) (x)), (Chunk.row false (EC.ent) (y))] [])))))))))))))))))))) ∧
      (((n) = (l)) →
      ((l.length + m.length ≤ 1000000) ∧
      (Asc l) ∧
      (Asc m) ∧
      ((btw l m).length ≤ 1000000) ∧
      (∀ r : List Chg,
        (∀ e : Int,
          (((Prod.mk (r) (e)) = (invR (btw l m))) →
          ((r.length ≤ 1000000) ∧
          (∀ r1 : List Chg,
            (∀ e1 : Int,
              (((Prod.mk (r1) (e1)) = (invR r)) →
              ((m.length + r.length ≤ 1000000) ∧
              (∀ r2 : List Ent,
                (∀ e2 : Int,
                  (((Prod.mk (r2) (e2)) = (appR m r)) →
                  (((btw l m).length + r.length ≤ 1000000) ∧
                  (∀ r3 : List Chg,
                    (∀ e3 : Int,
                      (((Prod.mk (r3) (e3)) = (compR (btw l m) r)) →
                      (brS (e == 0)
                        ((brS (e1 == 0)
                          ((brS (e2 == 0)
                            ((brS (e3 == 0)
                              ((brS (sameB r1 (btw l m))
                                ((brS (sameB r2 l)
                                  ((K (SV.one (TV.at (At.val (Value.bool ((↑r3.length : Int) == 0))))) [(Chunk.row false (EC.ent) (x)), (Chunk.row false (EC.ent) (y))] []))
                                  ((K (SV.one (TV.at (At.val (Value.bool false)))) [(Chunk.row false (EC.ent) (x)), (Chunk.row false (EC.ent) (y))] []))))
                                ((K (SV.one (TV.at (At.val (Value.bool false)))) [(Chunk.row false (EC.ent) (x)), (Chunk.row false (EC.ent) (y))] []))))
                              ((K (SV.one (TV.at (At.val (Value.bool false)))) [(Chunk.row false (EC.ent) (x)), (Chunk.row false (EC.ent) (y))] []))))
                            ((K (SV.one (TV.at (At.val (Value.bool false)))) [(Chunk.row false (EC.ent) (x)), (Chunk.row false (EC.ent) (y))] []))))
                          ((K (SV.one (TV.at (At.val (Value.bool false)))) [(Chunk.row false (EC.ent) (x)), (Chunk.row false (EC.ent) (y))] []))))
                        ((K (SV.one (TV.at (At.val (Value.bool false)))) [(Chunk.row false (EC.ent) (x)), (Chunk.row false (EC.ent) (y))] [])))))))))))))))))))) ∧
      (((m) = (l)) →
      (((n) = (l)) →
      ((l.length + l.length ≤ 1000000) ∧
      (Asc l) ∧
      (Asc l) ∧
      ((btw l l).length ≤ 1000000) ∧
      (∀ r : List Chg,
        (∀ e : Int,
          (((Prod.mk (r) (e)) = (invR (btw l l))) →
          ((r.length ≤ 1000000) ∧
          (∀ r1 : List Chg,
            (∀ e1 : Int,
              (((Prod.mk (r1) (e1)) = (invR r)) →
              ((l.length + r.length ≤ 1000000) ∧
              (∀ r2 : List Ent,
                (∀ e2 : Int,
                  (((Prod.mk (r2) (e2)) = (appR l r)) →
                  (((btw l l).length + r.length ≤ 1000000) ∧
                  (∀ r3 : List Chg,
                    (∀ e3 : Int,
                      (((Prod.mk (r3) (e3)) = (compR (btw l l) r)) →
                      (brS (e == 0)
                        ((brS (e1 == 0)
                          ((brS (e2 == 0)
                            ((brS (e3 == 0)
                              ((brS (sameB r1 (btw l l))
                                ((brS (sameB r2 l)
                                  ((K (SV.one (TV.at (At.val (Value.bool ((↑r3.length : Int) == 0))))) [(Chunk.row false (EC.ent) (x)), (Chunk.row false (EC.ent) (y))] []))
                                  ((K (SV.one (TV.at (At.val (Value.bool false)))) [(Chunk.row false (EC.ent) (x)), (Chunk.row false (EC.ent) (y))] []))))
                                ((K (SV.one (TV.at (At.val (Value.bool false)))) [(Chunk.row false (EC.ent) (x)), (Chunk.row false (EC.ent) (y))] []))))
                              ((K (SV.one (TV.at (At.val (Value.bool false)))) [(Chunk.row false (EC.ent) (x)), (Chunk.row false (EC.ent) (y))] []))))
                            ((K (SV.one (TV.at (At.val (Value.bool false)))) [(Chunk.row false (EC.ent) (x)), (Chunk.row false (EC.ent) (y))] []))))
                          ((K (SV.one (TV.at (At.val (Value.bool false)))) [(Chunk.row false (EC.ent) (x)), (Chunk.row false (EC.ent) (y))] []))))
                        ((K (SV.one (TV.at (At.val (Value.bool false)))) [(Chunk.row false (EC.ent) (x)), (Chunk.row false (EC.ent) (y))] [])))))))))))))))))))))))))) = _ by kernel_rfl) ?_
  intro l m n e
  obtain ⟨h1, h2, h3⟩ := listsE_spec e
  have fin : ∀ b, b = true → K (.one (.at (vB b))) [.row false EC.ent x, .row false EC.ent y] [] := fun b hb => by subst hb; exact h
  refine ⟨?_, fun _ => ?_, fun _ => ?_, fun _ _ => ?_⟩
  · refine ⟨by omega, h1.1, h2.1, Nat.le_trans (bl h1 h2) (by decide), fun r e he => ?_⟩
    rw [invR_btw h1.1 h2.1] at he
    obtain ⟨rfl, rfl⟩ := Prod.mk.inj he
    refine ⟨Nat.le_trans (bl h2 h1) (by decide), fun r1 e1 he1 => ?_⟩
    rw [invR_btw h2.1 h1.1] at he1
    obtain ⟨rfl, rfl⟩ := Prod.mk.inj he1
    refine ⟨Nat.le_trans (Nat.add_le_add h2.2 (bl h2 h1)) (by decide), fun r2 e2 he2 => ?_⟩
    rw [appR_btw h2.1 h1.1] at he2
    obtain ⟨rfl, rfl⟩ := Prod.mk.inj he2
    refine ⟨Nat.le_trans (Nat.add_le_add (bl h1 h2) (bl h2 h1)) (by decide), fun r3 e3 he3 => ?_⟩
    rw [compR_btw h1.1 h2.1 h1.1] at he3
    obtain ⟨rfl, rfl⟩ := Prod.mk.inj he3
    exact bt rfl (bt rfl (bt rfl (bt rfl (bt (sameB_refl _) (bt (sameB_refl _) (fin _ (by rw [(btw_nil h1.1 h1.1).2 rfl]; rfl)))))))
  · refine ⟨by omega, h1.1, h1.1, Nat.le_trans (bl h1 h1) (by decide), fun r e he => ?_⟩
    rw [invR_btw h1.1 h1.1] at he
    obtain ⟨rfl, rfl⟩ := Prod.mk.inj he
    refine ⟨Nat.le_trans (bl h1 h1) (by decide), fun r1 e1 he1 => ?_⟩
    rw [invR_btw h1.1 h1.1] at he1
    obtain ⟨rfl, rfl⟩ := Prod.mk.inj he1
    refine ⟨Nat.le_trans (Nat.add_le_add h1.2 (bl h1 h1)) (by decide), fun r2 e2 he2 => ?_⟩
    rw [appR_btw h1.1 h1.1] at he2
    obtain ⟨rfl, rfl⟩ := Prod.mk.inj he2
    refine ⟨Nat.le_trans (Nat.add_le_add (bl h1 h1) (bl h1 h1)) (by decide), fun r3 e3 he3 => ?_⟩
    rw [compR_btw h1.1 h1.1 h1.1] at he3
    obtain ⟨rfl, rfl⟩ := Prod.mk.inj he3
    exact bt rfl (bt rfl (bt rfl (bt rfl (bt (sameB_refl _) (bt (sameB_refl _) (fin _ (by rw [(btw_nil h1.1 h1.1).2 rfl]; rfl)))))))
  · refine ⟨by omega, h1.1, h2.1, Nat.le_trans (bl h1 h2) (by decide), fun r e he => ?_⟩
    rw [invR_btw h1.1 h2.1] at he
    obtain ⟨rfl, rfl⟩ := Prod.mk.inj he
    refine ⟨Nat.le_trans (bl h2 h1) (by decide), fun r1 e1 he1 => ?_⟩
    rw [invR_btw h2.1 h1.1] at he1
    obtain ⟨rfl, rfl⟩ := Prod.mk.inj he1
    refine ⟨Nat.le_trans (Nat.add_le_add h2.2 (bl h2 h1)) (by decide), fun r2 e2 he2 => ?_⟩
    rw [appR_btw h2.1 h1.1] at he2
    obtain ⟨rfl, rfl⟩ := Prod.mk.inj he2
    refine ⟨Nat.le_trans (Nat.add_le_add (bl h1 h2) (bl h2 h1)) (by decide), fun r3 e3 he3 => ?_⟩
    rw [compR_btw h1.1 h2.1 h1.1] at he3
    obtain ⟨rfl, rfl⟩ := Prod.mk.inj he3
    exact bt rfl (bt rfl (bt rfl (bt rfl (bt (sameB_refl _) (bt (sameB_refl _) (fin _ (by rw [(btw_nil h1.1 h1.1).2 rfl]; rfl)))))))
  · refine ⟨by omega, h1.1, h1.1, Nat.le_trans (bl h1 h1) (by decide), fun r e he => ?_⟩
    rw [invR_btw h1.1 h1.1] at he
    obtain ⟨rfl, rfl⟩ := Prod.mk.inj he
    refine ⟨Nat.le_trans (bl h1 h1) (by decide), fun r1 e1 he1 => ?_⟩
    rw [invR_btw h1.1 h1.1] at he1
    obtain ⟨rfl, rfl⟩ := Prod.mk.inj he1
    refine ⟨Nat.le_trans (Nat.add_le_add h1.2 (bl h1 h1)) (by decide), fun r2 e2 he2 => ?_⟩
    rw [appR_btw h1.1 h1.1] at he2
    obtain ⟨rfl, rfl⟩ := Prod.mk.inj he2
    refine ⟨Nat.le_trans (Nat.add_le_add (bl h1 h1) (bl h1 h1)) (by decide), fun r3 e3 he3 => ?_⟩
    rw [compR_btw h1.1 h1.1 h1.1] at he3
    obtain ⟨rfl, rfl⟩ := Prod.mk.inj he3
    exact bt rfl (bt rfl (bt rfl (bt rfl (bt (sameB_refl _) (bt (sameB_refl _) (fin _ (by rw [(btw_nil h1.1 h1.1).2 rfl]; rfl)))))))
theorem s_ivs : SoundT C0 8 tIvs := by
  refine .of Try.func8 (by decide) rfl fun args H K h hB => ?_
  unfold tIvs at h
  split at h <;> try exact h.elim
  rename_i s x y
  exact ⟨aIvs, ⟨frame C0.ok s_lists _, frame C0.ok s_btwA _, frame C0.ok s_comp _, frame C0.ok s_app _, frame C0.ok s_inv _, frame C0.ok s_awake _, frame C0.ok s_same19 _, frame C0.ok s_same9 _, trivial⟩, vc_ivs x y s K h⟩
end Go.Proofs.Ytdgodcamadalhaa.Sx
