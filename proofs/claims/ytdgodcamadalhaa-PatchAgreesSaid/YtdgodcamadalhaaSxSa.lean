/- The law of composing three patches. -/
import Derived.Test.YtdgodcamadalhaaSxRm
namespace Go.Proofs.Ytdgodcamadalhaa.Sx
open Go

noncomputable def aAss : Ann C0 := { Γ := [(22, frameT [] tLists), (23, frameT [] tLst), (24, frameT [] tBtwA), (25, frameT [] tComp), (26, frameT [] tAwake), (27, frameT [] tSame_chg)] }
def tAss : Tfm C0 := fun args H K => match args, H with
  | [.at (.slc 0), .at (.slc 1), .at (.slc 2), .at (.slc 3), .at (.val (.bool s))], [.row false .ent w, .row false .ent x, .row false .ent y, .row false .ent z] => K (.one (.at (vB true))) [.row false EC.ent w, .row false EC.ent x, .row false EC.ent y, .row false EC.ent z] []
  | _, _ => False
theorem sameB_refl {α : Type} [DecidableEq α] (l : List α) : sameB l l = true := by simp [sameB]
theorem bl {l m : List Ent} (h1 : Asc l ∧ l.length ≤ 50) (h2 : Asc m ∧ m.length ≤ 50) : (btw l m).length ≤ 100 := by
  have := btw_len h1.1 h2.1; omega
theorem vc_ass (w x y z : List Ent) (s : Bool) (K : KT) (h : K (.one (.at (vB true))) [.row false EC.ent w, .row false EC.ent x, .row false EC.ent y, .row false EC.ent z] []) :
    vc C0 aAss Try.f5 [.at (.slc 0), .at (.slc 1), .at (.slc 2), .at (.slc 3), .at (.val (.bool s))] [.row false EC.ent w, .row false EC.ent x, .row false EC.ent y, .row false EC.ent z] (normK 4 K) := by
  refine Eq.mp (show (∀ l : List Ent,
  (∀ m : List Ent,
    (∀ n : List Ent,
      (((Prod.mk (l) (Prod.mk (m) (n))) = (listsE w x y s)) →
      ((((0 : Int) ≤ 40) ∧
      ((40 : Int) ≤ 1000000) ∧
      (l.length + m.length ≤ 1000000) ∧
      (Asc l) ∧
      (Asc m) ∧
      (m.length + n.length ≤ 1000000) ∧
      (Asc m) ∧
      (Asc n) ∧
      (n.length + (listE z (Int.toNat 40)).length ≤ 1000000) ∧
      (Asc n) ∧
      (Asc (listE z (Int.toNat 40))) ∧
      ((btw l m).length + (btw m n).length ≤ 1000000) ∧
      (∀ r : List Chg,
        (∀ e : Int,
          (((Prod.mk (r) (e)) = (compR (btw l m) (btw m n))) →
          ((r.length + (btw n (listE z (Int.toNat 40))).length ≤ 1000000) ∧
          (∀ r1 : List Chg,
            (∀ e1 : Int,
              (((Prod.mk (r1) (e1)) = (compR r (btw n (listE z (Int.toNat 40))))) →
              (((btw m n).length + (btw n (listE z (Int.toNat 40))).length ≤ 1000000) ∧
              (∀ r2 : List Chg,
                (∀ e2 : Int,
                  (((Prod.mk (r2) (e2)) = (compR (btw m n) (btw n (listE z (Int.toNat 40))))) →
                  (((btw l m).length + r2.length ≤ 1000000) ∧
                  (∀ r3 : List Chg,
                    (∀ e3 : Int,
                      (((Prod.mk (r3) (e3)) = (compR (btw l m) r2)) →
                      (brS (e == 0)
                        ((brS (e1 == 0)
                          ((brS (e2 == 0)
                            ((brS (e3 == 0)
                              ((K (SV.one (TV.at (At.val (Value.bool (sameB r1 r3))))) [(Chunk.row false (EC.ent) (w)), (Chunk.row false (EC.ent) (x)), (Chunk.row false (EC.ent) (y)), (Chunk.row false (EC.ent) (z))] []))
                              ((K (SV.one (TV.at (At.val (Value.bool false)))) [(Chunk.row false (EC.ent) (w)), (Chunk.row false (EC.ent) (x)), (Chunk.row false (EC.ent) (y)), (Chunk.row false (EC.ent) (z))] []))))
                            ((K (SV.one (TV.at (At.val (Value.bool false)))) [(Chunk.row false (EC.ent) (w)), (Chunk.row false (EC.ent) (x)), (Chunk.row false (EC.ent) (y)), (Chunk.row false (EC.ent) (z))] []))))
                          ((K (SV.one (TV.at (At.val (Value.bool false)))) [(Chunk.row false (EC.ent) (w)), (Chunk.row false (EC.ent) (x)), (Chunk.row false (EC.ent) (y)), (Chunk.row false (EC.ent) (z))] []))))
                        ((K (SV.one (TV.at (At.val (Value.bool false)))) [(Chunk.row false (EC.ent) (w)), (Chunk.row false (EC.ent) (x)), (Chunk.row false (EC.ent) (y)), (Chunk.row false (EC.ent) (z))] []))))))))))))))))))) ∧
      (((m) = (l)) →
      (((0 : Int) ≤ 40) ∧
      ((40 : Int) ≤ 1000000) ∧
      (l.length + l.length ≤ 1000000) ∧
      (Asc l) ∧
      (Asc l) ∧
      (l.length + n.length ≤ 1000000) ∧
      (Asc l) ∧
      (Asc n) ∧
      (n.length + (listE z (Int.toNat 40)).length ≤ 1000000) ∧
      (Asc n) ∧
      (Asc (listE z (Int.toNat 40))) ∧
      ((btw l l).length + (btw l n).length ≤ 1000000) ∧
      (∀ r : List Chg,
        (∀ e : Int,
          (((Prod.mk (r) (e)) = (compR (btw l l) (btw l n))) →
          ((r.length + (btw n (listE z (Int.toNat 40))).length ≤ 1000000) ∧
          (∀ r1 : List Chg,
            (∀ e1 : Int,
              (((Prod.mk (r1) (e1)) = (compR r (btw n (listE z (Int.toNat 40))))) →
              (((btw l n).length + (btw n (listE z (Int.toNat 40))).length ≤ 1000000) ∧
              (∀ r2 : List Chg,
                (∀ e2 : Int,
                  (((Prod.mk (r2) (e2)) = (compR (btw l n) (btw n (listE z (Int.toNat 40))))) →
                  (((btw l l).length + r2.length ≤ 1000000) ∧
                  (∀ r3 : List Chg,
                    (∀ e3 : Int,
                      (((Prod.mk (r3) (e3)) = (compR (btw l l) r2)) →
                      (brS (e == 0)
                        ((brS (e1 == 0)
                          ((brS (e2 == 0)
                            ((brS (e3 == 0)
                              ((K (SV.one (TV.at (At.val (Value.bool (sameB r1 r3))))) [(Chunk.row false (EC.ent) (w)), (Chunk.row false (EC.ent) (x)), (Chunk.row false (EC.ent) (y)), (Chunk.row false (EC.ent) (z))] []))
                              ((K (SV.one (TV.at (At.val (Value.bool false)))) [(Chunk.row false (EC.ent) (w)), (Chunk.row false (EC.ent) (x)), (Chunk.row false (EC.ent) (y)), (Chunk.row false (EC.ent) (z))] []))))
                            ((K (SV.one (TV.at (At.val (Value.bool false)))) [(Chunk.row false (EC.ent) (w)), (Chunk.row false (EC.ent) (x)), (Chunk.row false (EC.ent) (y)), (Chunk.row false (EC.ent) (z))] []))))
                          ((K (SV.one (TV.at (At.val (Value.bool false)))) [(Chunk.row false (EC.ent) (w)), (Chunk.row false (EC.ent) (x)), (Chunk.row false (EC.ent) (y)), (Chunk.row false (EC.ent) (z))] []))))
                        ((K (SV.one (TV.at (At.val (Value.bool false)))) [(Chunk.row false (EC.ent) (w)), (Chunk.row false (EC.ent) (x)), (Chunk.row false (EC.ent) (y)), (Chunk.row false (EC.ent) (z))] [])))))))))))))))))))) ∧
      (((n) = (l)) →
      (((0 : Int) ≤ 40) ∧
      ((40 : Int) ≤ 1000000) ∧
      (l.length + m.length ≤ 1000000) ∧
      (Asc l) ∧
      (Asc m) ∧
      (m.length + l.length ≤ 1000000) ∧
      (Asc m) ∧
      (Asc l) ∧
      (l.length + (listE z (Int.toNat 40)).length ≤ 1000000) ∧
      (Asc l) ∧
      (Asc (listE z (Int.toNat 40))) ∧
      ((btw l m).length + (btw m l).length ≤ 1000000) ∧
      (∀ r : List Chg,
        (∀ e : Int,
          (((Prod.mk (r) (e)) = (compR (btw l m) (btw m l))) →
          ((r.length + (btw l (listE z (Int.toNat 40))).length ≤ 1000000) ∧
          (∀ r1 : List Chg,
            (∀ e1 : Int,
              (((Prod.mk (r1) (e1)) = (compR r (btw l (listE z (Int.toNat 40))))) →
              (((btw m l).length + (btw l (listE z (Int.toNat 40))).length ≤ 1000000) ∧
              (∀ r2 : List Chg,
                (∀ e2 : Int,
                  (((Prod.mk (r2) (e2)) = (compR (btw m l) (btw l (listE z (Int.toNat 40))))) →
                  (((btw l m).length + r2.length ≤ 1000000) ∧
                  (∀ r3 : List Chg,
                    (∀ e3 : Int,
                      (((Prod.mk (r3) (e3)) = (compR (btw l m) r2)) →
                      (brS (e == 0)
                        ((brS (e1 == 0)
                          ((brS (e2 == 0)
                            ((brS (e3 == 0)
                              ((K (SV.one (TV.at (At.val (Value.bool (sameB r1 r3))))) [(Chunk.row false (EC.ent) (w)), (Chunk.row false (EC.ent) (x)), (Chunk.row false (EC.ent) (y)), (Chunk.row false (EC.ent) (z))] []))
                              ((K (SV.one (TV.at (At.val (Value.bool false)))) [(Chunk.row false (EC.ent) (w)), (Chunk.row false (EC.ent) (x)), (Chunk.row false (EC.ent) (y)), (Chunk.row false (EC.ent) (z))] []))))
                            ((K (SV.one (TV.at (At.val (Value.bool false)))) [(Chunk.row false (EC.ent) (w)), (Chunk.row false (EC.ent) (x)), (Chunk.row false (EC.ent) (y)), (Chunk.row false (EC.ent) (z))] []))))
                          ((K (SV.one (TV.at (At.val (Value.bool false)))) [(Chunk.row false (EC.ent) (w)), (Chunk.row false (EC.ent) (x)), (Chunk.row false (EC.ent) (y)), (Chunk.row false (EC.ent) (z))] []))))
                        ((K (SV.one (TV.at (At.val (Value.bool false)))) [(Chunk.row false (EC.ent) (w)), (Chunk.row false (EC.ent) (x)), (Chunk.row false (EC.ent) (y)), (Chunk.row false (EC.ent) (z))] [])))))))))))))))))))) ∧
      (((m) = (l)) →
      (((n) = (l)) →
      (((0 : Int) ≤ 40) ∧
      ((40 : Int) ≤ 1000000) ∧
      (l.length + l.length ≤ 1000000) ∧
      (Asc l) ∧
      (Asc l) ∧
      (l.length + l.length ≤ 1000000) ∧
      (Asc l) ∧
      (Asc l) ∧
      (l.length + (listE z (Int.toNat 40)).length ≤ 1000000) ∧
      (Asc l) ∧
      (Asc (listE z (Int.toNat 40))) ∧
      ((btw l l).length + (btw l l).length ≤ 1000000) ∧
      (∀ r : List Chg,
        (∀ e : Int,
          (((Prod.mk (r) (e)) = (compR (btw l l) (btw l l))) →
          ((r.length + (btw l (listE z (Int.toNat 40))).length ≤ 1000000) ∧
          (∀ r1 : List Chg,
            (∀ e1 : Int,
              (((Prod.mk (r1) (e1)) = (compR r (btw l (listE z (Int.toNat 40))))) →
              (((btw l l).length + (btw l (listE z (Int.toNat 40))).length ≤ 1000000) ∧
              (∀ r2 : List Chg,
                (∀ e2 : Int,
                  (((Prod.mk (r2) (e2)) = (compR (btw l l) (btw l (listE z (Int.toNat 40))))) →
                  (((btw l l).length + r2.length ≤ 1000000) ∧
                  (∀ r3 : List Chg,
                    (∀ e3 : Int,
                      (((Prod.mk (r3) (e3)) = (compR (btw l l) r2)) →
                      (brS (e == 0)
                        ((brS (e1 == 0)
                          ((brS (e2 == 0)
                            ((brS (e3 == 0)
                              ((K (SV.one (TV.at (At.val (Value.bool (sameB r1 r3))))) [(Chunk.row false (EC.ent) (w)), (Chunk.row false (EC.ent) (x)), (Chunk.row false (EC.ent) (y)), (Chunk.row false (EC.ent) (z))] []))
                              ((K (SV.one (TV.at (At.val (Value.bool false)))) [(Chunk.row false (EC.ent) (w)), (Chunk.row false (EC.ent) (x)), (Chunk.row false (EC.ent) (y)), (Chunk.row false (EC.ent) (z))] []))))
                            ((K (SV.one (TV.at (At.val (Value.bool false)))) [(Chunk.row false (EC.ent) (w)), (Chunk.row false (EC.ent) (x)), (Chunk.row false (EC.ent) (y)), (Chunk.row false (EC.ent) (z))] []))))
                          ((K (SV.one (TV.at (At.val (Value.bool false)))) [(Chunk.row false (EC.ent) (w)), (Chunk.row false (EC.ent) (x)), (Chunk.row false (EC.ent) (y)), (Chunk.row false (EC.ent) (z))] []))))
                        ((K (SV.one (TV.at (At.val (Value.bool false)))) [(Chunk.row false (EC.ent) (w)), (Chunk.row false (EC.ent) (x)), (Chunk.row false (EC.ent) (y)), (Chunk.row false (EC.ent) (z))] [])))))))))))))))))))))))))) = _ by kernel_rfl) ?_
  have t40 : Int.toNat 40 = 40 := rfl
  simp only [t40]
  intro l m n e
  obtain ⟨h1, h2, h3⟩ := listsE_spec e
  have h4 : Asc (listE z 40) ∧ (listE z 40).length ≤ 50 := ⟨(listE_spec z 40).1, Nat.le_trans (listE_spec z 40).2 (by decide)⟩
  have fin : ∀ b, b = true → K (.one (.at (vB b))) [.row false EC.ent w, .row false EC.ent x, .row false EC.ent y, .row false EC.ent z] [] := fun b hb => by subst hb; exact h
  refine ⟨?_, fun _ => ?_, fun _ => ?_, fun _ _ => ?_⟩
  · refine ⟨by decide, by decide, by omega, h1.1, h2.1, by omega, h2.1, h3.1, by omega, h3.1, h4.1, Nat.le_trans (Nat.add_le_add (bl h1 h2) (bl h2 h3)) (by decide), fun r e he => ?_⟩
    rw [compR_btw h1.1 h2.1 h3.1] at he
    obtain ⟨rfl, rfl⟩ := Prod.mk.inj he
    refine ⟨Nat.le_trans (Nat.add_le_add (bl h1 h3) (bl h3 h4)) (by decide), fun r1 e1 he1 => ?_⟩
    rw [compR_btw h1.1 h3.1 h4.1] at he1
    obtain ⟨rfl, rfl⟩ := Prod.mk.inj he1
    refine ⟨Nat.le_trans (Nat.add_le_add (bl h2 h3) (bl h3 h4)) (by decide), fun r2 e2 he2 => ?_⟩
    rw [compR_btw h2.1 h3.1 h4.1] at he2
    obtain ⟨rfl, rfl⟩ := Prod.mk.inj he2
    refine ⟨Nat.le_trans (Nat.add_le_add (bl h1 h2) (bl h2 h4)) (by decide), fun r3 e3 he3 => ?_⟩
    rw [compR_btw h1.1 h2.1 h4.1] at he3
    obtain ⟨rfl, rfl⟩ := Prod.mk.inj he3
    exact fin _ (sameB_refl _)
  · refine ⟨by decide, by decide, by omega, h1.1, h1.1, by omega, h1.1, h3.1, by omega, h3.1, h4.1, Nat.le_trans (Nat.add_le_add (bl h1 h1) (bl h1 h3)) (by decide), fun r e he => ?_⟩
    rw [compR_btw h1.1 h1.1 h3.1] at he
    obtain ⟨rfl, rfl⟩ := Prod.mk.inj he
    refine ⟨Nat.le_trans (Nat.add_le_add (bl h1 h3) (bl h3 h4)) (by decide), fun r1 e1 he1 => ?_⟩
    rw [compR_btw h1.1 h3.1 h4.1] at he1
    obtain ⟨rfl, rfl⟩ := Prod.mk.inj he1
    refine ⟨Nat.le_trans (Nat.add_le_add (bl h1 h3) (bl h3 h4)) (by decide), fun r2 e2 he2 => ?_⟩
    rw [compR_btw h1.1 h3.1 h4.1] at he2
    obtain ⟨rfl, rfl⟩ := Prod.mk.inj he2
    refine ⟨Nat.le_trans (Nat.add_le_add (bl h1 h1) (bl h1 h4)) (by decide), fun r3 e3 he3 => ?_⟩
    rw [compR_btw h1.1 h1.1 h4.1] at he3
    obtain ⟨rfl, rfl⟩ := Prod.mk.inj he3
    exact fin _ (sameB_refl _)
  · refine ⟨by decide, by decide, by omega, h1.1, h2.1, by omega, h2.1, h1.1, by omega, h1.1, h4.1, Nat.le_trans (Nat.add_le_add (bl h1 h2) (bl h2 h1)) (by decide), fun r e he => ?_⟩
    rw [compR_btw h1.1 h2.1 h1.1] at he
    obtain ⟨rfl, rfl⟩ := Prod.mk.inj he
    refine ⟨Nat.le_trans (Nat.add_le_add (bl h1 h1) (bl h1 h4)) (by decide), fun r1 e1 he1 => ?_⟩
    rw [compR_btw h1.1 h1.1 h4.1] at he1
    obtain ⟨rfl, rfl⟩ := Prod.mk.inj he1
    refine ⟨Nat.le_trans (Nat.add_le_add (bl h2 h1) (bl h1 h4)) (by decide), fun r2 e2 he2 => ?_⟩
    rw [compR_btw h2.1 h1.1 h4.1] at he2
    obtain ⟨rfl, rfl⟩ := Prod.mk.inj he2
    refine ⟨Nat.le_trans (Nat.add_le_add (bl h1 h2) (bl h2 h4)) (by decide), fun r3 e3 he3 => ?_⟩
    rw [compR_btw h1.1 h2.1 h4.1] at he3
    obtain ⟨rfl, rfl⟩ := Prod.mk.inj he3
    exact fin _ (sameB_refl _)
  · refine ⟨by decide, by decide, by omega, h1.1, h1.1, by omega, h1.1, h1.1, by omega, h1.1, h4.1, Nat.le_trans (Nat.add_le_add (bl h1 h1) (bl h1 h1)) (by decide), fun r e he => ?_⟩
    rw [compR_btw h1.1 h1.1 h1.1] at he
    obtain ⟨rfl, rfl⟩ := Prod.mk.inj he
    refine ⟨Nat.le_trans (Nat.add_le_add (bl h1 h1) (bl h1 h4)) (by decide), fun r1 e1 he1 => ?_⟩
    rw [compR_btw h1.1 h1.1 h4.1] at he1
    obtain ⟨rfl, rfl⟩ := Prod.mk.inj he1
    refine ⟨Nat.le_trans (Nat.add_le_add (bl h1 h1) (bl h1 h4)) (by decide), fun r2 e2 he2 => ?_⟩
    rw [compR_btw h1.1 h1.1 h4.1] at he2
    obtain ⟨rfl, rfl⟩ := Prod.mk.inj he2
    refine ⟨Nat.le_trans (Nat.add_le_add (bl h1 h1) (bl h1 h4)) (by decide), fun r3 e3 he3 => ?_⟩
    rw [compR_btw h1.1 h1.1 h4.1] at he3
    obtain ⟨rfl, rfl⟩ := Prod.mk.inj he3
    exact fin _ (sameB_refl _)
theorem s_ass : SoundT C0 5 tAss := by
  refine .of Try.func5 (by decide) rfl fun args H K h hB => ?_
  unfold tAss at h
  split at h <;> try exact h.elim
  rename_i s w x y z
  exact ⟨aAss, ⟨frame C0.ok s_lists _, frame C0.ok s_lst _, frame C0.ok s_btwA _, frame C0.ok s_comp _, frame C0.ok s_awake _, frame C0.ok s_same19 _, trivial⟩, vc_ass w x y z s K h⟩
end Go.Proofs.Ytdgodcamadalhaa.Sx
