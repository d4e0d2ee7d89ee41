/- The law of the patch between two lists. -/
import Derived.Test.YtdgodcamadalhaaSxSb
import Derived.Test.YtdgodcamadalhaaSxRn
namespace Go.Proofs.Ytdgodcamadalhaa.Sx
open Go

noncomputable def aBtp : Ann C0 := { Γ := [(22, frameT [] tLists), (37, frameT [] tBtw), (28, frameT [] tApp), (38, frameT [] tValid), (26, frameT [] tAwake), (29, frameT [] tSame_ent)] }
def tBtp : Tfm C0 := fun args H K => match args, H with
  | [.at (.slc 0), .at (.slc 1), .at (.val (.bool s))], [.row false .ent x, .row false .ent y] => K (.one (.at (vB true))) [.row false EC.ent x, .row false EC.ent y] []
  | _, _ => False
theorem btwR_asc {l m : List Ent} (hl : Asc l) (hm : Asc m) : btwR l m = (btw l m, 0) := by
  unfold btwR
  rw [asc_b hl, asc_b hm]; rfl
theorem len_btw {l m : List Ent} (hl : Asc l) (hm : Asc m) : ((((btw l m).length : Int) == 0) == sameB l m) = true := by
  have h := btw_nil hl hm
  rw [beq_iff_eq]
  cases hb : btw l m with
  | nil => rw [h.1 hb]; simp [sameB]
  | cons c t =>
    have hn : ¬ l = m := fun e => by rw [h.2 e] at hb; cases hb
    have e1 : sameB l m = false := by simp [sameB, hn]
    rw [e1]
    simp
    omega
theorem vc_btp (x y : List Ent) (s : Bool) (K : KT) (h : K (.one (.at (vB true))) [.row false EC.ent x, .row false EC.ent y] []) :
    vc C0 aBtp Try.f10 [.at (.slc 0), .at (.slc 1), .at (.val (.bool s))] [.row false EC.ent x, .row false EC.ent y] (normK 2 K) := by
  refine Eq.mp (show (∀ l : List Ent,
  (∀ m : List Ent,
    (∀ n : List Ent,
      (((Prod.mk (l) (Prod.mk (m) (n))) = (listsE x y [] s)) →
      (((l.length + m.length ≤ 1000000) ∧
      (∀ r : List Chg,
        (∀ e : Int,
          (((Prod.mk (r) (e)) = (btwR l m)) →
          ((l.length + r.length ≤ 1000000) ∧
          (∀ r1 : List Ent,
            (∀ e1 : Int,
              (((Prod.mk (r1) (e1)) = (appR l r)) →
              (brS (e == 0)
                ((brS (e1 == 0)
                  ((brS (valB r)
                    ((brS (sameB r1 m)
                      ((K (SV.one (TV.at (At.val (Value.bool (((↑r.length : Int) == 0) == sameB l m))))) [(Chunk.row false (EC.ent) (x)), (Chunk.row false (EC.ent) (y))] []))
                      ((K (SV.one (TV.at (At.val (Value.bool false)))) [(Chunk.row false (EC.ent) (x)), (Chunk.row false (EC.ent) (y))] []))))
                    ((K (SV.one (TV.at (At.val (Value.bool false)))) [(Chunk.row false (EC.ent) (x)), (Chunk.row false (EC.ent) (y))] []))))
                  ((K (SV.one (TV.at (At.val (Value.bool false)))) [(Chunk.row false (EC.ent) (x)), (Chunk.row false (EC.ent) (y))] []))))
                ((K (SV.one (TV.at (At.val (Value.bool false)))) [(Chunk.row false (EC.ent) (x)), (Chunk.row false (EC.ent) (y))] []))))))))))) ∧
      (((m) = (l)) →
      ((l.length + l.length ≤ 1000000) ∧
      (∀ r : List Chg,
        (∀ e : Int,
          (((Prod.mk (r) (e)) = (btwR l l)) →
          ((l.length + r.length ≤ 1000000) ∧
          (∀ r1 : List Ent,
            (∀ e1 : Int,
              (((Prod.mk (r1) (e1)) = (appR l r)) →
              (brS (e == 0)
                ((brS (e1 == 0)
                  ((brS (valB r)
                    ((brS (sameB r1 l)
                      ((K (SV.one (TV.at (At.val (Value.bool (((↑r.length : Int) == 0) == sameB l l))))) [(Chunk.row false (EC.ent) (x)), (Chunk.row false (EC.ent) (y))] []))
                      ((K (SV.one (TV.at (At.val (Value.bool false)))) [(Chunk.row false (EC.ent) (x)), (Chunk.row false (EC.ent) (y))] []))))
                    ((K (SV.one (TV.at (At.val (Value.bool false)))) [(Chunk.row false (EC.ent) (x)), (Chunk.row false (EC.ent) (y))] []))))
                  ((K (SV.one (TV.at (At.val (Value.bool false)))) [(Chunk.row false (EC.ent) (x)), (Chunk.row false (EC.ent) (y))] []))))
                ((K (SV.one (TV.at (At.val (Value.bool false)))) [(Chunk.row false (EC.ent) (x)), (Chunk.row false (EC.ent) (y))] [])))))))))))) ∧
      (((n) = (l)) →
      ((l.length + m.length ≤ 1000000) ∧
      (∀ r : List Chg,
        (∀ e : Int,
          (((Prod.mk (r) (e)) = (btwR l m)) →
          ((l.length + r.length ≤ 1000000) ∧
          (∀ r1 : List Ent,
            (∀ e1 : Int,
              (((Prod.mk (r1) (e1)) = (appR l r)) →
              (brS (e == 0)
                ((brS (e1 == 0)
                  ((brS (valB r)
                    ((brS (sameB r1 m)
                      ((K (SV.one (TV.at (At.val (Value.bool (((↑r.length : Int) == 0) == sameB l m))))) [(Chunk.row false (EC.ent) (x)), (Chunk.row false (EC.ent) (y))] []))
                      ((K (SV.one (TV.at (At.val (Value.bool false)))) [(Chunk.row false (EC.ent) (x)), (Chunk.row false (EC.ent) (y))] []))))
                    ((K (SV.one (TV.at (At.val (Value.bool false)))) [(Chunk.row false (EC.ent) (x)), (Chunk.row false (EC.ent) (y))] []))))
                  ((K (SV.one (TV.at (At.val (Value.bool false)))) [(Chunk.row false (EC.ent) (x)), (Chunk.row false (EC.ent) (y))] []))))
                ((K (SV.one (TV.at (At.val (Value.bool false)))) [(Chunk.row false (EC.ent) (x)), (Chunk.row false (EC.ent) (y))] [])))))))))))) ∧
      (((m) = (l)) →
      (((n) = (l)) →
      ((l.length + l.length ≤ 1000000) ∧
      (∀ r : List Chg,
        (∀ e : Int,
          (((Prod.mk (r) (e)) = (btwR l l)) →
          ((l.length + r.length ≤ 1000000) ∧
          (∀ r1 : List Ent,
            (∀ e1 : Int,
              (((Prod.mk (r1) (e1)) = (appR l r)) →
              (brS (e == 0)
                ((brS (e1 == 0)
                  ((brS (valB r)
                    ((brS (sameB r1 l)
                      ((K (SV.one (TV.at (At.val (Value.bool (((↑r.length : Int) == 0) == sameB l l))))) [(Chunk.row false (EC.ent) (x)), (Chunk.row false (EC.ent) (y))] []))
                      ((K (SV.one (TV.at (At.val (Value.bool false)))) [(Chunk.row false (EC.ent) (x)), (Chunk.row false (EC.ent) (y))] []))))
                    ((K (SV.one (TV.at (At.val (Value.bool false)))) [(Chunk.row false (EC.ent) (x)), (Chunk.row false (EC.ent) (y))] []))))
                  ((K (SV.one (TV.at (At.val (Value.bool false)))) [(Chunk.row false (EC.ent) (x)), (Chunk.row false (EC.ent) (y))] []))))
                ((K (SV.one (TV.at (At.val (Value.bool false)))) [(Chunk.row false (EC.ent) (x)), (Chunk.row false (EC.ent) (y))] [])))))))))))))))))) = _ by kernel_rfl) ?_
  intro l m n e
  obtain ⟨h1, h2, h3⟩ := listsE_spec e
  have fin : ∀ b, b = true → K (.one (.at (vB b))) [.row false EC.ent x, .row false EC.ent y] [] := fun b hb => by subst hb; exact h
  refine ⟨?_, fun _ => ?_, fun _ => ?_, fun _ _ => ?_⟩
  · refine ⟨by omega, fun r e he => ?_⟩
    rw [btwR_asc h1.1 h2.1] at he
    obtain ⟨rfl, rfl⟩ := Prod.mk.inj he
    refine ⟨Nat.le_trans (Nat.add_le_add h1.2 (bl h1 h2)) (by decide), fun r1 e1 he1 => ?_⟩
    rw [appR_btw h1.1 h2.1] at he1
    obtain ⟨rfl, rfl⟩ := Prod.mk.inj he1
    exact bt rfl (bt rfl (bt (valB_iff.2 (btw_val h1.1 h2.1)) (bt (sameB_refl _) (fin _ (len_btw h1.1 h2.1)))))
  · refine ⟨by omega, fun r e he => ?_⟩
    rw [btwR_asc h1.1 h1.1] at he
    obtain ⟨rfl, rfl⟩ := Prod.mk.inj he
    refine ⟨Nat.le_trans (Nat.add_le_add h1.2 (bl h1 h1)) (by decide), fun r1 e1 he1 => ?_⟩
    rw [appR_btw h1.1 h1.1] at he1
    obtain ⟨rfl, rfl⟩ := Prod.mk.inj he1
    exact bt rfl (bt rfl (bt (valB_iff.2 (btw_val h1.1 h1.1)) (bt (sameB_refl _) (fin _ (len_btw h1.1 h1.1)))))
  · refine ⟨by omega, fun r e he => ?_⟩
    rw [btwR_asc h1.1 h2.1] at he
    obtain ⟨rfl, rfl⟩ := Prod.mk.inj he
    refine ⟨Nat.le_trans (Nat.add_le_add h1.2 (bl h1 h2)) (by decide), fun r1 e1 he1 => ?_⟩
    rw [appR_btw h1.1 h2.1] at he1
    obtain ⟨rfl, rfl⟩ := Prod.mk.inj he1
    exact bt rfl (bt rfl (bt (valB_iff.2 (btw_val h1.1 h2.1)) (bt (sameB_refl _) (fin _ (len_btw h1.1 h2.1)))))
  · refine ⟨by omega, fun r e he => ?_⟩
    rw [btwR_asc h1.1 h1.1] at he
    obtain ⟨rfl, rfl⟩ := Prod.mk.inj he
    refine ⟨Nat.le_trans (Nat.add_le_add h1.2 (bl h1 h1)) (by decide), fun r1 e1 he1 => ?_⟩
    rw [appR_btw h1.1 h1.1] at he1
    obtain ⟨rfl, rfl⟩ := Prod.mk.inj he1
    exact bt rfl (bt rfl (bt (valB_iff.2 (btw_val h1.1 h1.1)) (bt (sameB_refl _) (fin _ (len_btw h1.1 h1.1)))))
theorem s_btp : SoundT C0 10 tBtp := by
  refine .of Try.func10 (by decide) rfl fun args H K h hB => ?_
  unfold tBtp at h
  split at h <;> try exact h.elim
  rename_i s x y
  exact ⟨aBtp, ⟨frame C0.ok s_lists _, frame C0.ok s_btw _, frame C0.ok s_app _, frame C0.ok s_valid _, frame C0.ok s_awake _, frame C0.ok s_same9 _, trivial⟩, vc_btp x y s K h⟩
end Go.Proofs.Ytdgodcamadalhaa.Sx
