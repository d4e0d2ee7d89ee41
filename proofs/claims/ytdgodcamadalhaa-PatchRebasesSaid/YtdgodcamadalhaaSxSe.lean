/- The law of rebasing patches. -/
import Derived.Test.YtdgodcamadalhaaSxSb
import Derived.Test.YtdgodcamadalhaaSxRp
import Derived.Test.YtdgodcamadalhaaSxRq
namespace Go.Proofs.Ytdgodcamadalhaa.Sx
open Go

noncomputable def aRbs : Ann C0 := { Γ := [(22, frameT [] tLists), (24, frameT [] tBtwA), (34, frameT [] tReb), (28, frameT [] tApp), (26, frameT [] tAwake), (35, frameT [] tSame_i64), (29, frameT [] tSame_ent), (36, frameT [] tCf)] }
def tRbs : Tfm C0 := fun args H K => match args, H with
  | [.at (.slc 0), .at (.slc 1), .at (.slc 2), .at (.val (.bool s))], [.row false .ent x, .row false .ent y, .row false .ent z] => K (.one (.at (vB true))) [.row false EC.ent x, .row false EC.ent y, .row false EC.ent z] []
  | _, _ => False
theorem bf {b : Bool} {t f : Prop} (h : b = false) (hf : f) : brS b t f := by rw [h]; exact hf
theorem len0 {α : Type} {c : List α} (h : decide ((c.length : Int) > 0) = false) : c = [] := by
  cases c with
  | nil => rfl
  | cons x t => simp at h
theorem pairs_len {α β : Type} {ka : α → Int} {kb : β → Int} (l : List α) (m : List β) : (pairs ka kb l m).length ≤ l.length + m.length := by
  fun_induction pairs ka kb l m with
  | case1 => simp
  | case2 y m ih => simp at ih ⊢; omega
  | case3 x l ih => simp at ih ⊢; omega
  | case4 x l y m h ih => simp at ih ⊢; omega
  | case5 x l y m h h2 ih => simp at ih ⊢; omega
  | case6 x l y m h h2 ih => simp at ih ⊢; omega
theorem reb_len {p q a : List Chg} {c : List Int} (h : reb p q = some (a, c)) : a.length ≤ p.length + q.length := by
  unfold reb at h
  rw [rebGo_eq] at h
  split at h
  · simp only [Option.some.injEq, Prod.mk.injEq] at h
    have h1 := flatMap1_len (f := keep1) (fun z => by obtain ⟨c, d⟩ := z; cases c <;> cases d <;> simp [keep1]) (pC p q)
    have h2 := pairs_len (ka := Chg.key) (kb := Chg.key) p q
    rw [← h.1]
    exact Nat.le_trans h1 h2
  · cases h
theorem val_of {a : List Chg} (hs : Srt Chg.key a) {f g : Int → Option Int} {P : Int → Prop} [DecidablePred P] (h : ∀ k, fnd Chg.key a k = if P k then mkChg k (f k) (g k) else none) : valB a = true := by
  refine valB_iff.2 ⟨hs, fun d hd => ?_⟩
  have h1 := hs.fnd_self hd
  rw [h] at h1
  split at h1
  · exact mkChg_ok h1
  · cases h1
theorem reb_law {l m n : List Ent} (hl : Asc l ∧ l.length ≤ 50) (hm : Asc m ∧ m.length ≤ 50) (hn : Asc n ∧ n.length ≤ 50) :
    ∃ a c b u v, rebR (btw l m) (btw l n) = (a, c, 0) ∧ rebR (btw l n) (btw l m) = (b, c, 0) ∧ c = cfE l m n ∧ appR n a = (u, 0) ∧ appR m b = (v, 0) ∧ (c = [] → u = v) ∧ a.length ≤ 200 ∧ b.length ≤ 200 := by
  obtain ⟨a, c, h1, ha, fa, hc, mc⟩ := reb_btw hl.1 hm.1 hn.1
  obtain ⟨b, d, h2, hb, fb, hd, md⟩ := reb_btw hl.1 hn.1 hm.1
  obtain ⟨u, hu, au, gu⟩ := reb_app hl.1 hm.1 hn.1 h1
  obtain ⟨v, hv, av, gv⟩ := reb_app hl.1 hn.1 hm.1 h2
  have hdc : d = c := keys_ext hd hc fun k => by
    rw [mc, md]
    unfold Cf
    constructor
    · rintro ⟨x, y, z⟩; exact ⟨fun e => x e.symm, z, y⟩
    · rintro ⟨x, y, z⟩; exact ⟨fun e => x e.symm, z, y⟩
  subst hdc
  have v1 : valB (btw l m) = true := valB_iff.2 (btw_val hl.1 hm.1)
  have v2 : valB (btw l n) = true := valB_iff.2 (btw_val hl.1 hn.1)
  have va : valB a = true := val_of ha fa
  have vb : valB b = true := val_of hb fb
  have l1 := reb_len h1
  have l2 := reb_len h2
  have b1 := bl hl hm
  have b2 := bl hl hn
  refine ⟨a, d, b, u, v, ?_, ?_, keys_ext hc (cfE_srt l m n) fun k => by rw [mc, cfE_mem], ?_, ?_, fun e => ?_, by omega, by omega⟩
  · unfold rebR; rw [v1, v2, h1]; rfl
  · unfold rebR; rw [v1, v2, h2]; rfl
  · unfold appR; rw [asc_b hn.1, va, hu]; rfl
  · unfold appR; rw [asc_b hm.1, vb, hv]; rfl
  · exact reb_meet au av gu gv fun k hk => by
      have := (mc k).2 hk
      rw [e] at this; cases this
theorem vc_rbs (x y z : List Ent) (s : Bool) (K : KT) (h : K (.one (.at (vB true))) [.row false EC.ent x, .row false EC.ent y, .row false EC.ent z] []) :
    vc C0 aRbs Try.f9 [.at (.slc 0), .at (.slc 1), .at (.slc 2), .at (.val (.bool s))] [.row false EC.ent x, .row false EC.ent y, .row false EC.ent z] (normK 3 K) := by
  refine Eq.mp (show (∀ l : List Ent,
  (∀ m : List Ent,
    (∀ n : List Ent,
      (((Prod.mk (l) (Prod.mk (m) (n))) = (listsE x y z s)) →
      (((l.length + m.length ≤ 1000000) ∧
      (Asc l) ∧
      (Asc m) ∧
      (l.length + n.length ≤ 1000000) ∧
      (Asc l) ∧
      (Asc n) ∧
      ((btw l m).length + (btw l n).length ≤ 1000000) ∧
      (∀ r : List Chg,
        (∀ c : List Int,
          (∀ e : Int,
            (((Prod.mk (r) (Prod.mk (c) (e))) = (rebR (btw l m) (btw l n))) →
            (((btw l n).length + (btw l m).length ≤ 1000000) ∧
            (∀ r1 : List Chg,
              (∀ c1 : List Int,
                (∀ e1 : Int,
                  (((Prod.mk (r1) (Prod.mk (c1) (e1))) = (rebR (btw l n) (btw l m))) →
                  (brS (e != 0)
                    ((K (SV.one (TV.at (At.val (Value.bool false)))) [(Chunk.row false (EC.ent) (x)), (Chunk.row false (EC.ent) (y)), (Chunk.row false (EC.ent) (z))] []))
                    ((brS (e1 != 0)
                      ((K (SV.one (TV.at (At.val (Value.bool false)))) [(Chunk.row false (EC.ent) (x)), (Chunk.row false (EC.ent) (y)), (Chunk.row false (EC.ent) (z))] []))
                      ((brS (!sameB c c1)
                        ((K (SV.one (TV.at (At.val (Value.bool false)))) [(Chunk.row false (EC.ent) (x)), (Chunk.row false (EC.ent) (y)), (Chunk.row false (EC.ent) (z))] []))
                        (((l.length + m.length + n.length ≤ 1000000) ∧
                        (brS (!sameB c (cfE l m n))
                          ((K (SV.one (TV.at (At.val (Value.bool false)))) [(Chunk.row false (EC.ent) (x)), (Chunk.row false (EC.ent) (y)), (Chunk.row false (EC.ent) (z))] []))
                          (((n.length + r.length ≤ 1000000) ∧
                          (∀ r2 : List Ent,
                            (∀ e2 : Int,
                              (((Prod.mk (r2) (e2)) = (appR n r)) →
                              ((m.length + r1.length ≤ 1000000) ∧
                              (∀ r3 : List Ent,
                                (∀ e3 : Int,
                                  (((Prod.mk (r3) (e3)) = (appR m r1)) →
                                  (brS (e2 == 0)
                                    ((brS (e3 == 0)
                                      ((brS (decide ((↑c.length : Int) > 0))
                                        ((K (SV.one (TV.at (At.val (Value.bool true)))) [(Chunk.row false (EC.ent) (x)), (Chunk.row false (EC.ent) (y)), (Chunk.row false (EC.ent) (z))] []))
                                        ((K (SV.one (TV.at (At.val (Value.bool (sameB r2 r3))))) [(Chunk.row false (EC.ent) (x)), (Chunk.row false (EC.ent) (y)), (Chunk.row false (EC.ent) (z))] []))))
                                      ((K (SV.one (TV.at (At.val (Value.bool false)))) [(Chunk.row false (EC.ent) (x)), (Chunk.row false (EC.ent) (y)), (Chunk.row false (EC.ent) (z))] []))))
                                    ((K (SV.one (TV.at (At.val (Value.bool false)))) [(Chunk.row false (EC.ent) (x)), (Chunk.row false (EC.ent) (y)), (Chunk.row false (EC.ent) (z))] [])))))))))))))))))))))))))))))) ∧
      (((m) = (l)) →
      ((l.length + l.length ≤ 1000000) ∧
      (Asc l) ∧
      (Asc l) ∧
      (l.length + n.length ≤ 1000000) ∧
      (Asc l) ∧
      (Asc n) ∧
      ((btw l l).length + (btw l n).length ≤ 1000000) ∧
      (∀ r : List Chg,
        (∀ c : List Int,
          (∀ e : Int,
            (((Prod.mk (r) (Prod.mk (c) (e))) = (rebR (btw l l) (btw l n))) →
            (((btw l n).length + (btw l l).length ≤ 1000000) ∧
            (∀ r1 : List Chg,
              (∀ c1 : List Int,
                (∀ e1 : Int,
                  (((Prod.mk (r1) (Prod.mk (c1) (e1))) = (rebR (btw l n) (btw l l))) →
                  (brS (e != 0)
                    ((K (SV.one (TV.at (At.val (Value.bool false)))) [(Chunk.row false (EC.ent) (x)), (Chunk.row false (EC.ent) (y)), (Chunk.row false (EC.ent) (z))] []))
                    ((brS (e1 != 0)
                      ((K (SV.one (TV.at (At.val (Value.bool false)))) [(Chunk.row false (EC.ent) (x)), (Chunk.row false (EC.ent) (y)), (Chunk.row false (EC.ent) (z))] []))
                      ((brS (!sameB c c1)
                        ((K (SV.one (TV.at (At.val (Value.bool false)))) [(Chunk.row false (EC.ent) (x)), (Chunk.row false (EC.ent) (y)), (Chunk.row false (EC.ent) (z))] []))
                        (((l.length + l.length + n.length ≤ 1000000) ∧
                        (brS (!sameB c (cfE l l n))
                          ((K (SV.one (TV.at (At.val (Value.bool false)))) [(Chunk.row false (EC.ent) (x)), (Chunk.row false (EC.ent) (y)), (Chunk.row false (EC.ent) (z))] []))
                          (((n.length + r.length ≤ 1000000) ∧
                          (∀ r2 : List Ent,
                            (∀ e2 : Int,
                              (((Prod.mk (r2) (e2)) = (appR n r)) →
                              ((l.length + r1.length ≤ 1000000) ∧
                              (∀ r3 : List Ent,
                                (∀ e3 : Int,
                                  (((Prod.mk (r3) (e3)) = (appR l r1)) →
                                  (brS (e2 == 0)
                                    ((brS (e3 == 0)
                                      ((brS (decide ((↑c.length : Int) > 0))
                                        ((K (SV.one (TV.at (At.val (Value.bool true)))) [(Chunk.row false (EC.ent) (x)), (Chunk.row false (EC.ent) (y)), (Chunk.row false (EC.ent) (z))] []))
                                        ((K (SV.one (TV.at (At.val (Value.bool (sameB r2 r3))))) [(Chunk.row false (EC.ent) (x)), (Chunk.row false (EC.ent) (y)), (Chunk.row false (EC.ent) (z))] []))))
                                      ((K (SV.one (TV.at (At.val (Value.bool false)))) [(Chunk.row false (EC.ent) (x)), (Chunk.row false (EC.ent) (y)), (Chunk.row false (EC.ent) (z))] []))))
                                    ((K (SV.one (TV.at (At.val (Value.bool false)))) [(Chunk.row false (EC.ent) (x)), (Chunk.row false (EC.ent) (y)), (Chunk.row false (EC.ent) (z))] []))))))))))))))))))))))))))))))) ∧
      (((n) = (l)) →
      ((l.length + m.length ≤ 1000000) ∧
      (Asc l) ∧
      (Asc m) ∧
      (l.length + l.length ≤ 1000000) ∧
      (Asc l) ∧
      (Asc l) ∧
      ((btw l m).length + (btw l l).length ≤ 1000000) ∧
      (∀ r : List Chg,
        (∀ c : List Int,
          (∀ e : Int,
            (((Prod.mk (r) (Prod.mk (c) (e))) = (rebR (btw l m) (btw l l))) →
            (((btw l l).length + (btw l m).length ≤ 1000000) ∧
            (∀ r1 : List Chg,
              (∀ c1 : List Int,
                (∀ e1 : Int,
                  (((Prod.mk (r1) (Prod.mk (c1) (e1))) = (rebR (btw l l) (btw l m))) →
                  (brS (e != 0)
                    ((K (SV.one (TV.at (At.val (Value.bool false)))) [(Chunk.row false (EC.ent) (x)), (Chunk.row false (EC.ent) (y)), (Chunk.row false (EC.ent) (z))] []))
                    ((brS (e1 != 0)
                      ((K (SV.one (TV.at (At.val (Value.bool false)))) [(Chunk.row false (EC.ent) (x)), (Chunk.row false (EC.ent) (y)), (Chunk.row false (EC.ent) (z))] []))
                      ((brS (!sameB c c1)
                        ((K (SV.one (TV.at (At.val (Value.bool false)))) [(Chunk.row false (EC.ent) (x)), (Chunk.row false (EC.ent) (y)), (Chunk.row false (EC.ent) (z))] []))
                        (((l.length + m.length + l.length ≤ 1000000) ∧
                        (brS (!sameB c (cfE l m l))
                          ((K (SV.one (TV.at (At.val (Value.bool false)))) [(Chunk.row false (EC.ent) (x)), (Chunk.row false (EC.ent) (y)), (Chunk.row false (EC.ent) (z))] []))
                          (((l.length + r.length ≤ 1000000) ∧
                          (∀ r2 : List Ent,
                            (∀ e2 : Int,
                              (((Prod.mk (r2) (e2)) = (appR l r)) →
                              ((m.length + r1.length ≤ 1000000) ∧
                              (∀ r3 : List Ent,
                                (∀ e3 : Int,
                                  (((Prod.mk (r3) (e3)) = (appR m r1)) →
                                  (brS (e2 == 0)
                                    ((brS (e3 == 0)
                                      ((brS (decide ((↑c.length : Int) > 0))
                                        ((K (SV.one (TV.at (At.val (Value.bool true)))) [(Chunk.row false (EC.ent) (x)), (Chunk.row false (EC.ent) (y)), (Chunk.row false (EC.ent) (z))] []))
                                        ((K (SV.one (TV.at (At.val (Value.bool (sameB r2 r3))))) [(Chunk.row false (EC.ent) (x)), (Chunk.row false (EC.ent) (y)), (Chunk.row false (EC.ent) (z))] []))))
                                      ((K (SV.one (TV.at (At.val (Value.bool false)))) [(Chunk.row false (EC.ent) (x)), (Chunk.row false (EC.ent) (y)), (Chunk.row false (EC.ent) (z))] []))))
                                    ((K (SV.one (TV.at (At.val (Value.bool false)))) [(Chunk.row false (EC.ent) (x)), (Chunk.row false (EC.ent) (y)), (Chunk.row false (EC.ent) (z))] []))))))))))))))))))))))))))))))) ∧
      (((m) = (l)) →
      (((n) = (l)) →
      ((l.length + l.length ≤ 1000000) ∧
      (Asc l) ∧
      (Asc l) ∧
      (l.length + l.length ≤ 1000000) ∧
      (Asc l) ∧
      (Asc l) ∧
      ((btw l l).length + (btw l l).length ≤ 1000000) ∧
      (∀ r : List Chg,
        (∀ c : List Int,
          (∀ e : Int,
            (((Prod.mk (r) (Prod.mk (c) (e))) = (rebR (btw l l) (btw l l))) →
            (((btw l l).length + (btw l l).length ≤ 1000000) ∧
            (∀ r1 : List Chg,
              (∀ c1 : List Int,
                (∀ e1 : Int,
                  (((Prod.mk (r1) (Prod.mk (c1) (e1))) = (rebR (btw l l) (btw l l))) →
                  (brS (e != 0)
                    ((K (SV.one (TV.at (At.val (Value.bool false)))) [(Chunk.row false (EC.ent) (x)), (Chunk.row false (EC.ent) (y)), (Chunk.row false (EC.ent) (z))] []))
                    ((brS (e1 != 0)
                      ((K (SV.one (TV.at (At.val (Value.bool false)))) [(Chunk.row false (EC.ent) (x)), (Chunk.row false (EC.ent) (y)), (Chunk.row false (EC.ent) (z))] []))
                      ((brS (!sameB c c1)
                        ((K (SV.one (TV.at (At.val (Value.bool false)))) [(Chunk.row false (EC.ent) (x)), (Chunk.row false (EC.ent) (y)), (Chunk.row false (EC.ent) (z))] []))
                        (((l.length + l.length + l.length ≤ 1000000) ∧
                        (brS (!sameB c (cfE l l l))
                          ((K (SV.one (TV.at (At.val (Value.bool false)))) [(Chunk.row false (EC.ent) (x)), (Chunk.row false (EC.ent) (y)), (Chunk.row false (EC.ent) (z))] []))
                          (((l.length + r.length ≤ 1000000) ∧
                          (∀ r2 : List Ent,
                            (∀ e2 : Int,
                              (((Prod.mk (r2) (e2)) = (appR l r)) →
                              ((l.length + r1.length ≤ 1000000) ∧
                              (∀ r3 : List Ent,
                                (∀ e3 : Int,
                                  (((Prod.mk (r3) (e3)) = (appR l r1)) →
                                  (brS (e2 == 0)
                                    ((brS (e3 == 0)
                                      ((brS (decide ((↑c.length : Int) > 0))
                                        ((K (SV.one (TV.at (At.val (Value.bool true)))) [(Chunk.row false (EC.ent) (x)), (Chunk.row false (EC.ent) (y)), (Chunk.row false (EC.ent) (z))] []))
                                        ((K (SV.one (TV.at (At.val (Value.bool (sameB r2 r3))))) [(Chunk.row false (EC.ent) (x)), (Chunk.row false (EC.ent) (y)), (Chunk.row false (EC.ent) (z))] []))))
                                      ((K (SV.one (TV.at (At.val (Value.bool false)))) [(Chunk.row false (EC.ent) (x)), (Chunk.row false (EC.ent) (y)), (Chunk.row false (EC.ent) (z))] []))))
                                    ((K (SV.one (TV.at (At.val (Value.bool false)))) [(Chunk.row false (EC.ent) (x)), (Chunk.row false (EC.ent) (y)), (Chunk.row false (EC.ent) (z))] []))))))))))))))))))))))))))))))))))))) = _ by kernel_rfl) ?_
  intro l m n e
  obtain ⟨h1, h2, h3⟩ := listsE_spec e
  have fin : ∀ b, b = true → K (.one (.at (vB b))) [.row false EC.ent x, .row false EC.ent y, .row false EC.ent z] [] := fun b hb => by subst hb; exact h
  refine ⟨?_, fun _ => ?_, fun _ => ?_, fun _ _ => ?_⟩
  · obtain ⟨a', c', b', u', v', q1, q2, q3, q4, q5, q6, q7, q8⟩ := reb_law h1 h2 h3
    refine ⟨by omega, h1.1, h2.1, by omega, h1.1, h3.1, Nat.le_trans (Nat.add_le_add (bl h1 h2) (bl h1 h3)) (by decide), fun r c e he => ?_⟩
    rw [q1] at he
    simp only [Prod.mk.injEq] at he
    obtain ⟨rfl, rfl, rfl⟩ := he
    refine ⟨Nat.le_trans (Nat.add_le_add (bl h1 h3) (bl h1 h2)) (by decide), fun r1 c1 e1 he1 => ?_⟩
    rw [q2] at he1
    simp only [Prod.mk.injEq] at he1
    obtain ⟨rfl, rfl, rfl⟩ := he1
    refine bf rfl (bf rfl (bf (by rw [sameB_refl]; rfl) ⟨by omega, bf (by rw [← q3, sameB_refl]; rfl) ⟨by omega, fun r2 e2 he2 => ?_⟩⟩))
    rw [q4] at he2
    obtain ⟨rfl, rfl⟩ := Prod.mk.inj he2
    refine ⟨by omega, fun r3 e3 he3 => ?_⟩
    rw [q5] at he3
    obtain ⟨rfl, rfl⟩ := Prod.mk.inj he3
    refine bt rfl (bt rfl (brS_of (fun _ => fin _ rfl) fun hc => fin _ ?_))
    rw [q6 (len0 hc), sameB_refl]
  · obtain ⟨a', c', b', u', v', q1, q2, q3, q4, q5, q6, q7, q8⟩ := reb_law h1 h1 h3
    refine ⟨by omega, h1.1, h1.1, by omega, h1.1, h3.1, Nat.le_trans (Nat.add_le_add (bl h1 h1) (bl h1 h3)) (by decide), fun r c e he => ?_⟩
    rw [q1] at he
    simp only [Prod.mk.injEq] at he
    obtain ⟨rfl, rfl, rfl⟩ := he
    refine ⟨Nat.le_trans (Nat.add_le_add (bl h1 h3) (bl h1 h1)) (by decide), fun r1 c1 e1 he1 => ?_⟩
    rw [q2] at he1
    simp only [Prod.mk.injEq] at he1
    obtain ⟨rfl, rfl, rfl⟩ := he1
    refine bf rfl (bf rfl (bf (by rw [sameB_refl]; rfl) ⟨by omega, bf (by rw [← q3, sameB_refl]; rfl) ⟨by omega, fun r2 e2 he2 => ?_⟩⟩))
    rw [q4] at he2
    obtain ⟨rfl, rfl⟩ := Prod.mk.inj he2
    refine ⟨by omega, fun r3 e3 he3 => ?_⟩
    rw [q5] at he3
    obtain ⟨rfl, rfl⟩ := Prod.mk.inj he3
    refine bt rfl (bt rfl (brS_of (fun _ => fin _ rfl) fun hc => fin _ ?_))
    rw [q6 (len0 hc), sameB_refl]
  · obtain ⟨a', c', b', u', v', q1, q2, q3, q4, q5, q6, q7, q8⟩ := reb_law h1 h2 h1
    refine ⟨by omega, h1.1, h2.1, by omega, h1.1, h1.1, Nat.le_trans (Nat.add_le_add (bl h1 h2) (bl h1 h1)) (by decide), fun r c e he => ?_⟩
    rw [q1] at he
    simp only [Prod.mk.injEq] at he
    obtain ⟨rfl, rfl, rfl⟩ := he
    refine ⟨Nat.le_trans (Nat.add_le_add (bl h1 h1) (bl h1 h2)) (by decide), fun r1 c1 e1 he1 => ?_⟩
    rw [q2] at he1
    simp only [Prod.mk.injEq] at he1
    obtain ⟨rfl, rfl, rfl⟩ := he1
    refine bf rfl (bf rfl (bf (by rw [sameB_refl]; rfl) ⟨by omega, bf (by rw [← q3, sameB_refl]; rfl) ⟨by omega, fun r2 e2 he2 => ?_⟩⟩))
    rw [q4] at he2
    obtain ⟨rfl, rfl⟩ := Prod.mk.inj he2
    refine ⟨by omega, fun r3 e3 he3 => ?_⟩
    rw [q5] at he3
    obtain ⟨rfl, rfl⟩ := Prod.mk.inj he3
    refine bt rfl (bt rfl (brS_of (fun _ => fin _ rfl) fun hc => fin _ ?_))
    rw [q6 (len0 hc), sameB_refl]
  · obtain ⟨a', c', b', u', v', q1, q2, q3, q4, q5, q6, q7, q8⟩ := reb_law h1 h1 h1
    refine ⟨by omega, h1.1, h1.1, by omega, h1.1, h1.1, Nat.le_trans (Nat.add_le_add (bl h1 h1) (bl h1 h1)) (by decide), fun r c e he => ?_⟩
    rw [q1] at he
    simp only [Prod.mk.injEq] at he
    obtain ⟨rfl, rfl, rfl⟩ := he
    refine ⟨Nat.le_trans (Nat.add_le_add (bl h1 h1) (bl h1 h1)) (by decide), fun r1 c1 e1 he1 => ?_⟩
    rw [q2] at he1
    simp only [Prod.mk.injEq] at he1
    obtain ⟨rfl, rfl, rfl⟩ := he1
    refine bf rfl (bf rfl (bf (by rw [sameB_refl]; rfl) ⟨by omega, bf (by rw [← q3, sameB_refl]; rfl) ⟨by omega, fun r2 e2 he2 => ?_⟩⟩))
    rw [q4] at he2
    obtain ⟨rfl, rfl⟩ := Prod.mk.inj he2
    refine ⟨by omega, fun r3 e3 he3 => ?_⟩
    rw [q5] at he3
    obtain ⟨rfl, rfl⟩ := Prod.mk.inj he3
    refine bt rfl (bt rfl (brS_of (fun _ => fin _ rfl) fun hc => fin _ ?_))
    rw [q6 (len0 hc), sameB_refl]
theorem s_rbs : SoundT C0 9 tRbs := by
  refine .of Try.func9 (by decide) rfl fun args H K h hB => ?_
  unfold tRbs at h
  split at h <;> try exact h.elim
  rename_i s x y z
  exact ⟨aRbs, ⟨frame C0.ok s_lists _, frame C0.ok s_btwA _, frame C0.ok s_reb _, frame C0.ok s_app _, frame C0.ok s_awake _, frame C0.ok s_sameI _, frame C0.ok s_same9 _, frame C0.ok s_cf _, trivial⟩, vc_rbs x y z s K h⟩
end Go.Proofs.Ytdgodcamadalhaa.Sx
