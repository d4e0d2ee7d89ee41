/- The law that a patch applies exactly if it fits. -/
import Derived.Test.YtdgodcamadalhaaSxSb
namespace Go.Proofs.Ytdgodcamadalhaa.Sx
open Go

def l5 (x y : List Ent) (s : Bool) : List Ent := (listsE x y [] s).1
def m5 (x y : List Ent) (s : Bool) : List Ent := (listsE x y [] s).2.1
structure XKy where
  k : Int
structure XHas (p : List Chg) where
  i : Nat
  k : Int
  b : Bool
  h : i ≤ p.length ∧ b = (p.take i).any fun c => decide (c.key = k)
structure XChd (l : List Ent) where
  k : Int
  ch : List Ent
  h : ch.length ≤ 2000 ∧ Asc ch ∧ (getE ch k ≠ getE l k) ∧ ∀ q, q ≠ k → getE ch q = getE l q
noncomputable def aChk (x y : List Ent) (l : List Ent) (p : List Chg) : Ann C0 := { Γ := [(22, frameT [] tLists), (24, frameT [] tBtwA), (28, frameT [] tApp), (26, frameT [] tAwake), (14, frameT [] tMod), (30, frameT [] tGet), (31, frameT [] tIns), (32, frameT [] tDel)], inv := fun n => match n with
  | 1005 => some { X := XKy, sl := [3, 13, 16], tf := fun z => [vi .i64 z.k, .one (.at (.slc 2)), .one (.at (.slc 3))], hf := fun _ => [.row false EC.ent x, .row false EC.ent y, .row false EC.ent l, .row false EC.chg p] }
  | 7 => some { X := XHas p, sl := [19, 18], tf := fun z => [vi .i64 z.i, vb z.b], hf := fun _ => [.row false EC.ent x, .row false EC.ent y, .row false EC.ent l, .row false EC.chg p], μ := fun z => p.length - z.i, rel := fun T _ z => slotI T 3 z.k }
  | 1014 => some { X := XChd l, sl := [22], tf := fun _ => [.one (.at (.slc 4))], hf := fun z => [.row false EC.ent x, .row false EC.ent y, .row false EC.ent l, .row false EC.chg p, .row true EC.ent z.ch], rel := fun T _ z => slotI T 3 z.k }
  | _ => none }
def tChk : Tfm C0 := fun args H K => match args, H with
  | [.at (.slc 0), .at (.slc 1), .at (.val (.bool _)), .at (.val (.int .i64 _)), .at (.val (.int .i64 _)), .at (.val (.bool _))], [.row false .ent x, .row false .ent y] => K (.one (.at (vB true))) [.row false EC.ent x, .row false EC.ent y] []
  | _, _ => False
theorem beq_dec' (a b : Int) : (a == b) = decide (a = b) := Bool.eq_iff_iff.2 (by simp)
theorem wrap_ne (v : Int) : IntKind.i64.wrap (v + 1) ≠ v := by
  unfold IntKind.wrap
  simp [IntKind.signed, IntKind.bits]
  omega
theorem outE_get {l : List Ent} (h : Asc l) (k q : Int) : getE (outE l k k) q = if q = k then none else getE l q := by
  rw [getE_fnd, getE_fnd]
  unfold outE
  rw [fnd_filter h]
  cases hf : fnd Prod.fst l q with
  | none => simp
  | some x =>
    have hk := fnd_key hf
    simp only [Option.filter]
    by_cases hq : q = k
    · rw [if_pos hq, if_neg (by simp; omega)]; rfl
    · rw [if_neg hq, if_pos (by simp; omega)]
theorem chk_in {l m : List Ent} (hl : Asc l) (hm : Asc m) (z : XChd l) (h : ((btw l m).any fun c => decide (c.key = z.k)) = true) : appR z.ch (btw l m) = ([], 9) := by
  have v1 : valB (btw l m) = true := valB_iff.2 (btw_val hl hm)
  have hn : app z.ch (btw l m) = none := by
    rw [app_none z.h.2.1 (btw_srt hl hm)]
    intro hf
    obtain ⟨c, hc, hk⟩ := List.any_eq_true.1 h
    have hk : c.key = z.k := by simpa using hk
    have h1 := (btw_srt hl hm).fnd_self hc
    rw [btw_fnd hl hm] at h1
    have h2 := (mkChg_some h1).2.1
    have h3 := hf c hc
    rw [h2, hk] at h3
    exact z.h.2.2.1 h3
  unfold appR
  rw [v1, asc_b z.h.2.1, hn]; rfl
theorem chk_out {l m : List Ent} (hl : Asc l) (hm : Asc m) (z : XChd l) (h : ((btw l m).any fun c => decide (c.key = z.k)) = false) : ∃ r, appR z.ch (btw l m) = (r, 0) ∧ getE r z.k = getE z.ch z.k := by
  have v1 : valB (btw l m) = true := valB_iff.2 (btw_val hl hm)
  have hno : ∀ c ∈ btw l m, c.key ≠ z.k := fun c hc e => by
    have := List.any_eq_false.1 h c hc
    simp at this
    exact this e
  cases ha : app z.ch (btw l m) with
  | none =>
    rw [app_none z.h.2.1 (btw_srt hl hm)] at ha
    refine absurd (fun c hc => ?_) ha
    have h1 := (btw_srt hl hm).fnd_self hc
    rw [btw_fnd hl hm] at h1
    rw [(mkChg_some h1).2.1]
    exact z.h.2.2.2 _ (hno c hc)
  | some r =>
    have h2 := (app_some z.h.2.1 (btw_srt hl hm) ha).2 z.k
    have h3 : fnd Chg.key (btw l m) z.k = none := fnd_none.2 hno
    rw [h3] at h2
    refine ⟨r, ?_, h2⟩
    unfold appR
    rw [v1, asc_b z.h.2.1, ha]; rfl
def chIns {l : List Ent} (hl : Asc l ∧ l.length ≤ 50) (k : Int) {x : Option Int} (hx : x = getE l k) : XChd l := ⟨k, insE l (k, IntKind.i64.wrap (x.getD 0 + 1)), by
  refine ⟨?_, insE_asc _ hl.1, ?_, fun q hq => ?_⟩
  · have := insE_len l (k, IntKind.i64.wrap (x.getD 0 + 1)); omega
  · rw [insE_get _ hl.1, if_pos rfl, ← hx]
    cases x with
    | none => simp
    | some v => intro e; exact wrap_ne v (Option.some.inj e)
  · rw [insE_get _ hl.1, if_neg (fun e => hq e.symm)]⟩
def chDel {l : List Ent} (hl : Asc l ∧ l.length ≤ 50) (k : Int) {x : Option Int} (hx : x = getE l k) (hs : x.isSome = true) : XChd l := ⟨k, outE l k k, by
  refine ⟨?_, outE_asc hl.1 _ _, ?_, fun q hq => ?_⟩
  · have := outE_le l k k; omega
  · rw [outE_get hl.1, if_pos rfl, ← hx]
    intro e; rw [← e] at hs; cases hs
  · rw [outE_get hl.1, if_neg hq]⟩
theorem any_snoc (p : List Chg) (k : Int) {i : Nat} (hi : i < p.length) : ((p.take (i + 1)).any fun c => decide (c.key = k)) = (((p.take i).any fun c => decide (c.key = k)) || decide ((cA p i).key = k)) := by
  rw [take_snoc (cA_get hi), List.any_append]; simp
set_option maxHeartbeats 1000000 in
theorem vc_chk (x y l m0 : List Ent) (s o : Bool) (ky at_ : Int) (hlm : (l, m0) = ((listsE x y [] s).1, (listsE x y [] s).2.1)) (K : KT) (h : K (.one (.at (vB true))) [.row false EC.ent x, .row false EC.ent y] []) :
    vc C0 (aChk x y l (btw l m0)) Try.f7 [.at (.slc 0), .at (.slc 1), .at (.val (.bool s)), .at (.val (.int .i64 ky)), .at (.val (.int .i64 at_)), .at (.val (.bool o))] [.row false EC.ent x, .row false EC.ent y] (normK 2 K) := by
  have fin : ∀ b, b = true → K (.one (.at (vB b))) [.row false EC.ent x, .row false EC.ent y] [] := fun b hb => by subst hb; exact h
  have hsp : Asc l ∧ l.length ≤ 50 := by
    have e : (l, m0, (listsE x y [] s).2.2) = listsE x y [] s := by rw [(Prod.mk.inj hlm).1, (Prod.mk.inj hlm).2]
    exact (listsE_spec e).1
  have hsm : Asc m0 ∧ m0.length ≤ 50 := by
    have e : (l, m0, (listsE x y [] s).2.2) = listsE x y [] s := by rw [(Prod.mk.inj hlm).1, (Prod.mk.inj hlm).2]
    exact (listsE_spec e).2.1
  have hbl := bl hsp hsm
  have hin := fun z => chk_in hsp.1 hsm.1 z
  have hout := fun z => chk_out hsp.1 hsm.1 z
  have hpe : ∀ m', m' = m0 → btw l m' = btw l m0 := fun m' e => by rw [e]
  have hbl' : ∀ m', Asc m' ∧ m'.length ≤ 50 → (btw l m').length ≤ 100 := fun m' hm' => bl hsp hm'
  generalize btw l m0 = p at *
  refine Eq.mp (show (∀ l1 : List Ent,
  (∀ m : List Ent,
    (∀ n : List Ent,
      (((Prod.mk (l1) (Prod.mk (m) (n))) = (listsE x y [] s)) →
      (((l1.length + m.length ≤ 1000000) ∧
      (Asc l1) ∧
      (Asc m) ∧
      (brS (decide ((↑(btw l1 m).length : Int) > 0))
        ((brS (at_.tmod 2 == 0)
          (((0 < (↑(btw l1 m).length : Int)) ∧
          ((↑(btw l1 m).length : Int) ≤ 9223372036854775807) ∧
          (∀ x1 : Int,
            (((x1) = (IntKind.i64.wrap (at_.tdiv 2) % (↑(btw l1 m).length : Int))) →
            ((0 ≤ x1) ∧
            (x1 < (↑(btw l1 m).length : Int)) ∧
            (∃ x2 : XKy,
              (True ∧
              (((Value.int IntKind.i64 (((btw l1 m).getD x1.toNat { kind := 0, key := 0, old := 0, new := 0 : Chg }).key)) = (Value.int IntKind.i64 (x2.k))) ∧
              ((Value.bool (o)) = (Value.bool (o))) ∧
              True ∧
              True ∧
              True) ∧
              ((x) = (x)) ∧
              ((y) = (y)) ∧
              ((l1) = (l)) ∧
              ((btw l1 m) = (p)) ∧
              True)))))))
          ((∃ x1 : XKy,
            (True ∧
            (((Value.int IntKind.i64 (ky)) = (Value.int IntKind.i64 (x1.k))) ∧
            ((Value.bool (o)) = (Value.bool (o))) ∧
            True ∧
            True ∧
            True) ∧
            ((x) = (x)) ∧
            ((y) = (y)) ∧
            ((l1) = (l)) ∧
            ((btw l1 m) = (p)) ∧
            True)))))
        ((∃ x1 : XKy,
          (True ∧
          (((Value.int IntKind.i64 (ky)) = (Value.int IntKind.i64 (x1.k))) ∧
          ((Value.bool (o)) = (Value.bool (o))) ∧
          True ∧
          True ∧
          True) ∧
          ((x) = (x)) ∧
          ((y) = (y)) ∧
          ((l1) = (l)) ∧
          ((btw l1 m) = (p)) ∧
          True)))) ∧
      (∀ x1 : XKy,
        (True →
        ((∃ x2 : XHas p,
          (((x1.k) = (x2.k)) ∧
          (((Value.int IntKind.i64 (x1.k)) = (Value.int IntKind.i64 (x1.k))) ∧
          ((Value.bool (o)) = (Value.bool (o))) ∧
          True ∧
          True ∧
          ((Value.bool false) = (Value.bool (x2.b))) ∧
          ((Value.int IntKind.i64 0) = (Value.int IntKind.i64 ((↑x2.i : Int)))) ∧
          True) ∧
          ((x) = (x)) ∧
          ((y) = (y)) ∧
          ((l) = (l)) ∧
          ((p) = (p)) ∧
          True)) ∧
        (∀ x2 : XHas p,
          (((x1.k) = (x2.k)) →
          (brS (decide ((↑x2.i : Int) < (↑p.length : Int)))
            ((brS (x2.b)
              ((∃ x' : XHas p,
                (((x1.k) = (x'.k)) ∧
                ((((Value.int IntKind.i64 (x1.k)) = (Value.int IntKind.i64 (x1.k))) ∧
                ((Value.bool (o)) = (Value.bool (o))) ∧
                True ∧
                True ∧
                ((Value.bool true) = (Value.bool (x'.b))) ∧
                ((Value.int IntKind.i64 (IntKind.i64.wrap ((↑x2.i : Int) + 1))) = (Value.int IntKind.i64 ((↑x'.i : Int)))) ∧
                True) ∧
                ((x) = (x)) ∧
                ((y) = (y)) ∧
                ((l) = (l)) ∧
                ((p) = (p)) ∧
                True) ∧
                (p.length - x'.i < p.length - x2.i))))
              (((0 ≤ (↑x2.i : Int)) ∧
              ((↑x2.i : Int) < (↑p.length : Int)) ∧
              (∃ x' : XHas p,
                (((x1.k) = (x'.k)) ∧
                ((((Value.int IntKind.i64 (x1.k)) = (Value.int IntKind.i64 (x1.k))) ∧
                ((Value.bool (o)) = (Value.bool (o))) ∧
                True ∧
                True ∧
                ((Value.bool ((cA p x2.i).key == x1.k)) = (Value.bool (x'.b))) ∧
                ((Value.int IntKind.i64 (IntKind.i64.wrap ((↑x2.i : Int) + 1))) = (Value.int IntKind.i64 ((↑x'.i : Int)))) ∧
                True) ∧
                ((x) = (x)) ∧
                ((y) = (y)) ∧
                ((l) = (l)) ∧
                ((p) = (p)) ∧
                True) ∧
                (p.length - x'.i < p.length - x2.i)))))))
            ((∀ x3 : Option Int,
              (((x3) = (getE l x1.k)) →
              ((l.length ≤ 1000000) ∧
              (brS (x3.isSome)
                ((brS (o)
                  (((l.length ≤ 1000000) ∧
                  (∃ x4 : XChd l,
                    (((x1.k) = (x4.k)) ∧
                    (((Value.int IntKind.i64 (x1.k)) = (Value.int IntKind.i64 (x1.k))) ∧
                    True ∧
                    ((Value.bool (x2.b)) = (Value.bool (x2.b))) ∧
                    True ∧
                    True) ∧
                    ((x) = (x)) ∧
                    ((y) = (y)) ∧
                    ((l) = (l)) ∧
                    ((p) = (p)) ∧
                    ((outE l x1.k x1.k) = (x4.ch)) ∧
                    True))))
                  ((∃ x4 : XChd l,
                    (((x1.k) = (x4.k)) ∧
                    (((Value.int IntKind.i64 (x1.k)) = (Value.int IntKind.i64 (x1.k))) ∧
                    True ∧
                    ((Value.bool (x2.b)) = (Value.bool (x2.b))) ∧
                    True ∧
                    True) ∧
                    ((x) = (x)) ∧
                    ((y) = (y)) ∧
                    ((l) = (l)) ∧
                    ((p) = (p)) ∧
                    ((insE l (x1.k, IntKind.i64.wrap (x3.getD 0 + 1))) = (x4.ch)) ∧
                    True)))))
                ((∃ x4 : XChd l,
                  (((x1.k) = (x4.k)) ∧
                  (((Value.int IntKind.i64 (x1.k)) = (Value.int IntKind.i64 (x1.k))) ∧
                  True ∧
                  ((Value.bool (x2.b)) = (Value.bool (x2.b))) ∧
                  True ∧
                  True) ∧
                  ((x) = (x)) ∧
                  ((y) = (y)) ∧
                  ((l) = (l)) ∧
                  ((p) = (p)) ∧
                  ((insE l (x1.k, IntKind.i64.wrap (x3.getD 0 + 1))) = (x4.ch)) ∧
                  True)))) ∧
              (∀ x4 : XChd l,
                (((x1.k) = (x4.k)) →
                ((x4.ch.length + p.length ≤ 1000000) ∧
                (∀ r : List Ent,
                  (∀ e : Int,
                    (((Prod.mk (r) (e)) = (appR x4.ch p)) →
                    (brS (x2.b)
                      ((brS (e == 9)
                        ((K (SV.one (TV.at (At.val (Value.bool ((↑r.length : Int) == 0))))) [(Chunk.row false (EC.ent) (x)), (Chunk.row false (EC.ent) (y))] []))
                        ((K (SV.one (TV.at (At.val (Value.bool false)))) [(Chunk.row false (EC.ent) (x)), (Chunk.row false (EC.ent) (y))] []))))
                      ((∀ x5 : Option Int,
                        (((x5) = (getE x4.ch x1.k)) →
                        (∀ x6 : Option Int,
                          (((x6) = (getE r x1.k)) →
                          (brS (e == 0)
                            ((brS (x5.isSome == x6.isSome)
                              ((K (SV.one (TV.at (At.val (Value.bool (x5.getD 0 == x6.getD 0))))) [(Chunk.row false (EC.ent) (x)), (Chunk.row false (EC.ent) (y))] []))
                              ((K (SV.one (TV.at (At.val (Value.bool false)))) [(Chunk.row false (EC.ent) (x)), (Chunk.row false (EC.ent) (y))] []))))
                            ((K (SV.one (TV.at (At.val (Value.bool false)))) [(Chunk.row false (EC.ent) (x)), (Chunk.row false (EC.ent) (y))] [])))))))))))))))))))))))))) ∧
      (((m) = (l1)) →
      ((l1.length + l1.length ≤ 1000000) ∧
      (Asc l1) ∧
      (Asc l1) ∧
      (brS (decide ((↑(btw l1 l1).length : Int) > 0))
        ((brS (at_.tmod 2 == 0)
          (((0 < (↑(btw l1 l1).length : Int)) ∧
          ((↑(btw l1 l1).length : Int) ≤ 9223372036854775807) ∧
          (∀ x1 : Int,
            (((x1) = (IntKind.i64.wrap (at_.tdiv 2) % (↑(btw l1 l1).length : Int))) →
            ((0 ≤ x1) ∧
            (x1 < (↑(btw l1 l1).length : Int)) ∧
            (∃ x2 : XKy,
              (True ∧
              (((Value.int IntKind.i64 (((btw l1 l1).getD x1.toNat { kind := 0, key := 0, old := 0, new := 0 : Chg }).key)) = (Value.int IntKind.i64 (x2.k))) ∧
              ((Value.bool (o)) = (Value.bool (o))) ∧
              True ∧
              True ∧
              True) ∧
              ((x) = (x)) ∧
              ((y) = (y)) ∧
              ((l1) = (l)) ∧
              ((btw l1 l1) = (p)) ∧
              True)))))))
          ((∃ x1 : XKy,
            (True ∧
            (((Value.int IntKind.i64 (ky)) = (Value.int IntKind.i64 (x1.k))) ∧
            ((Value.bool (o)) = (Value.bool (o))) ∧
            True ∧
            True ∧
            True) ∧
            ((x) = (x)) ∧
            ((y) = (y)) ∧
            ((l1) = (l)) ∧
            ((btw l1 l1) = (p)) ∧
            True)))))
        ((∃ x1 : XKy,
          (True ∧
          (((Value.int IntKind.i64 (ky)) = (Value.int IntKind.i64 (x1.k))) ∧
          ((Value.bool (o)) = (Value.bool (o))) ∧
          True ∧
          True ∧
          True) ∧
          ((x) = (x)) ∧
          ((y) = (y)) ∧
          ((l1) = (l)) ∧
          ((btw l1 l1) = (p)) ∧
          True)))) ∧
      (∀ x1 : XKy,
        (True →
        ((∃ x2 : XHas p,
          (((x1.k) = (x2.k)) ∧
          (((Value.int IntKind.i64 (x1.k)) = (Value.int IntKind.i64 (x1.k))) ∧
          ((Value.bool (o)) = (Value.bool (o))) ∧
          True ∧
          True ∧
          ((Value.bool false) = (Value.bool (x2.b))) ∧
          ((Value.int IntKind.i64 0) = (Value.int IntKind.i64 ((↑x2.i : Int)))) ∧
          True) ∧
          ((x) = (x)) ∧
          ((y) = (y)) ∧
          ((l) = (l)) ∧
          ((p) = (p)) ∧
          True)) ∧
        (∀ x2 : XHas p,
          (((x1.k) = (x2.k)) →
          (brS (decide ((↑x2.i : Int) < (↑p.length : Int)))
            ((brS (x2.b)
              ((∃ x' : XHas p,
                (((x1.k) = (x'.k)) ∧
                ((((Value.int IntKind.i64 (x1.k)) = (Value.int IntKind.i64 (x1.k))) ∧
                ((Value.bool (o)) = (Value.bool (o))) ∧
                True ∧
                True ∧
                ((Value.bool true) = (Value.bool (x'.b))) ∧
                ((Value.int IntKind.i64 (IntKind.i64.wrap ((↑x2.i : Int) + 1))) = (Value.int IntKind.i64 ((↑x'.i : Int)))) ∧
                True) ∧
                ((x) = (x)) ∧
                ((y) = (y)) ∧
                ((l) = (l)) ∧
                ((p) = (p)) ∧
                True) ∧
                (p.length - x'.i < p.length - x2.i))))
              (((0 ≤ (↑x2.i : Int)) ∧
              ((↑x2.i : Int) < (↑p.length : Int)) ∧
              (∃ x' : XHas p,
                (((x1.k) = (x'.k)) ∧
                ((((Value.int IntKind.i64 (x1.k)) = (Value.int IntKind.i64 (x1.k))) ∧
                ((Value.bool (o)) = (Value.bool (o))) ∧
                True ∧
                True ∧
                ((Value.bool ((cA p x2.i).key == x1.k)) = (Value.bool (x'.b))) ∧
                ((Value.int IntKind.i64 (IntKind.i64.wrap ((↑x2.i : Int) + 1))) = (Value.int IntKind.i64 ((↑x'.i : Int)))) ∧
                True) ∧
                ((x) = (x)) ∧
                ((y) = (y)) ∧
                ((l) = (l)) ∧
                ((p) = (p)) ∧
                True) ∧
                (p.length - x'.i < p.length - x2.i)))))))
            ((∀ x3 : Option Int,
              (((x3) = (getE l x1.k)) →
              ((l.length ≤ 1000000) ∧
              (brS (x3.isSome)
                ((brS (o)
                  (((l.length ≤ 1000000) ∧
                  (∃ x4 : XChd l,
                    (((x1.k) = (x4.k)) ∧
                    (((Value.int IntKind.i64 (x1.k)) = (Value.int IntKind.i64 (x1.k))) ∧
                    True ∧
                    ((Value.bool (x2.b)) = (Value.bool (x2.b))) ∧
                    True ∧
                    True) ∧
                    ((x) = (x)) ∧
                    ((y) = (y)) ∧
                    ((l) = (l)) ∧
                    ((p) = (p)) ∧
                    ((outE l x1.k x1.k) = (x4.ch)) ∧
                    True))))
                  ((∃ x4 : XChd l,
                    (((x1.k) = (x4.k)) ∧
                    (((Value.int IntKind.i64 (x1.k)) = (Value.int IntKind.i64 (x1.k))) ∧
                    True ∧
                    ((Value.bool (x2.b)) = (Value.bool (x2.b))) ∧
                    True ∧
                    True) ∧
                    ((x) = (x)) ∧
                    ((y) = (y)) ∧
                    ((l) = (l)) ∧
                    ((p) = (p)) ∧
                    ((insE l (x1.k, IntKind.i64.wrap (x3.getD 0 + 1))) = (x4.ch)) ∧
                    True)))))
                ((∃ x4 : XChd l,
                  (((x1.k) = (x4.k)) ∧
                  (((Value.int IntKind.i64 (x1.k)) = (Value.int IntKind.i64 (x1.k))) ∧
                  True ∧
                  ((Value.bool (x2.b)) = (Value.bool (x2.b))) ∧
                  True ∧
                  True) ∧
                  ((x) = (x)) ∧
                  ((y) = (y)) ∧
                  ((l) = (l)) ∧
                  ((p) = (p)) ∧
                  ((insE l (x1.k, IntKind.i64.wrap (x3.getD 0 + 1))) = (x4.ch)) ∧
                  True)))) ∧
              (∀ x4 : XChd l,
                (((x1.k) = (x4.k)) →
                ((x4.ch.length + p.length ≤ 1000000) ∧
                (∀ r : List Ent,
                  (∀ e : Int,
                    (((Prod.mk (r) (e)) = (appR x4.ch p)) →
                    (brS (x2.b)
                      ((brS (e == 9)
                        ((K (SV.one (TV.at (At.val (Value.bool ((↑r.length : Int) == 0))))) [(Chunk.row false (EC.ent) (x)), (Chunk.row false (EC.ent) (y))] []))
                        ((K (SV.one (TV.at (At.val (Value.bool false)))) [(Chunk.row false (EC.ent) (x)), (Chunk.row false (EC.ent) (y))] []))))
                      ((∀ x5 : Option Int,
                        (((x5) = (getE x4.ch x1.k)) →
                        (∀ x6 : Option Int,
                          (((x6) = (getE r x1.k)) →
                          (brS (e == 0)
                            ((brS (x5.isSome == x6.isSome)
                              ((K (SV.one (TV.at (At.val (Value.bool (x5.getD 0 == x6.getD 0))))) [(Chunk.row false (EC.ent) (x)), (Chunk.row false (EC.ent) (y))] []))
                              ((K (SV.one (TV.at (At.val (Value.bool false)))) [(Chunk.row false (EC.ent) (x)), (Chunk.row false (EC.ent) (y))] []))))
                            ((K (SV.one (TV.at (At.val (Value.bool false)))) [(Chunk.row false (EC.ent) (x)), (Chunk.row false (EC.ent) (y))] []))))))))))))))))))))))))))) ∧
      (((n) = (l1)) →
      ((l1.length + m.length ≤ 1000000) ∧
      (Asc l1) ∧
      (Asc m) ∧
      (brS (decide ((↑(btw l1 m).length : Int) > 0))
        ((brS (at_.tmod 2 == 0)
          (((0 < (↑(btw l1 m).length : Int)) ∧
          ((↑(btw l1 m).length : Int) ≤ 9223372036854775807) ∧
          (∀ x1 : Int,
            (((x1) = (IntKind.i64.wrap (at_.tdiv 2) % (↑(btw l1 m).length : Int))) →
            ((0 ≤ x1) ∧
            (x1 < (↑(btw l1 m).length : Int)) ∧
            (∃ x2 : XKy,
              (True ∧
              (((Value.int IntKind.i64 (((btw l1 m).getD x1.toNat { kind := 0, key := 0, old := 0, new := 0 : Chg }).key)) = (Value.int IntKind.i64 (x2.k))) ∧
              ((Value.bool (o)) = (Value.bool (o))) ∧
              True ∧
              True ∧
              True) ∧
              ((x) = (x)) ∧
              ((y) = (y)) ∧
              ((l1) = (l)) ∧
              ((btw l1 m) = (p)) ∧
              True)))))))
          ((∃ x1 : XKy,
            (True ∧
            (((Value.int IntKind.i64 (ky)) = (Value.int IntKind.i64 (x1.k))) ∧
            ((Value.bool (o)) = (Value.bool (o))) ∧
            True ∧
            True ∧
            True) ∧
            ((x) = (x)) ∧
            ((y) = (y)) ∧
            ((l1) = (l)) ∧
            ((btw l1 m) = (p)) ∧
            True)))))
        ((∃ x1 : XKy,
          (True ∧
          (((Value.int IntKind.i64 (ky)) = (Value.int IntKind.i64 (x1.k))) ∧
          ((Value.bool (o)) = (Value.bool (o))) ∧
          True ∧
          True ∧
          True) ∧
          ((x) = (x)) ∧
          ((y) = (y)) ∧
          ((l1) = (l)) ∧
          ((btw l1 m) = (p)) ∧
          True)))) ∧
      (∀ x1 : XKy,
        (True →
        ((∃ x2 : XHas p,
          (((x1.k) = (x2.k)) ∧
          (((Value.int IntKind.i64 (x1.k)) = (Value.int IntKind.i64 (x1.k))) ∧
          ((Value.bool (o)) = (Value.bool (o))) ∧
          True ∧
          True ∧
          ((Value.bool false) = (Value.bool (x2.b))) ∧
          ((Value.int IntKind.i64 0) = (Value.int IntKind.i64 ((↑x2.i : Int)))) ∧
          True) ∧
          ((x) = (x)) ∧
          ((y) = (y)) ∧
          ((l) = (l)) ∧
          ((p) = (p)) ∧
          True)) ∧
        (∀ x2 : XHas p,
          (((x1.k) = (x2.k)) →
          (brS (decide ((↑x2.i : Int) < (↑p.length : Int)))
            ((brS (x2.b)
              ((∃ x' : XHas p,
                (((x1.k) = (x'.k)) ∧
                ((((Value.int IntKind.i64 (x1.k)) = (Value.int IntKind.i64 (x1.k))) ∧
                ((Value.bool (o)) = (Value.bool (o))) ∧
                True ∧
                True ∧
                ((Value.bool true) = (Value.bool (x'.b))) ∧
                ((Value.int IntKind.i64 (IntKind.i64.wrap ((↑x2.i : Int) + 1))) = (Value.int IntKind.i64 ((↑x'.i : Int)))) ∧
                True) ∧
                ((x) = (x)) ∧
                ((y) = (y)) ∧
                ((l) = (l)) ∧
                ((p) = (p)) ∧
                True) ∧
                (p.length - x'.i < p.length - x2.i))))
              (((0 ≤ (↑x2.i : Int)) ∧
              ((↑x2.i : Int) < (↑p.length : Int)) ∧
              (∃ x' : XHas p,
                (((x1.k) = (x'.k)) ∧
                ((((Value.int IntKind.i64 (x1.k)) = (Value.int IntKind.i64 (x1.k))) ∧
                ((Value.bool (o)) = (Value.bool (o))) ∧
                True ∧
                True ∧
                ((Value.bool ((cA p x2.i).key == x1.k)) = (Value.bool (x'.b))) ∧
                ((Value.int IntKind.i64 (IntKind.i64.wrap ((↑x2.i : Int) + 1))) = (Value.int IntKind.i64 ((↑x'.i : Int)))) ∧
                True) ∧
                ((x) = (x)) ∧
                ((y) = (y)) ∧
                ((l) = (l)) ∧
                ((p) = (p)) ∧
                True) ∧
                (p.length - x'.i < p.length - x2.i)))))))
            ((∀ x3 : Option Int,
              (((x3) = (getE l x1.k)) →
              ((l.length ≤ 1000000) ∧
              (brS (x3.isSome)
                ((brS (o)
                  (((l.length ≤ 1000000) ∧
                  (∃ x4 : XChd l,
                    (((x1.k) = (x4.k)) ∧
                    (((Value.int IntKind.i64 (x1.k)) = (Value.int IntKind.i64 (x1.k))) ∧
                    True ∧
                    ((Value.bool (x2.b)) = (Value.bool (x2.b))) ∧
                    True ∧
                    True) ∧
                    ((x) = (x)) ∧
                    ((y) = (y)) ∧
                    ((l) = (l)) ∧
                    ((p) = (p)) ∧
                    ((outE l x1.k x1.k) = (x4.ch)) ∧
                    True))))
                  ((∃ x4 : XChd l,
                    (((x1.k) = (x4.k)) ∧
                    (((Value.int IntKind.i64 (x1.k)) = (Value.int IntKind.i64 (x1.k))) ∧
                    True ∧
                    ((Value.bool (x2.b)) = (Value.bool (x2.b))) ∧
                    True ∧
                    True) ∧
                    ((x) = (x)) ∧
                    ((y) = (y)) ∧
                    ((l) = (l)) ∧
                    ((p) = (p)) ∧
                    ((insE l (x1.k, IntKind.i64.wrap (x3.getD 0 + 1))) = (x4.ch)) ∧
                    True)))))
                ((∃ x4 : XChd l,
                  (((x1.k) = (x4.k)) ∧
                  (((Value.int IntKind.i64 (x1.k)) = (Value.int IntKind.i64 (x1.k))) ∧
                  True ∧
                  ((Value.bool (x2.b)) = (Value.bool (x2.b))) ∧
                  True ∧
                  True) ∧
                  ((x) = (x)) ∧
                  ((y) = (y)) ∧
                  ((l) = (l)) ∧
                  ((p) = (p)) ∧
                  ((insE l (x1.k, IntKind.i64.wrap (x3.getD 0 + 1))) = (x4.ch)) ∧
                  True)))) ∧
              (∀ x4 : XChd l,
                (((x1.k) = (x4.k)) →
                ((x4.ch.length + p.length ≤ 1000000) ∧
                (∀ r : List Ent,
                  (∀ e : Int,
                    (((Prod.mk (r) (e)) = (appR x4.ch p)) →
                    (brS (x2.b)
                      ((brS (e == 9)
                        ((K (SV.one (TV.at (At.val (Value.bool ((↑r.length : Int) == 0))))) [(Chunk.row false (EC.ent) (x)), (Chunk.row false (EC.ent) (y))] []))
                        ((K (SV.one (TV.at (At.val (Value.bool false)))) [(Chunk.row false (EC.ent) (x)), (Chunk.row false (EC.ent) (y))] []))))
                      ((∀ x5 : Option Int,
                        (((x5) = (getE x4.ch x1.k)) →
                        (∀ x6 : Option Int,
                          (((x6) = (getE r x1.k)) →
                          (brS (e == 0)
                            ((brS (x5.isSome == x6.isSome)
                              ((K (SV.one (TV.at (At.val (Value.bool (x5.getD 0 == x6.getD 0))))) [(Chunk.row false (EC.ent) (x)), (Chunk.row false (EC.ent) (y))] []))
                              ((K (SV.one (TV.at (At.val (Value.bool false)))) [(Chunk.row false (EC.ent) (x)), (Chunk.row false (EC.ent) (y))] []))))
                            ((K (SV.one (TV.at (At.val (Value.bool false)))) [(Chunk.row false (EC.ent) (x)), (Chunk.row false (EC.ent) (y))] []))))))))))))))))))))))))))) ∧
      (((m) = (l1)) →
      (((n) = (l1)) →
      ((l1.length + l1.length ≤ 1000000) ∧
      (Asc l1) ∧
      (Asc l1) ∧
      (brS (decide ((↑(btw l1 l1).length : Int) > 0))
        ((brS (at_.tmod 2 == 0)
          (((0 < (↑(btw l1 l1).length : Int)) ∧
          ((↑(btw l1 l1).length : Int) ≤ 9223372036854775807) ∧
          (∀ x1 : Int,
            (((x1) = (IntKind.i64.wrap (at_.tdiv 2) % (↑(btw l1 l1).length : Int))) →
            ((0 ≤ x1) ∧
            (x1 < (↑(btw l1 l1).length : Int)) ∧
            (∃ x2 : XKy,
              (True ∧
              (((Value.int IntKind.i64 (((btw l1 l1).getD x1.toNat { kind := 0, key := 0, old := 0, new := 0 : Chg }).key)) = (Value.int IntKind.i64 (x2.k))) ∧
              ((Value.bool (o)) = (Value.bool (o))) ∧
              True ∧
              True ∧
              True) ∧
              ((x) = (x)) ∧
              ((y) = (y)) ∧
              ((l1) = (l)) ∧
              ((btw l1 l1) = (p)) ∧
              True)))))))
          ((∃ x1 : XKy,
            (True ∧
            (((Value.int IntKind.i64 (ky)) = (Value.int IntKind.i64 (x1.k))) ∧
            ((Value.bool (o)) = (Value.bool (o))) ∧
            True ∧
            True ∧
            True) ∧
            ((x) = (x)) ∧
            ((y) = (y)) ∧
            ((l1) = (l)) ∧
            ((btw l1 l1) = (p)) ∧
            True)))))
        ((∃ x1 : XKy,
          (True ∧
          (((Value.int IntKind.i64 (ky)) = (Value.int IntKind.i64 (x1.k))) ∧
          ((Value.bool (o)) = (Value.bool (o))) ∧
          True ∧
          True ∧
          True) ∧
          ((x) = (x)) ∧
          ((y) = (y)) ∧
          ((l1) = (l)) ∧
          ((btw l1 l1) = (p)) ∧
          True)))) ∧
      (∀ x1 : XKy,
        (True →
        ((∃ x2 : XHas p,
          (((x1.k) = (x2.k)) ∧
          (((Value.int IntKind.i64 (x1.k)) = (Value.int IntKind.i64 (x1.k))) ∧
          ((Value.bool (o)) = (Value.bool (o))) ∧
          True ∧
          True ∧
          ((Value.bool false) = (Value.bool (x2.b))) ∧
          ((Value.int IntKind.i64 0) = (Value.int IntKind.i64 ((↑x2.i : Int)))) ∧
          True) ∧
          ((x) = (x)) ∧
          ((y) = (y)) ∧
          ((l) = (l)) ∧
          ((p) = (p)) ∧
          True)) ∧
        (∀ x2 : XHas p,
          (((x1.k) = (x2.k)) →
          (brS (decide ((↑x2.i : Int) < (↑p.length : Int)))
            ((brS (x2.b)
              ((∃ x' : XHas p,
                (((x1.k) = (x'.k)) ∧
                ((((Value.int IntKind.i64 (x1.k)) = (Value.int IntKind.i64 (x1.k))) ∧
                ((Value.bool (o)) = (Value.bool (o))) ∧
                True ∧
                True ∧
                ((Value.bool true) = (Value.bool (x'.b))) ∧
                ((Value.int IntKind.i64 (IntKind.i64.wrap ((↑x2.i : Int) + 1))) = (Value.int IntKind.i64 ((↑x'.i : Int)))) ∧
                True) ∧
                ((x) = (x)) ∧
                ((y) = (y)) ∧
                ((l) = (l)) ∧
                ((p) = (p)) ∧
                True) ∧
                (p.length - x'.i < p.length - x2.i))))
              (((0 ≤ (↑x2.i : Int)) ∧
              ((↑x2.i : Int) < (↑p.length : Int)) ∧
              (∃ x' : XHas p,
                (((x1.k) = (x'.k)) ∧
                ((((Value.int IntKind.i64 (x1.k)) = (Value.int IntKind.i64 (x1.k))) ∧
                ((Value.bool (o)) = (Value.bool (o))) ∧
                True ∧
                True ∧
                ((Value.bool ((cA p x2.i).key == x1.k)) = (Value.bool (x'.b))) ∧
                ((Value.int IntKind.i64 (IntKind.i64.wrap ((↑x2.i : Int) + 1))) = (Value.int IntKind.i64 ((↑x'.i : Int)))) ∧
                True) ∧
                ((x) = (x)) ∧
                ((y) = (y)) ∧
                ((l) = (l)) ∧
                ((p) = (p)) ∧
                True) ∧
                (p.length - x'.i < p.length - x2.i)))))))
            ((∀ x3 : Option Int,
              (((x3) = (getE l x1.k)) →
              ((l.length ≤ 1000000) ∧
              (brS (x3.isSome)
                ((brS (o)
                  (((l.length ≤ 1000000) ∧
                  (∃ x4 : XChd l,
                    (((x1.k) = (x4.k)) ∧
                    (((Value.int IntKind.i64 (x1.k)) = (Value.int IntKind.i64 (x1.k))) ∧
                    True ∧
                    ((Value.bool (x2.b)) = (Value.bool (x2.b))) ∧
                    True ∧
                    True) ∧
                    ((x) = (x)) ∧
                    ((y) = (y)) ∧
                    ((l) = (l)) ∧
                    ((p) = (p)) ∧
                    ((outE l x1.k x1.k) = (x4.ch)) ∧
                    True))))
                  ((∃ x4 : XChd l,
                    (((x1.k) = (x4.k)) ∧
                    (((Value.int IntKind.i64 (x1.k)) = (Value.int IntKind.i64 (x1.k))) ∧
                    True ∧
                    ((Value.bool (x2.b)) = (Value.bool (x2.b))) ∧
                    True ∧
                    True) ∧
                    ((x) = (x)) ∧
                    ((y) = (y)) ∧
                    ((l) = (l)) ∧
                    ((p) = (p)) ∧
                    ((insE l (x1.k, IntKind.i64.wrap (x3.getD 0 + 1))) = (x4.ch)) ∧
                    True)))))
                ((∃ x4 : XChd l,
                  (((x1.k) = (x4.k)) ∧
                  (((Value.int IntKind.i64 (x1.k)) = (Value.int IntKind.i64 (x1.k))) ∧
                  True ∧
                  ((Value.bool (x2.b)) = (Value.bool (x2.b))) ∧
                  True ∧
                  True) ∧
                  ((x) = (x)) ∧
                  ((y) = (y)) ∧
                  ((l) = (l)) ∧
                  ((p) = (p)) ∧
                  ((insE l (x1.k, IntKind.i64.wrap (x3.getD 0 + 1))) = (x4.ch)) ∧
                  True)))) ∧
              (∀ x4 : XChd l,
                (((x1.k) = (x4.k)) →
                ((x4.ch.length + p.length ≤ 1000000) ∧
                (∀ r : List Ent,
                  (∀ e : Int,
                    (((Prod.mk (r) (e)) = (appR x4.ch p)) →
                    (brS (x2.b)
                      ((brS (e == 9)
                        ((K (SV.one (TV.at (At.val (Value.bool ((↑r.length : Int) == 0))))) [(Chunk.row false (EC.ent) (x)), (Chunk.row false (EC.ent) (y))] []))
                        ((K (SV.one (TV.at (At.val (Value.bool false)))) [(Chunk.row false (EC.ent) (x)), (Chunk.row false (EC.ent) (y))] []))))
                      ((∀ x5 : Option Int,
                        (((x5) = (getE x4.ch x1.k)) →
                        (∀ x6 : Option Int,
                          (((x6) = (getE r x1.k)) →
                          (brS (e == 0)
                            ((brS (x5.isSome == x6.isSome)
                              ((K (SV.one (TV.at (At.val (Value.bool (x5.getD 0 == x6.getD 0))))) [(Chunk.row false (EC.ent) (x)), (Chunk.row false (EC.ent) (y))] []))
                              ((K (SV.one (TV.at (At.val (Value.bool false)))) [(Chunk.row false (EC.ent) (x)), (Chunk.row false (EC.ent) (y))] []))))
                            ((K (SV.one (TV.at (At.val (Value.bool false)))) [(Chunk.row false (EC.ent) (x)), (Chunk.row false (EC.ent) (y))] []))))))))))))))))))))))))))))))))) = _ by kernel_rfl) ?_
  intro l1 m n e
  have e1 : l1 = l := by have := congrArg Prod.fst e; rw [(Prod.mk.inj hlm).1]; exact this
  have e2 : m = m0 := by have := congrArg (fun z => z.2.1) e; rw [(Prod.mk.inj hlm).2]; exact this
  obtain ⟨h1, h2, h3⟩ := listsE_spec e
  subst e1
  have fst : ∀ {α : Type} {f : α → Int} {p : List Chg} {k : Int}, True := trivial
  refine ⟨⟨by omega, h1.1, h2.1, brS_of (fun d1 => brS_of (fun d2 => ⟨by simpa using d1, by have := hbl' m h2; omega, fun x1 hx1 => ⟨?_, ?_, ⟨⟨_⟩, trivial, ⟨rfl, rfl, trivial, trivial, trivial⟩, rfl, rfl, rfl, hpe m e2, trivial⟩⟩⟩) fun d2 => ⟨⟨_⟩, trivial, ⟨rfl, rfl, trivial, trivial, trivial⟩, rfl, rfl, rfl, hpe m e2, trivial⟩) fun d1 => ⟨⟨_⟩, trivial, ⟨rfl, rfl, trivial, trivial, trivial⟩, rfl, rfl, rfl, hpe m e2, trivial⟩, fun w _ => ?_⟩, fun q => ⟨by omega, h1.1, h1.1, brS_of (fun d1 => brS_of (fun d2 => ⟨by simpa using d1, by have := hbl' l1 h1; omega, fun x1 hx1 => ⟨?_, ?_, ⟨⟨_⟩, trivial, ⟨rfl, rfl, trivial, trivial, trivial⟩, rfl, rfl, rfl, hpe l1 (q.symm.trans e2), trivial⟩⟩⟩) fun d2 => ⟨⟨_⟩, trivial, ⟨rfl, rfl, trivial, trivial, trivial⟩, rfl, rfl, rfl, hpe l1 (q.symm.trans e2), trivial⟩) fun d1 => ⟨⟨_⟩, trivial, ⟨rfl, rfl, trivial, trivial, trivial⟩, rfl, rfl, rfl, hpe l1 (q.symm.trans e2), trivial⟩, fun w _ => ?_⟩, fun _ => ⟨by omega, h1.1, h2.1, brS_of (fun d1 => brS_of (fun d2 => ⟨by simpa using d1, by have := hbl' m h2; omega, fun x1 hx1 => ⟨?_, ?_, ⟨⟨_⟩, trivial, ⟨rfl, rfl, trivial, trivial, trivial⟩, rfl, rfl, rfl, hpe m e2, trivial⟩⟩⟩) fun d2 => ⟨⟨_⟩, trivial, ⟨rfl, rfl, trivial, trivial, trivial⟩, rfl, rfl, rfl, hpe m e2, trivial⟩) fun d1 => ⟨⟨_⟩, trivial, ⟨rfl, rfl, trivial, trivial, trivial⟩, rfl, rfl, rfl, hpe m e2, trivial⟩, fun w _ => ?_⟩, fun q _ => ⟨by omega, h1.1, h1.1, brS_of (fun d1 => brS_of (fun d2 => ⟨by simpa using d1, by have := hbl' l1 h1; omega, fun x1 hx1 => ⟨?_, ?_, ⟨⟨_⟩, trivial, ⟨rfl, rfl, trivial, trivial, trivial⟩, rfl, rfl, rfl, hpe l1 (q.symm.trans e2), trivial⟩⟩⟩) fun d2 => ⟨⟨_⟩, trivial, ⟨rfl, rfl, trivial, trivial, trivial⟩, rfl, rfl, rfl, hpe l1 (q.symm.trans e2), trivial⟩) fun d1 => ⟨⟨_⟩, trivial, ⟨rfl, rfl, trivial, trivial, trivial⟩, rfl, rfl, rfl, hpe l1 (q.symm.trans e2), trivial⟩, fun w _ => ?_⟩⟩
  case refine_1 | refine_4 | refine_7 | refine_10 =>
    have d1' := of_decide_eq_true d1
    rw [hx1]; exact Int.emod_nonneg _ (by omega)
  case refine_2 | refine_5 | refine_8 | refine_11 =>
    have d1' := of_decide_eq_true d1
    rw [hx1]; exact Int.emod_lt_of_pos _ (by omega)
  all_goals
    refine ⟨⟨⟨0, w.k, false, Nat.zero_le _, rfl⟩, rfl, ⟨rfl, rfl, trivial, trivial, rfl, rfl, trivial⟩, rfl, rfl, rfl, rfl, trivial⟩, fun z rz => brS_of (fun hi => ?_) fun hi => ?_⟩
    · have hi : z.i < p.length := by simpa using hi
      have hs := any_snoc p z.k hi
      have hz := z.h
      have w1 := wrap_next hi (by omega)
      refine brS_of (fun eb => ⟨⟨z.i + 1, z.k, true, by omega, ?_⟩, rz, ⟨⟨rfl, rfl, trivial, trivial, rfl, ?_, trivial⟩, rfl, rfl, rfl, rfl, trivial⟩, ?_⟩) fun eb => ⟨by omega, by omega, ⟨z.i + 1, z.k, (cA p z.i).key == w.k, by omega, ?_⟩, rz, ⟨⟨rfl, rfl, trivial, trivial, rfl, ?_, trivial⟩, rfl, rfl, rfl, rfl, trivial⟩, ?_⟩
      · rw [hs, ← hz.2, eb]; rfl
      · rw [w1]
      · show p.length - (z.i + 1) < _; omega
      · rw [hs, ← hz.2, eb, rz, Bool.false_or]; exact beq_dec' _ _
      · rw [w1]
      · show p.length - (z.i + 1) < _; omega
    · have hz := z.h
      have hi : z.i = p.length := by simp at hi; omega
      rw [hi, List.take_length, ← rz] at hz
      intro x3 hx3
      refine ⟨by omega, brS_of (fun q1 => brS_of (fun q2 => ⟨by omega, chDel hsp w.k hx3 q1, rfl, ⟨rfl, trivial, rfl, trivial, trivial⟩, rfl, rfl, rfl, rfl, rfl, trivial⟩) fun q2 => ⟨chIns hsp w.k hx3, rfl, ⟨rfl, trivial, rfl, trivial, trivial⟩, rfl, rfl, rfl, rfl, rfl, trivial⟩) fun q1 => ⟨chIns hsp w.k hx3, rfl, ⟨rfl, trivial, rfl, trivial, trivial⟩, rfl, rfl, rfl, rfl, rfl, trivial⟩, fun c rc => ⟨?_, fun r e he => ?_⟩⟩
      · have := c.h.1; omega
      · refine brS_of (fun eb => ?_) fun eb => ?_
        · rw [hin c (by rw [← rc, ← hz.2, eb])] at he
          obtain ⟨rfl, rfl⟩ := Prod.mk.inj he
          exact bt rfl (fin _ rfl)
        · obtain ⟨r', k1, k2⟩ := hout c (by rw [← rc, ← hz.2, eb])
          rw [k1] at he
          obtain ⟨rfl, rfl⟩ := Prod.mk.inj he
          intro x5 hx5 x6 hx6
          have hx : x6 = x5 := by rw [hx5, hx6, rc, k2]
          subst hx
          exact bt rfl (bt (by simp) (fin _ (by simp)))
theorem s_chk : SoundT C0 7 tChk := by
  refine .of Try.func7 (by decide) rfl fun args H K h hB => ?_
  unfold tChk at h
  split at h <;> try exact h.elim
  rename_i s ky at_ o x y
  exact ⟨aChk x y (l5 x y s) (btw (l5 x y s) (m5 x y s)), ⟨frame C0.ok s_lists _, frame C0.ok s_btwA _, frame C0.ok s_app _, frame C0.ok s_awake _, frame C0.ok s_mod _, frame C0.ok s_get _, frame C0.ok s_ins _, frame C0.ok s_del _, trivial⟩, vc_chk x y _ _ s o ky at_ rfl K h⟩
end Go.Proofs.Ytdgodcamadalhaa.Sx
