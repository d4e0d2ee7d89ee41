/- The reference's Apply. -/
import Derived.Test.YtdgodcamadalhaaSxRo
namespace Go.Proofs.Ytdgodcamadalhaa.Sx
open Go

def ap1 (out : List Ent) (c : Chg) : List Ent := match c.after with
  | some v => insE out (c.key, v)
  | none => outE out c.key c.key
def fitB (l : List Ent) (p : List Chg) : Bool := p.all fun c => decide (getE l c.key = c.before)
def app19R (l : List Ent) (p : List Chg) : List Ent × Int := if ascB l && valB p then (if fitB l p then (p.foldl ap1 l, 0) else ([], 9)) else ([], 1)
noncomputable def aAppN (l : List Ent) : Ann C0 := { rounds := fun n => if n = 5 then 1 else 0, Γ := [(57, frameT [] tAsc), (41, frameT [] tValid), (69, frameT [] tGet19), (70, frameT [] (tBefore optA)), (71, frameT [] (tAfter optA)), (31, frameT [] tIns), (32, frameT [] tDel)], inv := fun n => match n with
  | 5 => some { X := Empty, sl := [], tf := fun _ => [], hf := fun _ => [] }
  | 1008 => some { X := Empty, sl := [], tf := fun _ => [], hf := fun _ => [] }
  | _ => none }
structure XA9 (l : List Ent) (p : List Chg) where
  i : Nat
  out : List Ent
  h : i ≤ p.length ∧ out.length ≤ l.length + i ∧ fitB l (p.take i) = true ∧ out = (p.take i).foldl ap1 l
structure XA9b (l : List Ent) (p : List Chg) extends XA9 l p where
  b : Bool
  hb : b = !decide (getE l (cA p i).key = (cA p i).before)
noncomputable def aApp19 (l : List Ent) (p : List Chg) : Ann C0 := { trunc := fun n => n == 6, rounds := fun n => if n = 5 then 1 else 0, quiet := [69, 70, 71, 31, 32], Γ := [(57, frameT [] tAsc), (41, frameT [] tValid), (69, frameT [] tGet19), (70, frameT [] (tBefore optA)), (71, frameT [] (tAfter optA)), (31, frameT [] tIns), (32, frameT [] tDel)], inv := fun n => match n with
  | 5 => some { X := XA9 l p, sl := [7, 6], tf := fun x => [vi .i64 x.i, .one (.at (.slc 2))], hf := fun x => [.row false EC.ent l, .row false EC.chg p, .row true EC.ent x.out], μ := fun x => p.length - x.i }
  | 1008 => some { X := XA9b l p, sl := [36, 6], tf := fun x => [vb x.b, .one (.at (.slc 2))], hf := fun x => [.row false EC.ent l, .row false EC.chg p, .row false EC.ent x.out], rel := fun T _ x => slotI T 7 x.i }
  | _ => none }
def tApp19 : Tfm C0 := fun args H K => match args, H with
  | [.at (.slc 0), .at (.slc 1)], [.row false .ent l, .row false .chg p] => l.length + p.length ≤ 1000000 ∧ (∀ (r : List Ent) (e : Int), (r, e) = app19R l p → K (.tup [.at (.slc 2), .at (vI e)]) [.row false EC.ent l, .row false EC.chg p, .row true EC.ent r] []) ∧
    (p.length = 0 → ascB l = true → K (.tup [.at (.slc 0), .at (vI 0)]) [.row false EC.ent l, .row false EC.chg p] [])
  | _, _ => False
theorem outE_get' {l : List Ent} (h : Asc l) (k q : Int) : getE (outE l k k) q = if q = k then none else getE l q := by
  rw [getE_fnd, getE_fnd]
  unfold outE
  rw [fnd_filter h]
  cases hf : fnd Prod.fst l q with
  | none => simp
  | some x =>
    have hk := fnd_key hf
    simp only [Option.filter]
    by_cases hq : q = k
    · rw [if_pos hq, if_neg (by simp; omega)]; rfl
    · rw [if_neg hq, if_pos (by simp; omega)]
theorem ap1_get {l : List Ent} (h : Asc l) (c : Chg) : Asc (ap1 l c) ∧ ∀ k, getE (ap1 l c) k = if k = c.key then c.after else getE l k := by
  unfold ap1
  cases hc : c.after with
  | none => exact ⟨outE_asc h _ _, fun k => outE_get' h _ _⟩
  | some v => exact ⟨insE_asc _ h, fun k => by
      rw [insE_get _ h]
      by_cases hk : k = c.key
      · rw [if_pos hk.symm, if_pos hk]
      · rw [if_neg (fun e => hk e.symm), if_neg hk]⟩
theorem ap1_len (l : List Ent) (c : Chg) : (ap1 l c).length ≤ l.length + 1 := by
  unfold ap1
  split
  · exact insE_len _ _
  · exact Nat.le_trans (outE_le _ _ _) (by omega)
theorem fold_get : ∀ (p : List Chg) {l : List Ent}, Asc l → Srt Chg.key p → Asc (p.foldl ap1 l) ∧ ∀ k, getE (p.foldl ap1 l) k = put (getE l k) (fnd Chg.key p k) := by
  intro p
  induction p with
  | nil => intro l hl _; exact ⟨hl, fun k => by simp [fnd_nil, put]⟩
  | cons c t ih =>
    intro l hl hp
    obtain ⟨h1, h2⟩ := ap1_get hl c
    obtain ⟨h3, h4⟩ := ih h1 hp.tail
    refine ⟨h3, fun k => ?_⟩
    rw [List.foldl_cons, h4, h2, fnd_cons]
    by_cases hk : k = c.key
    · have hn : fnd Chg.key t k = none := fnd_of_lt fun x hx => by rw [hk]; exact hp.head x hx
      rw [hn, if_pos hk, if_pos hk.symm]; rfl
    · rw [if_neg hk, if_neg (fun e => hk e.symm)]
theorem fitB_iff {l : List Ent} {p : List Chg} : fitB l p = true ↔ Fits l p := by
  unfold fitB Fits
  simp
theorem app19R_eq (l : List Ent) (p : List Chg) : app19R l p = appR l p := by
  unfold app19R appR
  by_cases h : (ascB l && valB p) = true
  · rw [if_pos h, if_pos h]
    simp only [Bool.and_eq_true] at h
    have hl : Asc l := by simpa [ascB] using h.1
    have hp := (valB_iff.1 h.2).1
    by_cases hf : Fits l p
    · rw [if_pos (fitB_iff.2 hf)]
      obtain ⟨h1, h2⟩ := fold_get p hl hp
      rw [app_of hl hp h1 hf h2]
    · rw [if_neg (fun e => hf (fitB_iff.1 e)), (app_none hl hp).2 hf]
  · rw [if_neg h, if_neg h]
theorem opt_eqB (x y : Option Int) : (x.getD 0 == y.getD 0 && (x.isSome == y.isSome && true)) = decide (x = y) := by
  cases x <;> cases y <;> simp
  exact Bool.eq_iff_iff.2 (by simp)
theorem fit_snoc {l : List Ent} {p : List Chg} {i : Nat} (hi : i < p.length) : fitB l (p.take (i + 1)) = (fitB l (p.take i) && decide (getE l (cA p i).key = (cA p i).before)) := by
  unfold fitB
  rw [take_snoc (cA_get hi), List.all_append]; simp
theorem fold_snoc {l : List Ent} {p : List Chg} {i : Nat} (hi : i < p.length) : (p.take (i + 1)).foldl ap1 l = ap1 ((p.take i).foldl ap1 l) (cA p i) := by
  rw [take_snoc (cA_get hi), List.foldl_append]; rfl
theorem fit_not {l : List Ent} {p : List Chg} {i : Nat} (hi : i < p.length) (h : ¬ getE l (cA p i).key = (cA p i).before) : fitB l p = false := by
  unfold fitB
  rw [List.all_eq_false]
  exact ⟨cA p i, List.mem_of_getElem? (cA_get hi), by simpa using h⟩
theorem XA9.next {l : List Ent} {p : List Chg} (z : XA9 l p) (hi : z.i < p.length) (hb : getE l (cA p z.i).key = (cA p z.i).before) : (z.i + 1 ≤ p.length ∧ (ap1 z.out (cA p z.i)).length ≤ l.length + (z.i + 1) ∧ fitB l (p.take (z.i + 1)) = true ∧ ap1 z.out (cA p z.i) = (p.take (z.i + 1)).foldl ap1 l) := by
  obtain ⟨h1, h2, h3, h4⟩ := z.h
  refine ⟨hi, ?_, ?_, ?_⟩
  · have := ap1_len z.out (cA p z.i); omega
  · rw [fit_snoc hi, h3]; simpa using hb
  · rw [fold_snoc hi, ← h4]
theorem ap1_some {out : List Ent} {c : Chg} {v : Int} (h : c.after = some v) : insE out (c.key, v) = ap1 out c := by unfold ap1; rw [h]
theorem ap1_none {out : List Ent} {c : Chg} (h : c.after = none) : outE out c.key c.key = ap1 out c := by unfold ap1; rw [h]
theorem isN {x : Option Int} (h : x.isSome = false) : x = none := by
  cases x with
  | none => rfl
  | some v => cases h
theorem vc_appN (l : List Ent) (K : KT) (h : ∀ (r : List Ent) (e : Int), (r, e) = app19R l [] → K (.tup [.at (.slc 2), .at (vI e)]) [.row false EC.ent l, .row false EC.chg [], .row true EC.ent r] [])
    (h0 : ascB l = true → K (.tup [.at (.slc 0), .at (vI 0)]) [.row false EC.ent l, .row false EC.chg []] []) :
    vc C0 (aAppN l) Try.f40 [.at (.slc 0), .at (.slc 1)] [.row false EC.ent l, .row false EC.chg []] (normK 2 K) := by
  refine Eq.mp (show (brS (!ascB l)
  ((K (SV.tup [(TV.at (At.slc 2)), (TV.at (At.val (Value.int IntKind.i64 1)))]) [(Chunk.row false (EC.ent) (l)), (Chunk.row false (EC.chg) []), (Chunk.row true (EC.ent) [])] []))
  ((K (SV.tup [(TV.at (At.slc 0)), (TV.at (At.val (Value.int IntKind.i64 0)))]) [(Chunk.row false (EC.ent) (l)), (Chunk.row false (EC.chg) [])] []))) = _ by kernel_rfl) ?_
  exact brS_of (fun c1 => h [] 1 (by simp at c1; simp [app19R, c1])) fun c1 => h0 (by simpa using c1)
theorem vc_app19 (l : List Ent) (p : List Chg) (K : KT) (hsm : l.length + p.length ≤ 1000000) (hp : 0 < p.length) (h : ∀ (r : List Ent) (e : Int), (r, e) = app19R l p → K (.tup [.at (.slc 2), .at (vI e)]) [.row false EC.ent l, .row false EC.chg p, .row true EC.ent r] []) :
    vc C0 (aApp19 l p) Try.f40 [.at (.slc 0), .at (.slc 1)] [.row false EC.ent l, .row false EC.chg p] (normK 2 K) := by
  refine Eq.mp (show (brS (!ascB l)
  ((K (SV.tup [(TV.at (At.slc 2)), (TV.at (At.val (Value.int IntKind.i64 1)))]) [(Chunk.row false (EC.ent) (l)), (Chunk.row false (EC.chg) (p)), (Chunk.row true (EC.ent) [])] []))
  ((brS (!valB p)
    ((K (SV.tup [(TV.at (At.slc 2)), (TV.at (At.val (Value.int IntKind.i64 1)))]) [(Chunk.row false (EC.ent) (l)), (Chunk.row false (EC.chg) (p)), (Chunk.row true (EC.ent) [])] []))
    ((brS (decide (0 < (↑p.length : Int)))
      (((((0 : Int) ≤ 0) ∧
      (0 < (↑p.length : Int)) ∧
      ((0 : Int) ≤ 0) ∧
      (0 < (↑p.length : Int)) ∧
      (∀ x : Option Int,
        (((x) = (getE l (p.getD (Int.toNat 0) { kind := 0, key := 0, old := 0, new := 0 : Chg }).key)) →
        (∀ x1 : Option Int,
          (((x1) = ({ kind := (p.getD (Int.toNat 0) { kind := 0, key := 0, old := 0, new := 0 : Chg }).kind, key := (p.getD (Int.toNat 0) { kind := 0, key := 0, old := 0, new := 0 : Chg }).key, old := (p.getD (Int.toNat 0) { kind := 0, key := 0, old := 0, new := 0 : Chg }).old, new := (p.getD (Int.toNat 0) { kind := 0, key := 0, old := 0, new := 0 : Chg }).new : Chg }.before)) →
          (∃ x2 : XA9b l p,
            ((0 = ((↑x2.i : Int))) ∧
            (True ∧
            True ∧
            True ∧
            ((Value.int IntKind.i64 0) = (Value.int IntKind.i64 0)) ∧
            ((Value.bool (!(x.getD 0 == x1.getD 0 && (x.isSome == x1.isSome && true)))) = (Value.bool (x2.b))) ∧
            True) ∧
            ((l) = (l)) ∧
            ((p) = (p)) ∧
            ((l) = (x2.out)) ∧
            True))))))) ∧
      (∀ x : XA9b l p,
        ((0 = ((↑x.i : Int))) →
        (brS (x.b)
          ((K (SV.tup [(TV.at (At.slc 2)), (TV.at (At.val (Value.int IntKind.i64 9)))]) [(Chunk.row false (EC.ent) (l)), (Chunk.row false (EC.chg) (p)), (Chunk.row true (EC.ent) [])] []))
          ((((0 : Int) ≤ 0) ∧
          (0 < (↑p.length : Int)) ∧
          (∀ x1 : Option Int,
            (((x1) = ({ kind := (p.getD (Int.toNat 0) { kind := 0, key := 0, old := 0, new := 0 : Chg }).kind, key := (p.getD (Int.toNat 0) { kind := 0, key := 0, old := 0, new := 0 : Chg }).key, old := (p.getD (Int.toNat 0) { kind := 0, key := 0, old := 0, new := 0 : Chg }).old, new := (p.getD (Int.toNat 0) { kind := 0, key := 0, old := 0, new := 0 : Chg }).new : Chg }.after)) →
            (brS (x1.isSome)
              ((((0 : Int) ≤ 0) ∧
              (0 < (↑p.length : Int)) ∧
              (x.out.length ≤ 1000000) ∧
              (∃ x2 : XA9 l p,
                (True ∧
                (True ∧
                True ∧
                True ∧
                ((Value.int IntKind.i64 1) = (Value.int IntKind.i64 ((↑x2.i : Int)))) ∧
                True) ∧
                ((l) = (l)) ∧
                ((p) = (p)) ∧
                ((insE x.out ((p.getD (Int.toNat 0) { kind := 0, key := 0, old := 0, new := 0 : Chg }).key, x1.getD 0)) = (x2.out)) ∧
                True)) ∧
              (∀ x2 : XA9 l p,
                (True →
                (brS (decide ((↑x2.i : Int) < (↑p.length : Int)))
                  ((((0 ≤ (↑x2.i : Int)) ∧
                  ((↑x2.i : Int) < (↑p.length : Int)) ∧
                  (0 ≤ (↑x2.i : Int)) ∧
                  ((↑x2.i : Int) < (↑p.length : Int)) ∧
                  (∀ x3 : Option Int,
                    (((x3) = (getE l (cA p x2.i).key)) →
                    (∀ x4 : Option Int,
                      (((x4) = ({ kind := (cA p x2.i).kind, key := (cA p x2.i).key, old := (cA p x2.i).old, new := (cA p x2.i).new : Chg }.before)) →
                      (∃ x5 : XA9b l p,
                        ((((↑x2.i : Int)) = ((↑x5.i : Int))) ∧
                        (True ∧
                        True ∧
                        True ∧
                        ((Value.int IntKind.i64 ((↑x2.i : Int))) = (Value.int IntKind.i64 ((↑x2.i : Int)))) ∧
                        ((Value.bool (!(x3.getD 0 == x4.getD 0 && (x3.isSome == x4.isSome && true)))) = (Value.bool (x5.b))) ∧
                        True) ∧
                        ((l) = (l)) ∧
                        ((p) = (p)) ∧
                        ((x2.out) = (x5.out)) ∧
                        True))))))) ∧
                  (∀ x3 : XA9b l p,
                    ((((↑x2.i : Int)) = ((↑x3.i : Int))) →
                    (brS (x3.b)
                      ((K (SV.tup [(TV.at (At.slc 2)), (TV.at (At.val (Value.int IntKind.i64 9)))]) [(Chunk.row false (EC.ent) (l)), (Chunk.row false (EC.chg) (p)), (Chunk.row true (EC.ent) [])] []))
                      (((0 ≤ (↑x2.i : Int)) ∧
                      ((↑x2.i : Int) < (↑p.length : Int)) ∧
                      (∀ x4 : Option Int,
                        (((x4) = ({ kind := (cA p x2.i).kind, key := (cA p x2.i).key, old := (cA p x2.i).old, new := (cA p x2.i).new : Chg }.after)) →
                        (brS (x4.isSome)
                          (((0 ≤ (↑x2.i : Int)) ∧
                          ((↑x2.i : Int) < (↑p.length : Int)) ∧
                          (x3.out.length ≤ 1000000) ∧
                          (∃ x' : XA9 l p,
                            (True ∧
                            ((True ∧
                            True ∧
                            True ∧
                            ((Value.int IntKind.i64 (IntKind.i64.wrap ((↑x2.i : Int) + 1))) = (Value.int IntKind.i64 ((↑x'.i : Int)))) ∧
                            True) ∧
                            ((l) = (l)) ∧
                            ((p) = (p)) ∧
                            ((insE x3.out ((cA p x2.i).key, x4.getD 0)) = (x'.out)) ∧
                            True) ∧
                            (p.length - x'.i < p.length - x2.i)))))
                          (((0 ≤ (↑x2.i : Int)) ∧
                          ((↑x2.i : Int) < (↑p.length : Int)) ∧
                          (x3.out.length ≤ 1000000) ∧
                          (∃ x' : XA9 l p,
                            (True ∧
                            ((True ∧
                            True ∧
                            True ∧
                            ((Value.int IntKind.i64 (IntKind.i64.wrap ((↑x2.i : Int) + 1))) = (Value.int IntKind.i64 ((↑x'.i : Int)))) ∧
                            True) ∧
                            ((l) = (l)) ∧
                            ((p) = (p)) ∧
                            ((outE x3.out (cA p x2.i).key (cA p x2.i).key) = (x'.out)) ∧
                            True) ∧
                            (p.length - x'.i < p.length - x2.i)))))))))))))))
                  ((K (SV.tup [(TV.at (At.slc 2)), (TV.at (At.val (Value.int IntKind.i64 0)))]) [(Chunk.row false (EC.ent) (l)), (Chunk.row false (EC.chg) (p)), (Chunk.row true (EC.ent) (x2.out))] [])))))))
              ((((0 : Int) ≤ 0) ∧
              (0 < (↑p.length : Int)) ∧
              (x.out.length ≤ 1000000) ∧
              (∃ x2 : XA9 l p,
                (True ∧
                (True ∧
                True ∧
                True ∧
                ((Value.int IntKind.i64 1) = (Value.int IntKind.i64 ((↑x2.i : Int)))) ∧
                True) ∧
                ((l) = (l)) ∧
                ((p) = (p)) ∧
                ((outE x.out (p.getD (Int.toNat 0) { kind := 0, key := 0, old := 0, new := 0 : Chg }).key (p.getD (Int.toNat 0) { kind := 0, key := 0, old := 0, new := 0 : Chg }).key) = (x2.out)) ∧
                True)) ∧
              (∀ x2 : XA9 l p,
                (True →
                (brS (decide ((↑x2.i : Int) < (↑p.length : Int)))
                  ((((0 ≤ (↑x2.i : Int)) ∧
                  ((↑x2.i : Int) < (↑p.length : Int)) ∧
                  (0 ≤ (↑x2.i : Int)) ∧
                  ((↑x2.i : Int) < (↑p.length : Int)) ∧
                  (∀ x3 : Option Int,
                    (((x3) = (getE l (cA p x2.i).key)) →
                    (∀ x4 : Option Int,
                      (((x4) = ({ kind := (cA p x2.i).kind, key := (cA p x2.i).key, old := (cA p x2.i).old, new := (cA p x2.i).new : Chg }.before)) →
                      (∃ x5 : XA9b l p,
                        ((((↑x2.i : Int)) = ((↑x5.i : Int))) ∧
                        (True ∧
                        True ∧
                        True ∧
                        ((Value.int IntKind.i64 ((↑x2.i : Int))) = (Value.int IntKind.i64 ((↑x2.i : Int)))) ∧
                        ((Value.bool (!(x3.getD 0 == x4.getD 0 && (x3.isSome == x4.isSome && true)))) = (Value.bool (x5.b))) ∧
                        True) ∧
                        ((l) = (l)) ∧
                        ((p) = (p)) ∧
                        ((x2.out) = (x5.out)) ∧
                        True))))))) ∧
                  (∀ x3 : XA9b l p,
                    ((((↑x2.i : Int)) = ((↑x3.i : Int))) →
                    (brS (x3.b)
                      ((K (SV.tup [(TV.at (At.slc 2)), (TV.at (At.val (Value.int IntKind.i64 9)))]) [(Chunk.row false (EC.ent) (l)), (Chunk.row false (EC.chg) (p)), (Chunk.row true (EC.ent) [])] []))
                      (((0 ≤ (↑x2.i : Int)) ∧
                      ((↑x2.i : Int) < (↑p.length : Int)) ∧
                      (∀ x4 : Option Int,
                        (((x4) = ({ kind := (cA p x2.i).kind, key := (cA p x2.i).key, old := (cA p x2.i).old, new := (cA p x2.i).new : Chg }.after)) →
                        (brS (x4.isSome)
                          (((0 ≤ (↑x2.i : Int)) ∧
                          ((↑x2.i : Int) < (↑p.length : Int)) ∧
                          (x3.out.length ≤ 1000000) ∧
                          (∃ x' : XA9 l p,
                            (True ∧
                            ((True ∧
                            True ∧
                            True ∧
                            ((Value.int IntKind.i64 (IntKind.i64.wrap ((↑x2.i : Int) + 1))) = (Value.int IntKind.i64 ((↑x'.i : Int)))) ∧
                            True) ∧
                            ((l) = (l)) ∧
                            ((p) = (p)) ∧
                            ((insE x3.out ((cA p x2.i).key, x4.getD 0)) = (x'.out)) ∧
                            True) ∧
                            (p.length - x'.i < p.length - x2.i)))))
                          (((0 ≤ (↑x2.i : Int)) ∧
                          ((↑x2.i : Int) < (↑p.length : Int)) ∧
                          (x3.out.length ≤ 1000000) ∧
                          (∃ x' : XA9 l p,
                            (True ∧
                            ((True ∧
                            True ∧
                            True ∧
                            ((Value.int IntKind.i64 (IntKind.i64.wrap ((↑x2.i : Int) + 1))) = (Value.int IntKind.i64 ((↑x'.i : Int)))) ∧
                            True) ∧
                            ((l) = (l)) ∧
                            ((p) = (p)) ∧
                            ((outE x3.out (cA p x2.i).key (cA p x2.i).key) = (x'.out)) ∧
                            True) ∧
                            (p.length - x'.i < p.length - x2.i)))))))))))))))
                  ((K (SV.tup [(TV.at (At.slc 2)), (TV.at (At.val (Value.int IntKind.i64 0)))]) [(Chunk.row false (EC.ent) (l)), (Chunk.row false (EC.chg) (p)), (Chunk.row true (EC.ent) (x2.out))] [])))))))))))))))))
      ((K (SV.tup [(TV.at (At.slc 2)), (TV.at (At.val (Value.int IntKind.i64 0)))]) [(Chunk.row false (EC.ent) (l)), (Chunk.row false (EC.chg) (p)), (Chunk.row false (EC.ent) (l))] []))))))) = _ by kernel_rfl) ?_
  refine brS_of (fun c1 => h [] 1 (by simp at c1; simp [app19R, c1])) fun c1 => brS_of (fun c2 => h [] 1 (by simp at c2; simp [app19R, c2])) fun c2 => brS_of (fun _ => ?_) fun e => absurd (of_decide_eq_false e) (by omega)
  have bad : fitB l p = false → K (.tup [.at (.slc 2), .at (vI 9)]) [.row false EC.ent l, .row false EC.chg p, .row true EC.ent []] [] := fun hf => h [] 9 (by simp at c1 c2; simp [app19R, c1, c2, hf])
  have good : ∀ z, z = p.foldl ap1 l → fitB l p = true → K (.tup [.at (.slc 2), .at (vI 0)]) [.row false EC.ent l, .row false EC.chg p, .row true EC.ent z] [] := fun z hz hf => h z 0 (by simp at c1 c2; simp [app19R, c1, c2, hf, hz])
  refine ⟨⟨by decide, by omega, by decide, by omega, fun x hx x1 hx1 => ⟨⟨⟨0, l, Nat.zero_le _, Nat.le_refl _, rfl, rfl⟩, _, rfl⟩, rfl, ⟨trivial, trivial, trivial, rfl, ?_, trivial⟩, rfl, rfl, rfl, trivial⟩⟩, fun x rx => brS_of (fun eb => ?_) fun eb => ⟨by decide, by omega, fun x1 hx1 => brS_of (fun e1 => ⟨by decide, by omega, ?_, ⟨⟨1, ap1 x.out (cA p 0), ?_⟩, trivial, ⟨trivial, trivial, trivial, rfl, trivial⟩, rfl, rfl, ?_, trivial⟩, ?lp1⟩) fun e1 => ⟨by decide, by omega, ?_, ⟨⟨1, ap1 x.out (cA p 0), ?_⟩, trivial, ⟨trivial, trivial, trivial, rfl, trivial⟩, rfl, rfl, ?_, trivial⟩, ?lp2⟩⟩⟩
  case lp1 | lp2 =>
    refine fun y _ => brS_of (fun hi => ?_) fun hi => ?_
    · have hi : y.i < p.length := by simpa using hi
      refine ⟨⟨by omega, by omega, by omega, by omega, fun x hx x1 hx1 => ⟨⟨y, _, rfl⟩, rfl, ⟨trivial, trivial, trivial, rfl, ?_, trivial⟩, rfl, rfl, rfl, trivial⟩⟩, fun x rx => brS_of (fun eb => ?_) fun eb => ⟨by omega, by omega, fun x1 hx1 => brS_of (fun e1 => ⟨by omega, by omega, ?_, ⟨⟨y.i + 1, ap1 x.out (cA p y.i), ?_⟩, trivial, ⟨⟨trivial, trivial, trivial, ?_, trivial⟩, rfl, rfl, ?_, trivial⟩, ?_⟩⟩) fun e1 => ⟨by omega, by omega, ?_, ⟨⟨y.i + 1, ap1 x.out (cA p y.i), ?_⟩, trivial, ⟨⟨trivial, trivial, trivial, ?_, trivial⟩, rfl, rfl, ?_, trivial⟩, ?_⟩⟩⟩⟩
      all_goals try have rx : x.i = y.i := by omega
      all_goals try have hbb := x.hb
      all_goals try rw [rx, eb] at hbb
      all_goals try have hxo := x.h.2.1
      all_goals try (have nx := x.toXA9.next (by omega) (by rw [rx]; simpa using hbb); rw [rx] at nx)
      · subst hx hx1; rw [opt_eqB]
      · exact bad (fit_not hi (by simpa using hbb))
      · omega
      · exact nx
      · rw [wrap_next hi (by omega)]
      · have hv : (cA p y.i).after = some (x1.getD 0) := by
          obtain ⟨v, hv⟩ := Option.isSome_iff_exists.1 e1
          rw [hv]; exact hx1.symm.trans hv
        exact ap1_some hv
      · show p.length - (y.i + 1) < _; omega
      · omega
      · exact nx
      · rw [wrap_next hi (by omega)]
      · have hv : (cA p y.i).after = none := hx1.symm.trans (isN e1)
        exact ap1_none hv
      · show p.length - (y.i + 1) < _; omega
    · have hi : y.i = p.length := by have := y.h.1; simp at hi; omega
      obtain ⟨g1, g2, g3, g4⟩ := y.h
      rw [hi, List.take_length] at g3 g4
      exact good y.out g4 g3
  all_goals try have rx : x.i = 0 := by omega
  all_goals try have hbb := x.hb
  all_goals try rw [rx, eb] at hbb
  all_goals try have hxo := x.h.2.1
  all_goals try (have nx := x.toXA9.next (by omega) (by rw [rx]; simpa using hbb); rw [rx] at nx)
  · subst hx hx1; rw [opt_eqB]; rfl
  · exact bad (fit_not hp (by simpa using hbb))
  · omega
  · exact nx
  · have hv : (cA p 0).after = some (x1.getD 0) := by
      obtain ⟨v, hv⟩ := Option.isSome_iff_exists.1 e1
      rw [hv]; exact hx1.symm.trans hv
    exact ap1_some hv
  · omega
  · exact nx
  · have hv : (cA p 0).after = none := hx1.symm.trans (isN e1)
    exact ap1_none hv
theorem s_app19 : SoundT C0 40 tApp19 := by
  refine .of Try.func40 (by decide) rfl fun args H K h hB => ?_
  unfold tApp19 at h
  split at h <;> try exact h.elim
  rename_i l p
  obtain ⟨h1, h2, h3⟩ := h
  match p, h1, h2, h3 with
  | [], h1, h2, h3 => exact ⟨aAppN l, ⟨frame C0.ok s_asc9 _, frame C0.ok s_valid19 _, frame C0.ok s_get19 _, frame C0.ok s_before19 _, frame C0.ok s_after19 _, frame C0.ok s_ins _, frame C0.ok s_del _, trivial⟩, vc_appN l K h2 (h3 rfl)⟩
  | c :: t, h1, h2, h3 => exact ⟨aApp19 l (c :: t), ⟨frame C0.ok s_asc9 _, frame C0.ok s_valid19 _, frame C0.ok s_get19 _, frame C0.ok s_before19 _, frame C0.ok s_after19 _, frame C0.ok s_ins _, frame C0.ok s_del _, trivial⟩, vc_app19 l (c :: t) K h1 (Nat.zero_lt_succ _) h2⟩
end Go.Proofs.Ytdgodcamadalhaa.Sx
