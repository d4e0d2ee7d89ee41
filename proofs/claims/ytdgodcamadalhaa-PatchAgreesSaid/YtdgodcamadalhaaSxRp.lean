/- Rebase: its closure, the walk side by side, the whole. -/
import Derived.Test.YtdgodcamadalhaaSxRk
namespace Go.Proofs.Ytdgodcamadalhaa.Sx
open Go

noncomputable def aReb1 (c d : Chg) (out : List Chg) (cf : List Int) : Ann C0 := { quiet := [62, 61], Γ := [(62, frameT [] (tBefore mayA)), (61, frameT [] (tAfter mayA))], inv := fun k => match k with
  | 1005 => some { X := XB fun b => b = !decide (c.before = d.before), sl := [21], tf := fun x => [vb x.b], hf := fun _ => [.box [.slc 2], .box [.slc 3], .row true EC.chg out, .row true EC.i64 cf, .box [vI c.kind, vI c.key, vI c.old, vI c.new], .box [vI d.kind, vI d.key, vI d.old, vI d.new]] }
  | 1007 => some { X := XB fun b => b = !decide (c.after = d.after), sl := [27], tf := fun x => [vb x.b], hf := fun _ => [.box [.slc 2], .box [.slc 3], .row true EC.chg out, .row true EC.i64 cf, .box [vI c.kind, vI c.key, vI c.old, vI c.new], .box [vI d.kind, vI d.key, vI d.old, vI d.new]] }
  | _ => none }
def tReb1 : Tfm C0 := fun args H K => match args, H with
  | [.agg [.val (.int .i64 ckd), .val (.int .i64 cky), .val (.int .i64 cod), .val (.int .i64 cnw)], .at (.val (.bool inP)), .agg [.val (.int .i64 dkd), .val (.int .i64 dky), .val (.int .i64 dod), .val (.int .i64 dnw)], .at (.val (.bool inQ)), .at (.ptr 0 0), .at (.ptr 1 0)], [.box [.slc 2], .box [.slc 3], .row true .chg out, .row true .i64 cf] =>
    (inP = true ∨ inQ = true) ∧ out.length ≤ 2000000 ∧ cf.length ≤ 2000000 ∧ ∀ (ok : Bool) (out' : List Chg) (cf' : List Int), ok = base1 (onPair ⟨ckd, cky, cod, cnw⟩ inP ⟨dkd, dky, dod, dnw⟩ inQ) →
      (ok = true → out' = List.append (α := Chg) out (keep1 (onPair ⟨ckd, cky, cod, cnw⟩ inP ⟨dkd, dky, dod, dnw⟩ inQ)) ∧ cf' = List.append (α := Int) cf (conf1 (onPair ⟨ckd, cky, cod, cnw⟩ inP ⟨dkd, dky, dod, dnw⟩ inQ))) →
      K (.one (.at (vB ok))) [.box [.slc 2], .box [.slc 3], .row true EC.chg out', .row true EC.i64 cf'] [0, 1, 2, 3]
  | _, _ => False
structure XRo (p q : List Chg) where
  i : Nat
  k : Nat
  out : List Chg
  cf : List Int
  inP : Bool
  inQ : Bool
  h : i ≤ p.length ∧ k ≤ q.length ∧ (out.length ≤ i + k ∧ cf.length ≤ i + k) ∧ reb p q = (rebGo (pC (p.drop i) (q.drop k))).map (fun r => (out ++ r.1, cf ++ r.2))
structure XRc (p q : List Chg) extends XRo p q where
  go : Bool
  hg : go = (decide (i < p.length) || decide (k < q.length))
structure XRp (p q : List Chg) extends XRo p q where
  hp : inP = inL p q i k
structure XRq (p q : List Chg) extends XRp p q where
  hq : inQ = inL q p k i
noncomputable def aBothR (p q : List Chg) : Ann C0 := { Γ := [(67, frameT [] tReb1)], inv := fun n => match n with
  | 2 => some { X := XRo p q, sl := [8, 7], tf := fun x => [vi .i64 x.k, vi .i64 x.i], hf := fun x => [.box [.slc 2], .box [.slc 3], .row true EC.chg x.out, .row true EC.i64 x.cf, .row false EC.chg p, .row false EC.chg q], μ := fun x => p.length + q.length - (x.i + x.k), wr := [0, 1, 2, 3] }
  | 2002 => some { X := XRc p q, sl := [22], tf := fun x => [vb x.go], hf := fun x => [.box [.slc 2], .box [.slc 3], .row true EC.chg x.out, .row true EC.i64 x.cf, .row false EC.chg p, .row false EC.chg q], wr := [0, 1, 2, 3], rel := fun T _ x => slotI T 7 x.i ∧ slotI T 8 x.k }
  | 1005 => some { X := XRp p q, sl := [11], tf := fun x => [vb x.inP], hf := fun x => [.box [.slc 2], .box [.slc 3], .row true EC.chg x.out, .row true EC.i64 x.cf, .row false EC.chg p, .row false EC.chg q, .box [vI 0, vI 0, vI 0, vI 0], .box [vI 0, vI 0, vI 0, vI 0]], wr := [0, 1, 2, 3], rel := fun T _ x => slotI T 7 x.i ∧ slotI T 8 x.k }
  | 1006 => some { X := XRq p q, sl := [12], tf := fun x => [vb x.inQ], hf := fun x => [.box [.slc 2], .box [.slc 3], .row true EC.chg x.out, .row true EC.i64 x.cf, .row false EC.chg p, .row false EC.chg q, .box [vI 0, vI 0, vI 0, vI 0], .box [vI 0, vI 0, vI 0, vI 0]], wr := [0, 1, 2, 3], rel := fun T _ x => slotI T 7 x.i ∧ slotI T 8 x.k ∧ slotB T 11 x.inP }
  | _ => none }
def tBothR : Tfm C0 := fun args H K => match args, H with
  | [.at (.slc 4), .at (.slc 5), .at (.fn 67 [0, 1])], [.box [.slc 2], .box [.slc 3], .row true .chg [], .row true .i64 [], .row false .chg p, .row false .chg q] => p.length + q.length ≤ 1000000 ∧
    ∀ (ok : Bool) (out' : List Chg) (cf' : List Int), ok = (reb p q).isSome → (∀ r, reb p q = some r → (out', cf') = r) → K (.one (.at (vB ok))) [.box [.slc 2], .box [.slc 3], .row true EC.chg out', .row true EC.i64 cf', .row false EC.chg p, .row false EC.chg q] [0, 1, 2, 3]
  | _, _ => False
def rebR (p q : List Chg) : List Chg × List Int × Int := if valB p && valB q then (match reb p q with
  | some r => (r.1, r.2, 0)
  | none => ([], [], 9)) else ([], [], 1)
noncomputable def aReb : Ann C0 := { Γ := [(38, frameT [] tValid), (59, frameT [] tBothR)] }
def tReb : Tfm C0 := fun args H K => match args, H with
  | [.at (.slc 0), .at (.slc 1)], [.row false .chg p, .row false .chg q] => p.length + q.length ≤ 1000000 ∧ ∀ (r : List Chg) (c : List Int) (e : Int), (r, c, e) = rebR p q → K (.tup [.at (.slc 2), .at (.slc 3), .at (vI e)]) [.row false EC.chg p, .row false EC.chg q, .row true EC.chg r, .row true EC.i64 c] []
  | _, _ => False
theorem vc_reb1 (ckd cky cod cnw dkd dky dod dnw : Int) (inP inQ : Bool) (out : List Chg) (cf : List Int) (K : KT) (hor : inP = true ∨ inQ = true) (hlen : out.length ≤ 2000000) (hlen2 : cf.length ≤ 2000000)
    (h : ∀ ok (out' : List Chg) (cf' : List Int), ok = base1 (onPair ⟨ckd, cky, cod, cnw⟩ inP ⟨dkd, dky, dod, dnw⟩ inQ) → (ok = true → out' = out ++ keep1 (onPair ⟨ckd, cky, cod, cnw⟩ inP ⟨dkd, dky, dod, dnw⟩ inQ) ∧ cf' = cf ++ conf1 (onPair ⟨ckd, cky, cod, cnw⟩ inP ⟨dkd, dky, dod, dnw⟩ inQ)) → K (.one (.at (vB ok))) [.box [.slc 2], .box [.slc 3], .row true EC.chg out', .row true EC.i64 cf'] [0, 1, 2, 3]) :
    vc C0 (aReb1 ⟨ckd, cky, cod, cnw⟩ ⟨dkd, dky, dod, dnw⟩ out cf) Try.f67 [.agg [.val (.int .i64 ckd), .val (.int .i64 cky), .val (.int .i64 cod), .val (.int .i64 cnw)], .at (.val (.bool inP)), .agg [.val (.int .i64 dkd), .val (.int .i64 dky), .val (.int .i64 dod), .val (.int .i64 dnw)], .at (.val (.bool inQ)), .at (.ptr 0 0), .at (.ptr 1 0)] [.box [.slc 2], .box [.slc 3], .row true EC.chg out, .row true EC.i64 cf] (normK 4 (wideK [0, 1, 2, 3] K)) := by
  refine Eq.mp (show (brS (!inP)
  ((K (SV.one (TV.at (At.val (Value.bool true)))) [(Chunk.box [(At.slc 2)]), (Chunk.box [(At.slc 3)]), (Chunk.row true (EC.chg) (out)), (Chunk.row true (EC.i64) (cf))] [0, 1, 2, 3]))
  ((brS (!inQ)
    ((((out.length + [{ kind := ckd, key := cky, old := cod, new := cnw : Chg }].length) * bytesOf C0 EC.chg ≤ 140737488355328) ∧
    (K (SV.one (TV.at (At.val (Value.bool true)))) [(Chunk.box [(At.slc 2)]), (Chunk.box [(At.slc 3)]), (Chunk.row true (EC.chg) (out ++ [{ kind := ckd, key := cky, old := cod, new := cnw : Chg }])), (Chunk.row true (EC.i64) (cf))] [0, 1, 2, 3])))
    (((∀ x : Option Int,
      (((x) = ({ kind := ckd, key := cky, old := cod, new := cnw : Chg }.before)) →
      (∀ x1 : Option Int,
        (((x1) = ({ kind := dkd, key := dky, old := dod, new := dnw : Chg }.before)) →
        (∃ x2 : XB fun b => b = !decide ({ kind := ckd, key := cky, old := cod, new := cnw : Chg }.before = { kind := dkd, key := dky, old := dod, new := dnw : Chg }.before),
          (True ∧
          (True ∧
          True ∧
          True ∧
          ((Value.bool (!(x.isSome == x1.isSome && (x.getD 0 == x1.getD 0 && true)))) = (Value.bool (x2.b))) ∧
          True) ∧
          (True ∧
          True) ∧
          (True ∧
          True) ∧
          ((out) = (out)) ∧
          ((cf) = (cf)) ∧
          (((Value.int IntKind.i64 (ckd)) = (Value.int IntKind.i64 (ckd))) ∧
          ((Value.int IntKind.i64 (cky)) = (Value.int IntKind.i64 (cky))) ∧
          ((Value.int IntKind.i64 (cod)) = (Value.int IntKind.i64 (cod))) ∧
          ((Value.int IntKind.i64 (cnw)) = (Value.int IntKind.i64 (cnw))) ∧
          True) ∧
          (((Value.int IntKind.i64 (dkd)) = (Value.int IntKind.i64 (dkd))) ∧
          ((Value.int IntKind.i64 (dky)) = (Value.int IntKind.i64 (dky))) ∧
          ((Value.int IntKind.i64 (dod)) = (Value.int IntKind.i64 (dod))) ∧
          ((Value.int IntKind.i64 (dnw)) = (Value.int IntKind.i64 (dnw))) ∧
          True) ∧
          True)))))) ∧
    (∀ x : XB fun b => b = !decide ({ kind := ckd, key := cky, old := cod, new := cnw : Chg }.before = { kind := dkd, key := dky, old := dod, new := dnw : Chg }.before),
      (True →
      (brS (x.b)
        ((K (SV.one (TV.at (At.val (Value.bool false)))) [(Chunk.box [(At.slc 2)]), (Chunk.box [(At.slc 3)]), (Chunk.row true (EC.chg) (out)), (Chunk.row true (EC.i64) (cf))] [0, 1, 2, 3]))
        (((∀ x1 : Option Int,
          (((x1) = ({ kind := ckd, key := cky, old := cod, new := cnw : Chg }.after)) →
          (∀ x2 : Option Int,
            (((x2) = ({ kind := dkd, key := dky, old := dod, new := dnw : Chg }.after)) →
            (∃ x3 : XB fun b => b = !decide ({ kind := ckd, key := cky, old := cod, new := cnw : Chg }.after = { kind := dkd, key := dky, old := dod, new := dnw : Chg }.after),
              (True ∧
              (True ∧
              True ∧
              ((Value.bool (!(x1.isSome == x2.isSome && (x1.getD 0 == x2.getD 0 && true)))) = (Value.bool (x3.b))) ∧
              True) ∧
              (True ∧
              True) ∧
              (True ∧
              True) ∧
              ((out) = (out)) ∧
              ((cf) = (cf)) ∧
              (((Value.int IntKind.i64 (ckd)) = (Value.int IntKind.i64 (ckd))) ∧
              ((Value.int IntKind.i64 (cky)) = (Value.int IntKind.i64 (cky))) ∧
              ((Value.int IntKind.i64 (cod)) = (Value.int IntKind.i64 (cod))) ∧
              ((Value.int IntKind.i64 (cnw)) = (Value.int IntKind.i64 (cnw))) ∧
              True) ∧
              (((Value.int IntKind.i64 (dkd)) = (Value.int IntKind.i64 (dkd))) ∧
              ((Value.int IntKind.i64 (dky)) = (Value.int IntKind.i64 (dky))) ∧
              ((Value.int IntKind.i64 (dod)) = (Value.int IntKind.i64 (dod))) ∧
              ((Value.int IntKind.i64 (dnw)) = (Value.int IntKind.i64 (dnw))) ∧
              True) ∧
              True)))))) ∧
        (∀ x1 : XB fun b => b = !decide ({ kind := ckd, key := cky, old := cod, new := cnw : Chg }.after = { kind := dkd, key := dky, old := dod, new := dnw : Chg }.after),
          (True →
          (brS (x1.b)
            ((((cf.length + [cky].length) * bytesOf C0 EC.i64 ≤ 140737488355328) ∧
            (K (SV.one (TV.at (At.val (Value.bool true)))) [(Chunk.box [(At.slc 2)]), (Chunk.box [(At.slc 3)]), (Chunk.row true (EC.chg) (out)), (Chunk.row true (EC.i64) (cf ++ [cky]))] [0, 1, 2, 3])))
            ((K (SV.one (TV.at (At.val (Value.bool true)))) [(Chunk.box [(At.slc 2)]), (Chunk.box [(At.slc 3)]), (Chunk.row true (EC.chg) (out)), (Chunk.row true (EC.i64) (cf))] [0, 1, 2, 3]))))))))))))))) = _ by kernel_rfl) ?_
  simp only [bytes_chg, bytes_i64, List.length_singleton]
  refine brS_of (fun h1 => h true _ _ ?_ ?_) fun h1 => brS_of (fun h2 => ⟨by omega, h _ _ _ ?_ ?_⟩) fun h2 => ⟨?_, fun x _ => brS_of (fun h3 => h _ _ _ ?_ ?_) fun h3 => ⟨?_, fun x1 _ => brS_of (fun h4 => ⟨by omega, h _ _ _ ?_ ?_⟩) fun h4 => h _ _ _ ?_ ?_⟩⟩
  case refine_1 | refine_2 =>
    have e1 : inP = false := by simpa using h1
    have e2 : inQ = true := by simpa [e1] using hor
    subst e1 e2
    simp [onPair, base1, keep1, conf1]
  case refine_3 | refine_4 =>
    have e1 : inP = true := by simpa using h1
    have e2 : inQ = false := by simpa using h2
    subst e1 e2
    simp [onPair, base1, keep1, conf1]
  case refine_5 | refine_8 =>
    intro x hx x1 hx1; subst hx hx1; refine ⟨⟨_, rfl⟩, ?_⟩; simp only [may_eqB, and_self, true_and]
  all_goals
    have e1 : inP = true := by simpa using h1
    have e2 : inQ = true := by simpa using h2
    subst e1 e2
    have hx := x.h
    rw [h3] at hx
    simp only [onPair, base1, keep1, conf1, if_true]
    try have hy := x1.h
    try rw [h4] at hy
  · simpa using hx
  · intro h; cases h
  · simpa using hx
  · intro _
    have hn : ¬ (Chg.after ⟨ckd, cky, cod, cnw⟩ = Chg.after ⟨dkd, dky, dod, dnw⟩) := by simpa using hy
    rw [if_neg hn]; simp
  · simpa using hx
  · intro _
    have hn : Chg.after ⟨ckd, cky, cod, cnw⟩ = Chg.after ⟨dkd, dky, dod, dnw⟩ := by simpa using hy
    rw [if_pos hn]; simp
theorem s_reb1 : SoundT C0 67 tReb1 := by
  refine .ofW [0, 1, 2, 3] Try.func67 (by decide) rfl fun args H K h hB => ?_
  unfold tReb1 at h
  split at h <;> try exact h.elim
  rename_i ckd cky cod cnw inP dkd dky dod dnw inQ out cf
  exact ⟨aReb1 ⟨ckd, cky, cod, cnw⟩ ⟨dkd, dky, dod, dnw⟩ out cf, ⟨frame C0.ok s_before _, frame C0.ok s_after _, trivial⟩, vc_reb1 ckd cky cod cnw dkd dky dod dnw inP inQ out cf K h.1 h.2.1 h.2.2.1 h.2.2.2⟩

theorem kc_len (c d : Chg) (inP inQ : Bool) : (keep1 (onPair c inP d inQ)).length ≤ inP.toNat + inQ.toNat ∧ (conf1 (onPair c inP d inQ)).length ≤ inP.toNat + inQ.toNat := by
  cases inP <;> cases inQ <;> simp [onPair, keep1, conf1]
  split <;> simp
theorem reb_step {p q : List Chg} {i k : Nat} {out : List Chg} {cf : List Int} (h : i ≤ p.length ∧ k ≤ q.length ∧ (out.length ≤ i + k ∧ cf.length ≤ i + k) ∧ reb p q = (rebGo (pC (p.drop i) (q.drop k))).map (fun r => (out ++ r.1, cf ++ r.2))) (hne : i < p.length ∨ k < q.length) {inP inQ : Bool} (hP : inP = inL p q i k) (hQ : inQ = inL q p k i)
    {c d : Chg} (hc : inP = true → c = cA p i) (hd : inQ = true → d = cA q k) {ok : Bool} {out' : List Chg} {cf' : List Int} (hok : ok = base1 (onPair c inP d inQ)) (ho : ok = true → out' = out ++ keep1 (onPair c inP d inQ) ∧ cf' = cf ++ conf1 (onPair c inP d inQ)) :
    (ok = false → reb p q = none) ∧ (ok = true → inc inP i ≤ p.length ∧ inc inQ k ≤ q.length ∧ (out'.length ≤ inc inP i + inc inQ k ∧ cf'.length ≤ inc inP i + inc inQ k) ∧ reb p q = (rebGo (pC (p.drop (inc inP i)) (q.drop (inc inQ k)))).map (fun r => (out' ++ r.1, cf' ++ r.2))) := by
  obtain ⟨h1, h2, h3, h4⟩ := both_next h.1 h.2.1 hne hP hQ
  have e : onPair c inP d inQ = onPair (cA p i) inP (cA q k) inQ := by
    unfold onPair
    cases inP <;> cases inQ <;> simp_all
  rw [e] at hok ho
  have hg := h.2.2.2
  rw [h4] at hg
  simp only [rebGo] at hg
  refine ⟨fun hf => ?_, fun ht => ⟨?_, ?_, ?_, ?_⟩⟩
  · rw [← hok, hf] at hg; simpa using hg
  · unfold inc; split
    · rename_i hh; have := h2 hh; omega
    · exact h.1
  · unfold inc; split
    · rename_i hh; have := h3 hh; omega
    · exact h.2.1
  · rw [(ho ht).1, (ho ht).2, List.length_append, List.length_append]
    have q1 := kc_len (cA p i) (cA q k) inP inQ
    have q2 := h.2.2.1
    generalize (keep1 (onPair (cA p i) inP (cA q k) inQ)).length = a at *
    generalize (conf1 (onPair (cA p i) inP (cA q k) inQ)).length = b at *
    cases inP <;> cases inQ <;> simp only [inc, Bool.toNat_true, Bool.toNat_false, if_true, Bool.false_eq_true, if_false] at q1 ⊢ <;> omega
  · rw [← hok, ht] at hg
    rw [(ho ht).1, (ho ht).2]
    simp only [if_true, Option.map_map] at hg
    rw [hg]
    congr 1
    funext x
    simp
theorem reb_end {p q : List Chg} {i k : Nat} {out : List Chg} {cf : List Int} (h : i ≤ p.length ∧ k ≤ q.length ∧ (out.length ≤ i + k ∧ cf.length ≤ i + k) ∧ reb p q = (rebGo (pC (p.drop i) (q.drop k))).map (fun r => (out ++ r.1, cf ++ r.2))) (hne : ¬ (i < p.length ∨ k < q.length)) : reb p q = some (out, cf) := by
  have h1 : i = p.length := by omega
  have h2 : k = q.length := by omega
  have hg := h.2.2.2
  rw [hg, h1, h2, List.drop_length, List.drop_length]
  simp [pC, pairs, rebGo]

theorem vc_bothR (p q : List Chg) (K : KT) (hsm : p.length + q.length ≤ 1000000)
    (h : ∀ (ok : Bool) (out' : List Chg) (cf' : List Int), ok = (reb p q).isSome → (∀ r, reb p q = some r → (out', cf') = r) → K (.one (.at (vB ok))) [.box [.slc 2], .box [.slc 3], .row true EC.chg out', .row true EC.i64 cf', .row false EC.chg p, .row false EC.chg q] [0, 1, 2, 3]) :
    vc C0 (aBothR p q) Try.f59 [.at (.slc 4), .at (.slc 5), .at (.fn 67 [0, 1])] [.box [.slc 2], .box [.slc 3], .row true EC.chg [], .row true EC.i64 [], .row false EC.chg p, .row false EC.chg q] (normK 6 (wideK [0, 1, 2, 3] K)) := by
  refine Eq.mp (show ((∃ x : XRo p q,
  (True ∧
  (True ∧
  True ∧
  ((At.fn 67 [0, 1]) = (At.fn 67 [0, 1])) ∧
  ((Value.int IntKind.i64 0) = (Value.int IntKind.i64 ((↑x.i : Int)))) ∧
  ((Value.int IntKind.i64 0) = (Value.int IntKind.i64 ((↑x.k : Int)))) ∧
  True) ∧
  (True ∧
  True) ∧
  (True ∧
  True) ∧
  ([] = (x.out)) ∧
  ([] = (x.cf)) ∧
  ((p) = (p)) ∧
  ((q) = (q)) ∧
  True)) ∧
(∀ x : XRo p q,
  (True →
  ((brS (decide ((↑x.i : Int) < (↑p.length : Int)))
    ((∃ x1 : XRc p q,
      (((((↑x.i : Int)) = ((↑x1.i : Int))) ∧
      (((↑x.k : Int)) = ((↑x1.k : Int)))) ∧
      (True ∧
      True ∧
      ((At.fn 67 [0, 1]) = (At.fn 67 [0, 1])) ∧
      ((Value.int IntKind.i64 ((↑x.i : Int))) = (Value.int IntKind.i64 ((↑x.i : Int)))) ∧
      ((Value.int IntKind.i64 ((↑x.k : Int))) = (Value.int IntKind.i64 ((↑x.k : Int)))) ∧
      ((Value.bool true) = (Value.bool (x1.go))) ∧
      True) ∧
      (True ∧
      True) ∧
      (True ∧
      True) ∧
      ((x.out) = (x1.out)) ∧
      ((x.cf) = (x1.cf)) ∧
      ((p) = (p)) ∧
      ((q) = (q)) ∧
      True)))
    ((∃ x1 : XRc p q,
      (((((↑x.i : Int)) = ((↑x1.i : Int))) ∧
      (((↑x.k : Int)) = ((↑x1.k : Int)))) ∧
      (True ∧
      True ∧
      ((At.fn 67 [0, 1]) = (At.fn 67 [0, 1])) ∧
      ((Value.int IntKind.i64 ((↑x.i : Int))) = (Value.int IntKind.i64 ((↑x.i : Int)))) ∧
      ((Value.int IntKind.i64 ((↑x.k : Int))) = (Value.int IntKind.i64 ((↑x.k : Int)))) ∧
      ((Value.bool (decide ((↑x.k : Int) < (↑q.length : Int)))) = (Value.bool (x1.go))) ∧
      True) ∧
      (True ∧
      True) ∧
      (True ∧
      True) ∧
      ((x.out) = (x1.out)) ∧
      ((x.cf) = (x1.cf)) ∧
      ((p) = (p)) ∧
      ((q) = (q)) ∧
      True)))) ∧
  (∀ x1 : XRc p q,
    (((((↑x.i : Int)) = ((↑x1.i : Int))) ∧
    (((↑x.k : Int)) = ((↑x1.k : Int)))) →
    (brS (x1.go)
      (((brS (decide ((↑x.i : Int) < (↑p.length : Int)))
        ((brS ((↑x.k : Int) == (↑q.length : Int))
          ((∃ x2 : XRp p q,
            (((((↑x.i : Int)) = ((↑x2.i : Int))) ∧
            (((↑x.k : Int)) = ((↑x2.k : Int)))) ∧
            (True ∧
            True ∧
            ((At.fn 67 [0, 1]) = (At.fn 67 [0, 1])) ∧
            ((Value.int IntKind.i64 ((↑x.i : Int))) = (Value.int IntKind.i64 ((↑x.i : Int)))) ∧
            ((Value.int IntKind.i64 ((↑x.k : Int))) = (Value.int IntKind.i64 ((↑x.k : Int)))) ∧
            True ∧
            True ∧
            ((Value.bool true) = (Value.bool (x2.inP))) ∧
            True) ∧
            (True ∧
            True) ∧
            (True ∧
            True) ∧
            ((x1.out) = (x2.out)) ∧
            ((x1.cf) = (x2.cf)) ∧
            ((p) = (p)) ∧
            ((q) = (q)) ∧
            (((Value.int IntKind.i64 0) = (Value.int IntKind.i64 0)) ∧
            ((Value.int IntKind.i64 0) = (Value.int IntKind.i64 0)) ∧
            ((Value.int IntKind.i64 0) = (Value.int IntKind.i64 0)) ∧
            ((Value.int IntKind.i64 0) = (Value.int IntKind.i64 0)) ∧
            True) ∧
            (((Value.int IntKind.i64 0) = (Value.int IntKind.i64 0)) ∧
            ((Value.int IntKind.i64 0) = (Value.int IntKind.i64 0)) ∧
            ((Value.int IntKind.i64 0) = (Value.int IntKind.i64 0)) ∧
            ((Value.int IntKind.i64 0) = (Value.int IntKind.i64 0)) ∧
            True) ∧
            True)))
          (((0 ≤ (↑x.i : Int)) ∧
          ((↑x.i : Int) < (↑p.length : Int)) ∧
          (0 ≤ (↑x.k : Int)) ∧
          ((↑x.k : Int) < (↑q.length : Int)) ∧
          (∃ x2 : XRp p q,
            (((((↑x.i : Int)) = ((↑x2.i : Int))) ∧
            (((↑x.k : Int)) = ((↑x2.k : Int)))) ∧
            (True ∧
            True ∧
            ((At.fn 67 [0, 1]) = (At.fn 67 [0, 1])) ∧
            ((Value.int IntKind.i64 ((↑x.i : Int))) = (Value.int IntKind.i64 ((↑x.i : Int)))) ∧
            ((Value.int IntKind.i64 ((↑x.k : Int))) = (Value.int IntKind.i64 ((↑x.k : Int)))) ∧
            True ∧
            True ∧
            ((Value.bool (decide ((cA p x.i).key ≤ (cA q x.k).key))) = (Value.bool (x2.inP))) ∧
            True) ∧
            (True ∧
            True) ∧
            (True ∧
            True) ∧
            ((x1.out) = (x2.out)) ∧
            ((x1.cf) = (x2.cf)) ∧
            ((p) = (p)) ∧
            ((q) = (q)) ∧
            (((Value.int IntKind.i64 0) = (Value.int IntKind.i64 0)) ∧
            ((Value.int IntKind.i64 0) = (Value.int IntKind.i64 0)) ∧
            ((Value.int IntKind.i64 0) = (Value.int IntKind.i64 0)) ∧
            ((Value.int IntKind.i64 0) = (Value.int IntKind.i64 0)) ∧
            True) ∧
            (((Value.int IntKind.i64 0) = (Value.int IntKind.i64 0)) ∧
            ((Value.int IntKind.i64 0) = (Value.int IntKind.i64 0)) ∧
            ((Value.int IntKind.i64 0) = (Value.int IntKind.i64 0)) ∧
            ((Value.int IntKind.i64 0) = (Value.int IntKind.i64 0)) ∧
            True) ∧
            True))))))
        ((∃ x2 : XRp p q,
          (((((↑x.i : Int)) = ((↑x2.i : Int))) ∧
          (((↑x.k : Int)) = ((↑x2.k : Int)))) ∧
          (True ∧
          True ∧
          ((At.fn 67 [0, 1]) = (At.fn 67 [0, 1])) ∧
          ((Value.int IntKind.i64 ((↑x.i : Int))) = (Value.int IntKind.i64 ((↑x.i : Int)))) ∧
          ((Value.int IntKind.i64 ((↑x.k : Int))) = (Value.int IntKind.i64 ((↑x.k : Int)))) ∧
          True ∧
          True ∧
          ((Value.bool false) = (Value.bool (x2.inP))) ∧
          True) ∧
          (True ∧
          True) ∧
          (True ∧
          True) ∧
          ((x1.out) = (x2.out)) ∧
          ((x1.cf) = (x2.cf)) ∧
          ((p) = (p)) ∧
          ((q) = (q)) ∧
          (((Value.int IntKind.i64 0) = (Value.int IntKind.i64 0)) ∧
          ((Value.int IntKind.i64 0) = (Value.int IntKind.i64 0)) ∧
          ((Value.int IntKind.i64 0) = (Value.int IntKind.i64 0)) ∧
          ((Value.int IntKind.i64 0) = (Value.int IntKind.i64 0)) ∧
          True) ∧
          (((Value.int IntKind.i64 0) = (Value.int IntKind.i64 0)) ∧
          ((Value.int IntKind.i64 0) = (Value.int IntKind.i64 0)) ∧
          ((Value.int IntKind.i64 0) = (Value.int IntKind.i64 0)) ∧
          ((Value.int IntKind.i64 0) = (Value.int IntKind.i64 0)) ∧
          True) ∧
          True)))) ∧
      (∀ x2 : XRp p q,
        (((((↑x.i : Int)) = ((↑x2.i : Int))) ∧
        (((↑x.k : Int)) = ((↑x2.k : Int)))) →
        ((brS (decide ((↑x.k : Int) < (↑q.length : Int)))
          ((brS ((↑x.i : Int) == (↑p.length : Int))
            ((∃ x3 : XRq p q,
              (((((↑x.i : Int)) = ((↑x3.i : Int))) ∧
              (((↑x.k : Int)) = ((↑x3.k : Int))) ∧
              ((x2.inP) = (x3.inP))) ∧
              (True ∧
              True ∧
              ((At.fn 67 [0, 1]) = (At.fn 67 [0, 1])) ∧
              ((Value.int IntKind.i64 ((↑x.i : Int))) = (Value.int IntKind.i64 ((↑x.i : Int)))) ∧
              ((Value.int IntKind.i64 ((↑x.k : Int))) = (Value.int IntKind.i64 ((↑x.k : Int)))) ∧
              True ∧
              True ∧
              ((Value.bool (x2.inP)) = (Value.bool (x2.inP))) ∧
              ((Value.bool true) = (Value.bool (x3.inQ))) ∧
              True) ∧
              (True ∧
              True) ∧
              (True ∧
              True) ∧
              ((x2.out) = (x3.out)) ∧
              ((x2.cf) = (x3.cf)) ∧
              ((p) = (p)) ∧
              ((q) = (q)) ∧
              (((Value.int IntKind.i64 0) = (Value.int IntKind.i64 0)) ∧
              ((Value.int IntKind.i64 0) = (Value.int IntKind.i64 0)) ∧
              ((Value.int IntKind.i64 0) = (Value.int IntKind.i64 0)) ∧
              ((Value.int IntKind.i64 0) = (Value.int IntKind.i64 0)) ∧
              True) ∧
              (((Value.int IntKind.i64 0) = (Value.int IntKind.i64 0)) ∧
              ((Value.int IntKind.i64 0) = (Value.int IntKind.i64 0)) ∧
              ((Value.int IntKind.i64 0) = (Value.int IntKind.i64 0)) ∧
              ((Value.int IntKind.i64 0) = (Value.int IntKind.i64 0)) ∧
              True) ∧
              True)))
            (((0 ≤ (↑x.k : Int)) ∧
            ((↑x.k : Int) < (↑q.length : Int)) ∧
            (0 ≤ (↑x.i : Int)) ∧
            ((↑x.i : Int) < (↑p.length : Int)) ∧
            (∃ x3 : XRq p q,
              (((((↑x.i : Int)) = ((↑x3.i : Int))) ∧
              (((↑x.k : Int)) = ((↑x3.k : Int))) ∧
              ((x2.inP) = (x3.inP))) ∧
              (True ∧
              True ∧
              ((At.fn 67 [0, 1]) = (At.fn 67 [0, 1])) ∧
              ((Value.int IntKind.i64 ((↑x.i : Int))) = (Value.int IntKind.i64 ((↑x.i : Int)))) ∧
              ((Value.int IntKind.i64 ((↑x.k : Int))) = (Value.int IntKind.i64 ((↑x.k : Int)))) ∧
              True ∧
              True ∧
              ((Value.bool (x2.inP)) = (Value.bool (x2.inP))) ∧
              ((Value.bool (decide ((cA q x.k).key ≤ (cA p x.i).key))) = (Value.bool (x3.inQ))) ∧
              True) ∧
              (True ∧
              True) ∧
              (True ∧
              True) ∧
              ((x2.out) = (x3.out)) ∧
              ((x2.cf) = (x3.cf)) ∧
              ((p) = (p)) ∧
              ((q) = (q)) ∧
              (((Value.int IntKind.i64 0) = (Value.int IntKind.i64 0)) ∧
              ((Value.int IntKind.i64 0) = (Value.int IntKind.i64 0)) ∧
              ((Value.int IntKind.i64 0) = (Value.int IntKind.i64 0)) ∧
              ((Value.int IntKind.i64 0) = (Value.int IntKind.i64 0)) ∧
              True) ∧
              (((Value.int IntKind.i64 0) = (Value.int IntKind.i64 0)) ∧
              ((Value.int IntKind.i64 0) = (Value.int IntKind.i64 0)) ∧
              ((Value.int IntKind.i64 0) = (Value.int IntKind.i64 0)) ∧
              ((Value.int IntKind.i64 0) = (Value.int IntKind.i64 0)) ∧
              True) ∧
              True))))))
          ((∃ x3 : XRq p q,
            (((((↑x.i : Int)) = ((↑x3.i : Int))) ∧
            (((↑x.k : Int)) = ((↑x3.k : Int))) ∧
            ((x2.inP) = (x3.inP))) ∧
            (True ∧
            True ∧
            ((At.fn 67 [0, 1]) = (At.fn 67 [0, 1])) ∧
            ((Value.int IntKind.i64 ((↑x.i : Int))) = (Value.int IntKind.i64 ((↑x.i : Int)))) ∧
            ((Value.int IntKind.i64 ((↑x.k : Int))) = (Value.int IntKind.i64 ((↑x.k : Int)))) ∧
            True ∧
            True ∧
            ((Value.bool (x2.inP)) = (Value.bool (x2.inP))) ∧
            ((Value.bool false) = (Value.bool (x3.inQ))) ∧
            True) ∧
            (True ∧
            True) ∧
            (True ∧
            True) ∧
            ((x2.out) = (x3.out)) ∧
            ((x2.cf) = (x3.cf)) ∧
            ((p) = (p)) ∧
            ((q) = (q)) ∧
            (((Value.int IntKind.i64 0) = (Value.int IntKind.i64 0)) ∧
            ((Value.int IntKind.i64 0) = (Value.int IntKind.i64 0)) ∧
            ((Value.int IntKind.i64 0) = (Value.int IntKind.i64 0)) ∧
            ((Value.int IntKind.i64 0) = (Value.int IntKind.i64 0)) ∧
            True) ∧
            (((Value.int IntKind.i64 0) = (Value.int IntKind.i64 0)) ∧
            ((Value.int IntKind.i64 0) = (Value.int IntKind.i64 0)) ∧
            ((Value.int IntKind.i64 0) = (Value.int IntKind.i64 0)) ∧
            ((Value.int IntKind.i64 0) = (Value.int IntKind.i64 0)) ∧
            True) ∧
            True)))) ∧
        (∀ x3 : XRq p q,
          (((((↑x.i : Int)) = ((↑x3.i : Int))) ∧
          (((↑x.k : Int)) = ((↑x3.k : Int))) ∧
          ((x2.inP) = (x3.inP))) →
          (brS (x2.inP)
            (((0 ≤ (↑x.i : Int)) ∧
            ((↑x.i : Int) < (↑p.length : Int)) ∧
            (brS (x3.inQ)
              (((0 ≤ (↑x.k : Int)) ∧
              ((↑x.k : Int) < (↑q.length : Int)) ∧
              (x2.inP = true ∨ x3.inQ = true) ∧
              (x3.out.length ≤ 2000000) ∧
              (x3.cf.length ≤ 2000000) ∧
              (∀ ok : Bool,
                (∀ out' : List Chg,
                  (∀ cf' : List Int,
                    (((ok) = (base1 (onPair { kind := (cA p x.i).kind, key := (cA p x.i).key, old := (cA p x.i).old, new := (cA p x.i).new : Chg } x2.inP { kind := (cA q x.k).kind, key := (cA q x.k).key, old := (cA q x.k).old, new := (cA q x.k).new : Chg } x3.inQ))) →
                    ((((ok) = true) →
                    (((out') = (x3.out.append (keep1 (onPair { kind := (cA p x.i).kind, key := (cA p x.i).key, old := (cA p x.i).old, new := (cA p x.i).new : Chg } x2.inP { kind := (cA q x.k).kind, key := (cA q x.k).key, old := (cA q x.k).old, new := (cA q x.k).new : Chg } x3.inQ)))) ∧
                    ((cf') = (x3.cf.append (conf1 (onPair { kind := (cA p x.i).kind, key := (cA p x.i).key, old := (cA p x.i).old, new := (cA p x.i).new : Chg } x2.inP { kind := (cA q x.k).kind, key := (cA q x.k).key, old := (cA q x.k).old, new := (cA q x.k).new : Chg } x3.inQ)))))) →
                    (brS (!ok)
                      ((K (SV.one (TV.at (At.val (Value.bool false)))) [(Chunk.box [(At.slc 2)]), (Chunk.box [(At.slc 3)]), (Chunk.row true (EC.chg) (out')), (Chunk.row true (EC.i64) (cf')), (Chunk.row false (EC.chg) (p)), (Chunk.row false (EC.chg) (q))] [0, 1, 2, 3]))
                      ((∃ x' : XRo p q,
                        (True ∧
                        ((True ∧
                        True ∧
                        ((At.fn 67 [0, 1]) = (At.fn 67 [0, 1])) ∧
                        ((Value.int IntKind.i64 (IntKind.i64.wrap ((↑x.i : Int) + 1))) = (Value.int IntKind.i64 ((↑x'.i : Int)))) ∧
                        ((Value.int IntKind.i64 (IntKind.i64.wrap ((↑x.k : Int) + 1))) = (Value.int IntKind.i64 ((↑x'.k : Int)))) ∧
                        True) ∧
                        (True ∧
                        True) ∧
                        (True ∧
                        True) ∧
                        ((out') = (x'.out)) ∧
                        ((cf') = (x'.cf)) ∧
                        ((p) = (p)) ∧
                        ((q) = (q)) ∧
                        True) ∧
                        (p.length + q.length - (x'.i + x'.k) < p.length + q.length - (x.i + x.k)))))))))))))
              (((x2.inP = true ∨ x3.inQ = true) ∧
              (x3.out.length ≤ 2000000) ∧
              (x3.cf.length ≤ 2000000) ∧
              (∀ ok : Bool,
                (∀ out' : List Chg,
                  (∀ cf' : List Int,
                    (((ok) = (base1 (onPair { kind := (cA p x.i).kind, key := (cA p x.i).key, old := (cA p x.i).old, new := (cA p x.i).new : Chg } x2.inP { kind := 0, key := 0, old := 0, new := 0 : Chg } x3.inQ))) →
                    ((((ok) = true) →
                    (((out') = (x3.out.append (keep1 (onPair { kind := (cA p x.i).kind, key := (cA p x.i).key, old := (cA p x.i).old, new := (cA p x.i).new : Chg } x2.inP { kind := 0, key := 0, old := 0, new := 0 : Chg } x3.inQ)))) ∧
                    ((cf') = (x3.cf.append (conf1 (onPair { kind := (cA p x.i).kind, key := (cA p x.i).key, old := (cA p x.i).old, new := (cA p x.i).new : Chg } x2.inP { kind := 0, key := 0, old := 0, new := 0 : Chg } x3.inQ)))))) →
                    (brS (!ok)
                      ((K (SV.one (TV.at (At.val (Value.bool false)))) [(Chunk.box [(At.slc 2)]), (Chunk.box [(At.slc 3)]), (Chunk.row true (EC.chg) (out')), (Chunk.row true (EC.i64) (cf')), (Chunk.row false (EC.chg) (p)), (Chunk.row false (EC.chg) (q))] [0, 1, 2, 3]))
                      ((∃ x' : XRo p q,
                        (True ∧
                        ((True ∧
                        True ∧
                        ((At.fn 67 [0, 1]) = (At.fn 67 [0, 1])) ∧
                        ((Value.int IntKind.i64 (IntKind.i64.wrap ((↑x.i : Int) + 1))) = (Value.int IntKind.i64 ((↑x'.i : Int)))) ∧
                        ((Value.int IntKind.i64 ((↑x.k : Int))) = (Value.int IntKind.i64 ((↑x'.k : Int)))) ∧
                        True) ∧
                        (True ∧
                        True) ∧
                        (True ∧
                        True) ∧
                        ((out') = (x'.out)) ∧
                        ((cf') = (x'.cf)) ∧
                        ((p) = (p)) ∧
                        ((q) = (q)) ∧
                        True) ∧
                        (p.length + q.length - (x'.i + x'.k) < p.length + q.length - (x.i + x.k))))))))))))))))
            ((brS (x3.inQ)
              (((0 ≤ (↑x.k : Int)) ∧
              ((↑x.k : Int) < (↑q.length : Int)) ∧
              (x2.inP = true ∨ x3.inQ = true) ∧
              (x3.out.length ≤ 2000000) ∧
              (x3.cf.length ≤ 2000000) ∧
              (∀ ok : Bool,
                (∀ out' : List Chg,
                  (∀ cf' : List Int,
                    (((ok) = (base1 (onPair { kind := 0, key := 0, old := 0, new := 0 : Chg } x2.inP { kind := (cA q x.k).kind, key := (cA q x.k).key, old := (cA q x.k).old, new := (cA q x.k).new : Chg } x3.inQ))) →
                    ((((ok) = true) →
                    (((out') = (x3.out.append (keep1 (onPair { kind := 0, key := 0, old := 0, new := 0 : Chg } x2.inP { kind := (cA q x.k).kind, key := (cA q x.k).key, old := (cA q x.k).old, new := (cA q x.k).new : Chg } x3.inQ)))) ∧
                    ((cf') = (x3.cf.append (conf1 (onPair { kind := 0, key := 0, old := 0, new := 0 : Chg } x2.inP { kind := (cA q x.k).kind, key := (cA q x.k).key, old := (cA q x.k).old, new := (cA q x.k).new : Chg } x3.inQ)))))) →
                    (brS (!ok)
                      ((K (SV.one (TV.at (At.val (Value.bool false)))) [(Chunk.box [(At.slc 2)]), (Chunk.box [(At.slc 3)]), (Chunk.row true (EC.chg) (out')), (Chunk.row true (EC.i64) (cf')), (Chunk.row false (EC.chg) (p)), (Chunk.row false (EC.chg) (q))] [0, 1, 2, 3]))
                      ((∃ x' : XRo p q,
                        (True ∧
                        ((True ∧
                        True ∧
                        ((At.fn 67 [0, 1]) = (At.fn 67 [0, 1])) ∧
                        ((Value.int IntKind.i64 ((↑x.i : Int))) = (Value.int IntKind.i64 ((↑x'.i : Int)))) ∧
                        ((Value.int IntKind.i64 (IntKind.i64.wrap ((↑x.k : Int) + 1))) = (Value.int IntKind.i64 ((↑x'.k : Int)))) ∧
                        True) ∧
                        (True ∧
                        True) ∧
                        (True ∧
                        True) ∧
                        ((out') = (x'.out)) ∧
                        ((cf') = (x'.cf)) ∧
                        ((p) = (p)) ∧
                        ((q) = (q)) ∧
                        True) ∧
                        (p.length + q.length - (x'.i + x'.k) < p.length + q.length - (x.i + x.k)))))))))))))
              (((x2.inP = true ∨ x3.inQ = true) ∧
              (x3.out.length ≤ 2000000) ∧
              (x3.cf.length ≤ 2000000) ∧
              (∀ ok : Bool,
                (∀ out' : List Chg,
                  (∀ cf' : List Int,
                    (((ok) = (base1 (onPair { kind := 0, key := 0, old := 0, new := 0 : Chg } x2.inP { kind := 0, key := 0, old := 0, new := 0 : Chg } x3.inQ))) →
                    ((((ok) = true) →
                    (((out') = (x3.out.append (keep1 (onPair { kind := 0, key := 0, old := 0, new := 0 : Chg } x2.inP { kind := 0, key := 0, old := 0, new := 0 : Chg } x3.inQ)))) ∧
                    ((cf') = (x3.cf.append (conf1 (onPair { kind := 0, key := 0, old := 0, new := 0 : Chg } x2.inP { kind := 0, key := 0, old := 0, new := 0 : Chg } x3.inQ)))))) →
                    (brS (!ok)
                      ((K (SV.one (TV.at (At.val (Value.bool false)))) [(Chunk.box [(At.slc 2)]), (Chunk.box [(At.slc 3)]), (Chunk.row true (EC.chg) (out')), (Chunk.row true (EC.i64) (cf')), (Chunk.row false (EC.chg) (p)), (Chunk.row false (EC.chg) (q))] [0, 1, 2, 3]))
                      ((∃ x' : XRo p q,
                        (True ∧
                        ((True ∧
                        True ∧
                        ((At.fn 67 [0, 1]) = (At.fn 67 [0, 1])) ∧
                        ((Value.int IntKind.i64 ((↑x.i : Int))) = (Value.int IntKind.i64 ((↑x'.i : Int)))) ∧
                        ((Value.int IntKind.i64 ((↑x.k : Int))) = (Value.int IntKind.i64 ((↑x'.k : Int)))) ∧
                        True) ∧
                        (True ∧
                        True) ∧
                        (True ∧
                        True) ∧
                        ((out') = (x'.out)) ∧
                        ((cf') = (x'.cf)) ∧
                        ((p) = (p)) ∧
                        ((q) = (q)) ∧
                        True) ∧
                        (p.length + q.length - (x'.i + x'.k) < p.length + q.length - (x.i + x.k)))))))))))))))))))))))
      ((K (SV.one (TV.at (At.val (Value.bool true)))) [(Chunk.box [(At.slc 2)]), (Chunk.box [(At.slc 3)]), (Chunk.row true (EC.chg) (x1.out)), (Chunk.row true (EC.i64) (x1.cf)), (Chunk.row false (EC.chg) (p)), (Chunk.row false (EC.chg) (q))] [0, 1, 2, 3]))))))))) = _ by kernel_rfl) ?_
  refine ⟨⟨⟨0, 0, [], [], false, false, Nat.zero_le _, Nat.zero_le _, ⟨Nat.zero_le _, Nat.zero_le _⟩, by unfold reb; simp⟩, by simp⟩, fun x _ => ⟨?_, fun x1 r1 => brS_of (fun hgo => ⟨?_, fun x2 r2 => ⟨?_, fun x3 r3 => ?_⟩⟩) fun hgo => ?_⟩⟩
  · refine brS_of (fun c1 => ⟨⟨x, true, ?_⟩, ?_⟩) fun c1 => ⟨⟨x, decide ((x.k : Int) < (q.length : Int)), ?_⟩, ?_⟩
    · simp at c1; simp [c1]
    · simp
    · simp only [decide_eq_false_iff_not] at c1
      have : ¬ x.i < p.length := by omega
      simp [this]
    · simp
  · obtain ⟨e1, e2⟩ := r1
    have e1 : x.i = x1.i := by omega
    have e2 : x.k = x1.k := by omega
    rw [e1, e2]
    have hh := x1.h
    refine brS_of (fun c1 => brS_of (fun c2 => ⟨⟨⟨x1.i, x1.k, x1.out, x1.cf, true, false, x1.h⟩, ?_⟩, ?_⟩) fun c2 => ⟨by omega, ?_, by omega, ?_, ⟨⟨x1.i, x1.k, x1.out, x1.cf, decide ((cA p x1.i).key ≤ (cA q x1.k).key), false, x1.h⟩, ?_⟩, ?_⟩) fun c1 => ⟨⟨⟨x1.i, x1.k, x1.out, x1.cf, false, false, x1.h⟩, ?_⟩, ?_⟩
    all_goals try simp only [decide_eq_true_eq, decide_eq_false_iff_not, beq_iff_eq, beq_eq_false_iff_ne, ne_eq] at c1 c2
    all_goals try simp only [decide_eq_false_iff_not] at c1
    · have d1 : x1.i < p.length := by omega
      have d2 : x1.k = q.length := by omega
      simp [inL, d1, d2]
    · simp
    · omega
    · omega
    · have d1 : x1.i < p.length := by omega
      have d2 : ¬ x1.k = q.length := by omega
      simp [inL, d1, d2]
    · simp
    · have d1 : ¬ x1.i < p.length := by omega
      simp [inL, d1]
    · simp
  · obtain ⟨e1, e2⟩ := r1
    obtain ⟨e3, e4⟩ := r2
    have e1 : x.i = x2.i := by omega
    have e2 : x.k = x2.k := by omega
    rw [e1, e2]
    have hh := x2.h
    refine brS_of (fun c1 => brS_of (fun c2 => ⟨⟨⟨⟨x2.i, x2.k, x2.out, x2.cf, x2.inP, true, x2.h⟩, x2.hp⟩, ?_⟩, ?_⟩) fun c2 => ⟨by omega, ?_, by omega, ?_, ⟨⟨⟨x2.i, x2.k, x2.out, x2.cf, x2.inP, decide ((cA q x2.k).key ≤ (cA p x2.i).key), x2.h⟩, x2.hp⟩, ?_⟩, ?_⟩) fun c1 => ⟨⟨⟨⟨x2.i, x2.k, x2.out, x2.cf, x2.inP, false, x2.h⟩, x2.hp⟩, ?_⟩, ?_⟩
    all_goals try simp only [decide_eq_true_eq, decide_eq_false_iff_not, beq_iff_eq, beq_eq_false_iff_ne, ne_eq] at c1 c2
    all_goals try simp only [decide_eq_false_iff_not] at c1
    · have d1 : x2.k < q.length := by omega
      have d2 : x2.i = p.length := by omega
      simp [inL, d1, d2]
    · simp
    · omega
    · omega
    · have d1 : x2.k < q.length := by omega
      have d2 : ¬ x2.i = p.length := by omega
      simp [inL, d1, d2]
    · simp
    · have d1 : ¬ x2.k < q.length := by omega
      simp [inL, d1]
    · simp
  · obtain ⟨e1, e2⟩ := r1
    obtain ⟨e3, e4, e5⟩ := r3
    have hne : x.i < p.length ∨ x.k < q.length := by
      have hg := x1.hg
      rw [hgo] at hg
      have hg := hg.symm
      simp only [Bool.or_eq_true, decide_eq_true_eq] at hg
      omega
    have e3 : x3.i = x.i := by omega
    have e4 : x3.k = x.k := by omega
    have hP : x2.inP = inL p q x.i x.k := by rw [e5, x3.hp, e3, e4]
    have hQ : x3.inQ = inL q p x.k x.i := by rw [x3.hq, e3, e4]
    have hG := x3.h
    rw [e3, e4] at hG
    obtain ⟨g1, g2, g3, _⟩ := both_next hG.1 hG.2.1 hne hP hQ
    have hl : x3.out.length ≤ 2000000 := by omega
    have hl2 : x3.cf.length ≤ 2000000 := by omega
    have go : ∀ {c d : Chg} {ok : Bool} {out' : List Chg} {cf' : List Int}, (x2.inP = true → c = cA p x.i) → (x3.inQ = true → d = cA q x.k) → ok = base1 (onPair c x2.inP d x3.inQ) → (ok = true → out' = x3.out ++ keep1 (onPair c x2.inP d x3.inQ) ∧ cf' = x3.cf ++ conf1 (onPair c x2.inP d x3.inQ)) →
        (ok = false → reb p q = none) ∧ (ok = true → inc x2.inP x.i ≤ p.length ∧ inc x3.inQ x.k ≤ q.length ∧ (out'.length ≤ inc x2.inP x.i + inc x3.inQ x.k ∧ cf'.length ≤ inc x2.inP x.i + inc x3.inQ x.k) ∧ reb p q = (rebGo (pC (p.drop (inc x2.inP x.i)) (q.drop (inc x3.inQ x.k)))).map (fun r => (out' ++ r.1, cf' ++ r.2))) :=
      fun hc hd hok ho => reb_step hG hne hP hQ hc hd hok ho
    have w1 : x.i < p.length → IntKind.i64.wrap ((x.i : Int) + 1) = ((x.i + 1 : Nat) : Int) := fun hlt => wrap_next hlt (by omega)
    have w2 : x.k < q.length → IntKind.i64.wrap ((x.k : Int) + 1) = ((x.k + 1 : Nat) : Int) := fun hlt => wrap_next hlt (by omega)
    refine brS_of (fun a1 => ⟨by omega, ?_, brS_of (fun a2 => ⟨by omega, ?_, g1, hl, hl2, fun ok out' cf' hok ho => ?_⟩) fun a2 => ⟨g1, hl, hl2, fun ok out' cf' hok ho => ?_⟩⟩) fun a1 => brS_of (fun a2 => ⟨by omega, ?_, g1, hl, hl2, fun ok out' cf' hok ho => ?_⟩) fun a2 => ⟨g1, hl, hl2, fun ok out' cf' hok ho => ?_⟩
    · have := g2 a1; omega
    · have := g3 a2; omega
    · obtain ⟨z1, z2⟩ := go (fun _ => rfl) (fun _ => rfl) hok ho
      refine brS_of (fun b1 => ?_) fun b1 => ?_
      · have b1 : ok = false := by simpa using b1
        exact h false out' cf' (by rw [z1 b1]; rfl) (by rw [z1 b1]; intro r hr; cases hr)
      · have b1 : ok = true := by simpa using b1
        have z3 := z2 b1
        rw [a1, a2] at z3
        simp only [inc, if_true] at z3
        have := g2 a1; have := g3 a2
        rw [w1 (g2 a1), w2 (g3 a2)]
        refine ⟨⟨_, _, out', cf', false, false, z3⟩, ?_⟩
        simp
        omega
    · obtain ⟨z1, z2⟩ := go (fun _ => rfl) (fun hh => by rw [a2] at hh; cases hh) hok ho
      refine brS_of (fun b1 => ?_) fun b1 => ?_
      · have b1 : ok = false := by simpa using b1
        exact h false out' cf' (by rw [z1 b1]; rfl) (by rw [z1 b1]; intro r hr; cases hr)
      · have b1 : ok = true := by simpa using b1
        have z3 := z2 b1
        rw [a1, a2] at z3
        simp only [inc, if_true, Bool.false_eq_true, if_false] at z3
        have := g2 a1
        rw [w1 (g2 a1)]
        refine ⟨⟨_, _, out', cf', false, false, z3⟩, ?_⟩
        simp
        omega
    · have := g3 a2; omega
    · obtain ⟨z1, z2⟩ := go (fun hh => by rw [a1] at hh; cases hh) (fun _ => rfl) hok ho
      refine brS_of (fun b1 => ?_) fun b1 => ?_
      · have b1 : ok = false := by simpa using b1
        exact h false out' cf' (by rw [z1 b1]; rfl) (by rw [z1 b1]; intro r hr; cases hr)
      · have b1 : ok = true := by simpa using b1
        have z3 := z2 b1
        rw [a1, a2] at z3
        simp only [inc, if_true, Bool.false_eq_true, if_false] at z3
        have := g3 a2
        rw [w2 (g3 a2)]
        refine ⟨⟨_, _, out', cf', false, false, z3⟩, ?_⟩
        simp
        omega
    · rw [a1, a2] at g1; simp at g1
  · have hne : ¬ (x1.i < p.length ∨ x1.k < q.length) := by
      have hg := x1.hg
      rw [hgo] at hg
      have hg := hg.symm
      simp only [Bool.or_eq_false_iff, decide_eq_false_iff_not] at hg
      omega
    have e := reb_end x1.h hne
    exact h true x1.out x1.cf (by rw [e]; rfl) (by rw [e]; intro r hr; exact Option.some.inj hr)
theorem s_bothR : SoundT C0 59 tBothR := by
  refine .ofW [0, 1, 2, 3] Try.func59 (by decide) rfl fun args H K h hB => ?_
  unfold tBothR at h
  split at h <;> try exact h.elim
  rename_i p q
  exact ⟨aBothR p q, ⟨frame C0.ok s_reb1 _, trivial⟩, vc_bothR p q K h.1 h.2⟩

theorem vc_reb (p q : List Chg) (K : KT) (hsm : p.length + q.length ≤ 1000000) (h : ∀ (r : List Chg) (c : List Int) (e : Int), (r, c, e) = rebR p q → K (.tup [.at (.slc 2), .at (.slc 3), .at (vI e)]) [.row false EC.chg p, .row false EC.chg q, .row true EC.chg r, .row true EC.i64 c] []) :
    vc C0 aReb Try.f34 [.at (.slc 0), .at (.slc 1)] [.row false EC.chg p, .row false EC.chg q] (normK 2 K) := by
  refine Eq.mp (show (brS (!valB p)
  ((K (SV.tup [(TV.at (At.slc 2)), (TV.at (At.slc 3)), (TV.at (At.val (Value.int IntKind.i64 1)))]) [(Chunk.row false (EC.chg) (p)), (Chunk.row false (EC.chg) (q)), (Chunk.row true (EC.chg) []), (Chunk.row true (EC.i64) [])] []))
  ((brS (!valB q)
    ((K (SV.tup [(TV.at (At.slc 2)), (TV.at (At.slc 3)), (TV.at (At.val (Value.int IntKind.i64 1)))]) [(Chunk.row false (EC.chg) (p)), (Chunk.row false (EC.chg) (q)), (Chunk.row true (EC.chg) []), (Chunk.row true (EC.i64) [])] []))
    (((p.length + q.length ≤ 1000000) ∧
    (∀ ok : Bool,
      (∀ out' : List Chg,
        (∀ cf' : List Int,
          (((ok) = ((reb p q).isSome)) →
          ((∀ r : List Chg × List Int,
            (((reb p q) = (some (r))) →
            ((Prod.mk (out') (cf')) = (r)))) →
          (brS (!ok)
            ((K (SV.tup [(TV.at (At.slc 2)), (TV.at (At.slc 3)), (TV.at (At.val (Value.int IntKind.i64 9)))]) [(Chunk.row false (EC.chg) (p)), (Chunk.row false (EC.chg) (q)), (Chunk.row true (EC.chg) []), (Chunk.row true (EC.i64) [])] []))
            ((K (SV.tup [(TV.at (At.slc 2)), (TV.at (At.slc 3)), (TV.at (At.val (Value.int IntKind.i64 0)))]) [(Chunk.row false (EC.chg) (p)), (Chunk.row false (EC.chg) (q)), (Chunk.row true (EC.chg) (out')), (Chunk.row true (EC.i64) (cf'))] []))))))))))))) = _ by kernel_rfl) ?_
  refine brS_of (fun h1 => h [] [] 1 ?_) fun h1 => brS_of (fun h2 => h [] [] 1 ?_) fun h2 => ⟨hsm, fun ok out' cf' hok ho => brS_of (fun h3 => h [] [] 9 ?_) fun h3 => h out' cf' 0 ?_⟩
  · simp at h1; simp [rebR, h1]
  · simp at h2; simp [rebR, h2]
  · simp at h1 h2 h3
    rw [h3] at hok
    cases hc : reb p q with
    | none => simp [rebR, h1, h2, hc]
    | some r => rw [hc] at hok; cases hok
  · simp at h1 h2 h3
    rw [h3] at hok
    obtain ⟨r, hc⟩ := Option.isSome_iff_exists.1 hok.symm
    have e := ho r hc
    subst e
    simp [rebR, h1, h2, hc]
theorem s_reb : SoundT C0 34 tReb := by
  refine .of Try.func34 (by decide) rfl fun args H K h hB => ?_
  unfold tReb at h
  split at h <;> try exact h.elim
  rename_i p q
  exact ⟨aReb, ⟨frame C0.ok s_valid _, frame C0.ok s_bothR _, trivial⟩, vc_reb p q K h.1 h.2⟩
end Go.Proofs.Ytdgodcamadalhaa.Sx
