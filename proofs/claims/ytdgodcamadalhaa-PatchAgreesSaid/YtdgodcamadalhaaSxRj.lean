/- What the closures of Compose and Rebase do with one key. -/
import Derived.Test.YtdgodcamadalhaaSxRi
namespace Go.Proofs.Ytdgodcamadalhaa.Sx
open Go

/-- The same names touched, whichever way a run takes. -/
def wideK (W0 : List Nat) (K : KT) : KT := fun r H ts => if ts.all W0.contains then K r H W0 else False
theorem CallOK.wide {f : FuncId} {args : List TV} {H : List (Chunk C0)} {K : KT} (W0 : List Nat) (h : CallOK C0 f args H (wideK W0 K)) : CallOK C0 f args H K := by
  intro σ φ w vs hs hr hn
  refine Calls.mono (h σ φ w vs hs hr hn) fun e w' hh => ?_
  cases e with
  | panicked ch => exact hh.elim
  | outgrown => exact hh.elim
  | returned v =>
    obtain ⟨r, H', ts, σ', φ', hout, hK⟩ := hh
    unfold wideK at hK
    split at hK <;> try exact hK.elim
    rename_i hsub
    have hts : ∀ n, n ∉ W0 → n ∉ ts := fun n hn ht => hn (by simpa using List.all_eq_true.1 hsub n ht)
    exact ⟨r, H', W0, σ', φ', ⟨hout.rel, hout.rcl, hout.sat, hout.adv, hout.len, fun n hn ho => hout.agree n hn (ho.imp id (hts n)), hout.own, fun n hn ht => hout.touch n hn (hts n ht)⟩, hK⟩
theorem SoundT.ofW {f : FuncId} {fn : Func} {c : Code} {t : Tfm C0} (W0 : List Nat) (hf : Try.prog.funcs[f]? = some fn) (hname : (fn.name == "runtime.NumGoroutine") = false) (hb : fn.body = some c)
    (h : ∀ args H K, t args H K → RowB H → ∃ A : Ann C0, GOK C0 A.Γ ∧ vc C0 A fn args H (normK H.length (wideK W0 K))) : SoundT C0 f t :=
  ⟨enter_of hf hname hb, fun args H K hk => by
    refine CallOK.wide W0 (CallOK.rowB C0.ok fun hB => ?_)
    obtain ⟨A, hG, hv⟩ := h args H K hk hB
    exact CallOK.norm (call_of_vc C0.ok hG hf hv)⟩

structure XB (P : Bool → Prop) where
  b : Bool
  h : P b
structure XCB (P : Chg → Bool → Prop) where
  d : Chg
  ok : Bool
  h : P d ok
theorem may_eqB (x y : Option Int) : ((x.isSome == y.isSome) && ((x.getD 0 == y.getD 0) && true)) = decide (x = y) := by
  cases x <;> cases y <;> simp
  exact Bool.eq_iff_iff.2 (by simp)
noncomputable def aCmp1 (c d : Chg) (out : List Chg) : Ann C0 := { Γ := [(62, frameT [] (tBefore mayA)), (61, frameT [] (tAfter mayA)), (63, frameT [] tChange)], quiet := [62, 61, 63], inv := fun k => match k with
  | 1009 => some { X := XB fun b => b = !decide (c.after = d.before), sl := [41], tf := fun x => [vb x.b], hf := fun _ => [.box [.slc 1], .row true EC.chg out, .box [vI c.kind, vI c.key, vI c.old, vI c.new], .box [vI d.kind, vI d.key, vI d.old, vI d.new]] }
  | 1002 => some { X := XCB fun e b => b = (mkChg c.key c.before d.after).isSome ∧ ∀ x, mkChg c.key c.before d.after = some x → e = x, sl := [11, 10], tf := fun x => [vb x.ok, .one (.at (.ptr 2 0))], hf := fun x => [.box [.slc 1], .row true EC.chg out, .box [vI x.d.kind, vI x.d.key, vI x.d.old, vI x.d.new]] }
  | _ => none }
def onPair (c : Chg) (inP : Bool) (d : Chg) (inQ : Bool) : Option Chg × Option Chg := (if inP then some c else none, if inQ then some d else none)
def tCmp1 : Tfm C0 := fun args H K => match args, H with
  | [.agg [.val (.int .i64 ckd), .val (.int .i64 cky), .val (.int .i64 cod), .val (.int .i64 cnw)], .at (.val (.bool inP)), .agg [.val (.int .i64 dkd), .val (.int .i64 dky), .val (.int .i64 dod), .val (.int .i64 dnw)], .at (.val (.bool inQ)), .at (.ptr 0 0)], [.box [.slc 1], .row true .chg out] =>
    (inP = true ∨ inQ = true) ∧ out.length ≤ 2000000 ∧ ∀ (ok : Bool) (out' : List Chg), ok = meet1 (onPair ⟨ckd, cky, cod, cnw⟩ inP ⟨dkd, dky, dod, dnw⟩ inQ) → (ok = true → out' = List.append (α := Chg) out (comp1 (onPair ⟨ckd, cky, cod, cnw⟩ inP ⟨dkd, dky, dod, dnw⟩ inQ))) → K (.one (.at (vB ok))) [.box [.slc 1], .row true EC.chg out'] [0, 1]
  | _, _ => False
theorem chgR_some {k : Int} {x y : Option Int} {d : Chg} {ok : Bool} (h : ChgR k x.isSome (x.getD 0) y.isSome (y.getD 0) d ok) : ok = (mkChg k x y).isSome ∧ ∀ e, mkChg k x y = some e → d = e :=
  ⟨(h x y rfl rfl rfl rfl).1, (h x y rfl rfl rfl rfl).2.2⟩
theorem vc_cmp1 (ckd cky cod cnw dkd dky dod dnw : Int) (inP inQ : Bool) (out : List Chg) (K : KT) (hor : inP = true ∨ inQ = true) (hlen : out.length ≤ 2000000)
    (h : ∀ ok (out' : List Chg), ok = meet1 (onPair ⟨ckd, cky, cod, cnw⟩ inP ⟨dkd, dky, dod, dnw⟩ inQ) → (ok = true → out' = out ++ comp1 (onPair ⟨ckd, cky, cod, cnw⟩ inP ⟨dkd, dky, dod, dnw⟩ inQ)) → K (.one (.at (vB ok))) [.box [.slc 1], .row true EC.chg out'] [0, 1]) :
    vc C0 (aCmp1 ⟨ckd, cky, cod, cnw⟩ ⟨dkd, dky, dod, dnw⟩ out) Try.f60 [.agg [.val (.int .i64 ckd), .val (.int .i64 cky), .val (.int .i64 cod), .val (.int .i64 cnw)], .at (.val (.bool inP)), .agg [.val (.int .i64 dkd), .val (.int .i64 dky), .val (.int .i64 dod), .val (.int .i64 dnw)], .at (.val (.bool inQ)), .at (.ptr 0 0)] [.box [.slc 1], .row true EC.chg out] (normK 2 (wideK [0, 1] K)) := by
  refine Eq.mp (show (brS (!inQ)
  ((((out.length + [{ kind := ckd, key := cky, old := cod, new := cnw : Chg }].length) * bytesOf C0 EC.chg ≤ 140737488355328) ∧
  (K (SV.one (TV.at (At.val (Value.bool true)))) [(Chunk.box [(At.slc 1)]), (Chunk.row true (EC.chg) (out ++ [{ kind := ckd, key := cky, old := cod, new := cnw : Chg }]))] [0, 1])))
  ((brS (!inP)
    ((((out.length + [{ kind := dkd, key := dky, old := dod, new := dnw : Chg }].length) * bytesOf C0 EC.chg ≤ 140737488355328) ∧
    (K (SV.one (TV.at (At.val (Value.bool true)))) [(Chunk.box [(At.slc 1)]), (Chunk.row true (EC.chg) (out ++ [{ kind := dkd, key := dky, old := dod, new := dnw : Chg }]))] [0, 1])))
    (((∀ x : Option Int,
      (((x) = ({ kind := ckd, key := cky, old := cod, new := cnw : Chg }.after)) →
      (∀ x1 : Option Int,
        (((x1) = ({ kind := dkd, key := dky, old := dod, new := dnw : Chg }.before)) →
        (∃ x2 : XB fun b => b = !decide ({ kind := ckd, key := cky, old := cod, new := cnw : Chg }.after = { kind := dkd, key := dky, old := dod, new := dnw : Chg }.before),
          (True ∧
          (True ∧
          True ∧
          True ∧
          ((Value.bool (!(x.isSome == x1.isSome && (x.getD 0 == x1.getD 0 && true)))) = (Value.bool (x2.b))) ∧
          True) ∧
          (True ∧
          True) ∧
          ((out) = (out)) ∧
          (((Value.int IntKind.i64 (ckd)) = (Value.int IntKind.i64 (ckd))) ∧
          ((Value.int IntKind.i64 (cky)) = (Value.int IntKind.i64 (cky))) ∧
          ((Value.int IntKind.i64 (cod)) = (Value.int IntKind.i64 (cod))) ∧
          ((Value.int IntKind.i64 (cnw)) = (Value.int IntKind.i64 (cnw))) ∧
          True) ∧
          (((Value.int IntKind.i64 (dkd)) = (Value.int IntKind.i64 (dkd))) ∧
          ((Value.int IntKind.i64 (dky)) = (Value.int IntKind.i64 (dky))) ∧
          ((Value.int IntKind.i64 (dod)) = (Value.int IntKind.i64 (dod))) ∧
          ((Value.int IntKind.i64 (dnw)) = (Value.int IntKind.i64 (dnw))) ∧
          True) ∧
          True)))))) ∧
    (∀ x : XB fun b => b = !decide ({ kind := ckd, key := cky, old := cod, new := cnw : Chg }.after = { kind := dkd, key := dky, old := dod, new := dnw : Chg }.before),
      (True →
      (brS (x.b)
        ((K (SV.one (TV.at (At.val (Value.bool false)))) [(Chunk.box [(At.slc 1)]), (Chunk.row true (EC.chg) (out))] [0, 1]))
        ((((∀ x1 : Option Int,
          (((x1) = ({ kind := ckd, key := cky, old := cod, new := cnw : Chg }.before)) →
          ((∀ x2 : Option Int,
            (((x2) = ({ kind := dkd, key := dky, old := dod, new := dnw : Chg }.after)) →
            ((∀ d : Chg,
              (∀ ok : Bool,
                ((ChgR cky x1.isSome (x1.getD 0) x2.isSome (x2.getD 0) d ok) →
                (∃ x3 : XCB fun e b => b = (mkChg cky { kind := ckd, key := cky, old := cod, new := cnw : Chg }.before { kind := dkd, key := dky, old := dod, new := dnw : Chg }.after).isSome ∧ ∀ (x : Chg), mkChg cky { kind := ckd, key := cky, old := cod, new := cnw : Chg }.before { kind := dkd, key := dky, old := dod, new := dnw : Chg }.after = some x → e = x,
                  (True ∧
                  (True ∧
                  True ∧
                  ((Value.bool (ok)) = (Value.bool (x3.ok))) ∧
                  True) ∧
                  (True ∧
                  True) ∧
                  ((out) = (out)) ∧
                  (((Value.int IntKind.i64 (d.kind)) = (Value.int IntKind.i64 (x3.d.kind))) ∧
                  ((Value.int IntKind.i64 (d.key)) = (Value.int IntKind.i64 (x3.d.key))) ∧
                  ((Value.int IntKind.i64 (d.old)) = (Value.int IntKind.i64 (x3.d.old))) ∧
                  ((Value.int IntKind.i64 (d.new)) = (Value.int IntKind.i64 (x3.d.new))) ∧
                  True) ∧
                  True))))) ∧
            (∀ d : Chg,
              (∀ ok : Bool,
                ((ChgR cky x1.isSome (x1.getD 0) x2.isSome (x2.getD 0) d ok) →
                (∃ x3 : XCB fun e b => b = (mkChg cky { kind := ckd, key := cky, old := cod, new := cnw : Chg }.before { kind := dkd, key := dky, old := dod, new := dnw : Chg }.after).isSome ∧ ∀ (x : Chg), mkChg cky { kind := ckd, key := cky, old := cod, new := cnw : Chg }.before { kind := dkd, key := dky, old := dod, new := dnw : Chg }.after = some x → e = x,
                  (True ∧
                  (True ∧
                  True ∧
                  ((Value.bool (ok)) = (Value.bool (x3.ok))) ∧
                  True) ∧
                  (True ∧
                  True) ∧
                  ((out) = (out)) ∧
                  (((Value.int IntKind.i64 (d.kind)) = (Value.int IntKind.i64 (x3.d.kind))) ∧
                  ((Value.int IntKind.i64 (d.key)) = (Value.int IntKind.i64 (x3.d.key))) ∧
                  ((Value.int IntKind.i64 (d.old)) = (Value.int IntKind.i64 (x3.d.old))) ∧
                  ((Value.int IntKind.i64 (d.new)) = (Value.int IntKind.i64 (x3.d.new))) ∧
                  True) ∧
                  True)))))))) ∧
          (∀ x2 : Option Int,
            (((x2) = ({ kind := dkd, key := dky, old := dod, new := dnw : Chg }.after)) →
            (∀ d : Chg,
              (∀ ok : Bool,
                ((ChgR cky x1.isSome (x1.getD 0) x2.isSome (x2.getD 0) d ok) →
                (∃ x3 : XCB fun e b => b = (mkChg cky { kind := ckd, key := cky, old := cod, new := cnw : Chg }.before { kind := dkd, key := dky, old := dod, new := dnw : Chg }.after).isSome ∧ ∀ (x : Chg), mkChg cky { kind := ckd, key := cky, old := cod, new := cnw : Chg }.before { kind := dkd, key := dky, old := dod, new := dnw : Chg }.after = some x → e = x,
                  (True ∧
                  (True ∧
                  True ∧
                  ((Value.bool (ok)) = (Value.bool (x3.ok))) ∧
                  True) ∧
                  (True ∧
                  True) ∧
                  ((out) = (out)) ∧
                  (((Value.int IntKind.i64 (d.kind)) = (Value.int IntKind.i64 (x3.d.kind))) ∧
                  ((Value.int IntKind.i64 (d.key)) = (Value.int IntKind.i64 (x3.d.key))) ∧
                  ((Value.int IntKind.i64 (d.old)) = (Value.int IntKind.i64 (x3.d.old))) ∧
                  ((Value.int IntKind.i64 (d.new)) = (Value.int IntKind.i64 (x3.d.new))) ∧
                  True) ∧
                  True)))))))))) ∧
        (∀ x1 : Option Int,
          (((x1) = ({ kind := ckd, key := cky, old := cod, new := cnw : Chg }.before)) →
          (∀ x2 : Option Int,
            (((x2) = ({ kind := dkd, key := dky, old := dod, new := dnw : Chg }.after)) →
            (∀ d : Chg,
              (∀ ok : Bool,
                ((ChgR cky x1.isSome (x1.getD 0) x2.isSome (x2.getD 0) d ok) →
                (∃ x3 : XCB fun e b => b = (mkChg cky { kind := ckd, key := cky, old := cod, new := cnw : Chg }.before { kind := dkd, key := dky, old := dod, new := dnw : Chg }.after).isSome ∧ ∀ (x : Chg), mkChg cky { kind := ckd, key := cky, old := cod, new := cnw : Chg }.before { kind := dkd, key := dky, old := dod, new := dnw : Chg }.after = some x → e = x,
                  (True ∧
                  (True ∧
                  True ∧
                  ((Value.bool (ok)) = (Value.bool (x3.ok))) ∧
                  True) ∧
                  (True ∧
                  True) ∧
                  ((out) = (out)) ∧
                  (((Value.int IntKind.i64 (d.kind)) = (Value.int IntKind.i64 (x3.d.kind))) ∧
                  ((Value.int IntKind.i64 (d.key)) = (Value.int IntKind.i64 (x3.d.key))) ∧
                  ((Value.int IntKind.i64 (d.old)) = (Value.int IntKind.i64 (x3.d.old))) ∧
                  ((Value.int IntKind.i64 (d.new)) = (Value.int IntKind.i64 (x3.d.new))) ∧
                  True) ∧
                  True)))))))))) ∧
        (∀ x1 : XCB fun e b => b = (mkChg cky { kind := ckd, key := cky, old := cod, new := cnw : Chg }.before { kind := dkd, key := dky, old := dod, new := dnw : Chg }.after).isSome ∧ ∀ (x : Chg), mkChg cky { kind := ckd, key := cky, old := cod, new := cnw : Chg }.before { kind := dkd, key := dky, old := dod, new := dnw : Chg }.after = some x → e = x,
          (True →
          (brS (x1.ok)
            ((((out.length + [{ kind := x1.d.kind, key := x1.d.key, old := x1.d.old, new := x1.d.new : Chg }].length) * bytesOf C0 EC.chg ≤ 140737488355328) ∧
            (K (SV.one (TV.at (At.val (Value.bool true)))) [(Chunk.box [(At.slc 1)]), (Chunk.row true (EC.chg) (out ++ [{ kind := x1.d.kind, key := x1.d.key, old := x1.d.old, new := x1.d.new : Chg }]))] [0, 1])))
            ((K (SV.one (TV.at (At.val (Value.bool true)))) [(Chunk.box [(At.slc 1)]), (Chunk.row true (EC.chg) (out))] [0, 1]))))))))))))))) = _ by kernel_rfl) ?_
  simp only [bytes_chg, List.length_singleton]
  refine brS_of (fun h1 => ⟨by omega, h _ _ ?_ ?_⟩) fun h1 => brS_of (fun h2 => ⟨by omega, h _ _ ?_ ?_⟩) fun h2 => ⟨?_, fun x _ => brS_of (fun h3 => h _ _ ?_ ?_) fun h3 => ⟨?_, fun x1 _ => brS_of (fun h4 => ⟨by omega, h _ _ ?_ ?_⟩) fun h4 => h _ _ ?_ ?_⟩⟩
  case refine_5 =>
    intro x hx x1 hx1; subst hx hx1; refine ⟨⟨_, rfl⟩, ?_⟩; simp only [may_eqB, and_self, true_and]
  case refine_8 =>
    repeat' (first | refine And.intro ?_ ?_ | intro _)
    all_goals (subst_vars; rename_i hR; exact ⟨⟨_, _, chgR_some hR⟩, by simp⟩)
  case refine_1 | refine_2 =>
    have e1 : inQ = false := by simpa using h1
    have e2 : inP = true := by simpa [e1] using hor
    subst e1 e2
    simp [onPair, meet1, comp1]
  case refine_3 | refine_4 =>
    have e1 : inQ = true := by simpa using h1
    have e2 : inP = false := by simpa using h2
    subst e1 e2
    simp [onPair, meet1, comp1]
  all_goals
    have e1 : inQ = true := by simpa using h1
    have e2 : inP = true := by simpa using h2
    subst e1 e2
    have hx := x.h
    rw [h3] at hx
    simp only [onPair, meet1, comp1, if_true]
    try have hy := x1.h.1
    try rw [h4] at hy
  · simpa using hx
  · intro h; cases h
  · simpa using hx
  · intro _
    obtain ⟨e, he⟩ := Option.isSome_iff_exists.1 hy.symm
    have hd := x1.h.2 e he
    rw [hd, he]; rfl
  · simpa using hx
  · intro _
    have he : mkChg cky (Chg.before ⟨ckd, cky, cod, cnw⟩) (Chg.after ⟨dkd, dky, dod, dnw⟩) = none := by
      cases hh : mkChg cky (Chg.before ⟨ckd, cky, cod, cnw⟩) (Chg.after ⟨dkd, dky, dod, dnw⟩) with
      | none => rfl
      | some e => rw [hh] at hy; cases hy
    rw [he]; simp
theorem s_cmp1 : SoundT C0 60 tCmp1 := by
  refine .ofW [0, 1] Try.func60 (by decide) rfl fun args H K h hB => ?_
  unfold tCmp1 at h
  split at h <;> try exact h.elim
  rename_i ckd cky cod cnw inP dkd dky dod dnw inQ out
  exact ⟨aCmp1 ⟨ckd, cky, cod, cnw⟩ ⟨dkd, dky, dod, dnw⟩ out, ⟨frame C0.ok s_before _, frame C0.ok s_after _, frame C0.ok s_change _, trivial⟩, vc_cmp1 ckd cky cod cnw dkd dky dod dnw inP inQ out K h.1 h.2.1 h.2.2⟩
end Go.Proofs.Ytdgodcamadalhaa.Sx
