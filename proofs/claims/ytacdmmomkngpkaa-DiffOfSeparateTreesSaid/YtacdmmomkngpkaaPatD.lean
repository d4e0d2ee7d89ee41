/- Plain laws of patches: what is carried through the loop of a check. No program in sight. -/
import Derived.Test.YtacdmmomkngpkaaPat
namespace Go.Proofs.Ytacdmmomkngpkaa.Sx
open Go

def cA (p : List Chg) (n : Nat) : Chg := p.getD n ⟨0, 0, 0, 0⟩
def eA (p : List Ent) (n : Nat) : Ent := p.getD n (0, 0)
theorem cA_get {p : List Chg} {n : Nat} (h : n < p.length) : p[n]? = some (cA p n) := by simp [cA, List.getD_eq_getElem?_getD, List.getElem?_eq_getElem h]
theorem eA_get {p : List Ent} {n : Nat} (h : n < p.length) : p[n]? = some (eA p n) := by simp [eA, List.getD_eq_getElem?_getD, List.getElem?_eq_getElem h]
theorem drop_cons {α : Type} {l : List α} {n : Nat} {x : α} (h : l[n]? = some x) : l.drop n = x :: l.drop (n + 1) := by
  obtain ⟨h1, h2⟩ := List.getElem?_eq_some_iff.1 h
  rw [List.drop_eq_getElem_cons h1, h2]
theorem take_snoc {α : Type} {l : List α} {n : Nat} {x : α} (h : l[n]? = some x) : l.take (n + 1) = l.take n ++ [x] := by
  rw [List.take_add_one, h]; rfl

def prevK (p : List Chg) : Nat → Option Int
  | 0 => none
  | k + 1 => (p[k]?).map Chg.key
/-- The key is not greater than the one before. -/
def lowB (p : List Chg) (k : Nat) (ky : Int) : Bool := match prevK p k with
  | none => false
  | some q => decide (ky ≤ q)
theorem lowB_zero (p : List Chg) (ky : Int) : lowB p 0 ky = false := rfl
theorem lowB_succ {p : List Chg} {k : Nat} {x : Chg} (h : p[k]? = some x) (ky : Int) : lowB p (k + 1) ky = decide (ky ≤ x.key) := by simp [lowB, prevK, h]
theorem valGo_step {p : List Chg} {k : Nat} {c : Chg} (hx : p[k]? = some c) :
    valGo (prevK p k) (p.drop k) = (!lowB p k c.key && decide c.ok && valGo (prevK p (k + 1)) (p.drop (k + 1))) := by
  rw [drop_cons hx, show prevK p (k + 1) = some c.key by simp [prevK, hx]]
  simp only [valGo, lowB]
  congr 2
  cases prevK p k with
  | none => rfl
  | some q => by_cases h : q < c.key
              · simp [h, show ¬ c.key ≤ q by omega]
              · simp [h, show c.key ≤ q by omega]

/-- What 'change' answers of a change's own values. -/
def CmpR (c d : Chg) (ok : Bool) : Prop := ok = (mkChg c.key c.before c.after).isSome ∧ ∀ e, mkChg c.key c.before c.after = some e → d = e
theorem CmpR.ok {c d : Chg} {ok : Bool} (h : CmpR c d ok) : decide c.ok = (ok && decide (d = c)) := by
  obtain ⟨h1, h2⟩ := h
  cases hm : mkChg c.key c.before c.after with
  | none => rw [hm] at h1; subst h1; simp [Chg.ok, hm]
  | some e => rw [hm] at h1; subst h1; simp [Chg.ok, hm, h2 e hm]
theorem chg_eqB (c d : Chg) : (d.kind == c.kind && (d.key == c.key && (d.old == c.old && (d.new == c.new && true)))) = decide (d = c) := by
  cases c; cases d; simp [Bool.decide_and]; rfl
end Go.Proofs.Ytacdmmomkngpkaa.Sx
