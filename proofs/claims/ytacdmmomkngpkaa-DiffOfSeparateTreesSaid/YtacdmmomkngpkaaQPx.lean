/- What the walks of treework.Pairs share. -/
import Derived.Test.YtacdmmomkngpkaaQPr
namespace Go.Proofs.Ytacdmmomkngpkaa.Sx
open Go

structure XP {σ : Type} (P : List ItemT → List ItemT → σ → Nat → Bool → Prop) where
  l : List ItemT
  r : List ItemT
  s : σ
  m : Nat
  c : Bool
  h : P l r s m c
abbrev bxI (x : ItemT) : Chunk C0 := .box [vU x.index, vI x.size, vI x.key, vI x.value, vB x.single]
def relP (a b : Nat) (H : List (Chunk C0)) (l r : List ItemT) : Prop := match H[a]?, H[b]? with
  | some (.row true .item l'), some (.row true .item r') => l' = l ∧ r' = r
  | _, _ => False
def ifI (b : Bool) (x : Int) : Int := if b then x else 0
def fR (lo hi : Int) (c : Chg) (s : List Chg) : List Chg × Bool := (if lo ≤ c.key ∧ c.key ≤ hi then s ++ [c] else s, decide (c.key < hi))
def fC (_ : Chg) (s : Int) : Int × Bool := (IntKind.i64.wrap (s + 1), true)
def fF (c : Chg) (_ : Chg × Bool) : (Chg × Bool) × Bool := ((c, true), false)
def tCom : Tfm C0 := fun args H K => match args, H with
  | [], [] => K (.one (.at (vB true))) [] []
  | _, _ => False
theorem s_com : SoundT C0 129 tCom := by
  refine .of Try.func129 (by decide) rfl fun args H K h hB => ⟨A0, trivial, ?_⟩
  unfold tCom at h
  split at h <;> try exact h.elim
  exact Eq.mp (show _ = _ by kernel_rfl) h
section
variable {σ : Type} (S : Arn) (f : Chg → σ → σ × Bool) (fin : σ) (sz : σ → Nat) (W Z : Nat)
def PA0 : List ItemT → List ItemT → σ → Nat → Bool → Prop := fun l r s m _ => PIn S f fin sz W Z l r s m
def PA1 : List ItemT → List ItemT → σ → Nat → Bool → Prop := fun l r s m c => PIn S f fin sz W Z l r s m ∧ (c = true ↔ l = [] ∧ r = [])
def PA2 : List ItemT → List ItemT → σ → Nat → Bool → Prop := fun l r s m c => PIn S f fin sz W Z l r s m ∧ ¬ (l = [] ∧ r = []) ∧ (c = true → l ≠ [] ∧ r ≠ [] ∧ (lastI l).single = false ∧ (lastI r).single = false ∧ (lastI l).index = (lastI r).index)
def PA3 : List ItemT → List ItemT → σ → Nat → Bool → Prop := fun l r s m c => PIn S f fin sz W Z l r s m ∧ ¬ (l = [] ∧ r = []) ∧ (c = true → l ≠ [] ∧ (lastI l).single = false) ∧ (c = false → l ≠ [] → (lastI l).single = false → r ≠ [] ∧ (lastI r).single = false)
def PA4 : List ItemT → List ItemT → σ → Nat → Bool → Prop := fun l r s m c => PIn S f fin sz W Z l r s m ∧ ¬ (l = [] ∧ r = []) ∧ (c = true → r ≠ [] ∧ (lastI r).single = false) ∧ (c = false → (l ≠ [] → (lastI l).single = true) ∧ (r ≠ [] → (lastI r).single = true))
def PA5 : List ItemT → List ItemT → σ → Nat → Bool → Prop := fun l r s m _ => PIn S f fin sz W Z l r s m ∧ ¬ (l = [] ∧ r = []) ∧ (l ≠ [] → (lastI l).single = true) ∧ (r ≠ [] → (lastI r).single = true)
end
theorem btw_self (l : List Ent) : btw l l = [] := by
  have e := btw_common l [] []
  simp only [List.append_nil] at e
  rw [e]
  unfold btw pE; rw [pairs]; rfl
theorem inL_or {l r : List ItemT} (h : ¬ (l = [] ∧ r = [])) (h2 : inL r l = false) : inL l r = true := by
  by_cases cl : l = []
  · by_cases cr : r = []
    · exact absurd ⟨cl, cr⟩ h
    · simp [inL, cl, cr] at h2
  · by_cases cr : r = []
    · simp [inL, cl, cr]
    · simp [inL, cl, cr] at h2 ⊢; omega
end Go.Proofs.Ytacdmmomkngpkaa.Sx
