/- The nearest entries of a tree. No program in sight. -/
import Derived.Test.YtacdmmomkngpkaaArF
namespace Go.Proofs.Ytacdmmomkngpkaa
open Go

def lsT : Tr → (Int → Bool) → Option Ent → Option Ent × Nat
  | .nil, _, b => (b, 0)
  | .node l k v r, p, b => if p k then ((lsT l p (some (k, v))).1, 1 + (lsT l p (some (k, v))).2) else ((lsT r p b).1, 1 + (lsT r p b).2)
def gtT : Tr → (Int → Bool) → Option Ent → Option Ent × Nat
  | .nil, _, b => (b, 0)
  | .node l k v r, p, b => if p k then ((gtT r p (some (k, v))).1, 1 + (gtT r p (some (k, v))).2) else ((gtT l p b).1, 1 + (gtT l p b).2)
theorem lsT_le : ∀ (t : Tr) (p : Int → Bool) (b : Option Ent), (lsT t p b).2 ≤ t.size
  | .nil, _, _ => by simp [lsT, Tr.size]
  | .node l k v r, p, b => by
    have h1 := lsT_le l p (some (k, v))
    have h2 := lsT_le r p b
    simp only [lsT, Tr.size]
    split <;> simp only [] <;> omega
theorem gtT_le : ∀ (t : Tr) (p : Int → Bool) (b : Option Ent), (gtT t p b).2 ≤ t.size
  | .nil, _, _ => by simp [gtT, Tr.size]
  | .node l k v r, p, b => by
    have h1 := gtT_le r p (some (k, v))
    have h2 := gtT_le l p b
    simp only [gtT, Tr.size]
    split <;> simp only [] <;> omega
/-- The first entry that is admitted, where greater keys are admitted as well. -/
theorem lsT_find : ∀ (t : Tr) (p : Int → Bool) (b : Option Ent), Asc t.list → (∀ i j, i < j → p i = true → p j = true) → (lsT t p b).1 = (t.list.find? fun x => p x.1).or b
  | .nil, _, _, _, _ => by simp [lsT, Tr.list]
  | .node l k v r, p, b, h, hp => by
    obtain ⟨hl, hr, hlk, hkr⟩ := node_asc h
    simp only [lsT, Tr.list]
    rw [List.find?_append, List.find?_cons]
    cases c : p k with
    | true =>
      simp only [if_true]
      rw [lsT_find l p _ hl hp]
      cases (l.list.find? fun x => p x.1) <;> rfl
    | false =>
      simp only [Bool.false_eq_true, if_false]
      have e : (l.list.find? fun x => p x.1) = none := by
        rw [List.find?_eq_none]
        intro x hx hc
        have := hp x.1 k (hlk x hx) hc
        rw [c] at this; cases this
      rw [e, lsT_find r p b hr hp]; rfl
/-- The last entry that is admitted, where lesser keys are admitted as well. -/
theorem gtT_find : ∀ (t : Tr) (p : Int → Bool) (b : Option Ent), Asc t.list → (∀ i j, i < j → p j = true → p i = true) → (gtT t p b).1 = (t.list.reverse.find? fun x => p x.1).or b
  | .nil, _, _, _, _ => by simp [gtT, Tr.list]
  | .node l k v r, p, b, h, hp => by
    obtain ⟨hl, hr, hlk, hkr⟩ := node_asc h
    simp only [gtT, Tr.list]
    rw [List.reverse_append, List.reverse_cons, List.append_assoc, List.find?_append, List.singleton_append, List.find?_cons]
    cases c : p k with
    | true =>
      simp only [if_true]
      rw [gtT_find r p _ hr hp]
      cases (r.list.reverse.find? fun x => p x.1) <;> rfl
    | false =>
      simp only [Bool.false_eq_true, if_false]
      have e : (r.list.reverse.find? fun x => p x.1) = none := by
        rw [List.find?_eq_none]
        intro x hx hc
        have := hp k x.1 (hkr x (by simpa using hx)) hc
        rw [c] at this; cases this
      rw [e, gtT_find l p b hl hp]; rfl
end Go.Proofs.Ytacdmmomkngpkaa
