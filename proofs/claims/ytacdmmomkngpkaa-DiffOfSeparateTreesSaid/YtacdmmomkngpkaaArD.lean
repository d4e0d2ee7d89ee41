/- Listing a tree, and trees of a given shape. No program in sight. -/
import Derived.Test.YtacdmmomkngpkaaArC
namespace Go.Proofs.Ytacdmmomkngpkaa
open Go

/-- What 'keys' of a lister collects where there is room for so many entries, and how many nodes it reads. -/
def lk : Tr → Int → Int → Nat → List Ent × Nat
  | .nil, _, _, _ => ([], 0)
  | .node l k v r, lo, hi, room => if room = 0 then ([], 0) else
    let a := if lo < k then lk l lo hi room else ([], 0)
    let b : List Ent := if lo ≤ k ∧ k ≤ hi ∧ a.1.length < room then [(k, v)] else []
    let c := if k < hi then lk r lo hi (room - (a.1.length + b.length)) else ([], 0)
    (a.1 ++ (b ++ c.1), 1 + a.2 + c.2)
theorem lk_len : ∀ (t : Tr) (lo hi : Int) (room : Nat), (lk t lo hi room).1.length ≤ room ∧ (lk t lo hi room).1.length ≤ t.size ∧ (lk t lo hi room).2 ≤ t.size
  | .nil, lo, hi, room => by simp [lk, Tr.size]
  | .node l k v r, lo, hi, room => by
    unfold lk
    by_cases h0 : room = 0
    · rw [if_pos h0]; simp
    · rw [if_neg h0]
      have ha : (if lo < k then lk l lo hi room else ([], 0)).1.length ≤ room ∧ (if lo < k then lk l lo hi room else ([], 0)).1.length ≤ l.size ∧ (if lo < k then lk l lo hi room else ([], 0)).2 ≤ l.size := by
        split
        · exact lk_len l lo hi room
        · simp
      simp only []
      generalize (if lo < k then lk l lo hi room else ([], 0)) = a at ha ⊢
      obtain ⟨a1, a2⟩ := a
      have hb : (if lo ≤ k ∧ k ≤ hi ∧ a1.length < room then [(k, v)] else []).length ≤ 1 ∧ (if lo ≤ k ∧ k ≤ hi ∧ a1.length < room then [(k, v)] else []).length ≤ room - a1.length := by
        split
        · simp; omega
        · simp
      simp only at ha
      generalize (if lo ≤ k ∧ k ≤ hi ∧ a1.length < room then [(k, v)] else []) = b at hb ⊢
      have hc : (if k < hi then lk r lo hi (room - (a1.length + b.length)) else ([], 0)).1.length ≤ room - (a1.length + b.length) ∧ (if k < hi then lk r lo hi (room - (a1.length + b.length)) else ([], 0)).1.length ≤ r.size ∧ (if k < hi then lk r lo hi (room - (a1.length + b.length)) else ([], 0)).2 ≤ r.size := by
        split
        · exact lk_len r lo hi _
        · simp
      generalize (if k < hi then lk r lo hi (room - (a1.length + b.length)) else ([], 0)) = c at hc ⊢
      obtain ⟨c1, c2⟩ := c
      simp only at hc
      simp [Tr.size]
      omega

def ne0 (t : Tr) : Nat := match t with
  | .nil => 0
  | .node _ _ _ _ => 1
/-- What 'places' of a lister collects, and how many nodes it reads. -/
def pl : Tr → Int → Int → List Ent × Nat
  | .nil, _, _ => ([], 0)
  | .node l k v r, f, t => if t ≤ f then ([], 0) else
    let s : Int := l.size
    let a := if f < s then pl l f (if s < t then s else t) else ([], 0)
    let b : List Ent := if f ≤ s ∧ s < t then [(k, v)] else []
    let c := if s + 1 < t then pl r (if 0 < f - s - 1 then f - s - 1 else 0) (t - s - 1) else ([], 0)
    (a.1 ++ (b ++ c.1), 1 + ne0 l + a.2 + c.2)
theorem pl_len : ∀ (t : Tr) (x y : Int), (pl t x y).1.length ≤ t.size ∧ (pl t x y).2 ≤ 2 * t.size
  | .nil, x, y => by simp [pl, Tr.size]
  | .node l k v r, x, y => by
    unfold pl
    by_cases h0 : y ≤ x
    · rw [if_pos h0]; simp
    · rw [if_neg h0]
      simp only []
      have ha : (if x < (l.size : Int) then pl l x (if (l.size : Int) < y then (l.size : Int) else y) else ([], 0)).1.length ≤ l.size ∧ (if x < (l.size : Int) then pl l x (if (l.size : Int) < y then (l.size : Int) else y) else ([], 0)).2 ≤ 2 * l.size := by
        split
        · exact pl_len l _ _
        · simp
      generalize (if x < (l.size : Int) then pl l x (if (l.size : Int) < y then (l.size : Int) else y) else ([], 0)) = a at ha ⊢
      have hb : (if x ≤ (l.size : Int) ∧ (l.size : Int) < y then [(k, v)] else []).length ≤ 1 := by split <;> simp
      generalize (if x ≤ (l.size : Int) ∧ (l.size : Int) < y then [(k, v)] else []) = b at hb ⊢
      have hc : (if (l.size : Int) + 1 < y then pl r (if 0 < x - l.size - 1 then x - l.size - 1 else 0) (y - l.size - 1) else ([], 0)).1.length ≤ r.size ∧ (if (l.size : Int) + 1 < y then pl r (if 0 < x - l.size - 1 then x - l.size - 1 else 0) (y - l.size - 1) else ([], 0)).2 ≤ 2 * r.size := by
        split
        · exact pl_len r _ _
        · simp
      generalize (if (l.size : Int) + 1 < y then pl r (if 0 < x - l.size - 1 then x - l.size - 1 else 0) (y - l.size - 1) else ([], 0)) = c at hc ⊢
      have hm : ne0 l ≤ 1 := by unfold ne0; split <;> omega
      simp [Tr.size]
      omega

/-- The shape that Build specifies. -/
def ShpT : Tr → List Ent → Prop
  | .nil, l => l = []
  | .node a k v b, l => 0 < l.length ∧ l.getD (l.length / 2) (0, 0) = (k, v) ∧ ShpT a (l.take (l.length / 2)) ∧ ShpT b (l.drop (l.length / 2 + 1))
theorem ShpT.list : ∀ {t : Tr} {l : List Ent}, ShpT t l → t.list = l
  | .nil, l, h => by have : l = [] := h; rw [this]; rfl
  | .node a k v b, l, h => by
    obtain ⟨h1, h2, h3, h4⟩ := h
    simp only [Tr.list]
    rw [h3.list, h4.list, ← h2]
    have hp : l.length / 2 < l.length := by omega
    have e : l[l.length / 2]? = some (l.getD (l.length / 2) (0, 0)) := by simp [List.getD_eq_getElem?_getD, List.getElem?_eq_getElem hp]
    obtain ⟨q1, q2⟩ := List.getElem?_eq_some_iff.1 e
    have e2 : l.drop (l.length / 2) = l.getD (l.length / 2) (0, 0) :: l.drop (l.length / 2 + 1) := by rw [List.drop_eq_getElem_cons q1, q2]
    rw [← e2, List.take_append_drop]
structure BuildR (S : Arn) (hs : List Int) (l : List Ent) (S' : Arn) (i : Int) : Prop where
  wf : Wf S' (i :: hs)
  rep : ∃ t, Rep S' t i ∧ ShpT t l
  stay : Stay S S' hs
  len : S'.used.length = S.used.length
  rds : S'.reads = S.reads
  nu : S'.nu = S.nu + l.length
end Go.Proofs.Ytacdmmomkngpkaa
