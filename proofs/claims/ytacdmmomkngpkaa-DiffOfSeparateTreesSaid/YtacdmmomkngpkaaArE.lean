/- Ranks and positions in a tree. No program in sight. -/
import Derived.Test.YtacdmmomkngpkaaArD
namespace Go.Proofs.Ytacdmmomkngpkaa
open Go

def bf : Tr → Int → Bool → Nat × Nat
  | .nil, _, _ => (0, 0)
  | .node l k _ r, q, eq => if q < k ∨ (k = q ∧ eq = false) then ((bf l q eq).1, 1 + (bf l q eq).2) else (l.size + 1 + (bf r q eq).1, 1 + ne0 l + (bf r q eq).2)
theorem bf_le : ∀ (t : Tr) (q : Int) (eq : Bool), (bf t q eq).1 ≤ t.size ∧ (bf t q eq).2 ≤ 2 * t.size
  | .nil, q, eq => by simp [bf, Tr.size]
  | .node l k v r, q, eq => by
    have h1 := bf_le l q eq
    have h2 := bf_le r q eq
    have hm : ne0 l ≤ 1 := by unfold ne0; split <;> omega
    simp only [bf, Tr.size]
    split <;> simp only [] <;> omega
def sel : Tr → Int → Option Ent × Nat
  | .nil, _ => (none, 0)
  | .node l k v r, i => if i < (l.size : Int) then ((sel l i).1, 1 + ne0 l + (sel l i).2) else if (l.size : Int) < i then ((sel r (i - (l.size + 1))).1, 1 + ne0 l + (sel r (i - (l.size + 1))).2) else (some (k, v), 1 + ne0 l)
def selR (t : Tr) (i : Int) : Option Ent × Nat := if i < 0 then (none, 0) else if (t.size : Int) ≤ i then (none, ne0 t) else ((sel t i).1, ne0 t + (sel t i).2)
theorem sel_le : ∀ (t : Tr) (i : Int), (sel t i).2 ≤ 2 * t.size
  | .nil, i => by simp [sel, Tr.size]
  | .node l k v r, i => by
    have h1 := sel_le l i
    have h2 := sel_le r (i - (l.size + 1))
    have hm : ne0 l ≤ 1 := by unfold ne0; split <;> omega
    simp only [sel, Tr.size]
    split
    · simp only []; omega
    · split <;> simp only [] <;> omega
/-- The entry at a position. -/
theorem sel_get : ∀ (t : Tr) (i : Nat), (sel t i).1 = t.list[i]?
  | .nil, i => by simp [sel, Tr.list]
  | .node l k v r, i => by
    have h1 := sel_get l i
    have hl := l.list_len
    simp only [sel, Tr.list]
    by_cases a : (i : Int) < l.size
    · rw [if_pos a]; simp only []
      rw [h1, List.getElem?_append_left (by omega)]
    · rw [if_neg a, List.getElem?_append_right (by omega), hl]
      by_cases b : (l.size : Int) < i
      · rw [if_pos b]; simp only []
        have h2 := sel_get r (i - (l.size + 1))
        rw [show (i : Int) - (l.size + 1) = ((i - (l.size + 1) : Nat) : Int) by omega, h2, show i - l.size = (i - (l.size + 1)) + 1 by omega, List.getElem?_cons_succ]
      · rw [if_neg b]; simp only []
        rw [show i - l.size = 0 by omega]; rfl
theorem bf_count : ∀ (t : Tr) (q : Int) (eq : Bool), Asc t.list → (bf t q eq).1 = (t.list.filter fun x => decide (x.1 < q) || (eq && decide (x.1 = q))).length
  | .nil, q, eq, _ => by simp [bf, Tr.list]
  | .node l k v r, q, eq, h => by
    have hl : Asc l.list := Srt.left h
    have hr : Asc r.list := (Srt.right h).tail
    have hlk : ∀ x ∈ l.list, x.1 < k := fun x hx => (List.pairwise_append.1 h).2.2 x hx (k, v) (by simp)
    have hkr : ∀ x ∈ r.list, k < x.1 := fun x hx => (Srt.right h).head x hx
    have h1 := bf_count l q eq hl
    have h2 := bf_count r q eq hr
    simp only [bf, Tr.list]
    rw [List.filter_append, List.filter_cons]
    by_cases a : q < k ∨ (k = q ∧ eq = false)
    · rw [if_pos a]; simp only []
      have e1 : (decide (k < q) || (eq && decide (k = q))) = false := by rcases a with a | ⟨a, b⟩; simp; exact ⟨by omega, fun _ => by omega⟩; simp [a, b]
      have e2 : r.list.filter (fun x => decide (x.1 < q) || (eq && decide (x.1 = q))) = [] := by
        rw [List.filter_eq_nil_iff]
        intro x hx
        have := hkr x hx
        rcases a with a | ⟨a, _⟩ <;> simp <;> omega
      simp [e1, e2, h1]
    · rw [if_neg a]; simp only []
      have e1 : (decide (k < q) || (eq && decide (k = q))) = true := by
        rcases Int.lt_trichotomy k q with c | c | c
        · simp [c]
        · have : eq = true := by cases eq <;> simp_all
          simp [this, c]
        · exact absurd (.inl c) a
      have e2 : l.list.filter (fun x => decide (x.1 < q) || (eq && decide (x.1 = q))) = l.list := by
        rw [List.filter_eq_self]
        intro x hx
        have := hlk x hx
        have : k ≤ q := by rcases Int.lt_trichotomy k q with c | c | c; omega; omega; exact absurd (.inl c) a
        simp; left; omega
      simp [e1, e2, h2, l.list_len]; omega
end Go.Proofs.Ytacdmmomkngpkaa
