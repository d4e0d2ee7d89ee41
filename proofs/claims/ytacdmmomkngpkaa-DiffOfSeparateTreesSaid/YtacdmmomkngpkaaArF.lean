/- Listing a tree gives what the reference gives. No program in sight. -/
import Derived.Test.YtacdmmomkngpkaaArE
namespace Go.Proofs.Ytacdmmomkngpkaa
open Go

/-- The entries with keys from lo to hi. -/
def betE (l : List Ent) (lo hi : Int) : List Ent := l.filter fun x => decide (lo ≤ x.1) && decide (x.1 ≤ hi)
theorem node_asc {l r : Tr} {k v : Int} (h : Asc (Tr.node l k v r).list) : Asc l.list ∧ Asc r.list ∧ (∀ x ∈ l.list, x.1 < k) ∧ (∀ x ∈ r.list, k < x.1) :=
  ⟨Srt.left h, (Srt.right h).tail, fun x hx => (List.pairwise_append.1 h).2.2 x hx (k, v) (by simp), fun x hx => (Srt.right h).head x hx⟩
theorem lk_spec : ∀ (t : Tr) (lo hi : Int) (rm : Nat), Asc t.list → (lk t lo hi rm).1 = (betE t.list lo hi).take rm
  | .nil, lo, hi, rm, _ => by simp [lk, Tr.list, betE]
  | .node l k v r, lo, hi, rm, h => by
    obtain ⟨hl, hr, hlk, hkr⟩ := node_asc h
    by_cases h0 : rm = 0
    · simp [lk, h0]
    have ea : (if lo < k then lk l lo hi rm else ([], 0)).1 = (betE l.list lo hi).take rm := by
      by_cases c : lo < k
      · rw [if_pos c]; exact lk_spec l lo hi rm hl
      · rw [if_neg c]
        have : betE l.list lo hi = [] := by
          unfold betE; rw [List.filter_eq_nil_iff]
          intro x hx; have := hlk x hx; simp; omega
        rw [this]; simp
    have ec : ∀ m, (if k < hi then lk r lo hi m else ([], 0)).1 = (betE r.list lo hi).take m := by
      intro m
      by_cases c : k < hi
      · rw [if_pos c]; exact lk_spec r lo hi m hr
      · rw [if_neg c]
        have : betE r.list lo hi = [] := by
          unfold betE; rw [List.filter_eq_nil_iff]
          intro x hx; have := hkr x hx; simp; omega
        rw [this]; simp
    have eb : betE (Tr.node l k v r).list lo hi = betE l.list lo hi ++ (if lo ≤ k ∧ k ≤ hi then (k, v) :: betE r.list lo hi else betE r.list lo hi) := by
      unfold betE
      simp only [Tr.list]
      rw [List.filter_append, List.filter_cons]
      congr 1
      by_cases c : lo ≤ k ∧ k ≤ hi
      · rw [if_pos c, if_pos (by simp; exact c)]
      · rw [if_neg c, if_neg (by simp; omega)]
    rw [eb]
    simp only [lk, if_neg h0, ec]
    rw [ea, List.take_append]
    congr 1
    generalize betE l.list lo hi = A
    generalize betE r.list lo hi = B
    by_cases c : rm ≤ A.length
    · have e1 : (A.take rm).length = rm := by simp; omega
      rw [e1, if_neg (by omega), show rm - A.length = 0 by omega]
      simp
    · have e1 : (A.take rm).length = A.length := by simp; omega
      rw [e1]
      obtain ⟨m, hm⟩ : ∃ m, rm - A.length = m + 1 := ⟨rm - A.length - 1, by omega⟩
      by_cases d : lo ≤ k ∧ k ≤ hi
      · rw [if_pos ⟨d.1, d.2, by omega⟩, if_pos d, hm]
        simp only [List.take_succ_cons, List.singleton_append, List.length_singleton]
        rw [show rm - (A.length + 1) = m by omega]
      · rw [if_neg (fun q => d ⟨q.1, q.2.1⟩), if_neg d]
        simp
theorem betE_all {l : List Ent} (h : ∀ x ∈ l, -9223372036854775808 ≤ x.1 ∧ x.1 ≤ 9223372036854775807) : betE l (-9223372036854775808) 9223372036854775807 = l := by
  unfold betE; rw [List.filter_eq_self]; intro x hx; simpa using h x hx
theorem pl_spec : ∀ (t : Tr) (x y : Nat), y ≤ t.size → (pl t x y).1 = (t.list.drop x).take (y - x)
  | .nil, x, y, _ => by simp [pl, Tr.list]
  | .node l k v r, x, y, h => by
    have hl := l.list_len
    have hr := r.list_len
    have hz : y ≤ 1 + l.size + r.size := h
    simp only [pl, Tr.list]
    by_cases c : (y : Int) ≤ x
    · rw [if_pos c, show y - x = 0 by omega]; simp
    rw [if_neg c, List.drop_append, List.take_append]
    simp only []
    have ea : (if (x : Int) < (l.size : Int) then pl l x (if (l.size : Int) < y then (l.size : Int) else y) else ([], 0)).1 = (l.list.drop x).take (y - x) := by
      by_cases d : (x : Int) < l.size
      · rw [if_pos d]
        by_cases e : (l.size : Int) < y
        · rw [if_pos e, pl_spec l x l.size (Nat.le_refl _), List.take_of_length_le (by simp; omega), List.take_of_length_le (by simp; omega)]
        · rw [if_neg e, pl_spec l x y (by omega)]
      · rw [if_neg d, List.drop_eq_nil_of_le (by omega)]; simp
    rw [ea]
    congr 1
    have el : (List.drop x l.list).length = l.size - x := by simp [hl]
    rw [el, hl]
    by_cases d : (x : Int) ≤ l.size
    · rw [show x - l.size = 0 by omega, List.drop_zero, show y - x - (l.size - x) = y - l.size by omega]
      by_cases e : (l.size : Int) < y
      · rw [if_pos ⟨d, e⟩]
        obtain ⟨m, hm⟩ : ∃ m, y - l.size = m + 1 := ⟨y - l.size - 1, by omega⟩
        rw [hm, List.take_succ_cons]
        by_cases f : (l.size : Int) + 1 < y
        · rw [if_pos f, if_neg (by omega)]
          have := pl_spec r 0 m (by omega)
          rw [show (y : Int) - l.size - 1 = ((m : Nat) : Int) by omega]
          have e0 : ((0 : Nat) : Int) = 0 := rfl
          rw [e0] at this
          rw [this]; simp
        · rw [if_neg f, show m = 0 by omega]; simp
      · rw [if_neg (fun q => e q.2), if_neg (by omega), show y - l.size = 0 by omega]; simp
    · rw [if_neg (fun q => d q.1), if_pos (by omega)]
      obtain ⟨m, hm⟩ : ∃ m, x - l.size = m + 1 := ⟨x - l.size - 1, by omega⟩
      rw [hm, List.drop_succ_cons, show (if 0 < (x : Int) - l.size - 1 then (x : Int) - l.size - 1 else 0) = ((m : Nat) : Int) by split <;> omega, show (y : Int) - l.size - 1 = ((y - l.size - 1 : Nat) : Int) by omega, pl_spec r m (y - l.size - 1) (by omega)]
      simp only [List.nil_append]
      rw [show y - l.size - 1 - m = y - x - (l.size - x) by omega]
theorem asc_lt {l : List Ent} (h : Asc l) (q : Int) : l.filter (fun x => decide (x.1 < q)) = l.take (l.filter fun x => decide (x.1 < q)).length ∧ l.filter (fun x => decide (q ≤ x.1)) = l.drop (l.filter fun x => decide (x.1 < q)).length := by
  induction l with
  | nil => simp
  | cons a t ih =>
    obtain ⟨i1, i2⟩ := ih h.tail
    have hh := h.head
    by_cases c : a.1 < q
    · rw [List.filter_cons, if_pos (by simpa using c), List.filter_cons, if_neg (by simp; omega)]
      simp only [List.length_cons, List.take_succ_cons, List.drop_succ_cons]
      exact ⟨by rw [← i1], i2⟩
    · have e : ∀ x ∈ a :: t, ¬ x.1 < q := by
        intro x hx
        rcases List.mem_cons.1 hx with rfl | hx
        · exact c
        · have : a.1 < x.1 := hh x hx; omega
      have e1 : (a :: t).filter (fun x => decide (x.1 < q)) = [] := by rw [List.filter_eq_nil_iff]; intro x hx; simpa using e x hx
      have e2 : (a :: t).filter (fun x => decide (q ≤ x.1)) = a :: t := by rw [List.filter_eq_self]; intro x hx; have := e x hx; simp; omega
      rw [e1, e2]; simp
theorem filt_len {α : Type} (p : α → Bool) (m : List α) : m.length = (m.filter p).length + (m.filter fun x => !p x).length := by
  induction m with
  | nil => rfl
  | cons a t ih => cases c : p a <;> simp [c] <;> omega
/-- A range is the slice between two ranks. -/
theorem betE_slice {l : List Ent} (h : Asc l) (lo hi : Int) (hb : lo ≤ hi) : betE l lo hi = (l.drop (l.filter fun x => decide (x.1 < lo)).length).take ((l.filter fun x => decide (x.1 < hi + 1)).length - (l.filter fun x => decide (x.1 < lo)).length) := by
  obtain ⟨_, a2⟩ := asc_lt h lo
  have hd : Asc (l.filter fun x => decide (lo ≤ x.1)) := h.filter _
  obtain ⟨b1, _⟩ := asc_lt hd (hi + 1)
  have e1 : betE l lo hi = (l.filter fun x => decide (lo ≤ x.1)).filter fun x => decide (x.1 < hi + 1) := by
    unfold betE
    rw [List.filter_filter]
    congr 1
    funext x
    rw [Bool.and_comm]
    congr 1
    apply decide_eq_decide.2
    omega
  have e2 : ((l.filter fun x => decide (lo ≤ x.1)).filter fun x => decide (x.1 < hi + 1)).length = (l.filter fun x => decide (x.1 < hi + 1)).length - (l.filter fun x => decide (x.1 < lo)).length := by
    have := filt_len (fun x : Ent => decide (x.1 < lo)) (l.filter fun x => decide (x.1 < hi + 1))
    rw [this, List.filter_filter, List.filter_filter, List.filter_filter]
    have f1 : (fun x : Ent => decide (x.1 < lo) && decide (x.1 < hi + 1)) = fun x => decide (x.1 < lo) := by
      funext x; by_cases c : x.1 < lo
      · simp [c]; omega
      · simp [c]
    have f2 : (fun x : Ent => decide (x.1 < hi + 1) && decide (lo ≤ x.1)) = fun x => !decide (x.1 < lo) && decide (x.1 < hi + 1) := by
      funext x; by_cases c : x.1 < lo
      · simp [c]
      · have : lo ≤ x.1 := by omega
        simp [c, this]
    rw [f1, f2]; omega
  rw [e1, b1, e2, a2]
end Go.Proofs.Ytacdmmomkngpkaa
