/- A part of the proof. -/
import Derived.Test.YtjbkckcjmmmooaaG1
import Derived.Test.YtjbkckcjmmmooaaG5
import Derived.Test.YtjbkckcjmmmooaaG4
import Derived.Test.YtjbkckcjmmmooaaG3
section
/- Plain laws of insertion into ascending lists, of key lists, of unions. No program in sight. -/
namespace Go.Proofs.Ytjbkckcjmmmooaa

def insGo (e : Ent) : Bool → List Ent → List Ent
  | put, [] => if put then [] else [e]
  | put, x :: t => (if !put && decide (e.1 ≤ x.1) then [e] else []) ++ ((if x.1 = e.1 then [] else [x]) ++ insGo e (put || decide (e.1 ≤ x.1)) t)

theorem insGo_len (e : Ent) : ∀ (l : List Ent) (put : Bool), (insGo e put l).length ≤ l.length + (if put then 0 else 1) := by
  intro l
  induction l with
  | nil => intro put; cases put <;> simp [insGo]
  | cons x t ih =>
    intro put
    simp only [insGo, List.length_append, List.length_cons]
    have h1 := ih (put || decide (e.1 ≤ x.1))
    have h2 : (if x.1 = e.1 then ([] : List Ent) else [x]).length ≤ 1 := by split <;> simp
    cases put
    · by_cases h : e.1 ≤ x.1
      · simp [h] at h1 ⊢; omega
      · simp [h] at h1 ⊢; omega
    · simp at h1 ⊢; omega

/-- The list with an entry put in. -/
abbrev insE (l : List Ent) (e : Ent) : List Ent := insGo e false l

theorem insE_len (l : List Ent) (e : Ent) : (insE l e).length ≤ l.length + 1 := by simpa using insGo_len e l false

theorem insGo_true {e : Ent} : ∀ {l : List Ent}, (∀ x ∈ l, e.1 < x.1) → insGo e true l = l := by
  intro l
  induction l with
  | nil => intro _; simp [insGo]
  | cons x t ih =>
    intro h
    have hx := h x List.mem_cons_self
    have : ¬ x.1 = e.1 := by omega
    simp [insGo, this, ih fun y hy => h y (List.mem_cons_of_mem _ hy)]

theorem insE_cons {e x : Ent} {t : List Ent} (h : Asc (x :: t)) : insE (x :: t) e = if e.1 < x.1 then e :: x :: t else if x.1 = e.1 then e :: t else x :: insE t e := by
  have hh := h.head
  rcases Int.lt_trichotomy e.1 x.1 with c | c | c
  · have h1 : e.1 ≤ x.1 := by omega
    have h2 : ¬ x.1 = e.1 := by omega
    simp [insE, insGo, h1, h2, c, insGo_true (e := e) (l := t) fun y hy => by have := hh y hy; omega]
  · have h1 : e.1 ≤ x.1 := by omega
    have h2 : ¬ e.1 < x.1 := by omega
    simp [insE, insGo, c, insGo_true (e := e) (l := t) fun y hy => by have := hh y hy; omega]
  · have h1 : ¬ e.1 ≤ x.1 := by omega
    have h2 : ¬ x.1 = e.1 := by omega
    have h3 : ¬ e.1 < x.1 := by omega
    simp [insE, insGo, h1, h2, h3]

theorem insE_mem {l : List Ent} {e z : Ent} (h : Asc l) (hz : z ∈ insE l e) : z = e ∨ z ∈ l := by
  induction l with
  | nil => simp [insE, insGo] at hz; exact .inl hz
  | cons x t ih =>
    rw [insE_cons h] at hz
    split at hz
    · rcases List.mem_cons.1 hz with rfl | hz
      · exact .inl rfl
      · exact .inr hz
    · split at hz
      · rcases List.mem_cons.1 hz with rfl | hz
        · exact .inl rfl
        · exact .inr (List.mem_cons_of_mem _ hz)
      · rcases List.mem_cons.1 hz with rfl | hz
        · exact .inr List.mem_cons_self
        · rcases ih h.tail hz with rfl | hz
          · exact .inl rfl
          · exact .inr (List.mem_cons_of_mem _ hz)

theorem insE_asc {l : List Ent} (e : Ent) (h : Asc l) : Asc (insE l e) := by
  induction l with
  | nil => simp [insE, insGo, Srt]
  | cons x t ih =>
    rw [insE_cons h]
    split
    · rename_i c
      exact Srt.cons h fun y hy => by
        rcases List.mem_cons.1 hy with rfl | hy
        · exact c
        · have := h.head y hy; omega
    · split
      · rename_i c
        exact Srt.cons h.tail fun y hy => by have := h.head y hy; omega
      · rename_i c1 c2
        refine Srt.cons (ih h.tail) fun y hy => ?_
        rcases insE_mem h.tail hy with rfl | hy
        · omega
        · exact h.head y hy

theorem insE_get {l : List Ent} (e : Ent) (h : Asc l) (q : Int) : getE (insE l e) q = if e.1 = q then some e.2 else getE l q := by
  obtain ⟨k, v⟩ := e
  induction l with
  | nil => simp [insE, insGo, getE]
  | cons x t ih =>
    obtain ⟨a, b⟩ := x
    rw [insE_cons h]
    by_cases c1 : k < a
    · simp only [if_pos c1, getE]
    · rw [if_neg c1]
      by_cases c2 : a = k
      · subst c2; simp [getE]
        split <;> simp_all
      · rw [if_neg c2]
        simp only [getE, ih h.tail]
        by_cases c3 : a = q
        · simp [c3, show ¬ k = q by omega]
        · simp [c3]

theorem asc_not_mem {l : List Ent} {k : Int} (h : ∀ x ∈ l, k < x.1) : getE l k = none := by
  rw [getE_fnd, fnd_of_lt h]; rfl

/-- The keys of a list of entries, put together. -/
def keysOf (xs : List Int) : List Ent := xs.foldl (fun acc k => insE acc (k, 0)) []

theorem foldl_snoc {α β : Type} (f : β → α → β) (b : β) (l : List α) (x : α) : (l ++ [x]).foldl f b = f (l.foldl f b) x := by simp

theorem keysOf_snoc (xs : List Int) (k : Int) : keysOf (xs ++ [k]) = insE (keysOf xs) (k, 0) := foldl_snoc _ _ _ _

theorem snoc_ind {α : Type} {P : List α → Prop} (h0 : P []) (h1 : ∀ l x, P l → P (l ++ [x])) (l : List α) : P l := by
  have : ∀ n (l : List α), l.length = n → P l := by
    intro n
    induction n with
    | zero => intro l hl; rw [List.eq_nil_of_length_eq_zero hl]; exact h0
    | succ n ih =>
      intro l hl
      rcases List.eq_nil_or_concat l with rfl | ⟨L, b, rfl⟩
      · exact h0
      · rw [List.concat_eq_append]; exact h1 L b (ih L (by simpa using hl))
  exact this _ l rfl

theorem keysOf_spec (xs : List Int) : Asc (keysOf xs) ∧ (keysOf xs).length ≤ xs.length ∧ ∀ q, (getE (keysOf xs) q).isSome = true ↔ q ∈ xs := by
  induction xs using snoc_ind with
  | h0 => exact ⟨Srt.nil, Nat.le_refl _, fun q => by simp [keysOf, getE]⟩
  | h1 xs k ih =>
    obtain ⟨h1, h2, h3⟩ := ih
    rw [keysOf_snoc]
    refine ⟨insE_asc _ h1, ?_, fun q => ?_⟩
    · have := insE_len (keysOf xs) (k, 0); simp; omega
    · rw [insE_get _ h1]
      by_cases e : k = q
      · subst e; simp
      · have : ¬ q = k := fun h => e h.symm
        simp [e, h3, this]

/-- All keys of three lists, ascending. -/
def keys3 (l m n : List Ent) : List Int := (keysOf ((l ++ m ++ n).map Prod.fst)).map Prod.fst

theorem mem_keys {l : List Ent} {q : Int} : (getE l q).isSome = true ↔ q ∈ l.map Prod.fst := by
  induction l with
  | nil => simp [getE]
  | cons x t ih =>
    obtain ⟨a, b⟩ := x
    simp only [getE, List.map_cons, List.mem_cons]
    by_cases e : a = q
    · subst e; simp
    · have : ¬ q = a := fun h => e h.symm
      simp [e, ih, this]

theorem keys3_srt (l m n : List Ent) : Srt id (keys3 l m n) := by
  have h := (keysOf_spec ((l ++ m ++ n).map Prod.fst)).1
  unfold keys3 Srt
  rw [List.pairwise_map]
  exact h
theorem keys3_mem (l m n : List Ent) (q : Int) : q ∈ keys3 l m n ↔ (getE l q).isSome = true ∨ (getE m q).isSome = true ∨ (getE n q).isSome = true := by
  unfold keys3
  rw [← mem_keys, (keysOf_spec _).2.2, mem_keys, mem_keys, mem_keys]
  simp only [List.map_append, List.mem_append, or_assoc]
theorem keys3_len (l m n : List Ent) : (keys3 l m n).length ≤ l.length + m.length + n.length := by
  have := (keysOf_spec ((l ++ m ++ n).map Prod.fst)).2.1
  unfold keys3
  simp at this ⊢; omega

/-- The value that a policy chooses. -/
def chooseP (p v w : Int) : Int := if p = 1 then v else if p = 2 then w else if p = 3 then RowKit.wrap64 (v + w) else if p = 4 then (if w < v then w else v) else (if v < w then w else v)

def uniStep (l : List Ent) (p : Int) (out : List Ent) (e : Ent) : List Ent := insE out (e.1, match getE l e.1 with | some v => chooseP p v e.2 | none => e.2)
/-- The union of two lists, by a policy. -/
def uniE (l m : List Ent) (p : Int) : List Ent := m.foldl (uniStep l p) l

theorem uniE_asc {l : List Ent} (hl : Asc l) (m : List Ent) (p : Int) : Asc (uniE l m p) := by
  unfold uniE
  have : ∀ (m out : List Ent), Asc out → Asc (m.foldl (uniStep l p) out) := by
    intro m
    induction m with
    | nil => intro out h; exact h
    | cons x t ih => intro out h; exact ih _ (insE_asc _ h)
  exact this m l hl

theorem uniE_len (l m : List Ent) (p : Int) : (uniE l m p).length ≤ l.length + m.length := by
  unfold uniE
  have : ∀ (m out : List Ent), (m.foldl (uniStep l p) out).length ≤ out.length + m.length := by
    intro m
    induction m with
    | nil => intro out; simp
    | cons x t ih => intro out; have := ih (uniStep l p out x); have := insE_len out (x.1, match getE l x.1 with | some v => chooseP p v x.2 | none => x.2); simp only [List.foldl_cons, List.length_cons]; unfold uniStep at *; omega
  exact this m l

/-- A valid list out of the first entries of a raw one. -/
def listE (raw : List Ent) (most : Nat) : List Ent := (raw.take most).foldl insE []

theorem listE_spec (raw : List Ent) (most : Nat) : Asc (listE raw most) ∧ (listE raw most).length ≤ most := by
  unfold listE
  have h1 : (raw.take most).length ≤ most := List.length_take_le _ _
  generalize raw.take most = xs at h1
  have : ∀ (xs acc : List Ent), Asc acc → Asc (xs.foldl insE acc) ∧ (xs.foldl insE acc).length ≤ acc.length + xs.length := by
    intro xs
    induction xs with
    | nil => intro acc h; exact ⟨h, by simp⟩
    | cons x t ih =>
      intro acc h
      have := ih _ (insE_asc x h)
      have h2 := insE_len acc x
      exact ⟨this.1, by simp only [List.foldl_cons, List.length_cons]; omega⟩
  have := this xs [] Srt.nil
  exact ⟨this.1, by simp at this; omega⟩

end Go.Proofs.Ytjbkckcjmmmooaa
end
section
/- Lists and costs of taking trees apart and putting them together. No program in sight. -/
namespace Go.Proofs.Ytjbkckcjmmmooaa
open Go

/-! ### Lists -/
theorem asc_parts {a b : List Ent} {k v : Int} (h : Asc (a ++ (k, v) :: b)) : Asc a ∧ Asc b ∧ (∀ x ∈ a, x.1 < k) ∧ (∀ x ∈ b, k < x.1) :=
  ⟨Srt.left h, (Srt.right h).tail, fun x hx => (List.pairwise_append.1 h).2.2 x hx (k, v) (by simp), fun x hx => (Srt.right h).head x hx⟩
theorem asc_join {a b : List Ent} {k v : Int} (h1 : Asc a) (h2 : Asc b) (h3 : ∀ x ∈ a, x.1 < k) (h4 : ∀ x ∈ b, k < x.1) : Asc (a ++ (k, v) :: b) := by
  refine List.pairwise_append.2 ⟨h1, Srt.cons h2 h4, fun x hx y hy => ?_⟩
  rcases List.mem_cons.1 hy with rfl | hy
  · exact h3 x hx
  · have := h3 x hx; have := h4 y hy; omega
theorem insE_left {a b : List Ent} {k v : Int} {e : Ent} (h : Asc (a ++ (k, v) :: b)) (he : e.1 < k) : insE (a ++ (k, v) :: b) e = insE a e ++ (k, v) :: b := by
  induction a with
  | nil =>
    rw [List.nil_append, insE_cons h, if_pos he]
    simp [insE, insGo]
  | cons x a ih =>
    have ha : Asc (x :: a) := Srt.left h
    have h' : Asc (x :: (a ++ (k, v) :: b)) := h
    rw [List.cons_append, insE_cons h', insE_cons ha, ih h'.tail]
    split
    · rfl
    · split <;> rfl
theorem insE_right {a b : List Ent} {k v : Int} {e : Ent} (h : Asc (a ++ (k, v) :: b)) (he : k < e.1) : insE (a ++ (k, v) :: b) e = a ++ (k, v) :: insE b e := by
  induction a with
  | nil =>
    rw [List.nil_append, insE_cons h, if_neg (by show ¬ e.1 < k; omega), if_neg (by show ¬ k = e.1; omega)]
    rfl
  | cons x a ih =>
    have h' : Asc (x :: (a ++ (k, v) :: b)) := h
    have hx : x.1 < k := (asc_parts h).2.2.1 x (by simp)
    rw [List.cons_append, insE_cons h', if_neg (by omega), if_neg (by omega), ih h'.tail]
    rfl
theorem insE_at {a b : List Ent} {v : Int} {e : Ent} (h : Asc (a ++ (e.1, v) :: b)) : insE (a ++ (e.1, v) :: b) e = a ++ e :: b := by
  induction a with
  | nil =>
    rw [List.nil_append, insE_cons h, if_neg (by show ¬ e.1 < e.1; omega), if_pos rfl]
    rfl
  | cons x a ih =>
    have h' : Asc (x :: (a ++ (e.1, v) :: b)) := h
    have hx : x.1 < e.1 := (asc_parts h).2.2.1 x (by simp)
    rw [List.cons_append, insE_cons h', if_neg (by omega), if_neg (by omega), ih h'.tail]
    rfl
/-- The entries whose keys pass a test that is of one mind on either side. -/
def flt (p : Int → Bool) (l : List Ent) : List Ent := l.filter fun x => p x.1
theorem flt_all {p : Int → Bool} {l : List Ent} (h : ∀ x ∈ l, p x.1 = true) : flt p l = l := List.filter_eq_self.2 h
theorem flt_none {p : Int → Bool} {l : List Ent} (h : ∀ x ∈ l, p x.1 = false) : flt p l = [] := by
  unfold flt
  rw [List.filter_eq_nil_iff]
  intro x hx; rw [h x hx]; decide
theorem flt_node {p : Int → Bool} (a b : List Ent) (k v : Int) : flt p (a ++ (k, v) :: b) = flt p a ++ (if p k then (k, v) :: flt p b else flt p b) := by
  unfold flt
  rw [List.filter_append, List.filter_cons]
theorem flt_asc {p : Int → Bool} {l : List Ent} (h : Asc l) : Asc (flt p l) := List.Pairwise.filter _ h
theorem flt_mem {p : Int → Bool} {l : List Ent} {x : Ent} (h : x ∈ flt p l) : x ∈ l := (List.mem_filter.1 h).1
theorem flt_len {p : Int → Bool} {l : List Ent} : (flt p l).length ≤ l.length := List.length_filter_le _ _
theorem getE_left {a b : List Ent} {k v q : Int} (h : Asc (a ++ (k, v) :: b)) (hq : q < k) : getE (a ++ (k, v) :: b) q = getE a q := by
  obtain ⟨_, _, _, h4⟩ := asc_parts h
  rw [getE_fnd, getE_fnd, fnd_append, fnd_cons, if_neg (by show ¬ k = q; omega), fnd_of_lt (l := b) (fun x hx => by have := h4 x hx; omega)]
  simp
theorem getE_right {a b : List Ent} {k v q : Int} (h : Asc (a ++ (k, v) :: b)) (hq : k < q) : getE (a ++ (k, v) :: b) q = getE b q := by
  obtain ⟨_, _, h3, _⟩ := asc_parts h
  rw [getE_fnd, getE_fnd, fnd_append, fnd_cons, if_neg (by show ¬ k = q; omega), fnd_of_gt (l := a) (fun x hx => by have := h3 x hx; omega)]
  simp
theorem getE_at {a b : List Ent} {k v : Int} (h : Asc (a ++ (k, v) :: b)) : getE (a ++ (k, v) :: b) k = some v := by
  obtain ⟨_, _, h3, _⟩ := asc_parts h
  rw [getE_fnd, fnd_append, fnd_cons, if_pos rfl, fnd_of_gt (l := a) (fun x hx => by have := h3 x hx; omega)]
  simp

/-! ### Costs -/
theorem w0 : wt 0 = 1 := rfl
theorem w2 : wt 2 = 3 := rfl
theorem w3 : wt 3 = 4 := rfl
theorem w4 : wt 4 = 6 := rfl
theorem w5 : wt 5 = 8 := rfl
theorem w6 : wt 6 = 11 := rfl
theorem jB_less {l c : Nat} (h : balN l c) (hc : 2 ≤ c) : jB l (c - 1) ≤ 4 := by
  unfold balN at h
  unfold jB
  rw [dsc_zero (w := c - 1 + 1) (by omega)]
  have := dsc_one (w := l + 1) (v := c - 1 + 1) (by omega) (by omega)
  omega
theorem jB_nil {l : Nat} (h : balN l 1) : jB l 0 ≤ 7 := by
  unfold balN at h
  unfold jB
  rw [dsc_zero (w := 0 + 1) (by omega)]
  have := dsc_two (w := l + 1) (by omega)
  show 1 + 3 * (dsc (l + 1) 1 + 0) ≤ 7
  omega
theorem jB_more {l c : Nat} (h : balN l c) : jB l (c + 1) ≤ 4 := by
  unfold balN at h
  unfold jB
  rw [dsc_zero (w := l + 1) (by omega)]
  by_cases hl : l = 0
  · subst hl
    have := dsc_tiny (w := c + 1 + 1) (by omega)
    show 1 + 3 * (0 + dsc (c + 1 + 1) 1) ≤ 4
    omega
  · have := dsc_one (w := c + 1 + 1) (v := l + 1) (by omega) (by omega)
    omega
/-- What taking off the last entry may need. -/
def pB (n : Nat) : Nat := if n ≤ 3 then n else gN (n + 1) + 3
theorem pB_g (n : Nat) : pB n ≤ gN (n + 1) + 3 := by
  unfold pB
  split <;> omega
theorem pB_pos {n : Nat} (h : 1 ≤ n) : 1 ≤ pB n := by unfold pB; split <;> omega
theorem pB_step {l r : Nat} (h : balN l r) (hr : 1 ≤ r) (hz : l + r + 1 ≤ 900000) : pB r + jB l (r - 1) ≤ pB (l + r + 1) := by
  have hb := h
  unfold balN at hb
  by_cases r1 : r = 1
  · subst r1
    have p1 : pB 1 = 1 := rfl
    rw [p1]
    have j : jB l (1 - 1) = 1 + 3 * (dsc (l + 1) 1 + dsc 1 (l + 1)) := rfl
    rw [j, dsc_zero (w := 1) (by omega)]
    by_cases c1 : l ≤ 2
    · rw [dsc_zero (by omega)]
      unfold pB; split
      · omega
      · omega
    · have : pB (l + 1 + 1) = gN (l + 1 + 1 + 1) + 3 := by unfold pB; rw [if_neg (by omega)]
      rw [this]
      by_cases c2 : l ≤ 4
      · have := dsc_tiny (w := l + 1) (by omega)
        have := gN_le (w := l + 1 + 1 + 1) (h := 4) (by decide) (by rw [w4]; omega)
        omega
      · have := dsc_two (w := l + 1) (by omega)
        have := gN_le (w := l + 1 + 1 + 1) (h := 5) (by decide) (by rw [w5]; omega)
        omega
  · by_cases c : l + 1 ≤ 3 * r
    · have j : jB l (r - 1) = 1 := by
        unfold jB
        rw [dsc_zero (by omega), dsc_zero (by omega)]
      rw [j]
      by_cases r3 : r ≤ 3
      · have : pB r = r := by unfold pB; rw [if_pos r3]
        rw [this]
        unfold pB
        split
        · omega
        · have := gN_le (w := l + r + 1 + 1) (h := 3) (by decide) (by rw [w3]; omega)
          omega
      · have e1 : pB r = gN (r + 1) + 3 := by unfold pB; rw [if_neg r3]
        have e2 : pB (l + r + 1) = gN (l + r + 1 + 1) + 3 := by unfold pB; rw [if_neg (by omega)]
        have := gN_step (m := r + 1) (w := l + r + 1 + 1) (by omega) (by omega) (by omega)
        omega
    · have j := jB_less h (show 2 ≤ r by omega)
      have e2 : pB (l + r + 1) = gN (l + r + 1 + 1) + 3 := by unfold pB; rw [if_neg (by omega)]
      by_cases r3 : r ≤ 3
      · have e1 : pB r = r := by unfold pB; rw [if_pos r3]
        by_cases r2 : r = 2
        · have := gN_le (w := l + r + 1 + 1) (h := 5) (by decide) (by rw [w5]; omega)
          omega
        · have := gN_le (w := l + r + 1 + 1) (h := 6) (by decide) (by rw [w6]; omega)
          omega
      · have e1 : pB r = gN (r + 1) + 3 := by unfold pB; rw [if_neg r3]
        have := gN_step4 (r := r + 1) (w := l + r + 1 + 1) (by omega) (by omega) (by omega)
        omega
/-- What a concatenation may need. -/
def cB (l r : Nat) : Nat := if l = 0 ∨ r = 0 then 0 else pB l + jB (l - 1) r
theorem cB_g {l r : Nat} (h : l + r ≤ 800000) : cB l r ≤ 4 * gN (l + r + 1) + 4 := by
  unfold cB
  split
  · omega
  · have h1 := pB_g l
    have h2 := jB_g (a := l - 1) (b := r) (by omega)
    have h3 := gN_mono (v := l + 1) (w := l + r + 1) (by omega) (by omega)
    have h4 := gN_mono (v := l - 1 + r + 1) (w := l + r + 1) (by omega) (by omega)
    omega
theorem cB_bal {l r : Nat} (h : balN l r) (hz : l + r ≤ 800000) : cB l r ≤ 4 * gN (l + r + 2) := by
  unfold cB
  split
  · omega
  · have h1 := pB_g l
    have h5 : jB (l - 1) r ≤ 7 := by
      rw [jB_comm]
      by_cases c : l = 1
      · subst c; exact jB_nil (balN_comm h)
      · have := jB_less (balN_comm h) (show 2 ≤ l by omega); omega
    have hb := h
    unfold balN at hb
    have h3 := gN_step (m := l + 1) (w := l + r + 2) (by omega) (by omega) (by omega)
    have h4 := gN_le (w := l + r + 2) (h := 3) (by decide) (by rw [w3]; omega)
    omega
/-- What an insertion and a deletion may need. -/
def iB (n : Nat) : Nat := 4 * gN (n + 1) + 1
def dB (n : Nat) : Nat := if n ≤ 1 then 1 else 4 * gN (n + 1) + 4
theorem iB_step {l c : Nat} (h : balN l c) (hz : l + c ≤ 800000) : iB c + 4 ≤ iB (l + c + 1) := by
  unfold balN at h
  unfold iB
  have := gN_step (m := c + 1) (w := l + c + 1 + 1) (by omega) (by omega) (by omega)
  omega
theorem dB_le (n : Nat) : dB n ≤ 4 * gN (n + 1) + 4 := by unfold dB; split <;> omega
theorem dB_pos (n : Nat) : 1 ≤ dB n := by unfold dB; split <;> omega
theorem dB_step {l c : Nat} (h : balN l c) (hc : 1 ≤ c) (hz : l + c ≤ 800000) : dB c + jB l (c - 1) ≤ dB (l + c + 1) := by
  have hb := h
  unfold balN at hb
  have e : dB (l + c + 1) = 4 * gN (l + c + 1 + 1) + 4 := by unfold dB; rw [if_neg (by omega)]
  rw [e]
  by_cases c1 : c = 1
  · subst c1
    have j := jB_nil h
    have e1 : dB 1 = 1 := rfl
    have := gN_le (w := l + 1 + 1 + 1) (h := 2) (by decide) (by rw [w2]; omega)
    rw [e1]
    show 1 + jB l 0 ≤ _
    omega
  · have j := jB_less h (show 2 ≤ c by omega)
    have e1 : dB c = 4 * gN (c + 1) + 4 := by unfold dB; rw [if_neg (by omega)]
    have := gN_step (m := c + 1) (w := l + c + 1 + 1) (by omega) (by omega) (by omega)
    omega
theorem dB_found {l r : Nat} (h : balN l r) (hz : l + r ≤ 800000) : cB l r + 1 ≤ dB (l + r + 1) := by
  unfold dB
  split
  · have e1 : l = 0 := by omega
    subst e1
    unfold cB; simp
  · have := cB_bal h hz
    have e : l + r + 1 + 1 = l + r + 2 := rfl
    rw [e]
    omega
/-- What a cut may need: on the way down, and for what comes out. -/
def sB (n : Nat) (out : Nat) : Nat := gN (n + 1) + 3 * gN (out + 1) + 1
theorem gN_l {l r : Nat} (h : balN l r) (hz : l + r ≤ 800000) : gN (l + 1) + 1 ≤ gN (l + r + 2) := by
  unfold balN at h
  exact gN_step (by omega) (by omega) (by omega)
theorem gN_r {l r : Nat} (h : balN l r) (hz : l + r ≤ 800000) : gN (r + 1) + 1 ≤ gN (l + r + 2) := by
  unfold balN at h
  exact gN_step (by omega) (by omega) (by omega)
/-- A part of one side is joined to the other side. -/
theorem jB_part {a b l : Nat} (h : balN l b) (ha : a ≤ l) (hz : l + b ≤ 800000) : jB a b + 3 * gN (a + 1) ≤ 1 + 3 * gN (a + b + 2) := by
  unfold balN at h
  exact jB_grow (by omega) (by omega) (by omega)
theorem insE_ge {l : List Ent} (e : Ent) (h : Asc l) : l.length ≤ (insE l e).length := by
  induction l with
  | nil => exact Nat.zero_le _
  | cons x l ih =>
    rw [insE_cons h]
    have := ih h.tail
    split
    · simp
    · split <;> simp <;> omega
def hasK (l : List Ent) (k : Int) : Prop := ∃ v, (k, v) ∈ l
def neK (key : Int) (q : Int) : Bool := decide (q ≠ key)
theorem flt_ne_len {l : List Ent} {k : Int} (h : Asc l) (hk : hasK l k) : (flt (neK k) l).length + 1 = l.length := by
  induction l with
  | nil => obtain ⟨v, hv⟩ := hk; simp at hv
  | cons x l ih =>
    obtain ⟨v, hv⟩ := hk
    have hh := h.head
    unfold flt at ih ⊢
    rw [List.filter_cons]
    by_cases e : x.1 = k
    · have : (l.filter fun x => neK k x.1) = l := List.filter_eq_self.2 fun y hy => by have := hh y hy; simp [neK]; omega
      simp [neK, e]
      simpa [neK] using this
    · have hm : (k, v) ∈ l := by
        rcases List.mem_cons.1 hv with q | q
        · exact absurd (congrArg Prod.fst q).symm e
        · exact q
      have := ih h.tail ⟨v, hm⟩
      simp [neK, e] at this ⊢
      omega
theorem Got.of_zero {S S' : Arn} {hs hs1 : List Int} {m r : Nat} (a : Got S hs m r S' (0 :: hs1)) : Got S hs m r S' hs1 := ⟨a.wf.of_zero, a.stay, a.len, a.nu, a.rd0, a.rd⟩
theorem flt_pre {p : Int → Bool} {a b : List Ent} {k v : Int} (ha : ∀ x ∈ a, p x.1 = false) (hk : p k = false) : flt p (a ++ (k, v) :: b) = flt p b := by
  rw [flt_node, flt_none ha, hk]; rfl
theorem flt_suf {p : Int → Bool} {a b : List Ent} {k v : Int} (hb : ∀ x ∈ b, p x.1 = false) (hk : p k = false) : flt p (a ++ (k, v) :: b) = flt p a := by
  rw [flt_node, flt_none hb, hk]; simp
theorem flt_upR {p : Int → Bool} {a b : List Ent} {k v : Int} (hb : ∀ x ∈ b, p x.1 = true) (hk : p k = true) : flt p (a ++ (k, v) :: b) = flt p a ++ (k, v) :: b := by
  rw [flt_node, flt_all hb, hk]; simp
theorem flt_upL {p : Int → Bool} {a b : List Ent} {k v : Int} (ha : ∀ x ∈ a, p x.1 = true) (hk : p k = true) : flt p (a ++ (k, v) :: b) = a ++ (k, v) :: flt p b := by
  rw [flt_node, flt_all ha, hk]; simp
end Go.Proofs.Ytjbkckcjmmmooaa
end
section
/- The greatest height of a balanced tree, and few reads. -/
namespace Go.Proofs.Ytjbkckcjmmmooaa.Sx
open Go

/-KEEP Wf exW inU wtsL-/
noncomputable def aWts : Ann C0 := { Γ := [], rounds := fun n => if n = 4 then 82 else 0 }
def tWts : Tfm C0 := fun args H K => match args, H with
  | [], [] => K (.one (.agg (wtsL.map fun n => vI n))) [] []
  | _, _ => False
def wC : Nat → Int → Prop → Prop
  | 0, _, Q => Q
  | n + 1, h, Q => (0 ≤ IntKind.i64.wrap (h - 1)) ∧ (IntKind.i64.wrap (h - 1) < ((81 : Nat) : Int)) ∧ (0 ≤ IntKind.i64.wrap (h - 1)) ∧ (IntKind.i64.wrap (h - 1) < ((81 : Nat) : Int)) ∧ (0 ≤ h) ∧ (h < ((81 : Nat) : Int)) ∧ wC n (IntKind.i64.wrap (h + 1)) Q
theorem wC_of : ∀ (n : Nat) (h : Int) (Q : Prop), 1 ≤ h → h + n ≤ 81 → Q → wC n h Q
  | 0, _, _, _, _, q => q
  | n + 1, h, Q, h1, h2, q => by
    have e1 := wrap_id (x := h - 1) (by omega) (by omega)
    have e2 := wrap_id (x := h + 1) (by omega) (by omega)
    unfold wC
    rw [e1, e2]
    exact ⟨by omega, by omega, by omega, by omega, by omega, by omega, wC_of n (h + 1) Q (by omega) (by omega) q⟩
theorem s_wts : SoundT C0 107 tWts := by
  refine .of Try.func107 (by decide) rfl fun args H K h hB => ?_
  unfold tWts at h
  split at h <;> try exact h.elim
  refine ⟨aWts, trivial, Eq.mp (show ((0 : Int) ≤ 0 ∧ (0 : Int) < ((81 : Nat) : Int) ∧ wC 80 1 (K (.one (.agg (wtsL.map fun n => vI n))) [] [])) = _ by kernel_rfl) ?_⟩
  exact ⟨by decide, by decide, wC_of 80 1 _ (by decide) (by decide) h⟩
noncomputable def aMh : Ann C0 := { Γ := [(107, frameT [] tWts)], rounds := fun n => if n = 5 then 82 else 0 }
def mhC (k : Int) (Q : Int → Prop) : List Int → Int → Prop
  | [], h => Q h
  | w :: l, h => (0 ≤ IntKind.i64.wrap (h + 1)) ∧ (IntKind.i64.wrap (h + 1) < ((81 : Nat) : Int)) ∧ brS (decide (IntKind.i64.wrap (w - 1) ≤ k)) (mhC k Q l (IntKind.i64.wrap (h + 1))) (Q h)
theorem mhC_of {k : Int} {Q : Int → Prop} : ∀ (l : List Int) (h : Int), 0 ≤ h → h + l.length ≤ 80 → (∀ w ∈ l, 0 ≤ w ∧ w ≤ 1000000000000) → Q (hnC l h k) → mhC k Q l h
  | [], _, _, _, _, q => q
  | w :: l, h, h1, h2, h3, q => by
    have hw := h3 w (by simp)
    have hl : (w :: l).length = l.length + 1 := rfl
    unfold mhC
    rw [wrap_id (x := h + 1) (by omega) (by omega), wrap_id (x := w - 1) (by omega) (by omega)]
    unfold hnC at q
    refine ⟨by omega, by omega, brS_of (fun c => ?_) fun c => ?_⟩
    · rw [if_pos (of_decide_eq_true c)] at q
      exact mhC_of l (h + 1) (by omega) (by omega) (fun x hx => h3 x (by simp [hx])) q
    · rw [if_neg (of_decide_eq_false c)] at q; exact q
def tMh : Tfm C0 := fun args H K => match args, H with
  | [.at (.val (.int .i64 k))], [] => 0 ≤ k ∧ k ≤ 2147483647 ∧ ∀ h, h = Hn k → K (.one (.at (vI h))) [] []
  | _, _ => False
theorem s_mh : SoundT C0 73 tMh := by
  refine .of Try.func73 (by decide) rfl fun args H K h hB => ?_
  unfold tMh at h
  split at h <;> try exact h.elim
  rename_i k
  obtain ⟨h1, h2, h⟩ := h
  refine ⟨aMh, ⟨frame C0.ok s_wts _, trivial⟩, Eq.mp (show (brS (decide (k < 0)) (K (.one (.at (vI (-1)))) [] []) (brS (decide (k > 2147483647)) (K (.one (.at (vI (-1)))) [] []) (mhC k (fun h => K (.one (.at (vI h))) [] []) (wtsL.drop 1) 0))) = _ by kernel_rfl) ?_⟩
  refine brS_of (fun c => by have := of_decide_eq_true c; omega) fun _ => brS_of (fun c => by have := of_decide_eq_true c; omega) fun _ => mhC_of _ 0 (by decide) (by decide) (by decide) (h _ rfl)
noncomputable def aHt : Ann C0 := { Γ := [(73, frameT [] tMh)] }
theorem s_ht : SoundT C0 24 tMh := by
  refine .of Try.func24 (by decide) rfl fun args H K h hB => ?_
  unfold tMh at h
  split at h <;> try exact h.elim
  rename_i k
  exact ⟨aHt, ⟨frame C0.ok s_mh _, trivial⟩, Eq.mp (show (0 ≤ k ∧ k ≤ 2147483647 ∧ ∀ h, h = Hn k → K (.one (.at (vI h))) [] []) = _ by kernel_rfl) h⟩
noncomputable def aWi : Ann C0 := { Γ := [(19, frameT [] tReads)] }
def tWi : Tfm C0 := fun args H K => match args with
  | [.at (.ptr 0 0), .at (.val (.int .u64 r)), .at (.val (.int .i64 m))] => arM H fun S => 0 ≤ r ∧ r ≤ S.reads ∧ S.reads ≤ 4000000000000000000 ∧ S.reads - r ≤ m ∧ m ≤ 4000000000000000000 ∧ K (.one (.at (vB true))) (chS S) []
  | _ => False
theorem s_wi : SoundT C0 23 tWi := by
  refine .of Try.func23 (by decide) rfl fun args H K h hB => ?_
  unfold tWi at h
  split at h <;> try exact h.elim
  rename_i r m
  unfold arM at h
  split at h <;> try exact h.elim
  rename_i rd fr nd ct us gn rl
  have key : ∀ S : Arn, 0 ≤ r → r ≤ S.reads → S.reads ≤ 4000000000000000000 → S.reads - r ≤ m → m ≤ 4000000000000000000 → K (.one (.at (vB true))) (chS S) [] → vc C0 aWi Try.f23 [.at (.ptr 0 0), .at (vU64 r), .at (vI m)] (chS S) (normK 7 K) := fun S h1 h2 h3 h4 h5 h => by
    refine Eq.mp (show (brS (decide (S.reads ≥ r)) ((K (SV.one (TV.at (At.val (Value.bool (decide (IntKind.u64.wrap (S.reads - r) ≤ IntKind.u64.wrap m)))))) [(Chunk.box [(At.ptr 1 0), (At.slc 2), (At.slc 3), (At.val (Value.int IntKind.u64 (S.reads)))]), (Chunk.box [(At.slc 4), (At.slc 5), (At.slc 6), (At.val (Value.int IntKind.u32 (S.fresh)))]), (Chunk.row true (EC.node) (S.nodes)), (Chunk.row true (EC.int) (S.counts)), (Chunk.row true (EC.bool) (S.used)), (Chunk.row true (EC.u32) (S.gen)), (Chunk.row true (EC.u32) (S.rel))] [])) ((K (SV.one (TV.at (At.val (Value.bool false)))) [(Chunk.box [(At.ptr 1 0), (At.slc 2), (At.slc 3), (At.val (Value.int IntKind.u64 (S.reads)))]), (Chunk.box [(At.slc 4), (At.slc 5), (At.slc 6), (At.val (Value.int IntKind.u32 (S.fresh)))]), (Chunk.row true (EC.node) (S.nodes)), (Chunk.row true (EC.int) (S.counts)), (Chunk.row true (EC.bool) (S.used)), (Chunk.row true (EC.u32) (S.gen)), (Chunk.row true (EC.u32) (S.rel))] []))) = _ by kernel_rfl) ?_
    rw [wrap_u64 (x := S.reads - r) (by omega) (by omega), wrap_u64 (x := m) (by omega) (by omega)]
    refine brS_of (fun _ => ?_) fun c => by have := of_decide_eq_false c; omega
    rw [show decide (S.reads - r ≤ m) = true from decide_eq_true h4]
    exact h
  exact ⟨aWi, ⟨frame C0.ok s_rds _, trivial⟩, key ⟨us, gn, rl, fr, nd, ct, rd⟩ h.1 h.2.1 h.2.2.1 h.2.2.2.1 h.2.2.2.2.1 h.2.2.2.2.2⟩
end Go.Proofs.Ytjbkckcjmmmooaa.Sx
end
section
/- reserve, ref8: how many slots an operation may need; lookup.Get. -/
namespace Go.Proofs.Ytjbkckcjmmmooaa.Sx
open Go

/-KEEP okI Wf exW inU live Rep rdS Tr.size Tr.list getE Asc ht wt Hn-/
theorem htr_size : ∀ t : Tr, ht t ≤ t.size
  | .nil => Nat.le_refl _
  | .node l k v r => by
    have h1 := htr_size l
    have h2 := htr_size r
    rw [ht, Tr.size]
    split <;> omega
structure XGe (S : Arn) (t : Tr) (q : Int) where
  i : Int
  t' : Tr
  m : Nat
  h : Rep S t' i ∧ getE t.list q = getE t'.list q ∧ Asc t'.list ∧ m + ht t' ≤ ht t ∧ t'.size ≤ t.size
noncomputable def aGetT (S : Arn) (t : Tr) (q : Int) : Ann C0 := { Γ := [(49, frameT [] tNode)], inv := fun n => match n with
  | 2 => some { X := XGe S t q, sl := [8], tf := fun x => [vi .u32 x.i], hf := fun x => chS (rdS S x.m), μ := fun x => x.t'.size, wr := [0] }
  | _ => none }
def tGetT : Tfm C0 := fun args H K => match args with
  | [.at (.ptr 0 0), .at (.val (.int .u32 i)), .at (.val (.int .i64 q))] => arM H fun S => ∃ hs t, Wf S hs ∧ Rep S t i ∧ Asc t.list ∧ t.size ≤ 1000000 ∧ S.reads + t.size ≤ 3000000000000000000 ∧
    ∀ S' m o, S' = rdS S m → m ≤ ht t → o = getE t.list q → K (.tup [.at (vI (o.getD 0)), .at (vB o.isSome)]) (chS S') [0]
  | _ => False
structure XMx (n : Int) where
  h : Nat
  p : h ≤ 80 ∧ wt h ≤ n + 1
noncomputable def aMxh (n : Int) : Ann C0 := { Γ := [], inv := fun k => match k with
  | 4 => some { X := XMx n, sl := [3, 4], tf := fun x => [vi .i64 x.h, vi .i64 (wt x.h)], hf := fun _ => [], μ := fun x => 80 - x.h }
  | _ => none }
def tMxh : Tfm C0 := fun args H K => match args, H with
  | [.at (.val (.int .i64 n))], [] => 0 ≤ n ∧ n ≤ 1000000 ∧ ∀ h, h = Hn n → K (.one (.at (vI h))) [] []
  | _, _ => False
def okI (l : List Int) : Prop := ∀ i : Nat, i < l.length → 0 ≤ l.getD i 0 ∧ l.getD i 0 ≤ 65536
structure XVd (l : List Int) where
  i : Nat
  h : i ≤ l.length
noncomputable def aVld (l : List Int) : Ann C0 := { Γ := [], inv := fun k => match k with
  | 2 => some { X := XVd l, sl := [7], tf := fun x => [vi .i64 x.i], hf := fun _ => [.row false EC.int l], μ := fun x => l.length - x.i }
  | _ => none }
def tVld : Tfm C0 := fun args H K => match args, H with
  | [.at (.slc 0)], [.row false .int l] => okI l ∧ l.length ≤ 100 ∧ K (.one (.at (vB true))) [.row false EC.int l] []
  | _, _ => False
noncomputable def aPath : Ann C0 := { Γ := [(127, frameT [] tMxh)] }
def tPath : Tfm C0 := fun args H K => match args, H with
  | [.at (.val (.int .i64 f)), .at (.val (.int .i64 n))], [] => 0 ≤ f ∧ f ≤ 100 ∧ 0 ≤ n ∧ n ≤ 1000000 ∧ ∀ p, p = f * (Hn n + 2) → K (.one (.at (vI p))) [] []
  | _, _ => False
noncomputable def aRes : Ann C0 := { Γ := [(102, frameT [] tVld), (103, frameT [] tPath)] }
def tRes1 (f d : Int) : Tfm C0 := fun args H K => match args, H with
  | [.at (.val (.int .i64 n))], [] => 0 ≤ n ∧ n ≤ 65536 ∧ ∀ p, p = f * (Hn (n + d) + 2) → K (.one (.at (vI p))) [] []
  | _, _ => False
def tRes2 : Tfm C0 := fun args H K => match args, H with
  | [.at (.val (.int .i64 n)), .at (.val (.int .i64 m))], [] => 0 ≤ n ∧ n ≤ 65536 ∧ 0 ≤ m ∧ m ≤ 65536 ∧ ∀ p, p = 4 * (Hn (n + m + 1) + 2) → K (.one (.at (vI p))) [] []
  | _, _ => False
noncomputable def aNeed : Ann C0 := { Γ := [(73, frameT [] tMh)] }
def tNeed : Tfm C0 := fun args H K => match args, H with
  | [.at (.val (.int .i64 a)), .at (.val (.int .i64 b)), .at (.val (.int .i64 c)), .at (.val (.int .i64 m)), .at (.val (.int .i64 e)), .at (.val (.int .i64 f))], [] => 0 ≤ a ∧ a ≤ 65536 ∧ 0 ≤ b ∧ b ≤ 65536 ∧ 0 ≤ c ∧ c ≤ 65536 ∧ 0 ≤ m ∧ m ≤ 10 ∧ 0 ≤ e ∧ e ≤ 200000 ∧ 0 ≤ f ∧ f ≤ 100 ∧ ∀ p, p = e + f * (Hn (a + b + c + m) + 2) → K (.one (.at (vI p))) [] []
  | _, _ => False
noncomputable def aN8 : Ann C0 := { Γ := [(63, frameT [] tNeed)] }
theorem vc_getT (S : Arn) (i q : Int) (K : KT) (hs : List Int) (t : Tr) (hw : Wf S hs) (hr : Rep S t i) (ha : Asc t.list) (_ : t.size ≤ 1000000) (h2 : S.reads + t.size ≤ 3000000000000000000)
    (h : ∀ S' m o, S' = rdS S m → m ≤ ht t → o = getE t.list q → K (.tup [.at (vI (o.getD 0)), .at (vB o.isSome)]) (chS S') [0]) :
    vc C0 (aGetT S t q) Try.f65 [.at (.ptr 0 0), .at (vU i), .at (vI q)] (chS S) (normK 7 (wideK [0] K)) := by
  refine Eq.mp (show ((∃ x : XGe S t q, (True ∧ (True ∧ ((Value.int IntKind.i64 (q)) = (Value.int IntKind.i64 (q))) ∧ ((Value.int IntKind.u32 (i)) = (Value.int IntKind.u32 (x.i))) ∧ True) ∧ (True ∧ True ∧ True ∧ ((Value.int IntKind.u64 (S.reads)) = (Value.int IntKind.u64 ((rdS S x.m).reads))) ∧ True) ∧ (True ∧ True ∧ True ∧ ((Value.int IntKind.u32 (S.fresh)) = (Value.int IntKind.u32 ((rdS S x.m).fresh))) ∧ True) ∧ ((S.nodes) = ((rdS S x.m).nodes)) ∧ ((S.counts) = ((rdS S x.m).counts)) ∧ ((S.used) = ((rdS S x.m).used)) ∧ ((S.gen) = ((rdS S x.m).gen)) ∧ ((S.rel) = ((rdS S x.m).rel)) ∧ True)) ∧
(∀ x : XGe S t q, (True → (brS (x.i != 0) (((inU x.i) ∧ (exW (rdS S x.m)) ∧ ((rdS S x.m).reads < 4000000000000000000) ∧ (∀ S' : Arn, (((S') = (rdS (rdS S x.m) ((rdS S x.m).us x.i).toNat)) → (brS (!(rdS S x.m).us x.i) ((K (SV.tup [(TV.at (At.val (Value.int IntKind.i64 0))), (TV.at (At.val (Value.bool false)))]) [(Chunk.box [(At.ptr 1 0), (At.slc 2), (At.slc 3), (At.val (Value.int IntKind.u64 (S'.reads)))]), (Chunk.box [(At.slc 4), (At.slc 5), (At.slc 6), (At.val (Value.int IntKind.u32 (S'.fresh)))]), (Chunk.row true (EC.node) (S'.nodes)), (Chunk.row true (EC.int) (S'.counts)), (Chunk.row true (EC.bool) (S'.used)), (Chunk.row true (EC.u32) (S'.gen)), (Chunk.row true (EC.u32) (S'.rel))] [0])) ((brS (decide (q < ((rdS S x.m).nd x.i).key)) ((∃ x' : XGe S t q, (True ∧ ((True ∧ ((Value.int IntKind.i64 (q)) = (Value.int IntKind.i64 (q))) ∧
    ((Value.int IntKind.u32 (((rdS S x.m).nd x.i).left)) = (Value.int IntKind.u32 (x'.i))) ∧ True) ∧ (True ∧ True ∧ True ∧ ((Value.int IntKind.u64 (S'.reads)) = (Value.int IntKind.u64 ((rdS S x'.m).reads))) ∧ True) ∧ (True ∧ True ∧ True ∧ ((Value.int IntKind.u32 (S'.fresh)) = (Value.int IntKind.u32 ((rdS S x'.m).fresh))) ∧ True) ∧ ((S'.nodes) = ((rdS S x'.m).nodes)) ∧ ((S'.counts) = ((rdS S x'.m).counts)) ∧ ((S'.used) = ((rdS S x'.m).used)) ∧ ((S'.gen) = ((rdS S x'.m).gen)) ∧ ((S'.rel) = ((rdS S x'.m).rel)) ∧ True) ∧ (x'.t'.size < x.t'.size)))) ((brS (decide (q > ((rdS S x.m).nd x.i).key)) ((∃ x' : XGe S t q, (True ∧ ((True ∧ ((Value.int IntKind.i64 (q)) = (Value.int IntKind.i64 (q))) ∧ ((Value.int IntKind.u32 (((rdS S x.m).nd x.i).right)) = (Value.int IntKind.u32 (x'.i))) ∧ True) ∧ (True ∧ True ∧ True ∧ ((Value.int IntKind.u64 (S'.reads)) = (Value.int IntKind.u64 ((rdS S x'.m).reads))) ∧ True) ∧ (True ∧ True ∧ True ∧ ((Value.int IntKind.u32 (S'.fresh)) = (Value.int IntKind.u32 ((rdS S x'.m).fresh))) ∧ True) ∧ ((S'.nodes) = ((rdS S x'.m).nodes)) ∧ ((S'.counts) = ((rdS S x'.m).counts)) ∧ ((S'.used) = ((rdS S x'.m).used)) ∧ ((S'.gen) = ((rdS S x'.m).gen)) ∧ ((S'.rel) = ((rdS S x'.m).rel)) ∧ True) ∧ (x'.t'.size < x.t'.size))))
    ((K (SV.tup [(TV.at (At.val (Value.int IntKind.i64 (((rdS S x.m).nd x.i).value)))), (TV.at (At.val (Value.bool true)))]) [(Chunk.box [(At.ptr 1 0), (At.slc 2), (At.slc 3), (At.val (Value.int IntKind.u64 (S'.reads)))]), (Chunk.box [(At.slc 4), (At.slc 5), (At.slc 6), (At.val (Value.int IntKind.u32 (S'.fresh)))]), (Chunk.row true (EC.node) (S'.nodes)), (Chunk.row true (EC.int) (S'.counts)), (Chunk.row true (EC.bool) (S'.used)), (Chunk.row true (EC.u32) (S'.gen)), (Chunk.row true (EC.u32) (S'.rel))] [0]))))))))))) ((K (SV.tup [(TV.at (At.val (Value.int IntKind.i64 0))), (TV.at (At.val (Value.bool false)))]) [(Chunk.box [(At.ptr 1 0), (At.slc 2), (At.slc 3), (At.val (Value.int IntKind.u64 ((rdS S x.m).reads)))]), (Chunk.box [(At.slc 4), (At.slc 5), (At.slc 6), (At.val (Value.int IntKind.u32 ((rdS S x.m).fresh)))]), (Chunk.row true (EC.node) ((rdS S x.m).nodes)), (Chunk.row true (EC.int) ((rdS S x.m).counts)), (Chunk.row true (EC.bool) ((rdS S x.m).used)), (Chunk.row true (EC.u32) ((rdS S x.m).gen)), (Chunk.row true (EC.u32) ((rdS S x.m).rel))] [0])))))) = _ by kernel_rfl) ?_
  have hrd := hw.rds
  have hts := htr_size t
  refine ⟨⟨⟨i, t, 0, hr, rfl, ha, by omega, Nat.le_refl _⟩, ?_⟩, fun x _ => ?_⟩
  · (repeat' first | exact trivial | exact rfl | refine And.intro ?_ ?_)
    rw [rdS_zero]
  obtain ⟨xi, xt, xm, h1', h2', h3', h4', h5'⟩ := x
  dsimp only
  have hwx : Wf (rdS S xm) hs := hw.rd (by omega)
  refine brS_of (fun c => ?_) fun c => ?_
  · have c : xi ≠ 0 := by simpa using c
    cases xt with
    | nil => exact absurd h1' c
    | node l k v r =>
      obtain ⟨r1, r2, r3, r4, r5⟩ := h1'
      have q1 := ht_l l r k v
      have q2 := ht_r l r k v
      have hsz : l.size + r.size + 1 = (Tr.node l k v r).size := by simp [Tr.size]; omega
      have asc' : Asc (l.list ++ (k, v) :: r.list) := h3'
      obtain ⟨al, ar, _, _⟩ := asc_parts asc'
      refine ⟨inU_of hw (.inr r1), ⟨_, hwx⟩, by show S.reads + (xm : Int) < _; omega, fun S1 e1 => brS_of (fun d => ?_) fun _ => ?_⟩
      · have d : (!S.us xi) = true := d
        rw [r1] at d; cases d
      have e1 : S1 = rdS S (xm + 1) := by rw [e1, rdS_rdS]; show rdS S (xm + (S.us xi).toNat) = _; rw [r1]; rfl
      subst e1
      have ek : ((rdS S xm).nd xi).key = k := r2
      have ev : ((rdS S xm).nd xi).value = v := r3
      rw [ek]
      refine brS_of (fun d => ?_) fun d => brS_of (fun d2 => ?_) fun d2 => ?_
      · have d : q < k := of_decide_eq_true d
        refine ⟨⟨(S.nd xi).left, l, xm + 1, r4, by rw [h2']; exact getE_left asc' d, al, by omega, by omega⟩, ?_⟩
        (repeat' first | exact trivial | exact rfl | refine And.intro ?_ ?_)
        show l.size < (Tr.node l k v r).size; omega
      · have d2 : k < q := of_decide_eq_true d2
        refine ⟨⟨(S.nd xi).right, r, xm + 1, r5, by rw [h2']; exact getE_right asc' d2, ar, by omega, by omega⟩, ?_⟩
        (repeat' first | exact trivial | exact rfl | refine And.intro ?_ ?_)
        show r.size < (Tr.node l k v r).size; omega
      · have d : ¬ q < k := of_decide_eq_false d
        have d2 : ¬ k < q := of_decide_eq_false d2
        have eq : k = q := by omega
        subst eq
        rw [ev]
        exact h _ (xm + 1) (some v) rfl (by omega) (by rw [h2']; exact (getE_at asc').symm)
  · have c : xi = 0 := by simpa using c
    subst c
    have e := h1'.zero hw
    subst e
    exact h _ xm none rfl (by omega) (by rw [h2']; rfl)
theorem s_getT : SoundT C0 65 tGetT := by
  refine .ofW [0] Try.func65 (by decide) rfl fun args H K h hB => ?_
  unfold tGetT at h
  split at h <;> try exact h.elim
  unfold arM at h
  split at h <;> try exact h.elim
  rename_i i q _ rd fr nd ct us gn rl
  obtain ⟨hs, t, h1, h2, h3, h4, h5, h6⟩ := h
  exact ⟨aGetT ⟨us, gn, rl, fr, nd, ct, rd⟩ t q, ⟨frame C0.ok s_node _, trivial⟩, vc_getT ⟨us, gn, rl, fr, nd, ct, rd⟩ i q K hs t h1 h2 h3 h4 h5 h6⟩
theorem tdiv3 {x : Int} (h : 0 ≤ x) : x.tdiv 3 = x / 3 := Int.tdiv_eq_ediv_of_nonneg h
theorem Hn_top {n : Int} (h : 0 ≤ n) {k : Nat} (h1 : k ≤ 80) (h2 : wt k ≤ n + 1) (h3 : k = 80 ∨ n + 1 < wt (k + 1)) : (k : Int) = Hn n := by
  have e := gN_size n.toNat
  rw [show ((n.toNat : Nat) : Int) = n by omega] at e
  have a := gN_le (w := n.toNat + 1) h1 (by omega)
  have b := gN_wt (w := n.toNat + 1) (by omega)
  have c := gN_rng (n.toNat + 1)
  rcases h3 with h3 | h3
  · omega
  · by_cases d : k + 1 ≤ gN (n.toNat + 1)
    · have := wt_mono d c; omega
    · omega
theorem vc_mxh (n : Int) (K : KT) (h1 : 0 ≤ n) (h2 : n ≤ 1000000) (h : ∀ h, h = Hn n → K (.one (.at (vI h))) [] []) : vc C0 (aMxh n) Try.f127 [.at (vI n)] [] (normK 0 K) := by
  refine Eq.mp (show (brS (decide (n < 0)) ((K (SV.one (TV.at (At.val (Value.int IntKind.i64 (-1))))) [] [])) ((brS (decide (n > 2147483647)) ((K (SV.one (TV.at (At.val (Value.int IntKind.i64 (-1))))) [] [])) (((∃ x : XMx n, (True ∧ (((Value.int IntKind.i64 (n)) = (Value.int IntKind.i64 (n))) ∧ ((Value.int IntKind.i64 0) = (Value.int IntKind.i64 ((↑x.h : Int)))) ∧ ((Value.int IntKind.i64 1) = (Value.int IntKind.i64 (wt x.h))) ∧ True) ∧ True)) ∧ (∀ x : XMx n, (True → (brS (decide ((↑x.h : Int) < 80)) ((brS (decide (IntKind.i64.wrap (IntKind.i64.wrap (wt x.h + IntKind.i64.wrap ((IntKind.i64.wrap (wt x.h + 2)).tdiv 3)) - 1) > n)) ((K (SV.one (TV.at (At.val (Value.int IntKind.i64 ((↑x.h : Int)))))) [] [])) ((∃ x' : XMx n, (True ∧ ((((Value.int IntKind.i64 (n)) = (Value.int IntKind.i64 (n))) ∧ ((Value.int IntKind.i64 (IntKind.i64.wrap ((↑x.h : Int) + 1))) = (Value.int IntKind.i64 ((↑x'.h : Int)))) ∧ ((Value.int IntKind.i64 (IntKind.i64.wrap (wt x.h + IntKind.i64.wrap ((IntKind.i64.wrap (wt x.h + 2)).tdiv 3)))) = (Value.int IntKind.i64 (wt x'.h))) ∧ True) ∧ True) ∧ (80 - x'.h < 80 - x.h)))))) ((K (SV.one (TV.at (At.val (Value.int IntKind.i64 ((↑x.h : Int)))))) [] [])))))))))) = _ by kernel_rfl) ?_
  refine brS_of (fun c => by have := of_decide_eq_true c; omega) fun _ => brS_of (fun c => by have : n > 2147483647 := of_decide_eq_true c; omega) fun _ => ⟨⟨⟨0, by decide, by rw [w0]; omega⟩, ?_⟩, fun x _ => brS_of (fun c => ?_) fun c => ?_⟩
  · (repeat' first | exact trivial | exact rfl | refine And.intro ?_ ?_)
  · obtain ⟨k, p1, p2⟩ := x
    have c : (k : Int) < 80 := of_decide_eq_true c
    have c : k < 80 := by omega
    have st := wt_step k c
    have lo : 1 ≤ wt k := by have := wt_mono (Nat.zero_le k) p1; rw [w0] at this; exact this
    dsimp only
    rw [wrap_id (x := wt k + 2) (by omega) (by omega), tdiv3 (by omega), wrap_id (x := (wt k + 2) / 3) (by omega) (by omega), wrap_id (x := wt k + (wt k + 2) / 3) (by omega) (by omega), wrap_id (x := wt k + (wt k + 2) / 3 - 1) (by omega) (by omega), ← st]
    refine brS_of (fun d => ?_) fun d => ?_
    · have d : wt (k + 1) - 1 > n := of_decide_eq_true d
      exact h _ (Hn_top h1 p1 p2 (.inr (by omega)))
    · have d : ¬ wt (k + 1) - 1 > n := of_decide_eq_false d
      refine ⟨⟨k + 1, c, by omega⟩, ?_⟩
      (repeat' first | exact trivial | exact rfl | refine And.intro ?_ ?_)
      · rw [wrap_id (x := (k : Int) + 1) (by omega) (by omega)]; congr 1
      · show 80 - (k + 1) < 80 - k; omega
  · obtain ⟨k, p1, p2⟩ := x
    have c : ¬ (k : Int) < 80 := of_decide_eq_false c
    have c : k = 80 := by omega
    exact h _ (Hn_top h1 p1 p2 (.inl c))
theorem s_mxh : SoundT C0 127 tMxh := by
  refine .of Try.func127 (by decide) rfl fun args H K h hB => ?_
  unfold tMxh at h
  split at h <;> try exact h.elim
  rename_i n
  exact ⟨aMxh n, trivial, vc_mxh n K h.1 h.2.1 h.2.2⟩
theorem vc_vld (l : List Int) (K : KT) (h1 : okI l) (h2 : l.length ≤ 100) (h : K (.one (.at (vB true))) [.row false EC.int l] []) : vc C0 (aVld l) Try.f102 [.at (.slc 0)] [.row false EC.int l] (normK 1 K) := by
  refine Eq.mp (show ((∃ x : XVd l, (True ∧ (True ∧ ((Value.int IntKind.i64 ((↑l.length : Int))) = (Value.int IntKind.i64 ((↑l.length : Int)))) ∧ ((Value.int IntKind.i64 0) = (Value.int IntKind.i64 ((↑x.i : Int)))) ∧ True) ∧ ((l) = (l)) ∧ True)) ∧
(∀ x : XVd l, (True → (brS (decide ((↑x.i : Int) < (↑l.length : Int))) (((0 ≤ (↑x.i : Int)) ∧ ((↑x.i : Int) < (↑l.length : Int)) ∧ (brS (decide (l.getD (↑x.i : Int).toNat 0 < 0)) ((K (SV.one (TV.at (At.val (Value.bool false)))) [(Chunk.row false (EC.int) (l))] [])) ((brS (decide (l.getD (↑x.i : Int).toNat 0 > 65536)) ((K (SV.one (TV.at (At.val (Value.bool false)))) [(Chunk.row false (EC.int) (l))] [])) ((∃ x' : XVd l, (True ∧ ((True ∧ ((Value.int IntKind.i64 ((↑l.length : Int))) = (Value.int IntKind.i64 ((↑l.length : Int)))) ∧ ((Value.int IntKind.i64 (IntKind.i64.wrap ((↑x.i : Int) + 1))) = (Value.int IntKind.i64 ((↑x'.i : Int)))) ∧ True) ∧ ((l) = (l)) ∧ True) ∧ (l.length - x'.i < l.length - x.i))))))))) ((K (SV.one (TV.at (At.val (Value.bool true)))) [(Chunk.row false (EC.int) (l))] [])))))) = _ by kernel_rfl) ?_
  refine ⟨⟨⟨0, Nat.zero_le _⟩, ?_⟩, fun x _ => brS_of (fun c => ?_) fun c => h⟩
  · (repeat' first | exact trivial | exact rfl | refine And.intro ?_ ?_)
  · obtain ⟨i, hi⟩ := x
    have c : (i : Int) < l.length := of_decide_eq_true c
    have c : i < l.length := by omega
    obtain ⟨a, b⟩ := h1 i c
    refine ⟨by omega, by omega, brS_of (fun d => ?_) fun _ => brS_of (fun d => ?_) fun _ => ⟨⟨i + 1, c⟩, ?_⟩⟩
    · have d : l.getD i 0 < 0 := of_decide_eq_true d
      omega
    · have d : l.getD i 0 > 65536 := of_decide_eq_true d
      omega
    · (repeat' first | exact trivial | exact rfl | refine And.intro ?_ ?_)
      · rw [wrap_id (x := (i : Int) + 1) (by omega) (by omega)]; congr 1
      · show l.length - (i + 1) < l.length - i; omega
theorem s_vld : SoundT C0 102 tVld := by
  refine .of Try.func102 (by decide) rfl fun args H K h hB => ?_
  unfold tVld at h
  split at h <;> try exact h.elim
  rename_i l
  exact ⟨aVld l, trivial, vc_vld l K h.1 h.2.1 h.2.2⟩
theorem s_path : SoundT C0 103 tPath := by
  refine .of Try.func103 (by decide) rfl fun args H K h hB => ?_
  unfold tPath at h
  split at h <;> try exact h.elim
  rename_i f n
  obtain ⟨h1, h2, h3, h4, h5⟩ := h
  refine ⟨aPath, ⟨frame C0.ok s_mxh _, trivial⟩, Eq.mp (show ((0 ≤ n) ∧
(n ≤ 1000000) ∧
(∀ h : Int, (((h) = (Hn n)) → (K (SV.one (TV.at (At.val (Value.int IntKind.i64 (IntKind.i64.wrap (f * IntKind.i64.wrap (h + 2))))))) [] [])))) = _ by kernel_rfl) ⟨h3, h4, fun p e => ?_⟩⟩
  have r := Hn_rng n
  subst e
  have hb : f * (Hn n + 2) ≤ 100 * 82 := Int.mul_le_mul h2 (by omega) (by omega) (by omega)
  have ha : 0 ≤ f * (Hn n + 2) := Int.mul_nonneg h1 (by omega)
  rw [wrap_id (x := Hn n + 2) (by omega) (by omega), wrap_id (x := f * (Hn n + 2)) (by omega) (by omega)]
  exact h5 _ rfl
theorem okI_one {n : Int} (h1 : 0 ≤ n) (h2 : n ≤ 65536) : okI [n] := by
  intro i hi
  have : i = 0 := by simpa using hi
  subst this
  exact ⟨h1, h2⟩
theorem okI_two {n m : Int} (h1 : 0 ≤ n) (h2 : n ≤ 65536) (h3 : 0 ≤ m) (h4 : m ≤ 65536) : okI [n, m] := by
  intro i hi
  match i, hi with
  | 0, _ => exact ⟨h1, h2⟩
  | 1, _ => exact ⟨h3, h4⟩
  | i + 2, hi => simp at hi; omega
theorem s_rIns : SoundT C0 70 (tRes1 4 1) := by
  refine .of Try.func70 (by decide) rfl fun args H K h hB => ?_
  unfold tRes1 at h
  split at h <;> try exact h.elim
  rename_i n
  obtain ⟨h1, h2, h3⟩ := h
  refine ⟨aRes, ⟨frame C0.ok s_vld _, frame C0.ok s_path _, trivial⟩, Eq.mp (show ((okI [n]) ∧
([n].length ≤ 100) ∧
((0 : Int) ≤ 4) ∧
((4 : Int) ≤ 100) ∧
(0 ≤ IntKind.i64.wrap (n + 1)) ∧
(IntKind.i64.wrap (n + 1) ≤ 1000000) ∧
(∀ p : Int, (((p) = (4 * (Hn (IntKind.i64.wrap (n + 1)) + 2))) → (K (SV.one (TV.at (At.val (Value.int IntKind.i64 (p))))) [] [])))) = _ by kernel_rfl) ?_⟩
  rw [wrap_id (x := n + 1) (by omega) (by omega)]
  exact ⟨okI_one h1 h2, by simp, by decide, by decide, by omega, by omega, h3⟩
theorem s_rDel : SoundT C0 67 (tRes1 4 0) := by
  refine .of Try.func67 (by decide) rfl fun args H K h hB => ?_
  unfold tRes1 at h
  split at h <;> try exact h.elim
  rename_i n
  obtain ⟨h1, h2, h3⟩ := h
  refine ⟨aRes, ⟨frame C0.ok s_vld _, frame C0.ok s_path _, trivial⟩, Eq.mp (show ((okI [n]) ∧
([n].length ≤ 100) ∧
((0 : Int) ≤ 4) ∧
((4 : Int) ≤ 100) ∧
(0 ≤ n) ∧
(n ≤ 1000000) ∧
(∀ p : Int, (((p) = (4 * (Hn n + 2))) → (K (SV.one (TV.at (At.val (Value.int IntKind.i64 (p))))) [] [])))) = _ by kernel_rfl) ?_⟩
  exact ⟨okI_one h1 h2, by simp, by decide, by decide, by omega, by omega, fun p e => h3 p (by rw [e, Int.add_zero])⟩
theorem s_rSpl : SoundT C0 88 (tRes1 12 0) := by
  refine .of Try.func88 (by decide) rfl fun args H K h hB => ?_
  unfold tRes1 at h
  split at h <;> try exact h.elim
  rename_i n
  obtain ⟨h1, h2, h3⟩ := h
  refine ⟨aRes, ⟨frame C0.ok s_vld _, frame C0.ok s_path _, trivial⟩, Eq.mp (show ((okI [n]) ∧
([n].length ≤ 100) ∧
((0 : Int) ≤ 12) ∧
((12 : Int) ≤ 100) ∧
(0 ≤ n) ∧
(n ≤ 1000000) ∧
(∀ p : Int, (((p) = (12 * (Hn n + 2))) → (K (SV.one (TV.at (At.val (Value.int IntKind.i64 (p))))) [] [])))) = _ by kernel_rfl) ?_⟩
  exact ⟨okI_one h1 h2, by simp, by decide, by decide, by omega, by omega, fun p e => h3 p (by rw [e, Int.add_zero])⟩
theorem s_rJn : SoundT C0 116 tRes2 := by
  refine .of Try.func116 (by decide) rfl fun args H K h hB => ?_
  unfold tRes2 at h
  split at h <;> try exact h.elim
  rename_i n m
  obtain ⟨h1, h2, h3, h4, h5⟩ := h
  refine ⟨aRes, ⟨frame C0.ok s_vld _, frame C0.ok s_path _, trivial⟩, Eq.mp (show ((okI [n, m]) ∧
([n, m].length ≤ 100) ∧
((0 : Int) ≤ 4) ∧
((4 : Int) ≤ 100) ∧
(0 ≤ IntKind.i64.wrap (IntKind.i64.wrap (n + m) + 1)) ∧
(IntKind.i64.wrap (IntKind.i64.wrap (n + m) + 1) ≤ 1000000) ∧
(∀ p : Int, (((p) = (4 * (Hn (IntKind.i64.wrap (IntKind.i64.wrap (n + m) + 1)) + 2))) → (K (SV.one (TV.at (At.val (Value.int IntKind.i64 (p))))) [] [])))) = _ by kernel_rfl) ?_⟩
  rw [wrap_id (x := n + m) (by omega) (by omega), wrap_id (x := n + m + 1) (by omega) (by omega)]
  exact ⟨okI_two h1 h2 h3 h4, by simp, by decide, by decide, by omega, by omega, h5⟩
theorem s_need : SoundT C0 63 tNeed := by
  refine .of Try.func63 (by decide) rfl fun args H K h hB => ?_
  unfold tNeed at h
  split at h <;> try exact h.elim
  rename_i a b c m e f
  obtain ⟨a1, a2, b1, b2, c1, c2, m1, m2, e1, e2, f1, f2, h⟩ := h
  refine ⟨aNeed, ⟨frame C0.ok s_mh _, trivial⟩, Eq.mp (show (brS (decide (a < 0)) ((K (SV.one (TV.at (At.val (Value.int IntKind.i64 (-1))))) [] [])) ((brS (decide (a > 65536)) ((K (SV.one (TV.at (At.val (Value.int IntKind.i64 (-1))))) [] [])) ((brS (decide (b < 0)) ((K (SV.one (TV.at (At.val (Value.int IntKind.i64 (-1))))) [] [])) ((brS (decide (b > 65536)) ((K (SV.one (TV.at (At.val (Value.int IntKind.i64 (-1))))) [] [])) ((brS (decide (c < 0)) ((K (SV.one (TV.at (At.val (Value.int IntKind.i64 (-1))))) [] [])) ((brS (decide (c > 65536)) ((K (SV.one (TV.at (At.val (Value.int IntKind.i64 (-1))))) [] [])) (((0 ≤ IntKind.i64.wrap (IntKind.i64.wrap (IntKind.i64.wrap (a + b) + c) + m)) ∧ (IntKind.i64.wrap (IntKind.i64.wrap (IntKind.i64.wrap (a + b) + c) + m) ≤ 2147483647) ∧ (∀ h : Int, (((h) = (Hn (IntKind.i64.wrap (IntKind.i64.wrap (IntKind.i64.wrap (a + b) + c) + m)))) → (K (SV.one (TV.at (At.val (Value.int IntKind.i64 (IntKind.i64.wrap (e + IntKind.i64.wrap (f * IntKind.i64.wrap (h + 2)))))))) [] [])))))))))))))))) = _ by kernel_rfl) ?_⟩
  rw [wrap_id (x := a + b) (by omega) (by omega), wrap_id (x := a + b + c) (by omega) (by omega), wrap_id (x := a + b + c + m) (by omega) (by omega)]
  refine brS_of (fun q => by have := of_decide_eq_true q; omega) fun _ => brS_of (fun q => by have : a > 65536 := of_decide_eq_true q; omega) fun _ => brS_of (fun q => by have := of_decide_eq_true q; omega) fun _ => brS_of (fun q => by have : b > 65536 := of_decide_eq_true q; omega) fun _ =>
    brS_of (fun q => by have := of_decide_eq_true q; omega) fun _ => brS_of (fun q => by have : c > 65536 := of_decide_eq_true q; omega) fun _ => ⟨by omega, by omega, fun p ep => ?_⟩
  have r := Hn_rng (a + b + c + m)
  subst ep
  have hb : f * (Hn (a + b + c + m) + 2) ≤ 100 * 82 := Int.mul_le_mul f2 (by omega) (by omega) (by omega)
  have ha : 0 ≤ f * (Hn (a + b + c + m) + 2) := Int.mul_nonneg f1 (by omega)
  rw [wrap_id (x := Hn (a + b + c + m) + 2) (by omega) (by omega), wrap_id (x := f * (Hn (a + b + c + m) + 2)) (by omega) (by omega), wrap_id (by omega) (by omega)]
  exact h _ rfl
theorem s_nIns : SoundT C0 16 (tRes1 4 1) := by
  refine .of Try.func16 (by decide) rfl fun args H K h hB => ?_
  unfold tRes1 at h
  split at h <;> try exact h.elim
  rename_i n
  obtain ⟨h1, h2, h3⟩ := h
  refine ⟨aN8, ⟨frame C0.ok s_need _, trivial⟩, Eq.mp (show ((0 ≤ n) ∧
(n ≤ 65536) ∧
((0 : Int) ≤ 0) ∧
((0 : Int) ≤ 65536) ∧
((0 : Int) ≤ 0) ∧
((0 : Int) ≤ 65536) ∧
((0 : Int) ≤ 1) ∧
((1 : Int) ≤ 10) ∧
((0 : Int) ≤ 0) ∧
((0 : Int) ≤ 200000) ∧
((0 : Int) ≤ 4) ∧
((4 : Int) ≤ 100) ∧
(∀ p : Int, (((p) = (0 + 4 * (Hn (n + 0 + 0 + 1) + 2))) → (K (SV.one (TV.at (At.val (Value.int IntKind.i64 (p))))) [] [])))) = _ by kernel_rfl) ?_⟩
  exact ⟨h1, h2, by decide, by decide, by decide, by decide, by decide, by decide, by decide, by decide, by decide, by decide, fun p e => h3 p (by rw [e]; simp)⟩
theorem s_nDel : SoundT C0 40 (tRes1 4 0) := by
  refine .of Try.func40 (by decide) rfl fun args H K h hB => ?_
  unfold tRes1 at h
  split at h <;> try exact h.elim
  rename_i n
  obtain ⟨h1, h2, h3⟩ := h
  refine ⟨aN8, ⟨frame C0.ok s_need _, trivial⟩, Eq.mp (show ((0 ≤ n) ∧
(n ≤ 65536) ∧
((0 : Int) ≤ 0) ∧
((0 : Int) ≤ 65536) ∧
((0 : Int) ≤ 0) ∧
((0 : Int) ≤ 65536) ∧
((0 : Int) ≤ 0) ∧
((0 : Int) ≤ 10) ∧
((0 : Int) ≤ 0) ∧
((0 : Int) ≤ 200000) ∧
((0 : Int) ≤ 4) ∧
((4 : Int) ≤ 100) ∧
(∀ p : Int, (((p) = (0 + 4 * (Hn (n + 0 + 0 + 0) + 2))) → (K (SV.one (TV.at (At.val (Value.int IntKind.i64 (p))))) [] [])))) = _ by kernel_rfl) ?_⟩
  exact ⟨h1, h2, by decide, by decide, by decide, by decide, by decide, by decide, by decide, by decide, by decide, by decide, fun p e => h3 p (by rw [e]; simp)⟩
theorem s_nSpl : SoundT C0 50 (tRes1 12 0) := by
  refine .of Try.func50 (by decide) rfl fun args H K h hB => ?_
  unfold tRes1 at h
  split at h <;> try exact h.elim
  rename_i n
  obtain ⟨h1, h2, h3⟩ := h
  refine ⟨aN8, ⟨frame C0.ok s_need _, trivial⟩, Eq.mp (show ((0 ≤ n) ∧
(n ≤ 65536) ∧
((0 : Int) ≤ 0) ∧
((0 : Int) ≤ 65536) ∧
((0 : Int) ≤ 0) ∧
((0 : Int) ≤ 65536) ∧
((0 : Int) ≤ 0) ∧
((0 : Int) ≤ 10) ∧
((0 : Int) ≤ 0) ∧
((0 : Int) ≤ 200000) ∧
((0 : Int) ≤ 12) ∧
((12 : Int) ≤ 100) ∧
(∀ p : Int, (((p) = (0 + 12 * (Hn (n + 0 + 0 + 0) + 2))) → (K (SV.one (TV.at (At.val (Value.int IntKind.i64 (p))))) [] [])))) = _ by kernel_rfl) ?_⟩
  exact ⟨h1, h2, by decide, by decide, by decide, by decide, by decide, by decide, by decide, by decide, by decide, by decide, fun p e => h3 p (by rw [e]; simp)⟩
theorem s_nJn : SoundT C0 45 tRes2 := by
  refine .of Try.func45 (by decide) rfl fun args H K h hB => ?_
  unfold tRes2 at h
  split at h <;> try exact h.elim
  rename_i n m
  obtain ⟨h1, h2, h3, h4, h5⟩ := h
  refine ⟨aN8, ⟨frame C0.ok s_need _, trivial⟩, Eq.mp (show ((0 ≤ n) ∧
(n ≤ 65536) ∧
(0 ≤ m) ∧
(m ≤ 65536) ∧
((0 : Int) ≤ 0) ∧
((0 : Int) ≤ 65536) ∧
((0 : Int) ≤ 1) ∧
((1 : Int) ≤ 10) ∧
((0 : Int) ≤ 0) ∧
((0 : Int) ≤ 200000) ∧
((0 : Int) ≤ 4) ∧
((4 : Int) ≤ 100) ∧
(∀ p : Int, (((p) = (0 + 4 * (Hn (n + m + 0 + 1) + 2))) → (K (SV.one (TV.at (At.val (Value.int IntKind.i64 (p))))) [] [])))) = _ by kernel_rfl) ?_⟩
  exact ⟨h1, h2, h3, h4, by decide, by decide, by decide, by decide, by decide, by decide, by decide, by decide, fun p e => h5 p (by rw [e]; simp)⟩
end Go.Proofs.Ytjbkckcjmmmooaa.Sx
end
section
/- The first and the last entry of a tree. -/
namespace Go.Proofs.Ytjbkckcjmmmooaa.Sx
open Go

/-KEEP Wf exW inU live Arn.cap Arn.free Rep rdS Tr.size Tr.list ht entO List.head? List.getLast?-/
def tEvery : Tfm C0 := fun args H K => match args, H with
  | [.at (.val (.int .i64 _))], [] => K (.one (.at (vB true))) [] []
  | _, _ => False
theorem s_every : SoundT C0 114 tEvery := by
  refine .of Try.func114 (by decide) rfl fun args H K h hB => ⟨A0, trivial, ?_⟩
  unfold tEvery at h
  split at h <;> try exact h.elim
  exact Eq.mp (show _ = _ by kernel_rfl) h
structure XNfst (S : Arn) (t : Tr) where
  i : Int
  t' : Tr
  b : Option Ent
  m : Nat
  h : Rep S t' i ∧ (t'.list.head?).or b = t.list.head? ∧ m + ht t' ≤ ht t ∧ t'.size ≤ t.size
theorem step_fst (l r : Tr) (k v : Int) (b : Option Ent) : ((Tr.node l k v r).list.head?).or b = (l.list.head?).or (some (k, v)) := by
  have e : (Tr.node l k v r).list = l.list ++ (k, v) :: r.list := rfl
  rw [e]
  cases l.list <;> simp
noncomputable def aNfst (S : Arn) (t : Tr) : Ann C0 := { Γ := [(49, frameT [] tNode), (114, frameT [] tEvery), (132, frameT [] tEntry)], inv := fun n => match n with
  | 4 => some { X := XNfst S t, sl := [10, 9, 8, 6], tf := fun x => [vi .u32 x.i, vb x.b.isSome, .one (.at (.ptr 7 0)), .one (.at (.ptr 8 0))], hf := fun x => chS (rdS S x.m) ++ [.box [vI (x.b.getD (0, 0)).1, vI (x.b.getD (0, 0)).2], .box [vI 0, vI 0]], μ := fun x => x.t'.size, wr := [0] }
  | _ => none }
def tNfst : Tfm C0 := fun args H K => match args with
  | [.at (.ptr 0 0), .at (.val (.int .u32 i)), .at (.fn 114 [])] => arM H fun S => ∃ hs t, Wf S hs ∧ Rep S t i ∧ t.size ≤ 1000000 ∧ S.reads + t.size ≤ 3000000000000000000 ∧
    ∀ S' m o, S' = rdS S m → m ≤ ht t → o = t.list.head? → K (.tup [entO o, .at (vB o.isSome)]) (chS S') [0]
  | _ => False
noncomputable def aLfst : Ann C0 := { Γ := [(113, frameT [] tNfst)] }
def tLfst : Tfm C0 := fun args H K => match args with
  | [.at (.ptr 0 0), .at (.val (.int .u32 i))] => arM H fun S => ∃ hs t, Wf S hs ∧ Rep S t i ∧ t.size ≤ 1000000 ∧ S.reads + t.size ≤ 3000000000000000000 ∧
    ∀ S' m o, S' = rdS S m → m ≤ ht t → o = t.list.head? → K (.tup [entO o, .at (vB o.isSome)]) (chS S') [0]
  | _ => False
theorem vc_nfst (S : Arn) (i : Int) (K : KT) (hs : List Int) (t : Tr) (hw : Wf S hs) (hr : Rep S t i) (h1 : t.size ≤ 1000000) (h2 : S.reads + t.size ≤ 3000000000000000000)
    (h : ∀ S' m o, S' = rdS S m → m ≤ ht t → o = t.list.head? → K (.tup [entO o, .at (vB o.isSome)]) (chS S') [0]) :
    vc C0 (aNfst S t) Try.f113 [.at (.ptr 0 0), .at (vU i), .at (.fn 114 [])] (chS S) (normK 7 (wideK [0] K)) := by
  refine Eq.mp (show ((∃ x : XNfst S t, (True ∧ (True ∧ ((At.fn 114 []) = (At.fn 114 [])) ∧ True ∧ True ∧ ((Value.bool false) = (Value.bool (x.b.isSome))) ∧ ((Value.int IntKind.u32 (i)) = (Value.int IntKind.u32 (x.i))) ∧ True) ∧ (True ∧ True ∧ True ∧ ((Value.int IntKind.u64 (S.reads)) = (Value.int IntKind.u64 ((rdS S x.m).reads))) ∧ True) ∧ (True ∧ True ∧ True ∧ ((Value.int IntKind.u32 (S.fresh)) = (Value.int IntKind.u32 ((rdS S x.m).fresh))) ∧ True) ∧ ((S.nodes) = ((rdS S x.m).nodes)) ∧ ((S.counts) = ((rdS S x.m).counts)) ∧ ((S.used) = ((rdS S x.m).used)) ∧ ((S.gen) = ((rdS S x.m).gen)) ∧ ((S.rel) = ((rdS S x.m).rel)) ∧ (((Value.int IntKind.i64 0) = (Value.int IntKind.i64 ((x.b.getD (0, 0)).fst))) ∧ ((Value.int IntKind.i64 0) = (Value.int IntKind.i64 ((x.b.getD (0, 0)).snd))) ∧ True) ∧ (((Value.int IntKind.i64 0) = (Value.int IntKind.i64 0)) ∧ ((Value.int IntKind.i64 0) = (Value.int IntKind.i64 0)) ∧ True) ∧ True)) ∧
(∀ x : XNfst S t, (True → (brS (x.i != 0) (((inU x.i) ∧ (exW (rdS S x.m)) ∧ ((rdS S x.m).reads < 4000000000000000000) ∧ (∀ S' : Arn, (((S') = (rdS (rdS S x.m) ((rdS S x.m).us x.i).toNat)) → (brS (!(rdS S x.m).us x.i)
    ((K (SV.tup [(TV.agg [(At.val (Value.int IntKind.i64 ((x.b.getD (0, 0)).fst))), (At.val (Value.int IntKind.i64 ((x.b.getD (0, 0)).snd)))]), (TV.at (At.val (Value.bool (x.b.isSome))))]) [(Chunk.box [(At.ptr 1 0), (At.slc 2), (At.slc 3), (At.val (Value.int IntKind.u64 (S'.reads)))]), (Chunk.box [(At.slc 4), (At.slc 5), (At.slc 6), (At.val (Value.int IntKind.u32 (S'.fresh)))]), (Chunk.row true (EC.node) (S'.nodes)), (Chunk.row true (EC.int) (S'.counts)), (Chunk.row true (EC.bool) (S'.used)), (Chunk.row true (EC.u32) (S'.gen)), (Chunk.row true (EC.u32) (S'.rel))] [0])) ((∃ x' : XNfst S t, (True ∧ ((True ∧ ((At.fn 114 []) = (At.fn 114 [])) ∧ True ∧ True ∧ ((Value.bool true) = (Value.bool (x'.b.isSome))) ∧ ((Value.int IntKind.u32 (((rdS S x.m).nd x.i).left)) = (Value.int IntKind.u32 (x'.i))) ∧ True) ∧ (True ∧ True ∧ True ∧ ((Value.int IntKind.u64 (S'.reads)) = (Value.int IntKind.u64 ((rdS S x'.m).reads))) ∧ True) ∧ (True ∧ True ∧ True ∧ ((Value.int IntKind.u32 (S'.fresh)) = (Value.int IntKind.u32 ((rdS S x'.m).fresh))) ∧ True) ∧ ((S'.nodes) = ((rdS S x'.m).nodes)) ∧ ((S'.counts) = ((rdS S x'.m).counts)) ∧ ((S'.used) = ((rdS S x'.m).used)) ∧ ((S'.gen) = ((rdS S x'.m).gen)) ∧ ((S'.rel) = ((rdS S x'.m).rel)) ∧ (((Value.int IntKind.i64 (((rdS S x.m).nd x.i).key)) = (Value.int IntKind.i64 ((x'.b.getD (0, 0)).fst))) ∧ ((Value.int IntKind.i64 (((rdS S x.m).nd x.i).value)) = (Value.int IntKind.i64 ((x'.b.getD (0, 0)).snd))) ∧ True) ∧
    (((Value.int IntKind.i64 0) = (Value.int IntKind.i64 0)) ∧ ((Value.int IntKind.i64 0) = (Value.int IntKind.i64 0)) ∧ True) ∧ True) ∧ (x'.t'.size < x.t'.size))))))))) ((K (SV.tup [(TV.agg [(At.val (Value.int IntKind.i64 ((x.b.getD (0, 0)).fst))), (At.val (Value.int IntKind.i64 ((x.b.getD (0, 0)).snd)))]), (TV.at (At.val (Value.bool (x.b.isSome))))]) [(Chunk.box [(At.ptr 1 0), (At.slc 2), (At.slc 3), (At.val (Value.int IntKind.u64 ((rdS S x.m).reads)))]), (Chunk.box [(At.slc 4), (At.slc 5), (At.slc 6), (At.val (Value.int IntKind.u32 ((rdS S x.m).fresh)))]), (Chunk.row true (EC.node) ((rdS S x.m).nodes)), (Chunk.row true (EC.int) ((rdS S x.m).counts)), (Chunk.row true (EC.bool) ((rdS S x.m).used)), (Chunk.row true (EC.u32) ((rdS S x.m).gen)), (Chunk.row true (EC.u32) ((rdS S x.m).rel))] [0])))))) = _ by kernel_rfl) ?_
  have hrd := hw.rds
  have hb := htr_size t
  refine ⟨⟨⟨i, t, none, 0, hr, by simp, by omega, Nat.le_refl _⟩, ?_⟩, fun x _ => ?_⟩
  · (repeat' first | exact trivial | exact rfl | refine And.intro ?_ ?_)
    rw [rdS_zero]
  obtain ⟨xi, xt, xb, xm, h1', hb2, h3, h4⟩ := x
  dsimp only
  have hwx : Wf (rdS S xm) hs := hw.rd (by omega)
  refine brS_of (fun c => ?_) fun c => ?_
  · have c : xi ≠ 0 := by simpa using c
    cases xt with
    | nil => exact absurd h1' c
    | node l k v r =>
      obtain ⟨r1, r2, r3, r4, r5⟩ := h1'
      have hsz : l.size + r.size + 1 = (Tr.node l k v r).size := by simp [Tr.size]; omega
      have q1 := ht_l l r k v
      refine ⟨inU_of hw (.inr r1), ⟨_, hwx⟩, by show S.reads + (xm : Int) < _; omega, fun S1 e1 => brS_of (fun d => ?_) fun _ => ?_⟩
      · have d : (!S.us xi) = true := d
        have d : S.us xi = false := by simpa using d
        rw [r1] at d; cases d
      have e1 : S1 = rdS S (xm + 1) := by rw [e1, rdS_rdS]; show rdS S (xm + (S.us xi).toNat) = _; rw [r1]; rfl
      subst e1
      have ek : ((rdS S xm).nd xi).key = k := r2
      have ev : ((rdS S xm).nd xi).value = v := r3
      rw [ek, ev]
      refine ⟨⟨(S.nd xi).left, l, some (k, v), xm + 1, r4, by rw [← hb2, step_fst], by omega, by omega⟩, ?_⟩
      (repeat' first | exact trivial | exact rfl | refine And.intro ?_ ?_)
      show l.size < (Tr.node l k v r).size; omega
  · have c : xi = 0 := by simpa using c
    subst c
    have e := h1'.zero hw
    subst e
    exact h _ xm xb rfl (by omega) (by rw [← hb2]; simp [Tr.list])
theorem s_nfst : SoundT C0 113 tNfst := by
  refine .ofW [0] Try.func113 (by decide) rfl fun args H K h hB => ?_
  unfold tNfst at h
  split at h <;> try exact h.elim
  unfold arM at h
  split at h <;> try exact h.elim
  rename_i i _ rd fr nd ct us gn rl
  obtain ⟨hs, t, h1, h2, h3, h4, h5⟩ := h
  exact ⟨aNfst ⟨us, gn, rl, fr, nd, ct, rd⟩ t, ⟨frame C0.ok s_node _, frame C0.ok s_every _, frame C0.ok s_entry _, trivial⟩, vc_nfst ⟨us, gn, rl, fr, nd, ct, rd⟩ i K hs t h1 h2 h3 h4 h5⟩
theorem s_lfst : SoundT C0 86 tLfst := by
  refine .ofW [0] Try.func86 (by decide) rfl fun args H K h hB => ?_
  unfold tLfst at h
  split at h <;> try exact h.elim
  unfold arM at h
  split at h <;> try exact h.elim
  rename_i i _ rd fr nd ct us gn rl
  have key : ∀ S : Arn, (∃ hs t, Wf S hs ∧ Rep S t i ∧ t.size ≤ 1000000 ∧ S.reads + t.size ≤ 3000000000000000000 ∧
    ∀ S' m o, S' = rdS S m → m ≤ ht t → o = t.list.head? → K (.tup [entO o, .at (vB o.isSome)]) (chS S') [0]) → vc C0 aLfst Try.f86 [.at (.ptr 0 0), .at (vU i)] (chS S) (normK 7 (wideK [0] K)) := fun S h => Eq.mp (show (∃ hs : List Int, (∃ t : Tr, ((Wf S hs) ∧ (Rep S t i) ∧ (t.size ≤ 1000000) ∧ (S.reads + (↑t.size : Int) ≤ 3000000000000000000) ∧ (∀ S' : Arn, (∀ m : Nat, (∀ o : Option Ent, (((S') = (rdS S m)) → ((m ≤ ht t) → (((o) = (t.list.head?)) → (K (SV.tup [(TV.agg [(At.val (Value.int IntKind.i64 ((o.getD (0, 0)).fst))), (At.val (Value.int IntKind.i64 ((o.getD (0, 0)).snd)))]), (TV.at (At.val (Value.bool (o.isSome))))]) [(Chunk.box [(At.ptr 1 0), (At.slc 2), (At.slc 3), (At.val (Value.int IntKind.u64 (S'.reads)))]), (Chunk.box [(At.slc 4), (At.slc 5), (At.slc 6), (At.val (Value.int IntKind.u32 (S'.fresh)))]), (Chunk.row true (EC.node) (S'.nodes)), (Chunk.row true (EC.int) (S'.counts)), (Chunk.row true (EC.bool) (S'.used)), (Chunk.row true (EC.u32) (S'.gen)), (Chunk.row true (EC.u32) (S'.rel))] [0])))))))))) = _ by kernel_rfl) h
  exact ⟨aLfst, ⟨frame C0.ok s_nfst _, trivial⟩, key ⟨us, gn, rl, fr, nd, ct, rd⟩ h⟩
structure XNlst (S : Arn) (t : Tr) where
  i : Int
  t' : Tr
  b : Option Ent
  m : Nat
  h : Rep S t' i ∧ (t'.list.getLast?).or b = t.list.getLast? ∧ m + ht t' ≤ ht t ∧ t'.size ≤ t.size
theorem step_lst (l r : Tr) (k v : Int) (b : Option Ent) : ((Tr.node l k v r).list.getLast?).or b = (r.list.getLast?).or (some (k, v)) := by
  have e : (Tr.node l k v r).list = l.list ++ (k, v) :: r.list := rfl
  rw [e]
  rw [List.getLast?_append, List.getLast?_cons]; cases r.list.getLast? <;> simp
noncomputable def aNlst (S : Arn) (t : Tr) : Ann C0 := { Γ := [(49, frameT [] tNode), (114, frameT [] tEvery), (132, frameT [] tEntry)], inv := fun n => match n with
  | 4 => some { X := XNlst S t, sl := [10, 9, 8, 6], tf := fun x => [vi .u32 x.i, vb x.b.isSome, .one (.at (.ptr 7 0)), .one (.at (.ptr 8 0))], hf := fun x => chS (rdS S x.m) ++ [.box [vI (x.b.getD (0, 0)).1, vI (x.b.getD (0, 0)).2], .box [vI 0, vI 0]], μ := fun x => x.t'.size, wr := [0] }
  | _ => none }
def tNlst : Tfm C0 := fun args H K => match args with
  | [.at (.ptr 0 0), .at (.val (.int .u32 i)), .at (.fn 114 [])] => arM H fun S => ∃ hs t, Wf S hs ∧ Rep S t i ∧ t.size ≤ 1000000 ∧ S.reads + t.size ≤ 3000000000000000000 ∧
    ∀ S' m o, S' = rdS S m → m ≤ ht t → o = t.list.getLast? → K (.tup [entO o, .at (vB o.isSome)]) (chS S') [0]
  | _ => False
noncomputable def aLlst : Ann C0 := { Γ := [(115, frameT [] tNlst)] }
def tLlst : Tfm C0 := fun args H K => match args with
  | [.at (.ptr 0 0), .at (.val (.int .u32 i))] => arM H fun S => ∃ hs t, Wf S hs ∧ Rep S t i ∧ t.size ≤ 1000000 ∧ S.reads + t.size ≤ 3000000000000000000 ∧
    ∀ S' m o, S' = rdS S m → m ≤ ht t → o = t.list.getLast? → K (.tup [entO o, .at (vB o.isSome)]) (chS S') [0]
  | _ => False
theorem vc_nlst (S : Arn) (i : Int) (K : KT) (hs : List Int) (t : Tr) (hw : Wf S hs) (hr : Rep S t i) (h1 : t.size ≤ 1000000) (h2 : S.reads + t.size ≤ 3000000000000000000)
    (h : ∀ S' m o, S' = rdS S m → m ≤ ht t → o = t.list.getLast? → K (.tup [entO o, .at (vB o.isSome)]) (chS S') [0]) :
    vc C0 (aNlst S t) Try.f115 [.at (.ptr 0 0), .at (vU i), .at (.fn 114 [])] (chS S) (normK 7 (wideK [0] K)) := by
  refine Eq.mp (show ((∃ x : XNlst S t, (True ∧ (True ∧ ((At.fn 114 []) = (At.fn 114 [])) ∧ True ∧ True ∧ ((Value.bool false) = (Value.bool (x.b.isSome))) ∧ ((Value.int IntKind.u32 (i)) = (Value.int IntKind.u32 (x.i))) ∧ True) ∧ (True ∧ True ∧ True ∧ ((Value.int IntKind.u64 (S.reads)) = (Value.int IntKind.u64 ((rdS S x.m).reads))) ∧ True) ∧ (True ∧ True ∧ True ∧ ((Value.int IntKind.u32 (S.fresh)) = (Value.int IntKind.u32 ((rdS S x.m).fresh))) ∧ True) ∧ ((S.nodes) = ((rdS S x.m).nodes)) ∧ ((S.counts) = ((rdS S x.m).counts)) ∧ ((S.used) = ((rdS S x.m).used)) ∧ ((S.gen) = ((rdS S x.m).gen)) ∧ ((S.rel) = ((rdS S x.m).rel)) ∧ (((Value.int IntKind.i64 0) = (Value.int IntKind.i64 ((x.b.getD (0, 0)).fst))) ∧ ((Value.int IntKind.i64 0) = (Value.int IntKind.i64 ((x.b.getD (0, 0)).snd))) ∧ True) ∧ (((Value.int IntKind.i64 0) = (Value.int IntKind.i64 0)) ∧ ((Value.int IntKind.i64 0) = (Value.int IntKind.i64 0)) ∧ True) ∧ True)) ∧
(∀ x : XNlst S t, (True → (brS (x.i != 0) (((inU x.i) ∧ (exW (rdS S x.m)) ∧ ((rdS S x.m).reads < 4000000000000000000) ∧ (∀ S' : Arn, (((S') = (rdS (rdS S x.m) ((rdS S x.m).us x.i).toNat)) → (brS (!(rdS S x.m).us x.i)
    ((K (SV.tup [(TV.agg [(At.val (Value.int IntKind.i64 ((x.b.getD (0, 0)).fst))), (At.val (Value.int IntKind.i64 ((x.b.getD (0, 0)).snd)))]), (TV.at (At.val (Value.bool (x.b.isSome))))]) [(Chunk.box [(At.ptr 1 0), (At.slc 2), (At.slc 3), (At.val (Value.int IntKind.u64 (S'.reads)))]), (Chunk.box [(At.slc 4), (At.slc 5), (At.slc 6), (At.val (Value.int IntKind.u32 (S'.fresh)))]), (Chunk.row true (EC.node) (S'.nodes)), (Chunk.row true (EC.int) (S'.counts)), (Chunk.row true (EC.bool) (S'.used)), (Chunk.row true (EC.u32) (S'.gen)), (Chunk.row true (EC.u32) (S'.rel))] [0])) ((∃ x' : XNlst S t, (True ∧ ((True ∧ ((At.fn 114 []) = (At.fn 114 [])) ∧ True ∧ True ∧ ((Value.bool true) = (Value.bool (x'.b.isSome))) ∧ ((Value.int IntKind.u32 (((rdS S x.m).nd x.i).right)) = (Value.int IntKind.u32 (x'.i))) ∧ True) ∧ (True ∧ True ∧ True ∧ ((Value.int IntKind.u64 (S'.reads)) = (Value.int IntKind.u64 ((rdS S x'.m).reads))) ∧ True) ∧ (True ∧ True ∧ True ∧ ((Value.int IntKind.u32 (S'.fresh)) = (Value.int IntKind.u32 ((rdS S x'.m).fresh))) ∧ True) ∧ ((S'.nodes) = ((rdS S x'.m).nodes)) ∧ ((S'.counts) = ((rdS S x'.m).counts)) ∧ ((S'.used) = ((rdS S x'.m).used)) ∧ ((S'.gen) = ((rdS S x'.m).gen)) ∧ ((S'.rel) = ((rdS S x'.m).rel)) ∧ (((Value.int IntKind.i64 (((rdS S x.m).nd x.i).key)) = (Value.int IntKind.i64 ((x'.b.getD (0, 0)).fst))) ∧ ((Value.int IntKind.i64 (((rdS S x.m).nd x.i).value)) = (Value.int IntKind.i64 ((x'.b.getD (0, 0)).snd))) ∧ True) ∧
    (((Value.int IntKind.i64 0) = (Value.int IntKind.i64 0)) ∧ ((Value.int IntKind.i64 0) = (Value.int IntKind.i64 0)) ∧ True) ∧ True) ∧ (x'.t'.size < x.t'.size))))))))) ((K (SV.tup [(TV.agg [(At.val (Value.int IntKind.i64 ((x.b.getD (0, 0)).fst))), (At.val (Value.int IntKind.i64 ((x.b.getD (0, 0)).snd)))]), (TV.at (At.val (Value.bool (x.b.isSome))))]) [(Chunk.box [(At.ptr 1 0), (At.slc 2), (At.slc 3), (At.val (Value.int IntKind.u64 ((rdS S x.m).reads)))]), (Chunk.box [(At.slc 4), (At.slc 5), (At.slc 6), (At.val (Value.int IntKind.u32 ((rdS S x.m).fresh)))]), (Chunk.row true (EC.node) ((rdS S x.m).nodes)), (Chunk.row true (EC.int) ((rdS S x.m).counts)), (Chunk.row true (EC.bool) ((rdS S x.m).used)), (Chunk.row true (EC.u32) ((rdS S x.m).gen)), (Chunk.row true (EC.u32) ((rdS S x.m).rel))] [0])))))) = _ by kernel_rfl) ?_
  have hrd := hw.rds
  have hb := htr_size t
  refine ⟨⟨⟨i, t, none, 0, hr, by simp, by omega, Nat.le_refl _⟩, ?_⟩, fun x _ => ?_⟩
  · (repeat' first | exact trivial | exact rfl | refine And.intro ?_ ?_)
    rw [rdS_zero]
  obtain ⟨xi, xt, xb, xm, h1', hb2, h3, h4⟩ := x
  dsimp only
  have hwx : Wf (rdS S xm) hs := hw.rd (by omega)
  refine brS_of (fun c => ?_) fun c => ?_
  · have c : xi ≠ 0 := by simpa using c
    cases xt with
    | nil => exact absurd h1' c
    | node l k v r =>
      obtain ⟨r1, r2, r3, r4, r5⟩ := h1'
      have hsz : l.size + r.size + 1 = (Tr.node l k v r).size := by simp [Tr.size]; omega
      have q1 := ht_r l r k v
      refine ⟨inU_of hw (.inr r1), ⟨_, hwx⟩, by show S.reads + (xm : Int) < _; omega, fun S1 e1 => brS_of (fun d => ?_) fun _ => ?_⟩
      · have d : (!S.us xi) = true := d
        have d : S.us xi = false := by simpa using d
        rw [r1] at d; cases d
      have e1 : S1 = rdS S (xm + 1) := by rw [e1, rdS_rdS]; show rdS S (xm + (S.us xi).toNat) = _; rw [r1]; rfl
      subst e1
      have ek : ((rdS S xm).nd xi).key = k := r2
      have ev : ((rdS S xm).nd xi).value = v := r3
      rw [ek, ev]
      refine ⟨⟨(S.nd xi).right, r, some (k, v), xm + 1, r5, by rw [← hb2, step_lst], by omega, by omega⟩, ?_⟩
      (repeat' first | exact trivial | exact rfl | refine And.intro ?_ ?_)
      show r.size < (Tr.node l k v r).size; omega
  · have c : xi = 0 := by simpa using c
    subst c
    have e := h1'.zero hw
    subst e
    exact h _ xm xb rfl (by omega) (by rw [← hb2]; simp [Tr.list])
theorem s_nlst : SoundT C0 115 tNlst := by
  refine .ofW [0] Try.func115 (by decide) rfl fun args H K h hB => ?_
  unfold tNlst at h
  split at h <;> try exact h.elim
  unfold arM at h
  split at h <;> try exact h.elim
  rename_i i _ rd fr nd ct us gn rl
  obtain ⟨hs, t, h1, h2, h3, h4, h5⟩ := h
  exact ⟨aNlst ⟨us, gn, rl, fr, nd, ct, rd⟩ t, ⟨frame C0.ok s_node _, frame C0.ok s_every _, frame C0.ok s_entry _, trivial⟩, vc_nlst ⟨us, gn, rl, fr, nd, ct, rd⟩ i K hs t h1 h2 h3 h4 h5⟩
theorem s_llst : SoundT C0 87 tLlst := by
  refine .ofW [0] Try.func87 (by decide) rfl fun args H K h hB => ?_
  unfold tLlst at h
  split at h <;> try exact h.elim
  unfold arM at h
  split at h <;> try exact h.elim
  rename_i i _ rd fr nd ct us gn rl
  have key : ∀ S : Arn, (∃ hs t, Wf S hs ∧ Rep S t i ∧ t.size ≤ 1000000 ∧ S.reads + t.size ≤ 3000000000000000000 ∧
    ∀ S' m o, S' = rdS S m → m ≤ ht t → o = t.list.getLast? → K (.tup [entO o, .at (vB o.isSome)]) (chS S') [0]) → vc C0 aLlst Try.f87 [.at (.ptr 0 0), .at (vU i)] (chS S) (normK 7 (wideK [0] K)) := fun S h => Eq.mp (show (∃ hs : List Int, (∃ t : Tr, ((Wf S hs) ∧ (Rep S t i) ∧ (t.size ≤ 1000000) ∧ (S.reads + (↑t.size : Int) ≤ 3000000000000000000) ∧ (∀ S' : Arn, (∀ m : Nat, (∀ o : Option Ent, (((S') = (rdS S m)) → ((m ≤ ht t) → (((o) = (t.list.getLast?)) → (K (SV.tup [(TV.agg [(At.val (Value.int IntKind.i64 ((o.getD (0, 0)).fst))), (At.val (Value.int IntKind.i64 ((o.getD (0, 0)).snd)))]), (TV.at (At.val (Value.bool (o.isSome))))]) [(Chunk.box [(At.ptr 1 0), (At.slc 2), (At.slc 3), (At.val (Value.int IntKind.u64 (S'.reads)))]), (Chunk.box [(At.slc 4), (At.slc 5), (At.slc 6), (At.val (Value.int IntKind.u32 (S'.fresh)))]), (Chunk.row true (EC.node) (S'.nodes)), (Chunk.row true (EC.int) (S'.counts)), (Chunk.row true (EC.bool) (S'.used)), (Chunk.row true (EC.u32) (S'.gen)), (Chunk.row true (EC.u32) (S'.rel))] [0])))))))))) = _ by kernel_rfl) h
  exact ⟨aLlst, ⟨frame C0.ok s_nlst _, trivial⟩, key ⟨us, gn, rl, fr, nd, ct, rd⟩ h⟩
end Go.Proofs.Ytjbkckcjmmmooaa.Sx
end
section
/- Plain laws of patches: apply, compose, rebase, invert. No program in sight. -/
namespace Go.Proofs.Ytjbkckcjmmmooaa

/-! ### Apply -/
def optE (k : Int) (v : Option Int) : List Ent := (v.map fun v => (k, v)).toList

def appGo : List (Option Ent × Option Chg) → Option (List Ent)
  | [] => some []
  | (x, none) :: t => (appGo t).map (x.toList ++ ·)
  | (x, some c) :: t => if x.map Prod.snd = c.before then (appGo t).map (optE c.key c.after ++ ·) else none

/-- What applying comes to: the list, if the patch fits. -/
def app (l : List Ent) (p : List Chg) : Option (List Ent) := appGo (pEC l p)

/-- What is still to be made, behind what has been made. -/
def AppAt (l : List Ent) (p : List Chg) (i k : Nat) (acc : List Ent) : Prop := app l p = (appGo (pEC (l.drop i) (p.drop k))).map (acc ++ ·)
theorem AppAt.start (l : List Ent) (p : List Chg) : AppAt l p 0 0 [] := by
  unfold AppAt app; rw [List.drop_zero, List.drop_zero]; cases appGo (pEC l p) <;> rfl
theorem appGo_keep {l' : List Ent} {p' : List Chg} {x : Ent} {c : Chg} (h : x.1 < c.key) : appGo (pEC (x :: l') (c :: p')) = (appGo (pEC l' (c :: p'))).map (x :: ·) := by
  show appGo (pairs Prod.fst Chg.key (x :: l') (c :: p')) = _
  rw [pairs, if_pos h]; rfl
theorem AppAt.keep {l : List Ent} {p : List Chg} {i k : Nat} {acc : List Ent} {x : Ent} {c : Chg} (h : AppAt l p i k acc) (hl : l.drop i = x :: l.drop (i + 1)) (hp : p.drop k = c :: p.drop (k + 1)) (hlt : x.1 < c.key) : AppAt l p (i + 1) k (acc ++ [x]) := by
  unfold AppAt at *
  rw [h, hl, hp, appGo_keep hlt, ← hp, Option.map_map]
  congr 1
  funext t; simp
/-- The element at i, if it has the key of the change. -/
def at1 (l : List Ent) (i : Nat) (q : Int) : Option Ent := match l[i]? with
  | some x => if x.1 = q then some x else none
  | none => none
theorem AppAt.take {l : List Ent} {p : List Chg} {i k : Nat} {acc : List Ent} {x : Ent} {c : Chg} (h : AppAt l p i k acc) (hl : l.drop i = x :: l.drop (i + 1)) (hp : p.drop k = c :: p.drop (k + 1)) (he : x.1 = c.key) :
    if some x.2 = c.before then AppAt l p (i + 1) (k + 1) (acc ++ optE c.key c.after) else app l p = none := by
  have e : pEC (x :: l.drop (i + 1)) (c :: p.drop (k + 1)) = (some x, some c) :: pEC (l.drop (i + 1)) (p.drop (k + 1)) := by
    show pairs Prod.fst Chg.key _ _ = _
    rw [pairs, if_neg (by omega), if_neg (by omega)]
  split
  · rename_i hb
    unfold AppAt at *
    rw [h, hl, hp, e]
    simp only [appGo, Option.map_some, hb, if_true, Option.map_map]
    congr 1
    funext t; simp
  · rename_i hb
    unfold AppAt at h
    rw [h, hl, hp, e]
    simp only [appGo, Option.map_some, hb, if_false, Option.map_none]
theorem AppAt.new {l : List Ent} {p : List Chg} {i k : Nat} {acc : List Ent} {c : Chg} (h : AppAt l p i k acc) (hl : l.drop i = [] ∨ ∃ x t, l.drop i = x :: t ∧ c.key < x.1) (hp : p.drop k = c :: p.drop (k + 1)) :
    if none = c.before then AppAt l p i (k + 1) (acc ++ optE c.key c.after) else app l p = none := by
  have e : pEC (l.drop i) (c :: p.drop (k + 1)) = (none, some c) :: pEC (l.drop i) (p.drop (k + 1)) := by
    show pairs Prod.fst Chg.key _ _ = _ :: pairs Prod.fst Chg.key _ _
    rcases hl with hl | ⟨x, t, hl, hlt⟩
    · rw [hl, pairs]
    · rw [hl, pairs, if_neg (by omega), if_pos hlt]
  split
  · rename_i hb
    unfold AppAt at *
    rw [h, hp, e]
    simp only [appGo, Option.map_none, hb, if_true, Option.map_map]
    congr 1
    funext t; simp
  · rename_i hb
    unfold AppAt at h
    rw [h, hp, e]
    simp only [appGo, Option.map_none, hb, if_false]
theorem AppAt.fin {l : List Ent} {p : List Chg} {i k : Nat} {acc : List Ent} (h : AppAt l p i k acc) (hk : p.length ≤ k) : app l p = some (acc ++ l.drop i) := by
  unfold AppAt at h
  rw [h, List.drop_eq_nil_of_le hk]
  have : ∀ m : List Ent, appGo (pEC m []) = some m := by
    intro m
    induction m with
    | nil => simp [pairs, appGo]
    | cons x t ih => simp [pairs, appGo, ih]
  rw [this]; rfl

/-- The value of a key behind a patch. -/
def put (x : Option Int) (c : Option Chg) : Option Int := match c with
  | none => x
  | some c => c.after

theorem pEC_srt {l : List Ent} {p : List Chg} (hl : Asc l) (hp : Srt Chg.key p) : Srt (pkey Prod.fst Chg.key) (pEC l p) := pairs_srt l p hl hp
theorem pEC_fnd {l : List Ent} {p : List Chg} (hl : Asc l) (hp : Srt Chg.key p) (k : Int) : fnd (pkey Prod.fst Chg.key) (pEC l p) k = both2 (fnd Prod.fst l k) (fnd Chg.key p k) := pairs_fnd l p hl hp k

/-- The pairs that a merge makes: keys agree, and no pair is empty. -/
theorem pairs_good {α β : Type} {ka : α → Int} {kb : β → Int} (l : List α) (m : List β) : ∀ z ∈ pairs ka kb l m, (z.1.isSome = true ∨ z.2.isSome = true) ∧ (∀ x y, z = (some x, some y) → ka x = kb y) := by
  fun_induction pairs ka kb l m with
  | case1 => intro z hz; cases hz
  | case2 y m ih => intro z hz; rcases List.mem_cons.1 hz with rfl | hz; · exact ⟨.inr rfl, by simp⟩
                    · exact ih z hz
  | case3 x l ih => intro z hz; rcases List.mem_cons.1 hz with rfl | hz; · exact ⟨.inl rfl, by simp⟩
                    · exact ih z hz
  | case4 x l y m h ih => intro z hz; rcases List.mem_cons.1 hz with rfl | hz; · exact ⟨.inl rfl, by simp⟩
                          · exact ih z hz
  | case5 x l y m h1 h2 ih => intro z hz; rcases List.mem_cons.1 hz with rfl | hz; · exact ⟨.inr rfl, by simp⟩
                              · exact ih z hz
  | case6 x l y m h1 h2 ih => intro z hz; rcases List.mem_cons.1 hz with rfl | hz; · exact ⟨.inl rfl, by intro a b e; simp at e; obtain ⟨rfl, rfl⟩ := e; omega⟩
                              · exact ih z hz

def emit1 (z : Option Ent × Option Chg) : Option Ent := (put (z.1.map Prod.snd) z.2).map fun v => (pkey Prod.fst Chg.key z, v)

theorem appGo_some {L : List (Option Ent × Option Chg)} (hg : ∀ z ∈ L, (z.1.isSome = true ∨ z.2.isSome = true) ∧ (∀ x y, z = (some x, some y) → x.1 = y.key)) :
    appGo L = if (∀ z ∈ L, ∀ c, z.2 = some c → z.1.map Prod.snd = c.before) then some (L.flatMap fun z => (emit1 z).toList) else none := by
  induction L with
  | nil => simp [appGo]
  | cons z t ih =>
    have ih := ih fun u hu => hg u (List.mem_cons_of_mem _ hu)
    have hz := hg z List.mem_cons_self
    obtain ⟨x, d⟩ := z
    cases d with
    | none =>
      cases x with
      | none => simp at hz
      | some x =>
        simp only [appGo, ih]
        have e1 : (∀ z ∈ (some x, (none : Option Chg)) :: t, ∀ c, z.2 = some c → z.1.map Prod.snd = c.before) ↔ (∀ z ∈ t, ∀ c, z.2 = some c → z.1.map Prod.snd = c.before) := by
          constructor
          · intro h u hu; exact h u (List.mem_cons_of_mem _ hu)
          · intro h u hu
            rcases List.mem_cons.1 hu with rfl | hu
            · intro c hc; cases hc
            · exact h u hu
        by_cases h : (∀ z ∈ t, ∀ c, z.2 = some c → z.1.map Prod.snd = c.before)
        · rw [if_pos h, if_pos (e1.2 h)]; simp [emit1, put, pkey]
        · rw [if_neg h, if_neg (fun hh => h (e1.1 hh))]; rfl
    | some c =>
      simp only [appGo, ih]
      by_cases hb : x.map Prod.snd = c.before
      · rw [if_pos hb]
        have e1 : (∀ z ∈ (x, some c) :: t, ∀ c, z.2 = some c → z.1.map Prod.snd = c.before) ↔ (∀ z ∈ t, ∀ c, z.2 = some c → z.1.map Prod.snd = c.before) := by
          constructor
          · intro h u hu; exact h u (List.mem_cons_of_mem _ hu)
          · intro h u hu
            rcases List.mem_cons.1 hu with rfl | hu
            · intro c' hc; cases hc; exact hb
            · exact h u hu
        have hk : pkey Prod.fst Chg.key (x, some c) = c.key := by
          cases x with
          | none => rfl
          | some x => exact hz.2 x c rfl
        by_cases h : (∀ z ∈ t, ∀ c, z.2 = some c → z.1.map Prod.snd = c.before)
        · rw [if_pos h, if_pos (e1.2 h)]; simp [emit1, put, hk, optE]
        · rw [if_neg h, if_neg (fun hh => h (e1.1 hh))]; rfl
      · rw [if_neg hb, if_neg (fun hh => hb (hh _ List.mem_cons_self c rfl))]

/-- The patch fits the list: each change finds the value that it says. -/
def Fits (l : List Ent) (p : List Chg) : Prop := ∀ c ∈ p, getE l c.key = c.before
instance (l : List Ent) (p : List Chg) : Decidable (Fits l p) := by unfold Fits; infer_instance

theorem emit_key (z : Option Ent × Option Chg) (x : Ent) (h : emit1 z = some x) : x.1 = pkey Prod.fst Chg.key z := by
  unfold emit1 at h
  cases hp : put (z.1.map Prod.snd) z.2 with
  | none => rw [hp] at h; cases h
  | some v => rw [hp] at h; simp at h; rw [← h]

theorem app_none {l : List Ent} {p : List Chg} (hl : Asc l) (hp : Srt Chg.key p) : app l p = none ↔ ¬ Fits l p := by
  unfold app
  rw [appGo_some (pairs_good (ka := Prod.fst) (kb := Chg.key) l p)]
  have : (∀ z ∈ pEC l p, ∀ c, z.2 = some c → z.1.map Prod.snd = c.before) ↔ Fits l p := by
    constructor
    · intro h c hc
      have hf := hp.fnd_self hc
      have h1 := pEC_fnd hl hp c.key
      rw [hf] at h1
      simp [both2] at h1
      have := h _ (fnd_mem h1) c rfl
      rw [getE_fnd]; exact this
    · intro h z hz c hc
      have h1 := (pEC_srt hl hp).fnd_self hz
      rw [pEC_fnd hl hp] at h1
      unfold both2 at h1
      split at h1
      · have h2 := Option.some.inj h1
        have hcp : fnd Chg.key p (pkey Prod.fst Chg.key z) = some c := (congrArg Prod.snd h2).trans hc
        have hlp : fnd Prod.fst l (pkey Prod.fst Chg.key z) = z.1 := congrArg Prod.fst h2
        have := h c (fnd_mem hcp)
        rw [getE_fnd, fnd_key hcp] at this
        rw [← this, hlp]
      · cases h1
  by_cases h : Fits l p
  · rw [if_pos (this.2 h)]; simp [h]
  · rw [if_neg (fun hh => h (this.1 hh))]; simp [h]

theorem app_some {l r : List Ent} {p : List Chg} (hl : Asc l) (hp : Srt Chg.key p) (h : app l p = some r) : Asc r ∧ ∀ k, getE r k = put (getE l k) (fnd Chg.key p k) := by
  unfold app at h
  rw [appGo_some (pairs_good (ka := Prod.fst) (kb := Chg.key) l p)] at h
  split at h
  · have h := Option.some.inj h
    subst h
    refine ⟨flatOpt_srt (ka := pkey Prod.fst Chg.key) emit1 emit_key (pEC_srt hl hp), fun k => ?_⟩
    rw [getE_fnd, flatOpt_fnd (ka := pkey Prod.fst Chg.key) (kb := Prod.fst) emit1 emit_key (pEC_srt hl hp), pEC_fnd hl hp]
    rw [getE_fnd]
    unfold both2
    cases h1 : fnd Prod.fst l k with
    | none =>
      cases h2 : fnd Chg.key p k with
      | none => simp [put]
      | some c => simp [emit1, put]; cases c.after <;> rfl
    | some x =>
      cases h2 : fnd Chg.key p k with
      | none => simp [emit1, put]
      | some c => simp [emit1, put]; cases c.after <;> rfl
  · cases h

theorem app_of {l r : List Ent} {p : List Chg} (hl : Asc l) (hp : Srt Chg.key p) (hr : Asc r) (hf : Fits l p) (h : ∀ k, getE r k = put (getE l k) (fnd Chg.key p k)) : app l p = some r := by
  cases ha : app l p with
  | none => exact absurd hf ((app_none hl hp).1 ha)
  | some q =>
    obtain ⟨h1, h2⟩ := app_some hl hp ha
    rw [Asc.ext h1 hr fun k => by rw [h2, h]]

/-- The patch between two lists fits the first one and gives the second one. -/
theorem app_btw {l m : List Ent} (hl : Asc l) (hm : Asc m) : app l (btw l m) = some m := by
  refine app_of hl (btw_srt hl hm) hm ?_ fun k => ?_
  · intro c hc
    have := (btw_srt hl hm).fnd_self hc
    rw [btw_fnd hl hm] at this
    exact (mkChg_some this).2.1.symm
  · rw [btw_fnd hl hm]
    cases h : mkChg k (getE l k) (getE m k) with
    | none => exact (mkChg_none.1 h).symm
    | some c => exact (mkChg_some h).2.2.1.symm

theorem btw_nil {l m : List Ent} (hl : Asc l) (hm : Asc m) : btw l m = [] ↔ l = m := by
  constructor
  · intro h
    have := app_btw hl hm
    rw [h] at this
    have h2 := app_some hl Srt.nil this
    exact Asc.ext hl hm fun q => by rw [h2.2]; rfl
  · rintro rfl
    refine Srt.ext (key := Chg.key) (btw_srt hl hl) Srt.nil fun k => ?_
    rw [btw_fnd hl hl, mkChg_none.2 rfl]; rfl

/-! ### Invert -/
def inv1 (c : Chg) : Chg := (mkChg c.key c.after c.before).getD ⟨0, 0, 0, 0⟩
def inv (p : List Chg) : List Chg := p.map inv1

theorem inv1_ok {c : Chg} (h : c.ok) : mkChg c.key c.after c.before = some (inv1 c) := by
  unfold inv1
  cases hm : mkChg c.key c.after c.before with
  | none => exact absurd (mkChg_none.1 hm).symm (Chg.ok_ne h)
  | some d => rfl

theorem inv_inv {p : List Chg} (hp : Val p) : inv (inv p) = p := by
  unfold inv
  rw [List.map_map]
  refine (List.map_congr_left fun c hc => ?_).trans (List.map_id p)
  have h1 := inv1_ok (hp.2 c hc)
  obtain ⟨k1, b1, a1, _, _⟩ := mkChg_some h1
  have h2 := inv1_ok (mkChg_ok h1)
  rw [k1, b1, a1] at h2
  have h3 := hp.2 c hc
  unfold Chg.ok at h3
  rw [h3] at h2
  exact (Option.some.inj h2).symm

theorem inv_btw {l m : List Ent} (hl : Asc l) (hm : Asc m) : inv (btw l m) = btw m l := by
  have hp := btw_val hl hm
  have hkey : ∀ c ∈ btw l m, (inv1 c).key = c.key := fun c hc => (mkChg_some (inv1_ok (hp.2 c hc))).1
  have hs : Srt Chg.key (inv (btw l m)) := by
    unfold inv Srt
    rw [List.pairwise_map]
    refine List.Pairwise.imp_of_mem ?_ hp.1
    intro a b ha hb hab
    rw [hkey a ha, hkey b hb]; exact hab
  refine Srt.ext (key := Chg.key) hs (btw_srt hm hl) fun k => ?_
  rw [btw_fnd hm hl]
  have hsub : ∀ q : List Chg, (∀ c ∈ q, (inv1 c).key = c.key) → fnd Chg.key (inv q) k = (fnd Chg.key q k).map inv1 := by
    intro q
    induction q with
    | nil => intro _; rfl
    | cons c t ih =>
      intro h
      show fnd Chg.key (inv1 c :: inv t) k = _
      rw [fnd_cons, fnd_cons, h c List.mem_cons_self, ih fun d hd => h d (List.mem_cons_of_mem _ hd)]
      split <;> simp
  rw [hsub _ hkey, btw_fnd hl hm]
  cases h : mkChg k (getE l k) (getE m k) with
  | none =>
    rw [mkChg_none] at h
    rw [h, mkChg_none.2 rfl]; rfl
  | some c =>
    obtain ⟨k1, b1, a1, hne, _⟩ := mkChg_some h
    have h1 := inv1_ok (mkChg_ok h)
    rw [k1, b1, a1] at h1
    rw [h1]; rfl

end Go.Proofs.Ytjbkckcjmmmooaa
end
section
/- Plain laws of patches: compose and rebase. No program in sight. -/
namespace Go.Proofs.Ytjbkckcjmmmooaa

/-! ### Compose -/
def comp1 : Option Chg × Option Chg → List Chg
  | (some c, none) => [c]
  | (none, some d) => [d]
  | (some c, some d) => (mkChg c.key c.before d.after).toList
  | (none, none) => []
def meet1 : Option Chg × Option Chg → Bool
  | (some c, some d) => decide (c.after = d.before)
  | _ => true

def compGo : List (Option Chg × Option Chg) → Option (List Chg)
  | [] => some []
  | z :: t => if meet1 z then (compGo t).map (comp1 z ++ ·) else none

theorem compGo_eq (L : List (Option Chg × Option Chg)) : compGo L = if L.all meet1 then some (L.flatMap comp1) else none := by
  induction L with
  | nil => rfl
  | cons z t ih =>
    simp only [compGo, ih, List.all_cons, Bool.and_eq_true, List.flatMap_cons]
    by_cases h1 : meet1 z = true
    · by_cases h2 : t.all meet1 = true
      · simp only [h1, h2, if_true, and_self, Option.map_some]
      · rw [if_pos h1, if_neg h2, if_neg (fun h => h2 h.2)]; rfl
    · rw [if_neg h1, if_neg (fun h => h1 h.1)]

/-- What composing two valid patches comes to. -/
def comp (p q : List Chg) : Option (List Chg) := compGo (pC p q)

/-- Two patches along three lists. -/
theorem comp_btw {l m n : List Ent} (hl : Asc l) (hm : Asc m) (hn : Asc n) : comp (btw l m) (btw m n) = some (btw l n) := by
  have hp := btw_val hl hm
  have hq := btw_val hm hn
  have hz : ∀ z ∈ pC (btw l m) (btw m n), z = (mkChg (pkey Chg.key Chg.key z) (getE l (pkey Chg.key Chg.key z)) (getE m (pkey Chg.key Chg.key z)), mkChg (pkey Chg.key Chg.key z) (getE m (pkey Chg.key Chg.key z)) (getE n (pkey Chg.key Chg.key z))) := by
    intro z hz
    have h1 := (pairs_srt _ _ hp.1 hq.1).fnd_self hz
    rw [pairs_fnd _ _ hp.1 hq.1] at h1
    unfold both2 at h1
    split at h1
    · have h2 := Option.some.inj h1
      rw [btw_fnd hl hm, btw_fnd hm hn] at h2
      exact h2.symm
    · cases h1
  unfold comp
  rw [compGo_eq, if_pos]
  · congr 1
    have hf : ∀ z ∈ pC (btw l m) (btw m n), comp1 z = (mkChg (pkey Chg.key Chg.key z) (getE l (pkey Chg.key Chg.key z)) (getE n (pkey Chg.key Chg.key z))).toList := by
      intro z hz'
      have h1 := hz z hz'
      have hg := (pairs_good _ _ z hz').1
      generalize pkey Chg.key Chg.key z = k at h1 ⊢
      subst h1
      cases h1 : mkChg k (getE l k) (getE m k) with
      | none =>
        rw [mkChg_none] at h1
        cases h2 : mkChg k (getE m k) (getE n k) with
        | none => rw [mkChg_none.2 h1, h2] at hg; simp at hg
        | some d => rw [h1, h2]; rfl
      | some c =>
        cases h2 : mkChg k (getE m k) (getE n k) with
        | none => rw [mkChg_none] at h2; rw [← h2, h1]; rfl
        | some d =>
          obtain ⟨k1, b1, _, _, _⟩ := mkChg_some h1
          obtain ⟨_, _, a2, _, _⟩ := mkChg_some h2
          simp only [comp1, k1, b1, a2]
    have hg : (pC (btw l m) (btw m n)).flatMap comp1 = (pC (btw l m) (btw m n)).flatMap fun z => (mkChg (pkey Chg.key Chg.key z) (getE l (pkey Chg.key Chg.key z)) (getE n (pkey Chg.key Chg.key z))).toList := by
      rw [List.flatMap_def, List.flatMap_def, List.map_congr_left hf]
    rw [hg]
    refine Srt.ext (key := Chg.key) (flatOpt_srt (ka := pkey Chg.key Chg.key) (fun z => mkChg (pkey Chg.key Chg.key z) (getE l (pkey Chg.key Chg.key z)) (getE n (pkey Chg.key Chg.key z))) (fun _ _ h => (mkChg_some h).1) (pairs_srt _ _ hp.1 hq.1)) (btw_srt hl hn) fun k => ?_
    rw [flatOpt_fnd (ka := pkey Chg.key Chg.key) (kb := Chg.key) (fun z => mkChg (pkey Chg.key Chg.key z) (getE l (pkey Chg.key Chg.key z)) (getE n (pkey Chg.key Chg.key z))) (fun _ _ h => (mkChg_some h).1) (pairs_srt _ _ hp.1 hq.1)]
    rw [btw_fnd hl hn]
    cases h1 : fnd (pkey Chg.key Chg.key) (pC (btw l m) (btw m n)) k with
    | some z => simp only [Option.bind_some, fnd_key h1]
    | none =>
      rw [pairs_fnd _ _ hp.1 hq.1, btw_fnd hl hm, btw_fnd hm hn] at h1
      unfold both2 at h1
      split at h1
      · cases h1
      · rename_i hn'
        simp [mkChg_none] at hn'
        rw [hn'.1, hn'.2, mkChg_none.2 rfl]; rfl
  · rw [List.all_eq_true]
    intro z hz'
    have h1 := hz z hz'
    generalize pkey Chg.key Chg.key z = k at h1
    subst h1
    cases h1 : mkChg k (getE l k) (getE m k) with
    | none => rfl
    | some c =>
      cases h2 : mkChg k (getE m k) (getE n k) with
      | none => rfl
      | some d =>
        obtain ⟨_, _, a1, _, _⟩ := mkChg_some h1
        obtain ⟨_, b2, _, _, _⟩ := mkChg_some h2
        simp [meet1, a1, b2]

theorem pairs_nil_right {α β : Type} {ka : α → Int} {kb : β → Int} (l : List α) : pairs ka kb l [] = l.map fun x => (some x, none) := by
  induction l with
  | nil => simp [pairs]
  | cons x t ih => simp [pairs, ih]
theorem pairs_nil_left {α β : Type} {ka : α → Int} {kb : β → Int} (m : List β) : pairs ka kb [] m = m.map fun y => (none, some y) := by
  induction m with
  | nil => simp [pairs]
  | cons x t ih => simp [pairs, ih]

theorem comp_nil_right (p : List Chg) : comp p [] = some p := by
  show compGo (pairs Chg.key Chg.key p []) = _
  rw [pairs_nil_right]
  induction p with
  | nil => rfl
  | cons c t ih => simp only [List.map_cons, compGo, meet1, if_true, ih]; rfl
theorem comp_nil_left (p : List Chg) : comp [] p = some p := by
  show compGo (pairs Chg.key Chg.key [] p) = _
  rw [pairs_nil_left]
  induction p with
  | nil => rfl
  | cons c t ih => simp only [List.map_cons, compGo, meet1, if_true, ih]; rfl

/-! ### Rebase -/
def keep1 : Option Chg × Option Chg → List Chg
  | (some c, none) => [c]
  | _ => []
def conf1 : Option Chg × Option Chg → List Int
  | (some c, some d) => if c.after = d.after then [] else [c.key]
  | _ => []
def base1 : Option Chg × Option Chg → Bool
  | (some c, some d) => decide (c.before = d.before)
  | _ => true

def rebGo : List (Option Chg × Option Chg) → Option (List Chg × List Int)
  | [] => some ([], [])
  | z :: t => if base1 z then (rebGo t).map (fun r => (keep1 z ++ r.1, conf1 z ++ r.2)) else none

theorem rebGo_eq (L : List (Option Chg × Option Chg)) : rebGo L = if L.all base1 then some (L.flatMap keep1, L.flatMap conf1) else none := by
  induction L with
  | nil => rfl
  | cons z t ih =>
    simp only [rebGo, ih, List.all_cons, Bool.and_eq_true, List.flatMap_cons]
    by_cases h1 : base1 z = true
    · by_cases h2 : t.all base1 = true
      · simp only [h1, h2, if_true, and_self, Option.map_some]
      · rw [if_pos h1, if_neg h2, if_neg (fun h => h2 h.2)]; rfl
    · rw [if_neg h1, if_neg (fun h => h1 h.1)]

def reb (p q : List Chg) : Option (List Chg × List Int) := rebGo (pC p q)

/-- The pairs, seen from the first list: each of its elements with what the second has at that key. -/
theorem pairs_left {α β : Type} {ka : α → Int} {kb : β → Int} (l : List α) (m : List β) (hl : Srt ka l) (hm : Srt kb m) :
    (pairs ka kb l m).filterMap (fun z => z.1.map fun x => (x, z.2)) = l.map fun x => (x, fnd kb m (ka x)) := by
  fun_induction pairs ka kb l m with
  | case1 => rfl
  | case2 y m ih => simpa using ih Srt.nil hm.tail
  | case3 x l ih => simpa [fnd_nil] using ih hl.tail Srt.nil
  | case4 x l y m h ih =>
    have h2 : fnd kb (y :: m) (ka x) = none := fnd_of_lt fun z hz => by
      rcases List.mem_cons.1 hz with rfl | hz
      · exact h
      · have := hm.head z hz; omega
    simpa [h2] using ih hl.tail hm
  | case5 x l y m h1 h2 ih =>
    have e := ih hl hm.tail
    have hx : ∀ u ∈ x :: l, fnd kb (y :: m) (ka u) = fnd kb m (ka u) := fun u hu => by
      rw [fnd_cons, if_neg]
      rcases List.mem_cons.1 hu with rfl | hu
      · omega
      · have := hl.head u hu; omega
    simp only [List.filterMap_cons_none, Option.map_none, e]
    exact List.map_congr_left fun u hu => by rw [hx u hu]
  | case6 x l y m h1 h2 ih =>
    have e := ih hl.tail hm.tail
    have hxy : kb y = ka x := by omega
    have hx : ∀ u ∈ l, fnd kb (y :: m) (ka u) = fnd kb m (ka u) := fun u hu => by
      rw [fnd_cons, if_neg]
      have := hl.head u hu; omega
    simp only [List.filterMap_cons, Option.map_some, e, List.map_cons, fnd_cons, hxy, if_true]
    congr 1
    refine List.map_congr_left fun u hu => ?_
    have := hx u hu
    rw [fnd_cons, hxy] at this
    rw [this]


/-- The same, along the first patch alone. -/
def rebP : List (Chg × Option Chg) → Option (List Chg × List Int)
  | [] => some ([], [])
  | (c, d) :: t => if base1 (some c, d) then (rebP t).map (fun r => (keep1 (some c, d) ++ r.1, conf1 (some c, d) ++ r.2)) else none

theorem rebGo_left (L : List (Option Chg × Option Chg)) : rebGo L = rebP (L.filterMap (fun z => z.1.map fun x => (x, z.2))) := by
  induction L with
  | nil => rfl
  | cons z t ih =>
    obtain ⟨c, d⟩ := z
    cases c with
    | none =>
      simp only [rebGo, base1, if_true, keep1, conf1, List.nil_append, ih]
      cases h : rebP (t.filterMap fun z => z.1.map fun x => (x, z.2)) <;> simp [h]
    | some c => simp only [rebGo, List.filterMap_cons, Option.map_some, rebP, ih]

theorem reb_left {p q : List Chg} (hp : Srt Chg.key p) (hq : Srt Chg.key q) : reb p q = rebP (p.map fun c => (c, fnd Chg.key q c.key)) := by
  unfold reb; rw [rebGo_left]; congr 1; exact pairs_left p q hp hq

theorem fnd_id (L : List Int) (k : Int) : fnd id L k = if k ∈ L then some k else none := by
  induction L with
  | nil => simp [fnd_nil]
  | cons x t ih =>
    rw [fnd_cons, ih]
    by_cases h : x = k
    · subst h; simp
    · have : ¬ k = x := fun e => h e.symm
      simp [h, this]

theorem keys_ext {a b : List Int} (ha : Srt id a) (hb : Srt id b) (h : ∀ k, k ∈ a ↔ k ∈ b) : a = b := by
  refine Srt.ext (key := id) ha hb fun k => ?_
  rw [fnd_id, fnd_id]
  by_cases hk : k ∈ a
  · rw [if_pos hk, if_pos ((h k).1 hk)]
  · rw [if_neg hk, if_neg (fun hh => hk ((h k).2 hh))]

/-- A key that both sides changed, differently. -/
def Cf (l m n : List Ent) (k : Int) : Prop := getE m k ≠ getE n k ∧ getE l k ≠ getE m k ∧ getE l k ≠ getE n k
instance (l m n : List Ent) (k : Int) : Decidable (Cf l m n k) := by unfold Cf; infer_instance

def confO (z : Option Chg × Option Chg) : Option Int := match z with
  | (some c, some d) => if c.after = d.after then none else some c.key
  | _ => none
def keepO (z : Option Chg × Option Chg) : Option Chg := match z with
  | (some c, none) => some c
  | _ => none

theorem conf1_o (z : Option Chg × Option Chg) : conf1 z = (confO z).toList := by
  obtain ⟨c, d⟩ := z
  cases c <;> cases d <;> simp [conf1, confO]
  split <;> simp
theorem keep1_o (z : Option Chg × Option Chg) : keep1 z = (keepO z).toList := by
  obtain ⟨c, d⟩ := z
  cases c <;> cases d <;> simp [keep1, keepO]

theorem confO_key (z : Option Chg × Option Chg) (k : Int) (h : confO z = some k) : id k = pkey Chg.key Chg.key z := by
  obtain ⟨c, d⟩ := z
  cases c <;> cases d <;> simp [confO] at h
  exact h.2.symm
theorem keepO_key (z : Option Chg × Option Chg) (c : Chg) (h : keepO z = some c) : c.key = pkey Chg.key Chg.key z := by
  obtain ⟨c, d⟩ := z
  cases c <;> cases d <;> simp [keepO] at h
  rw [← h]; rfl

theorem btw_pair {l m n : List Ent} (hl : Asc l) (hm : Asc m) (hn : Asc n) (k : Int) :
    fnd (pkey Chg.key Chg.key) (pC (btw l m) (btw l n)) k = both2 (mkChg k (getE l k) (getE m k)) (mkChg k (getE l k) (getE n k)) := by
  have h := pairs_fnd (ka := Chg.key) (kb := Chg.key) (btw l m) (btw l n) (btw_srt hl hm) (btw_srt hl hn) k
  rw [btw_fnd hl hm, btw_fnd hl hn] at h
  exact h

theorem reb_btw {l m n : List Ent} (hl : Asc l) (hm : Asc m) (hn : Asc n) : ∃ a c, reb (btw l m) (btw l n) = some (a, c) ∧
    Srt Chg.key a ∧ (∀ k, fnd Chg.key a k = if getE l k = getE n k then mkChg k (getE l k) (getE m k) else none) ∧ Srt id c ∧ ∀ k, k ∈ c ↔ Cf l m n k := by
  have hs := pairs_srt (ka := Chg.key) (kb := Chg.key) (btw l m) (btw l n) (btw_srt hl hm) (btw_srt hl hn)
  refine ⟨(pC (btw l m) (btw l n)).flatMap fun z => (keepO z).toList, (pC (btw l m) (btw l n)).flatMap fun z => (confO z).toList, ?_, ?_, ?_, ?_, ?_⟩
  · unfold reb
    rw [rebGo_eq, if_pos]
    · congr 2
      · exact congrArg (fun f => List.flatMap f _) (funext keep1_o)
      · exact congrArg (fun f => List.flatMap f _) (funext conf1_o)
    · rw [List.all_eq_true]
      intro z hz
      have h1 := hs.fnd_self hz
      rw [btw_pair hl hm hn] at h1
      unfold both2 at h1
      split at h1
      · have h1 := Option.some.inj h1
        generalize pkey Chg.key Chg.key z = k at h1
        subst h1
        cases h1 : mkChg k (getE l k) (getE m k) with
        | none => rfl
        | some c =>
          cases h2 : mkChg k (getE l k) (getE n k) with
          | none => rfl
          | some d =>
            obtain ⟨_, b1, _, _, _⟩ := mkChg_some h1
            obtain ⟨_, b2, _, _, _⟩ := mkChg_some h2
            simp [base1, b1, b2]
      · cases h1
  · exact flatOpt_srt (ka := pkey Chg.key Chg.key) keepO keepO_key hs
  · intro k
    rw [flatOpt_fnd (ka := pkey Chg.key Chg.key) (kb := Chg.key) keepO keepO_key hs, btw_pair hl hm hn]
    cases h2 : mkChg k (getE l k) (getE n k) with
    | none =>
      rw [mkChg_none] at h2
      rw [if_pos h2]
      cases h1 : mkChg k (getE l k) (getE m k) <;> simp [both2, keepO]
    | some d =>
      obtain ⟨_, _, _, hne, _⟩ := mkChg_some h2
      rw [if_neg hne]
      cases h1 : mkChg k (getE l k) (getE m k) <;> simp [both2, keepO]
  · exact flatOpt_srt (ka := pkey Chg.key Chg.key) (kb := id) confO confO_key hs
  · intro k
    have h := flatOpt_fnd (ka := pkey Chg.key Chg.key) (kb := id) confO confO_key hs k
    rw [fnd_id, btw_pair hl hm hn] at h
    have h3 : k ∈ ((pC (btw l m) (btw l n)).flatMap fun z => (confO z).toList) ↔ ((both2 (mkChg k (getE l k) (getE m k)) (mkChg k (getE l k) (getE n k))).bind confO).isSome = true := by
      rw [← h]; split <;> simp [*]
    rw [h3]
    unfold Cf
    cases h1 : mkChg k (getE l k) (getE m k) with
    | none =>
      rw [mkChg_none] at h1
      cases h2 : mkChg k (getE l k) (getE n k) <;> simp [both2, confO, h1]
    | some c =>
      obtain ⟨_, _, a1, n1, _⟩ := mkChg_some h1
      cases h2 : mkChg k (getE l k) (getE n k) with
      | none =>
        rw [mkChg_none] at h2
        simp [both2, confO, h2]
      | some d =>
        obtain ⟨_, _, a2, n2, _⟩ := mkChg_some h2
        by_cases e : getE m k = getE n k
        · simp [both2, confO, a1, a2, e]
        · simp [both2, confO, a1, a2, e, n1, n2]

/-- What a rebased patch makes of the other side's list. -/
theorem reb_app {l m n : List Ent} (hl : Asc l) (hm : Asc m) (hn : Asc n) {a : List Chg} {c : List Int} (h : reb (btw l m) (btw l n) = some (a, c)) :
    ∃ u, app n a = some u ∧ Asc u ∧ ∀ k, getE u k = if getE l k = getE n k then getE m k else getE n k := by
  obtain ⟨a', c', h', ha, hf, _, _⟩ := reb_btw hl hm hn
  rw [h] at h'
  simp only [Option.some.injEq, Prod.mk.injEq] at h'
  obtain ⟨rfl, rfl⟩ := h'
  have hfit : Fits n a := by
    intro d hd
    have h1 := ha.fnd_self hd
    rw [hf] at h1
    split at h1
    · rename_i e
      rw [← e]; exact (mkChg_some h1).2.1.symm
    · cases h1
  cases hu : app n a with
  | none => exact absurd hfit ((app_none hn ha).1 hu)
  | some u =>
    obtain ⟨h1, h2⟩ := app_some hn ha hu
    refine ⟨u, rfl, h1, fun k => ?_⟩
    rw [h2, hf]
    by_cases e : getE l k = getE n k
    · rw [if_pos e, if_pos e]
      cases h3 : mkChg k (getE l k) (getE m k) with
      | none => rw [mkChg_none] at h3; rw [put, ← e, h3]
      | some d => exact (mkChg_some h3).2.2.1
    · rw [if_neg e, if_neg e]; rfl

theorem reb_meet {l m n : List Ent} {u v : List Ent} (hu : Asc u) (hv : Asc v) (h1 : ∀ k, getE u k = if getE l k = getE n k then getE m k else getE n k) (h2 : ∀ k, getE v k = if getE l k = getE m k then getE n k else getE m k)
    (hc : ∀ k, ¬ Cf l m n k) : u = v := by
  refine Asc.ext hu hv fun k => ?_
  have := hc k
  unfold Cf at this
  rw [h1, h2]
  by_cases a : getE l k = getE n k <;> by_cases b : getE l k = getE m k
  · rw [if_pos a, if_pos b, ← a, ← b]
  · rw [if_pos a, if_neg b]
  · rw [if_neg a, if_pos b]
  · rw [if_neg a, if_neg b]
    by_cases e : getE m k = getE n k
    · exact e.symm
    · exact absurd ⟨e, b, a⟩ this

end Go.Proofs.Ytjbkckcjmmmooaa
end
