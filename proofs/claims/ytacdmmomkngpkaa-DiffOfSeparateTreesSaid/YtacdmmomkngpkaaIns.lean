/- Plain laws of insertion into ascending lists, of key lists, of unions. No program in sight. -/
import Derived.Test.YtacdmmomkngpkaaSrt
namespace Go.Proofs.Ytacdmmomkngpkaa

def insGo (e : Ent) : Bool → List Ent → List Ent
  | put, [] => if put then [] else [e]
  | put, x :: t => (if !put && decide (e.1 ≤ x.1) then [e] else []) ++ ((if x.1 = e.1 then [] else [x]) ++ insGo e (put || decide (e.1 ≤ x.1)) t)

theorem insGo_len (e : Ent) : ∀ (l : List Ent) (put : Bool), (insGo e put l).length ≤ l.length + (if put then 0 else 1) := by
  intro l
  induction l with
  | nil => intro put; cases put <;> simp [insGo]
  | cons x t ih =>
    intro put
    simp only [insGo, List.length_append, List.length_cons]
    have h1 := ih (put || decide (e.1 ≤ x.1))
    have h2 : (if x.1 = e.1 then ([] : List Ent) else [x]).length ≤ 1 := by split <;> simp
    cases put
    · by_cases h : e.1 ≤ x.1
      · simp [h] at h1 ⊢; omega
      · simp [h] at h1 ⊢; omega
    · simp at h1 ⊢; omega

/-- The list with an entry put in. -/
abbrev insE (l : List Ent) (e : Ent) : List Ent := insGo e false l

theorem insE_len (l : List Ent) (e : Ent) : (insE l e).length ≤ l.length + 1 := by simpa using insGo_len e l false

theorem insGo_true {e : Ent} : ∀ {l : List Ent}, (∀ x ∈ l, e.1 < x.1) → insGo e true l = l := by
  intro l
  induction l with
  | nil => intro _; simp [insGo]
  | cons x t ih =>
    intro h
    have hx := h x List.mem_cons_self
    have : ¬ x.1 = e.1 := by omega
    simp [insGo, this, ih fun y hy => h y (List.mem_cons_of_mem _ hy)]

theorem insE_cons {e x : Ent} {t : List Ent} (h : Asc (x :: t)) : insE (x :: t) e = if e.1 < x.1 then e :: x :: t else if x.1 = e.1 then e :: t else x :: insE t e := by
  have hh := h.head
  rcases Int.lt_trichotomy e.1 x.1 with c | c | c
  · have h1 : e.1 ≤ x.1 := by omega
    have h2 : ¬ x.1 = e.1 := by omega
    simp [insE, insGo, h1, h2, c, insGo_true (e := e) (l := t) fun y hy => by have := hh y hy; omega]
  · have h1 : e.1 ≤ x.1 := by omega
    have h2 : ¬ e.1 < x.1 := by omega
    simp [insE, insGo, c, insGo_true (e := e) (l := t) fun y hy => by have := hh y hy; omega]
  · have h1 : ¬ e.1 ≤ x.1 := by omega
    have h2 : ¬ x.1 = e.1 := by omega
    have h3 : ¬ e.1 < x.1 := by omega
    simp [insE, insGo, h1, h2, h3]

theorem insE_mem {l : List Ent} {e z : Ent} (h : Asc l) (hz : z ∈ insE l e) : z = e ∨ z ∈ l := by
  induction l with
  | nil => simp [insE, insGo] at hz; exact .inl hz
  | cons x t ih =>
    rw [insE_cons h] at hz
    split at hz
    · rcases List.mem_cons.1 hz with rfl | hz
      · exact .inl rfl
      · exact .inr hz
    · split at hz
      · rcases List.mem_cons.1 hz with rfl | hz
        · exact .inl rfl
        · exact .inr (List.mem_cons_of_mem _ hz)
      · rcases List.mem_cons.1 hz with rfl | hz
        · exact .inr List.mem_cons_self
        · rcases ih h.tail hz with rfl | hz
          · exact .inl rfl
          · exact .inr (List.mem_cons_of_mem _ hz)

theorem insE_asc {l : List Ent} (e : Ent) (h : Asc l) : Asc (insE l e) := by
  induction l with
  | nil => simp [insE, insGo, Srt]
  | cons x t ih =>
    rw [insE_cons h]
    split
    · rename_i c
      exact Srt.cons h fun y hy => by
        rcases List.mem_cons.1 hy with rfl | hy
        · exact c
        · have := h.head y hy; omega
    · split
      · rename_i c
        exact Srt.cons h.tail fun y hy => by have := h.head y hy; omega
      · rename_i c1 c2
        refine Srt.cons (ih h.tail) fun y hy => ?_
        rcases insE_mem h.tail hy with rfl | hy
        · omega
        · exact h.head y hy

theorem insE_get {l : List Ent} (e : Ent) (h : Asc l) (q : Int) : getE (insE l e) q = if e.1 = q then some e.2 else getE l q := by
  obtain ⟨k, v⟩ := e
  induction l with
  | nil => simp [insE, insGo, getE]
  | cons x t ih =>
    obtain ⟨a, b⟩ := x
    rw [insE_cons h]
    by_cases c1 : k < a
    · simp only [if_pos c1, getE]
    · rw [if_neg c1]
      by_cases c2 : a = k
      · subst c2; simp [getE]
        split <;> simp_all
      · rw [if_neg c2]
        simp only [getE, ih h.tail]
        by_cases c3 : a = q
        · simp [c3, show ¬ k = q by omega]
        · simp [c3]

theorem asc_not_mem {l : List Ent} {k : Int} (h : ∀ x ∈ l, k < x.1) : getE l k = none := by
  rw [getE_fnd, fnd_of_lt h]; rfl

/-- The keys of a list of entries, put together. -/
def keysOf (xs : List Int) : List Ent := xs.foldl (fun acc k => insE acc (k, 0)) []

theorem foldl_snoc {α β : Type} (f : β → α → β) (b : β) (l : List α) (x : α) : (l ++ [x]).foldl f b = f (l.foldl f b) x := by simp

theorem keysOf_snoc (xs : List Int) (k : Int) : keysOf (xs ++ [k]) = insE (keysOf xs) (k, 0) := foldl_snoc _ _ _ _

theorem snoc_ind {α : Type} {P : List α → Prop} (h0 : P []) (h1 : ∀ l x, P l → P (l ++ [x])) (l : List α) : P l := by
  have : ∀ n (l : List α), l.length = n → P l := by
    intro n
    induction n with
    | zero => intro l hl; rw [List.eq_nil_of_length_eq_zero hl]; exact h0
    | succ n ih =>
      intro l hl
      rcases List.eq_nil_or_concat l with rfl | ⟨L, b, rfl⟩
      · exact h0
      · rw [List.concat_eq_append]; exact h1 L b (ih L (by simpa using hl))
  exact this _ l rfl

theorem keysOf_spec (xs : List Int) : Asc (keysOf xs) ∧ (keysOf xs).length ≤ xs.length ∧ ∀ q, (getE (keysOf xs) q).isSome = true ↔ q ∈ xs := by
  induction xs using snoc_ind with
  | h0 => exact ⟨Srt.nil, Nat.le_refl _, fun q => by simp [keysOf, getE]⟩
  | h1 xs k ih =>
    obtain ⟨h1, h2, h3⟩ := ih
    rw [keysOf_snoc]
    refine ⟨insE_asc _ h1, ?_, fun q => ?_⟩
    · have := insE_len (keysOf xs) (k, 0); simp; omega
    · rw [insE_get _ h1]
      by_cases e : k = q
      · subst e; simp
      · have : ¬ q = k := fun h => e h.symm
        simp [e, h3, this]

/-- All keys of three lists, ascending. -/
def keys3 (l m n : List Ent) : List Int := (keysOf ((l ++ m ++ n).map Prod.fst)).map Prod.fst

theorem mem_keys {l : List Ent} {q : Int} : (getE l q).isSome = true ↔ q ∈ l.map Prod.fst := by
  induction l with
  | nil => simp [getE]
  | cons x t ih =>
    obtain ⟨a, b⟩ := x
    simp only [getE, List.map_cons, List.mem_cons]
    by_cases e : a = q
    · subst e; simp
    · have : ¬ q = a := fun h => e h.symm
      simp [e, ih, this]

theorem keys3_srt (l m n : List Ent) : Srt id (keys3 l m n) := by
  have h := (keysOf_spec ((l ++ m ++ n).map Prod.fst)).1
  unfold keys3 Srt
  rw [List.pairwise_map]
  exact h
theorem keys3_mem (l m n : List Ent) (q : Int) : q ∈ keys3 l m n ↔ (getE l q).isSome = true ∨ (getE m q).isSome = true ∨ (getE n q).isSome = true := by
  unfold keys3
  rw [← mem_keys, (keysOf_spec _).2.2, mem_keys, mem_keys, mem_keys]
  simp only [List.map_append, List.mem_append, or_assoc]
theorem keys3_len (l m n : List Ent) : (keys3 l m n).length ≤ l.length + m.length + n.length := by
  have := (keysOf_spec ((l ++ m ++ n).map Prod.fst)).2.1
  unfold keys3
  simp at this ⊢; omega

/-- The value that a policy chooses. -/
def chooseP (p v w : Int) : Int := if p = 1 then v else if p = 2 then w else if p = 3 then RowKit.wrap64 (v + w) else if p = 4 then (if w < v then w else v) else (if v < w then w else v)

def uniStep (l : List Ent) (p : Int) (out : List Ent) (e : Ent) : List Ent := insE out (e.1, match getE l e.1 with | some v => chooseP p v e.2 | none => e.2)
/-- The union of two lists, by a policy. -/
def uniE (l m : List Ent) (p : Int) : List Ent := m.foldl (uniStep l p) l

theorem uniE_asc {l : List Ent} (hl : Asc l) (m : List Ent) (p : Int) : Asc (uniE l m p) := by
  unfold uniE
  have : ∀ (m out : List Ent), Asc out → Asc (m.foldl (uniStep l p) out) := by
    intro m
    induction m with
    | nil => intro out h; exact h
    | cons x t ih => intro out h; exact ih _ (insE_asc _ h)
  exact this m l hl

theorem uniE_len (l m : List Ent) (p : Int) : (uniE l m p).length ≤ l.length + m.length := by
  unfold uniE
  have : ∀ (m out : List Ent), (m.foldl (uniStep l p) out).length ≤ out.length + m.length := by
    intro m
    induction m with
    | nil => intro out; simp
    | cons x t ih => intro out; have := ih (uniStep l p out x); have := insE_len out (x.1, match getE l x.1 with | some v => chooseP p v x.2 | none => x.2); simp only [List.foldl_cons, List.length_cons]; unfold uniStep at *; omega
  exact this m l

/-- A valid list out of the first entries of a raw one. -/
def listE (raw : List Ent) (most : Nat) : List Ent := (raw.take most).foldl insE []

theorem listE_spec (raw : List Ent) (most : Nat) : Asc (listE raw most) ∧ (listE raw most).length ≤ most := by
  unfold listE
  have h1 : (raw.take most).length ≤ most := List.length_take_le _ _
  generalize raw.take most = xs at h1
  have : ∀ (xs acc : List Ent), Asc acc → Asc (xs.foldl insE acc) ∧ (xs.foldl insE acc).length ≤ acc.length + xs.length := by
    intro xs
    induction xs with
    | nil => intro acc h; exact ⟨h, by simp⟩
    | cons x t ih =>
      intro acc h
      have := ih _ (insE_asc x h)
      have h2 := insE_len acc x
      exact ⟨this.1, by simp only [List.foldl_cons, List.length_cons]; omega⟩
  have := this xs [] Srt.nil
  exact ⟨this.1, by simp at this; omega⟩

end Go.Proofs.Ytacdmmomkngpkaa
