/- Plain laws on lists that are strictly ascending by a key. No program in sight. -/
import Derived.RowKit
namespace Go.Proofs.Ytacdmmomkngpkaa

section
variable {α : Type} (key : α → Int)

/-- Strictly ascending. -/
def Srt (l : List α) : Prop := l.Pairwise (fun a b => key a < key b)
/-- The element with a key. -/
def fnd (l : List α) (k : Int) : Option α := l.find? (fun a => decide (key a = k))

variable {key}
theorem Srt.nil : Srt key [] := List.Pairwise.nil
theorem Srt.tail {x : α} {l : List α} (h : Srt key (x :: l)) : Srt key l := (List.pairwise_cons.1 h).2
theorem Srt.head {x : α} {l : List α} (h : Srt key (x :: l)) : ∀ y ∈ l, key x < key y := (List.pairwise_cons.1 h).1
theorem Srt.cons {x : α} {l : List α} (h : Srt key l) (hx : ∀ y ∈ l, key x < key y) : Srt key (x :: l) := List.pairwise_cons.2 ⟨hx, h⟩

theorem fnd_nil (k : Int) : fnd key ([] : List α) k = none := rfl
theorem fnd_cons (x : α) (l : List α) (k : Int) : fnd key (x :: l) k = if key x = k then some x else fnd key l k := by
  unfold fnd
  by_cases h : key x = k <;> simp [h]
theorem fnd_append (l m : List α) (k : Int) : fnd key (l ++ m) k = (fnd key l k).or (fnd key m k) := by
  unfold fnd; rw [List.find?_append]
theorem fnd_key {l : List α} {k : Int} {x : α} (h : fnd key l k = some x) : key x = k := by
  have := List.find?_some h; simpa using this
theorem fnd_mem {l : List α} {k : Int} {x : α} (h : fnd key l k = some x) : x ∈ l := List.mem_of_find?_eq_some h
theorem fnd_none {l : List α} {k : Int} : fnd key l k = none ↔ ∀ x ∈ l, key x ≠ k := by
  unfold fnd; rw [List.find?_eq_none]; simp
theorem fnd_of_lt {l : List α} {k : Int} (h : ∀ x ∈ l, k < key x) : fnd key l k = none := fnd_none.2 fun x hx => by have := h x hx; omega
theorem fnd_of_gt {l : List α} {k : Int} (h : ∀ x ∈ l, key x < k) : fnd key l k = none := fnd_none.2 fun x hx => by have := h x hx; omega

theorem Srt.fnd_self {l : List α} (h : Srt key l) {x : α} (hx : x ∈ l) : fnd key l (key x) = some x := by
  induction l with
  | nil => cases hx
  | cons y t ih =>
    rw [fnd_cons]
    rcases List.mem_cons.1 hx with rfl | hx
    · simp
    · have := h.head x hx
      rw [if_neg (by omega)]
      exact ih h.tail hx

/-- Two ascending lists with the same elements by key are one list. -/
theorem Srt.ext {l m : List α} (hl : Srt key l) (hm : Srt key m) (h : ∀ k, fnd key l k = fnd key m k) : l = m := by
  induction l generalizing m with
  | nil =>
    cases m with
    | nil => rfl
    | cons y t => have := h (key y); rw [fnd_nil, fnd_cons, if_pos rfl] at this; cases this
  | cons x t ih =>
    cases m with
    | nil => have := h (key x); rw [fnd_nil, fnd_cons, if_pos rfl] at this; cases this
    | cons y s =>
      have hxy : key x = key y := by
        rcases Int.lt_trichotomy (key x) (key y) with c | c | c
        · have := h (key x)
          rw [fnd_cons, if_pos rfl, fnd_cons, if_neg (by omega), fnd_of_lt (fun z hz => by have := hm.head z hz; omega)] at this
          cases this
        · exact c
        · have := h (key y)
          rw [fnd_cons, if_neg (by omega), fnd_of_lt (fun z hz => by have := hl.head z hz; omega), fnd_cons, if_pos rfl] at this
          cases this
      have e1 : x = y := by
        have := h (key x)
        rw [fnd_cons, if_pos rfl, fnd_cons, if_pos hxy.symm] at this
        exact Option.some.inj this
      subst e1
      congr 1
      refine ih hl.tail hm.tail fun k => ?_
      have := h k
      rw [fnd_cons, fnd_cons] at this
      by_cases hk : key x = k
      · subst hk
        rw [fnd_of_lt hl.head, fnd_of_lt hm.head]
      · rw [if_neg hk, if_neg hk] at this; exact this

theorem Srt.append {l m : List α} (hl : Srt key l) (hm : Srt key m) (h : ∀ x ∈ l, ∀ y ∈ m, key x < key y) : Srt key (l ++ m) :=
  List.pairwise_append.2 ⟨hl, hm, h⟩
theorem Srt.left {l m : List α} (h : Srt key (l ++ m)) : Srt key l := (List.pairwise_append.1 h).1
theorem Srt.right {l m : List α} (h : Srt key (l ++ m)) : Srt key m := (List.pairwise_append.1 h).2.1
theorem Srt.filter {l : List α} (h : Srt key l) (p : α → Bool) : Srt key (l.filter p) := List.Pairwise.filter p h
theorem Srt.take {l : List α} (h : Srt key l) (n : Nat) : Srt key (l.take n) := List.Pairwise.sublist (List.take_sublist _ _) h
theorem Srt.drop {l : List α} (h : Srt key l) (n : Nat) : Srt key (l.drop n) := List.Pairwise.sublist (List.drop_sublist _ _) h

theorem fnd_filter {l : List α} (h : Srt key l) (p : α → Bool) (k : Int) : fnd key (l.filter p) k = (fnd key l k).filter p := by
  induction l with
  | nil => rfl
  | cons x t ih =>
    have ih := ih h.tail
    rw [fnd_cons]
    by_cases hx : key x = k
    · rw [if_pos hx]
      by_cases hp : p x = true
      · simp [hp, fnd_cons, hx, Option.filter]
      · have hp' : p x = false := by simpa using hp
        have : fnd key (t.filter p) k = none := fnd_of_lt fun y hy => by have := h.head y (List.mem_filter.1 hy).1; omega
        simp [hp', Option.filter, this]
    · rw [if_neg hx, ← ih]
      by_cases hp : p x = true
      · simp [hp, fnd_cons, hx]
      · have hp' : p x = false := by simpa using hp
        simp [hp']

end

section
variable {α β : Type} (ka : α → Int) (kb : β → Int)

/-- A merge of two ascending lists by their keys: what each has at the next key. -/
def pairs : List α → List β → List (Option α × Option β)
  | [], [] => []
  | [], y :: m => (none, some y) :: pairs [] m
  | x :: l, [] => (some x, none) :: pairs l []
  | x :: l, y :: m => if ka x < kb y then (some x, none) :: pairs l (y :: m) else if kb y < ka x then (none, some y) :: pairs (x :: l) m else (some x, some y) :: pairs l m
termination_by l m => l.length + m.length

/-- The key of a pair. -/
def pkey (q : Option α × Option β) : Int := match q with
  | (some x, _) => ka x
  | (none, some y) => kb y
  | (none, none) => 0

variable {ka kb}
theorem pairs_mem (l : List α) (m : List β) : ∀ z ∈ pairs ka kb l m, (∃ x ∈ l, pkey ka kb z = ka x) ∨ (∃ y ∈ m, pkey ka kb z = kb y) := by
  fun_induction pairs ka kb l m with
  | case1 => intro z hz; cases hz
  | case2 y m ih =>
    intro z hz
    rcases List.mem_cons.1 hz with rfl | hz
    · exact .inr ⟨y, List.mem_cons_self, rfl⟩
    · rcases ih z hz with ⟨x, hx, _⟩ | ⟨x, hx, e⟩
      · cases hx
      · exact .inr ⟨x, List.mem_cons_of_mem _ hx, e⟩
  | case3 x l ih =>
    intro z hz
    rcases List.mem_cons.1 hz with rfl | hz
    · exact .inl ⟨x, List.mem_cons_self, rfl⟩
    · rcases ih z hz with ⟨x, hx, e⟩ | ⟨x, hx, _⟩
      · exact .inl ⟨x, List.mem_cons_of_mem _ hx, e⟩
      · cases hx
  | case4 x l y m h ih =>
    intro z hz
    rcases List.mem_cons.1 hz with rfl | hz
    · exact .inl ⟨x, List.mem_cons_self, rfl⟩
    · rcases ih z hz with ⟨x, hx, e⟩ | h
      · exact .inl ⟨x, List.mem_cons_of_mem _ hx, e⟩
      · exact .inr h
  | case5 x l y m h1 h2 ih =>
    intro z hz
    rcases List.mem_cons.1 hz with rfl | hz
    · exact .inr ⟨y, List.mem_cons_self, rfl⟩
    · rcases ih z hz with h | ⟨x, hx, e⟩
      · exact .inl h
      · exact .inr ⟨x, List.mem_cons_of_mem _ hx, e⟩
  | case6 x l y m h1 h2 ih =>
    intro z hz
    rcases List.mem_cons.1 hz with rfl | hz
    · exact .inl ⟨x, List.mem_cons_self, rfl⟩
    · rcases ih z hz with ⟨x, hx, e⟩ | ⟨x, hx, e⟩
      · exact .inl ⟨x, List.mem_cons_of_mem _ hx, e⟩
      · exact .inr ⟨x, List.mem_cons_of_mem _ hx, e⟩

theorem pairs_srt (l : List α) (m : List β) (hl : Srt ka l) (hm : Srt kb m) : Srt (pkey ka kb) (pairs ka kb l m) := by
  fun_induction pairs ka kb l m with
  | case1 => exact Srt.nil
  | case2 y m ih =>
    refine (ih Srt.nil hm.tail).cons fun z hz => ?_
    rcases pairs_mem _ _ z hz with ⟨x, hx, _⟩ | ⟨x, hx, e⟩
    · cases hx
    · rw [e]; exact hm.head x hx
  | case3 x l ih =>
    refine (ih hl.tail Srt.nil).cons fun z hz => ?_
    rcases pairs_mem _ _ z hz with ⟨x, hx, e⟩ | ⟨x, hx, _⟩
    · rw [e]; exact hl.head x hx
    · cases hx
  | case4 x l y m h ih =>
    refine (ih hl.tail hm).cons fun z hz => ?_
    show ka x < _
    rcases pairs_mem _ _ z hz with ⟨u, hu, e⟩ | ⟨u, hu, e⟩
    · rw [e]; exact hl.head u hu
    · rw [e]
      rcases List.mem_cons.1 hu with rfl | hu
      · exact h
      · have := hm.head u hu; omega
  | case5 x l y m h1 h2 ih =>
    refine (ih hl hm.tail).cons fun z hz => ?_
    show kb y < _
    rcases pairs_mem _ _ z hz with ⟨u, hu, e⟩ | ⟨u, hu, e⟩
    · rw [e]
      rcases List.mem_cons.1 hu with rfl | hu
      · exact h2
      · have := hl.head u hu; omega
    · rw [e]; exact hm.head u hu
  | case6 x l y m h1 h2 ih =>
    refine (ih hl.tail hm.tail).cons fun z hz => ?_
    show ka x < _
    rcases pairs_mem _ _ z hz with ⟨u, hu, e⟩ | ⟨u, hu, e⟩
    · rw [e]; exact hl.head u hu
    · rw [e]; have := hm.head u hu; omega

/-- What the two have at a key, if one of them has something. -/
def both2 (a : Option α) (b : Option β) : Option (Option α × Option β) := if a.isSome || b.isSome then some (a, b) else none

theorem pairs_fnd (l : List α) (m : List β) (hl : Srt ka l) (hm : Srt kb m) (k : Int) : fnd (pkey ka kb) (pairs ka kb l m) k = both2 (fnd ka l k) (fnd kb m k) := by
  fun_induction pairs ka kb l m with
  | case1 => rfl
  | case2 y m ih =>
    rw [fnd_cons, fnd_cons, ih Srt.nil hm.tail]
    show (if kb y = k then _ else _) = _
    by_cases h : kb y = k
    · simp [h, both2, fnd_nil]
    · simp [h]
  | case3 x l ih =>
    rw [fnd_cons, fnd_cons, ih hl.tail Srt.nil]
    show (if ka x = k then _ else _) = _
    by_cases h : ka x = k
    · simp [h, both2, fnd_nil]
    · simp [h]
  | case4 x l y m h ih =>
    rw [fnd_cons, fnd_cons, ih hl.tail hm]
    show (if ka x = k then _ else _) = _
    by_cases e : ka x = k
    · have : fnd kb (y :: m) k = none := fnd_of_lt fun z hz => by
        rcases List.mem_cons.1 hz with rfl | hz
        · omega
        · have := hm.head z hz; omega
      simp [e, both2, this]
    · simp [e]
  | case5 x l y m h1 h2 ih =>
    rw [fnd_cons (x := y), fnd_cons, ih hl hm.tail]
    show (if kb y = k then _ else _) = _
    by_cases e : kb y = k
    · have : fnd ka (x :: l) k = none := fnd_of_lt fun z hz => by
        rcases List.mem_cons.1 hz with rfl | hz
        · omega
        · have := hl.head z hz; omega
      simp [e, both2, this]
    · simp [e]
  | case6 x l y m h1 h2 ih =>
    rw [fnd_cons, fnd_cons, fnd_cons, ih hl.tail hm.tail]
    show (if ka x = k then _ else _) = _
    by_cases e : ka x = k
    · have : kb y = k := by omega
      simp [e, this, both2]
    · have : ¬ kb y = k := by omega
      simp [e, this]

/-- The pairs are what the two lists have at an ascending list of all their keys. -/
theorem pairs_eq (l : List α) (m : List β) (hl : Srt ka l) (hm : Srt kb m) (ks : List Int) (hks : Srt id ks) (h : ∀ k, k ∈ ks ↔ (fnd ka l k).isSome = true ∨ (fnd kb m k).isSome = true) :
    pairs ka kb l m = ks.map fun k => (fnd ka l k, fnd kb m k) := by
  have hkey : ∀ k ∈ ks, pkey ka kb (fnd ka l k, fnd kb m k) = k := by
    intro k hk
    have := (h k).1 hk
    cases h1 : fnd ka l k with
    | some x => exact (show ka x = k from fnd_key (key := ka) h1)
    | none =>
      cases h2 : fnd kb m k with
      | some y => exact (show kb y = k from fnd_key (key := kb) h2)
      | none => rw [h1, h2] at this; simp at this
  refine (pairs_srt l m hl hm).ext (key := pkey ka kb) ?_ fun k => ?_
  · unfold Srt
    rw [List.pairwise_map]
    refine List.Pairwise.imp_of_mem ?_ hks
    intro a b ha hb hab
    rw [hkey a ha, hkey b hb]; exact hab
  · rw [pairs_fnd l m hl hm]
    clear hks
    have hsub : ∀ ks' : List Int, (∀ k ∈ ks', k ∈ ks) → fnd (pkey ka kb) (ks'.map fun k => (fnd ka l k, fnd kb m k)) k = if k ∈ ks' then some (fnd ka l k, fnd kb m k) else none := by
      intro ks'
      induction ks' with
      | nil => intro _; simp [fnd_nil]
      | cons q t ih =>
        intro hall
        rw [List.map_cons, fnd_cons, hkey q (hall q List.mem_cons_self), ih (fun k hk => hall k (List.mem_cons_of_mem _ hk))]
        by_cases e : q = k
        · subst e; simp
        · have : ¬ k = q := fun e' => e e'.symm
          simp [e, this]
    rw [hsub ks (fun k hk => hk)]
    unfold both2
    by_cases hk : k ∈ ks
    · have := (h k).1 hk
      rw [if_pos hk, if_pos (by simpa using this)]
    · have : ¬ _ := fun hh => hk ((h k).2 hh)
      rw [if_neg hk, if_neg (by simpa using this)]
end
/-- An entry: key and value. -/
abbrev Ent := Int × Int
abbrev Asc (l : List Ent) : Prop := Srt Prod.fst l

def getE : List Ent → Int → Option Int
  | [], _ => none
  | (k, v) :: t, q => if k = q then some v else getE t q

theorem getE_fnd (l : List Ent) (q : Int) : getE l q = (fnd Prod.fst l q).map Prod.snd := by
  induction l with
  | nil => rfl
  | cons x t ih =>
    obtain ⟨k, v⟩ := x
    rw [fnd_cons]
    simp only [getE]
    split <;> simp [ih]

theorem fnd_getE (l : List Ent) (q : Int) : fnd Prod.fst l q = (getE l q).map fun v => (q, v) := by
  rw [getE_fnd]
  cases h : fnd Prod.fst l q with
  | none => rfl
  | some x => have := fnd_key h; simp [← this]

theorem Asc.ext {l m : List Ent} (hl : Asc l) (hm : Asc m) (h : ∀ q, getE l q = getE m q) : l = m :=
  Srt.ext (key := Prod.fst) hl hm fun q => by rw [fnd_getE, fnd_getE, h]

instance (l : List Ent) : Decidable (Asc l) := inferInstanceAs (Decidable (List.Pairwise (fun a b : Ent => a.1 < b.1) l))
def ascB (l : List Ent) : Bool := decide (Asc l)

end Go.Proofs.Ytacdmmomkngpkaa
