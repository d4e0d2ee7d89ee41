/- A part of the proof. -/
import Derived.RowKit
import Derived.WalkKit
import Derived.ProofKit
import Derived.OpenShut
import Derived.Handy
import Derived.Lib.Hide
import Derived.BigQuiet
import Derived.Deep.QuietTactic
import Derived.OrdersHeld
import Derived.Laws.AppendOwnNone
import Derived.Deep.Draws
section
/- Plain laws on lists that are strictly ascending by a key. No program in sight. -/
namespace Go.Proofs.Ytjbkckcjmmmooaa

section
variable {α : Type} (key : α → Int)

/-- Strictly ascending. -/
def Srt (l : List α) : Prop := l.Pairwise (fun a b => key a < key b)
/-- The element with a key. -/
def fnd (l : List α) (k : Int) : Option α := l.find? (fun a => decide (key a = k))

variable {key}
theorem Srt.nil : Srt key [] := List.Pairwise.nil
theorem Srt.tail {x : α} {l : List α} (h : Srt key (x :: l)) : Srt key l := (List.pairwise_cons.1 h).2
theorem Srt.head {x : α} {l : List α} (h : Srt key (x :: l)) : ∀ y ∈ l, key x < key y := (List.pairwise_cons.1 h).1
theorem Srt.cons {x : α} {l : List α} (h : Srt key l) (hx : ∀ y ∈ l, key x < key y) : Srt key (x :: l) := List.pairwise_cons.2 ⟨hx, h⟩

theorem fnd_nil (k : Int) : fnd key ([] : List α) k = none := rfl
theorem fnd_cons (x : α) (l : List α) (k : Int) : fnd key (x :: l) k = if key x = k then some x else fnd key l k := by
  unfold fnd
  by_cases h : key x = k <;> simp [h]
theorem fnd_append (l m : List α) (k : Int) : fnd key (l ++ m) k = (fnd key l k).or (fnd key m k) := by
  unfold fnd; rw [List.find?_append]
theorem fnd_key {l : List α} {k : Int} {x : α} (h : fnd key l k = some x) : key x = k := by
  have := List.find?_some h; simpa using this
theorem fnd_mem {l : List α} {k : Int} {x : α} (h : fnd key l k = some x) : x ∈ l := List.mem_of_find?_eq_some h
theorem fnd_none {l : List α} {k : Int} : fnd key l k = none ↔ ∀ x ∈ l, key x ≠ k := by
  unfold fnd; rw [List.find?_eq_none]; simp
theorem fnd_of_lt {l : List α} {k : Int} (h : ∀ x ∈ l, k < key x) : fnd key l k = none := fnd_none.2 fun x hx => by have := h x hx; omega
theorem fnd_of_gt {l : List α} {k : Int} (h : ∀ x ∈ l, key x < k) : fnd key l k = none := fnd_none.2 fun x hx => by have := h x hx; omega

theorem Srt.fnd_self {l : List α} (h : Srt key l) {x : α} (hx : x ∈ l) : fnd key l (key x) = some x := by
  induction l with
  | nil => cases hx
  | cons y t ih =>
    rw [fnd_cons]
    rcases List.mem_cons.1 hx with rfl | hx
    · simp
    · have := h.head x hx
      rw [if_neg (by omega)]
      exact ih h.tail hx

/-- Two ascending lists with the same elements by key are one list. -/
theorem Srt.ext {l m : List α} (hl : Srt key l) (hm : Srt key m) (h : ∀ k, fnd key l k = fnd key m k) : l = m := by
  induction l generalizing m with
  | nil =>
    cases m with
    | nil => rfl
    | cons y t => have := h (key y); rw [fnd_nil, fnd_cons, if_pos rfl] at this; cases this
  | cons x t ih =>
    cases m with
    | nil => have := h (key x); rw [fnd_nil, fnd_cons, if_pos rfl] at this; cases this
    | cons y s =>
      have hxy : key x = key y := by
        rcases Int.lt_trichotomy (key x) (key y) with c | c | c
        · have := h (key x)
          rw [fnd_cons, if_pos rfl, fnd_cons, if_neg (by omega), fnd_of_lt (fun z hz => by have := hm.head z hz; omega)] at this
          cases this
        · exact c
        · have := h (key y)
          rw [fnd_cons, if_neg (by omega), fnd_of_lt (fun z hz => by have := hl.head z hz; omega), fnd_cons, if_pos rfl] at this
          cases this
      have e1 : x = y := by
        have := h (key x)
        rw [fnd_cons, if_pos rfl, fnd_cons, if_pos hxy.symm] at this
        exact Option.some.inj this
      subst e1
      congr 1
      refine ih hl.tail hm.tail fun k => ?_
      have := h k
      rw [fnd_cons, fnd_cons] at this
      by_cases hk : key x = k
      · subst hk
        rw [fnd_of_lt hl.head, fnd_of_lt hm.head]
      · rw [if_neg hk, if_neg hk] at this; exact this

theorem Srt.append {l m : List α} (hl : Srt key l) (hm : Srt key m) (h : ∀ x ∈ l, ∀ y ∈ m, key x < key y) : Srt key (l ++ m) :=
  List.pairwise_append.2 ⟨hl, hm, h⟩
theorem Srt.left {l m : List α} (h : Srt key (l ++ m)) : Srt key l := (List.pairwise_append.1 h).1
theorem Srt.right {l m : List α} (h : Srt key (l ++ m)) : Srt key m := (List.pairwise_append.1 h).2.1
theorem Srt.filter {l : List α} (h : Srt key l) (p : α → Bool) : Srt key (l.filter p) := List.Pairwise.filter p h
theorem Srt.take {l : List α} (h : Srt key l) (n : Nat) : Srt key (l.take n) := List.Pairwise.sublist (List.take_sublist _ _) h
theorem Srt.drop {l : List α} (h : Srt key l) (n : Nat) : Srt key (l.drop n) := List.Pairwise.sublist (List.drop_sublist _ _) h

theorem fnd_filter {l : List α} (h : Srt key l) (p : α → Bool) (k : Int) : fnd key (l.filter p) k = (fnd key l k).filter p := by
  induction l with
  | nil => rfl
  | cons x t ih =>
    have ih := ih h.tail
    rw [fnd_cons]
    by_cases hx : key x = k
    · rw [if_pos hx]
      by_cases hp : p x = true
      · simp [hp, fnd_cons, hx, Option.filter]
      · have hp' : p x = false := by simpa using hp
        have : fnd key (t.filter p) k = none := fnd_of_lt fun y hy => by have := h.head y (List.mem_filter.1 hy).1; omega
        simp [hp', Option.filter, this]
    · rw [if_neg hx, ← ih]
      by_cases hp : p x = true
      · simp [hp, fnd_cons, hx]
      · have hp' : p x = false := by simpa using hp
        simp [hp']

end

section
variable {α β : Type} (ka : α → Int) (kb : β → Int)

/-- A merge of two ascending lists by their keys: what each has at the next key. -/
def pairs : List α → List β → List (Option α × Option β)
  | [], [] => []
  | [], y :: m => (none, some y) :: pairs [] m
  | x :: l, [] => (some x, none) :: pairs l []
  | x :: l, y :: m => if ka x < kb y then (some x, none) :: pairs l (y :: m) else if kb y < ka x then (none, some y) :: pairs (x :: l) m else (some x, some y) :: pairs l m
termination_by l m => l.length + m.length

/-- The key of a pair. -/
def pkey (q : Option α × Option β) : Int := match q with
  | (some x, _) => ka x
  | (none, some y) => kb y
  | (none, none) => 0

variable {ka kb}
theorem pairs_mem (l : List α) (m : List β) : ∀ z ∈ pairs ka kb l m, (∃ x ∈ l, pkey ka kb z = ka x) ∨ (∃ y ∈ m, pkey ka kb z = kb y) := by
  fun_induction pairs ka kb l m with
  | case1 => intro z hz; cases hz
  | case2 y m ih =>
    intro z hz
    rcases List.mem_cons.1 hz with rfl | hz
    · exact .inr ⟨y, List.mem_cons_self, rfl⟩
    · rcases ih z hz with ⟨x, hx, _⟩ | ⟨x, hx, e⟩
      · cases hx
      · exact .inr ⟨x, List.mem_cons_of_mem _ hx, e⟩
  | case3 x l ih =>
    intro z hz
    rcases List.mem_cons.1 hz with rfl | hz
    · exact .inl ⟨x, List.mem_cons_self, rfl⟩
    · rcases ih z hz with ⟨x, hx, e⟩ | ⟨x, hx, _⟩
      · exact .inl ⟨x, List.mem_cons_of_mem _ hx, e⟩
      · cases hx
  | case4 x l y m h ih =>
    intro z hz
    rcases List.mem_cons.1 hz with rfl | hz
    · exact .inl ⟨x, List.mem_cons_self, rfl⟩
    · rcases ih z hz with ⟨x, hx, e⟩ | h
      · exact .inl ⟨x, List.mem_cons_of_mem _ hx, e⟩
      · exact .inr h
  | case5 x l y m h1 h2 ih =>
    intro z hz
    rcases List.mem_cons.1 hz with rfl | hz
    · exact .inr ⟨y, List.mem_cons_self, rfl⟩
    · rcases ih z hz with h | ⟨x, hx, e⟩
      · exact .inl h
      · exact .inr ⟨x, List.mem_cons_of_mem _ hx, e⟩
  | case6 x l y m h1 h2 ih =>
    intro z hz
    rcases List.mem_cons.1 hz with rfl | hz
    · exact .inl ⟨x, List.mem_cons_self, rfl⟩
    · rcases ih z hz with ⟨x, hx, e⟩ | ⟨x, hx, e⟩
      · exact .inl ⟨x, List.mem_cons_of_mem _ hx, e⟩
      · exact .inr ⟨x, List.mem_cons_of_mem _ hx, e⟩

theorem pairs_srt (l : List α) (m : List β) (hl : Srt ka l) (hm : Srt kb m) : Srt (pkey ka kb) (pairs ka kb l m) := by
  fun_induction pairs ka kb l m with
  | case1 => exact Srt.nil
  | case2 y m ih =>
    refine (ih Srt.nil hm.tail).cons fun z hz => ?_
    rcases pairs_mem _ _ z hz with ⟨x, hx, _⟩ | ⟨x, hx, e⟩
    · cases hx
    · rw [e]; exact hm.head x hx
  | case3 x l ih =>
    refine (ih hl.tail Srt.nil).cons fun z hz => ?_
    rcases pairs_mem _ _ z hz with ⟨x, hx, e⟩ | ⟨x, hx, _⟩
    · rw [e]; exact hl.head x hx
    · cases hx
  | case4 x l y m h ih =>
    refine (ih hl.tail hm).cons fun z hz => ?_
    show ka x < _
    rcases pairs_mem _ _ z hz with ⟨u, hu, e⟩ | ⟨u, hu, e⟩
    · rw [e]; exact hl.head u hu
    · rw [e]
      rcases List.mem_cons.1 hu with rfl | hu
      · exact h
      · have := hm.head u hu; omega
  | case5 x l y m h1 h2 ih =>
    refine (ih hl hm.tail).cons fun z hz => ?_
    show kb y < _
    rcases pairs_mem _ _ z hz with ⟨u, hu, e⟩ | ⟨u, hu, e⟩
    · rw [e]
      rcases List.mem_cons.1 hu with rfl | hu
      · exact h2
      · have := hl.head u hu; omega
    · rw [e]; exact hm.head u hu
  | case6 x l y m h1 h2 ih =>
    refine (ih hl.tail hm.tail).cons fun z hz => ?_
    show ka x < _
    rcases pairs_mem _ _ z hz with ⟨u, hu, e⟩ | ⟨u, hu, e⟩
    · rw [e]; exact hl.head u hu
    · rw [e]; have := hm.head u hu; omega

/-- What the two have at a key, if one of them has something. -/
def both2 (a : Option α) (b : Option β) : Option (Option α × Option β) := if a.isSome || b.isSome then some (a, b) else none

theorem pairs_fnd (l : List α) (m : List β) (hl : Srt ka l) (hm : Srt kb m) (k : Int) : fnd (pkey ka kb) (pairs ka kb l m) k = both2 (fnd ka l k) (fnd kb m k) := by
  fun_induction pairs ka kb l m with
  | case1 => rfl
  | case2 y m ih =>
    rw [fnd_cons, fnd_cons, ih Srt.nil hm.tail]
    show (if kb y = k then _ else _) = _
    by_cases h : kb y = k
    · simp [h, both2, fnd_nil]
    · simp [h]
  | case3 x l ih =>
    rw [fnd_cons, fnd_cons, ih hl.tail Srt.nil]
    show (if ka x = k then _ else _) = _
    by_cases h : ka x = k
    · simp [h, both2, fnd_nil]
    · simp [h]
  | case4 x l y m h ih =>
    rw [fnd_cons, fnd_cons, ih hl.tail hm]
    show (if ka x = k then _ else _) = _
    by_cases e : ka x = k
    · have : fnd kb (y :: m) k = none := fnd_of_lt fun z hz => by
        rcases List.mem_cons.1 hz with rfl | hz
        · omega
        · have := hm.head z hz; omega
      simp [e, both2, this]
    · simp [e]
  | case5 x l y m h1 h2 ih =>
    rw [fnd_cons (x := y), fnd_cons, ih hl hm.tail]
    show (if kb y = k then _ else _) = _
    by_cases e : kb y = k
    · have : fnd ka (x :: l) k = none := fnd_of_lt fun z hz => by
        rcases List.mem_cons.1 hz with rfl | hz
        · omega
        · have := hl.head z hz; omega
      simp [e, both2, this]
    · simp [e]
  | case6 x l y m h1 h2 ih =>
    rw [fnd_cons, fnd_cons, fnd_cons, ih hl.tail hm.tail]
    show (if ka x = k then _ else _) = _
    by_cases e : ka x = k
    · have : kb y = k := by omega
      simp [e, this, both2]
    · have : ¬ kb y = k := by omega
      simp [e, this]

/-- The pairs are what the two lists have at an ascending list of all their keys. -/
theorem pairs_eq (l : List α) (m : List β) (hl : Srt ka l) (hm : Srt kb m) (ks : List Int) (hks : Srt id ks) (h : ∀ k, k ∈ ks ↔ (fnd ka l k).isSome = true ∨ (fnd kb m k).isSome = true) :
    pairs ka kb l m = ks.map fun k => (fnd ka l k, fnd kb m k) := by
  have hkey : ∀ k ∈ ks, pkey ka kb (fnd ka l k, fnd kb m k) = k := by
    intro k hk
    have := (h k).1 hk
    cases h1 : fnd ka l k with
    | some x => exact (show ka x = k from fnd_key (key := ka) h1)
    | none =>
      cases h2 : fnd kb m k with
      | some y => exact (show kb y = k from fnd_key (key := kb) h2)
      | none => rw [h1, h2] at this; simp at this
  refine (pairs_srt l m hl hm).ext (key := pkey ka kb) ?_ fun k => ?_
  · unfold Srt
    rw [List.pairwise_map]
    refine List.Pairwise.imp_of_mem ?_ hks
    intro a b ha hb hab
    rw [hkey a ha, hkey b hb]; exact hab
  · rw [pairs_fnd l m hl hm]
    clear hks
    have hsub : ∀ ks' : List Int, (∀ k ∈ ks', k ∈ ks) → fnd (pkey ka kb) (ks'.map fun k => (fnd ka l k, fnd kb m k)) k = if k ∈ ks' then some (fnd ka l k, fnd kb m k) else none := by
      intro ks'
      induction ks' with
      | nil => intro _; simp [fnd_nil]
      | cons q t ih =>
        intro hall
        rw [List.map_cons, fnd_cons, hkey q (hall q List.mem_cons_self), ih (fun k hk => hall k (List.mem_cons_of_mem _ hk))]
        by_cases e : q = k
        · subst e; simp
        · have : ¬ k = q := fun e' => e e'.symm
          simp [e, this]
    rw [hsub ks (fun k hk => hk)]
    unfold both2
    by_cases hk : k ∈ ks
    · have := (h k).1 hk
      rw [if_pos hk, if_pos (by simpa using this)]
    · have : ¬ _ := fun hh => hk ((h k).2 hh)
      rw [if_neg hk, if_neg (by simpa using this)]
end
/-- An entry: key and value. -/
abbrev Ent := Int × Int
abbrev Asc (l : List Ent) : Prop := Srt Prod.fst l

def getE : List Ent → Int → Option Int
  | [], _ => none
  | (k, v) :: t, q => if k = q then some v else getE t q

theorem getE_fnd (l : List Ent) (q : Int) : getE l q = (fnd Prod.fst l q).map Prod.snd := by
  induction l with
  | nil => rfl
  | cons x t ih =>
    obtain ⟨k, v⟩ := x
    rw [fnd_cons]
    simp only [getE]
    split <;> simp [ih]

theorem fnd_getE (l : List Ent) (q : Int) : fnd Prod.fst l q = (getE l q).map fun v => (q, v) := by
  rw [getE_fnd]
  cases h : fnd Prod.fst l q with
  | none => rfl
  | some x => have := fnd_key h; simp [← this]

theorem Asc.ext {l m : List Ent} (hl : Asc l) (hm : Asc m) (h : ∀ q, getE l q = getE m q) : l = m :=
  Srt.ext (key := Prod.fst) hl hm fun q => by rw [fnd_getE, fnd_getE, h]

instance (l : List Ent) : Decidable (Asc l) := inferInstanceAs (Decidable (List.Pairwise (fun a b : Ent => a.1 < b.1) l))
def ascB (l : List Ent) : Bool := decide (Asc l)

end Go.Proofs.Ytjbkckcjmmmooaa
end
section
/- Words for slices of structs of one-cell fields that read as lists, and what keeps them. No program in sight. -/
namespace Go.Proofs.Ytjbkckcjmmmooaa
open Go.RowKit

/-- The slice with address A, length n and capacity c reads as the list l; each element x has the cells f x. -/
structure Rd {α : Type} (f : α → List Value) (sz : Nat) (w : World) (A : Option Addr) (n c : Nat) (l : List α) : Prop where
  len : n = l.length
  cap : n ≤ c
  max : c ≤ maxLen
  row : ∀ x, (f x).length = sz
  nul : A = none → c = 0
  get : 0 < n → ∃ b o, A = some ⟨b, o, none⟩ ∧ b < w.heap.size ∧ ∀ k x, l[k]? = some x → ∀ j u, (f x)[j]? = some u → w.cell? ⟨b, o + k * sz + j, none⟩ = some u

section
variable {α : Type} {f : α → List Value} {sz : Nat} {w w' : World} {A : Option Addr} {n c : Nat} {l : List α}

theorem Rd.at_ (h : Rd f sz w A n c l) {k : Nat} {x : α} (hx : l[k]? = some x) : ∃ b o, A = some ⟨b, o, none⟩ ∧ b < w.heap.size ∧ ∀ j u, (f x)[j]? = some u → w.cell? ⟨b, o + k * sz + j, none⟩ = some u := by
  have hk : k < l.length := by
    rcases Nat.lt_or_ge k l.length with h1 | h1
    · exact h1
    · rw [List.getElem?_eq_none h1] at hx; cases hx
  obtain ⟨b, o, hA, hb, hc⟩ := h.get (by rw [h.len]; omega)
  exact ⟨b, o, hA, hb, hc k x hx⟩

theorem Rd.keep (h : Rd f sz w A n c l) (hs : w.heap.size ≤ w'.heap.size) (hk : ∀ b o, b < w.heap.size → w'.cell? ⟨b, o, none⟩ = w.cell? ⟨b, o, none⟩) : Rd f sz w' A n c l :=
  ⟨h.len, h.cap, h.max, h.row, h.nul, fun hn => by
    obtain ⟨b, o, hA, hb, hc⟩ := h.get hn
    exact ⟨b, o, hA, by omega, fun k x hx j u hu => (hk _ _ hb).trans (hc k x hx j u hu)⟩⟩

theorem Rd.below (h : Rd f sz w A n c l) (hb : Below w.heap.size w w') : Rd f sz w' A n c l :=
  h.keep hb.size fun _ _ hlt => hb.cell (by exact hlt)

theorem Rd.nil (hr : ∀ x, (f x).length = sz) : Rd f sz w none 0 0 [] := ⟨rfl, by omega, by unfold maxLen; omega, hr, fun _ => rfl, fun h => absurd h (by omega)⟩
end

theorem below_drewN {B : Nat} {a w : World} (h : Below B a w) (n : Nat) : Below B a (w.drewN n) := ⟨h.os, h.tape, h.output, h.size, h.block⟩

/-- The slice value v is nil or the call's own row (blocks from B on), and holds the list l; each element x has the cells f x. -/
def Own {α : Type} (f : α → List Value) (sz : Nat) (e : TypeId) (w : World) (B : Nat) (v : Value) (l : List α) : Prop :=
  (∀ x, (f x).length = sz) ∧ w.ownsRow B e sz v l.length (l.flatMap f)

section
variable {α : Type} {f : α → List Value} {sz : Nat} {e : TypeId} {w w' : World} {B : Nat} {v : Value} {l : List α}

theorem length_flat (hr : ∀ x, (f x).length = sz) (l : List α) : (l.flatMap f).length = l.length * sz := by
  induction l with
  | nil => simp
  | cons x t ih => simp [ih, hr x, Nat.succ_mul, Nat.add_comm]

theorem flat_get (hr : ∀ x, (f x).length = sz) : ∀ (l : List α) (k : Nat) (x : α), l[k]? = some x → ∀ j u, (f x)[j]? = some u → (l.flatMap f)[k * sz + j]? = some u := by
  intro l
  induction l with
  | nil => intro k x hx; simp at hx
  | cons y t ih =>
    intro k x hx j u hu
    rw [List.flatMap_cons]
    cases k with
    | zero =>
      simp at hx; subst hx
      have hj : j < (f y).length := (List.getElem?_eq_some_iff.1 hu).1
      rw [Nat.zero_mul, Nat.zero_add, List.getElem?_append_left hj]; exact hu
    | succ k =>
      simp at hx
      have := ih k x hx j u hu
      rw [List.getElem?_append_right (by rw [hr y, Nat.succ_mul]; omega), hr y, ← this]
      congr 1
      rw [Nat.succ_mul]; omega

theorem Own.nil (hr : ∀ x, (f x).length = sz) : Own f sz e w B (.slice none 0 0) ([] : List α) := ⟨hr, World.ownsRow_nil _ _ _ _⟩

theorem Own.form (h : Own f sz e w B v l) : ∃ A c, v = .slice A l.length c ∧ Rd f sz w A l.length c l ∧ (∀ a, A = some a → B ≤ a.block) := by
  obtain ⟨hr, hlen, h⟩ := h
  rcases h with ⟨rfl, h0⟩ | ⟨g, cap, cur, rfl, hg, hh, hn, hm, hsz, htk⟩
  · have hnil : l = [] := List.eq_nil_of_length_eq_zero h0
    subst hnil
    exact ⟨none, 0, rfl, Rd.nil hr, fun _ h => by cases h⟩
  · refine ⟨some ⟨g, 0, none⟩, cap, rfl, ⟨rfl, hn, hm, hr, fun h => (by cases h), fun hpos => ⟨g, 0, rfl, ?_, ?_⟩⟩, fun a h => by cases h; exact hg⟩
    · rcases Nat.lt_or_ge g w.heap.size with h1 | h1
      · exact h1
      · rw [Array.getElem?_eq_none h1] at hh; cases hh
    · intro k x hx j u hu
      have h1 := flat_get hr l k x hx j u hu
      rw [← htk, List.getElem?_take] at h1
      rw [cell_of_row w g _ cur e _ hh]
      split at h1
      · rw [← h1, Array.getElem?_toList]; simp
      · cases h1

theorem Own.rd {A : Option Addr} {n c : Nat} (h : Own f sz e w B (.slice A n c) l) : n = l.length ∧ Rd f sz w A n c l := by
  obtain ⟨A', c', hv, hrd, _⟩ := h.form
  injection hv with h1 h2 h3
  subst h1 h2 h3
  exact ⟨rfl, hrd⟩

theorem Own.ge (h : Own f sz e w B v l) : ∀ k, v.ownBlock = some k → B ≤ k ∧ k < w.heap.size := h.2.lt

/-- What is owned stays owned where the blocks from B on are as they were. -/
theorem Own.keep (h : Own f sz e w B v l) (hk : ∀ b, B ≤ b → b < w.heap.size → w'.heap[b]? = w.heap[b]?) : Own f sz e w' B v l := by
  obtain ⟨hr, hlen, h⟩ := h
  refine ⟨hr, hlen, ?_⟩
  rcases h with h | ⟨g, cap, cur, hv, hg, hh, rest⟩
  · exact .inl h
  · have hlt : g < w.heap.size := by
      rcases Nat.lt_or_ge g w.heap.size with h1 | h1
      · exact h1
      · rw [Array.getElem?_eq_none h1] at hh; cases hh
    exact .inr ⟨g, cap, cur, hv, hg, (hk g hg hlt).trans hh, rest⟩

theorem Own.below (h : Own f sz e w B v l) (hb : Below w.heap.size w w') : Own f sz e w' B v l := h.keep fun b _ hlt => hb.block b hlt
theorem Own.drew (h : Own f sz e w B v l) : Own f sz e w.drew B v l := h
theorem Own.drewN (h : Own f sz e w B v l) (n : Nat) : Own f sz e (w.drewN n) B v l := h
theorem Own.alloc (h : Own f sz e w B v l) (o : Obj) : Own f sz e (w.alloc o) B v l := h.below ((Below.refl _ _).alloc (Nat.le_refl _) o)
theorem Own.mono {B' : Nat} (h : Own f sz e w B v l) (hB : B' ≤ B) : Own f sz e w B' v l := by
  obtain ⟨hr, hlen, h⟩ := h
  refine ⟨hr, hlen, ?_⟩
  rcases h with h | ⟨g, cap, cur, hv, hg, rest⟩
  · exact .inl h
  · exact .inr ⟨g, cap, cur, hv, by omega, rest⟩
end

/-- 'out = append(out, x)': out nil or the call's own; the one element lies in a new block. -/
theorem wpList_push {P : Program} {α : Type} {f : α → List Value} {sz : Nat} {e : TypeId} {W : World} {B : Nat} {ops : Array Oper} {rest : List Oper} {o : Oper} {a : Act} {Q : Exit → Act → World → Prop}
    (hgd : o.guard = none) (s x : Operand) (t : TypeId) (ho : o.op = .call { callee := .builtin .append, args := #[s, x], argTypes := #[t, t] })
    (z : Value) (bytes : Nat) (ht : P.underlying t = some (.slice e)) (hinfo : (P.info? e).map (fun i => (i.zero, i.size, i.bytes)) = some (some z, sz, bytes)) (hzs : z.cells.size = sz) (hsz : 0 < sz)
    (v : Value) (l : List α) (hown : Own f sz e W B v l) (hs : a.eval s = v) (y : α) (cs : Array Value) (hcs : f y = cs.toList) (hx : a.eval x = .slice (some ⟨W.heap.size, 0, none⟩) 1 1) (h1 : ∀ u ∈ f y, u.oneCell' = true)
    (hbytes : (l.length + 1) * bytes ≤ 140737488355328) (hby : 0 < bytes) (hB : B ≤ W.heap.size)
    (h : ∀ v' w', Own f sz e w' B v' (l ++ [y]) → W.grownBy w' v.ownBlock → v' ≠ .slice none 0 0 → wpList P ops Q rest (a.put o.dst v') w') : wpList P ops Q (o :: rest) a (W.alloc (.cells cs e)) := by
  obtain ⟨i, hi, hz0, hz1, hz2⟩ := info_parts hinfo
  have hl := hown.1 y
  refine wpList_append_own _ hgd s x t ho B e i z sz bytes ht hi hz0 hz1 hz2 hzs hsz v l.length (l.flatMap f) hs ((hown.alloc _).2) ⟨W.heap.size, 0, none⟩ 1 1 (f y) hx (by omega) ?_ h1 ?_ hbytes (by simp; omega) ?_
  · intro j u hu
    rw [Addr.add_lit, Nat.zero_add, World.cell?_alloc_new]
    rw [hcs] at hu
    rw [← Array.getElem?_toList]; exact hu
  · have : l.length + 1 ≤ 140737488355328 := Nat.le_trans (Nat.le_mul_of_pos_right _ hby) hbytes
    unfold maxLen; omega
  · intro v' w' hown' hg hnil
    refine h v' w' ⟨hown.1, by simpa using hown'⟩ ?_ ?_
    · exact ⟨hg.os, hg.tape, hg.output, Nat.le_trans (by simp) hg.size, fun k hk hne => (hg.block k (by simp; omega) hne).trans (Below.heap_alloc W _ k hk)⟩
    · intro e; have := hnil.1 e; simp at this

/-- The same behind draws. -/
theorem wpList_pushN {P : Program} {α : Type} {f : α → List Value} {sz : Nat} {e : TypeId} {W : World} {B m : Nat} {ops : Array Oper} {rest : List Oper} {o : Oper} {a : Act} {Q : Exit → Act → World → Prop}
    (hgd : o.guard = none) (s x : Operand) (t : TypeId) (ho : o.op = .call { callee := .builtin .append, args := #[s, x], argTypes := #[t, t] })
    (z : Value) (bytes : Nat) (ht : P.underlying t = some (.slice e)) (hinfo : (P.info? e).map (fun i => (i.zero, i.size, i.bytes)) = some (some z, sz, bytes)) (hzs : z.cells.size = sz) (hsz : 0 < sz)
    (v : Value) (l : List α) (hown : Own f sz e W B v l) (hs : a.eval s = v) (y : α) (cs : Array Value) (hcs : f y = cs.toList) (hx : a.eval x = .slice (some ⟨W.heap.size, 0, none⟩) 1 1) (h1 : ∀ u ∈ f y, u.oneCell' = true)
    (hbytes : (l.length + 1) * bytes ≤ 140737488355328) (hby : 0 < bytes) (hB : B ≤ W.heap.size)
    (h : ∀ v' w', Own f sz e w' B v' (l ++ [y]) → W.grownBy w' v.ownBlock → v' ≠ .slice none 0 0 → wpList P ops Q rest (a.put o.dst v') w') : wpList P ops Q (o :: rest) a ((W.alloc (.cells cs e)).drewN m) := by
  obtain ⟨i, hi, hz0, hz1, hz2⟩ := info_parts hinfo
  have hl := hown.1 y
  refine wpList_append_own _ hgd s x t ho B e i z sz bytes ht hi hz0 hz1 hz2 hzs hsz v l.length (l.flatMap f) hs (((hown.alloc _).drewN _).2) ⟨W.heap.size, 0, none⟩ 1 1 (f y) hx (by omega) ?_ h1 ?_ hbytes (by simp; omega) ?_
  · intro j u hu
    rw [Addr.add_lit, Nat.zero_add, World.cell?_drewN, World.cell?_alloc_new]
    rw [hcs] at hu
    rw [← Array.getElem?_toList]; exact hu
  · have : l.length + 1 ≤ 140737488355328 := Nat.le_trans (Nat.le_mul_of_pos_right _ hby) hbytes
    unfold maxLen; omega
  · intro v' w' hown' hg hnil
    refine h v' w' ⟨hown.1, by simpa using hown'⟩ ?_ ?_
    · exact ⟨hg.os, hg.tape, hg.output, Nat.le_trans (by simp) hg.size, fun k hk hne => (hg.block k (by simp; omega) hne).trans (Below.heap_alloc W _ k hk)⟩
    · intro e; have := hnil.1 e; simp at this

/-- A block of another element type is not the row that is owned: it stays as it is behind an append. -/
theorem Own.other {α : Type} {f : α → List Value} {sz : Nat} {e t : TypeId} {w w' : World} {B b : Nat} {v : Value} {l : List α} {cs : Array Value} (h : Own f sz e w B v l) (hb : w.heap[b]? = some (.cells cs t (0, 0))) (ht : t ≠ e) (hg : w.grownBy w' v.ownBlock) :
    w'.heap[b]? = some (.cells cs t (0, 0)) := by
  have hlt : b < w.heap.size := by
    rcases Nat.lt_or_ge b w.heap.size with h1 | h1
    · exact h1
    · rw [Array.getElem?_eq_none h1] at hb; cases hb
  rw [hg.block b hlt ?_, hb]
  obtain ⟨_, _, h⟩ := h
  rcases h with ⟨rfl, _⟩ | ⟨g, cap, cur, rfl, _, hh, _⟩
  · intro h; cases h
  · intro e'
    have : b = g := Option.some.inj e'
    subst this
    rw [hb] at hh
    injection hh with hh
    injection hh with _ h2 _
    exact ht h2

theorem box_at {w : World} {b : Nat} {t : TypeId} {cs : Array Value} (h : w.heap[b]? = some (.cells cs t (0, 0))) (i : Nat) : w.cell? ⟨b, i, none⟩ = cs[i]? := cell_of_row w b i cs t (0, 0) h
theorem box_lt {w : World} {b : Nat} {o : Obj} (h : w.heap[b]? = some o) : b < w.heap.size := by
  rcases Nat.lt_or_ge b w.heap.size with h1 | h1
  · exact h1
  · rw [Array.getElem?_eq_none h1] at h; cases h
theorem box_below {w w' : World} {b B : Nat} {o : Obj} (h : w.heap[b]? = some o) (hb : Below B w w') (hlt : b < B) : w'.heap[b]? = some o := (hb.block b hlt).trans h

/-- 'l[k:]': what is left of it, at the address that the model gives it. -/
theorem Rd.cut {α : Type} {f : α → List Value} {sz : Nat} {w : World} {A : Option Addr} {n c : Nat} {l : List α} (h : Rd f sz w A n c l) {k : Nat} (hk : k ≤ n) :
    Rd f sz w (if c = k then A else A.map (·.add (k * sz))) (n - k) (c - k) (l.drop k) := by
  have hc := h.cap
  refine ⟨by rw [List.length_drop, h.len], by omega, by have := h.max; omega, h.row, fun hA => ?_, fun hn => ?_⟩
  · by_cases e : c = k
    · omega
    · rw [if_neg e] at hA
      have : A = none := by cases A <;> simp_all
      have := h.nul this; omega
  · obtain ⟨b, o, rfl, hb, hcell⟩ := h.get (by omega)
    rw [if_neg (by omega)]
    refine ⟨b, o + k * sz, by simp [Addr.add_lit], hb, fun j x hx i u hu => ?_⟩
    rw [List.getElem?_drop] at hx
    have := hcell (k + j) x hx i u hu
    rw [Nat.add_mul] at this
    rw [show o + k * sz + j * sz + i = o + (k * sz + j * sz) + i by omega]; exact this

/-- 'l[:k]'. -/
theorem Rd.head {α : Type} {f : α → List Value} {sz : Nat} {w : World} {A : Option Addr} {n c : Nat} {l : List α} (h : Rd f sz w A n c l) {k : Nat} (hk : k ≤ n) :
    Rd f sz w A k c (l.take k) := by
  have hc := h.cap
  refine ⟨by rw [List.length_take, ← h.len]; omega, by omega, h.max, h.row, h.nul, fun hn => ?_⟩
  obtain ⟨b, o, rfl, hb, hcell⟩ := h.get (by omega)
  refine ⟨b, o, rfl, hb, fun j x hx i u hu => hcell j x ?_ i u hu⟩
  rw [List.getElem?_take] at hx
  split at hx
  · exact hx
  · cases hx

/-- 'out = append(out, src...)': out nil or the call's own. -/
theorem wpList_pushAll {P : Program} {α : Type} {f : α → List Value} {sz : Nat} {e : TypeId} {W : World} {B : Nat} {ops : Array Oper} {rest : List Oper} {o : Oper} {a : Act} {Q : Exit → Act → World → Prop}
    (hgd : o.guard = none) (s x : Operand) (t : TypeId) (ho : o.op = .call { callee := .builtin .append, args := #[s, x], argTypes := #[t, t] })
    (z : Value) (bytes : Nat) (ht : P.underlying t = some (.slice e)) (hinfo : (P.info? e).map (fun i => (i.zero, i.size, i.bytes)) = some (some z, sz, bytes)) (hzs : z.cells.size = sz) (hsz : 0 < sz)
    (v : Value) (l : List α) (hown : Own f sz e W B v l) (hs : a.eval s = v) (A : Option Addr) (m c : Nat) (ys : List α) (hx : a.eval x = .slice A m c) (hsrc : Rd f sz W A m c ys) (h1 : ∀ y, ∀ u ∈ f y, u.oneCell' = true)
    (hbytes : (l.length + ys.length) * bytes ≤ 140737488355328) (hby : 0 < bytes) (hB : B ≤ W.heap.size)
    (h : ∀ v' w', Own f sz e w' B v' (l ++ ys) → W.grownBy w' v.ownBlock → wpList P ops Q rest (a.put o.dst v') w') : wpList P ops Q (o :: rest) a W := by
  obtain ⟨i, hi, hz0, hz1, hz2⟩ := info_parts hinfo
  have hone : ∀ u ∈ ys.flatMap f, u.oneCell' = true := fun u hu => by
    obtain ⟨y, _, hy⟩ := List.mem_flatMap.1 hu
    exact h1 y u hy
  have hlm := hsrc.len
  have hle : l.length + ys.length ≤ 140737488355328 := Nat.le_trans (Nat.le_mul_of_pos_right _ hby) hbytes
  cases A with
  | none =>
    have hc0 := hsrc.nul rfl
    have hcp := hsrc.cap
    have hm0 : m = 0 := by omega
    subst hc0 hm0
    have hys : ys = [] := List.eq_nil_of_length_eq_zero hlm.symm
    subst hys
    have hrun := run_append_owned_none (P := P) (w := W) B t o.type e i sz ht hi v l.length (l.flatMap f) hown.2
    refine wpList_plain hgd fun K hK => ?_
    unfold Oper.wp
    simp [execOp, ho, resolve, invoke, builtin, hs, hx, hrun, Result.andThen]
    exact hK _ _ (h v W (by simpa using hown) (World.grownBy.refl _ _))
  | some ad =>
    refine wpList_append_own _ hgd s x t ho B e i z sz bytes ht hi hz0 hz1 hz2 hzs hsz v l.length (l.flatMap f) hs hown.2 ad m c (ys.flatMap f) hx (by rw [length_flat hown.1, hlm]) ?_ hone ?_ (by rw [hlm]; exact hbytes) hB ?_
    · intro j u hu
      have hpos : 0 < m := by
        rcases Nat.eq_zero_or_pos m with h0 | h0
        · rw [h0] at hlm
          rw [List.eq_nil_of_length_eq_zero hlm.symm] at hu; simp at hu
        · exact h0
      obtain ⟨b, of, hA, _, hcell⟩ := hsrc.get hpos
      cases hA
      have hjl : j < ys.length * sz := by
        have := (List.getElem?_eq_some_iff.1 hu).1
        rwa [length_flat hown.1] at this
      have hk : j / sz < ys.length := (Nat.div_lt_iff_lt_mul hsz).2 hjl
      have hx2 : ys[j / sz]? = some ys[j / sz] := List.getElem?_eq_getElem hk
      have hr : j % sz < (f ys[j / sz]).length := by rw [hown.1]; exact Nat.mod_lt _ hsz
      have hu2 : (f ys[j / sz])[j % sz]? = some ((f ys[j / sz])[j % sz]) := List.getElem?_eq_getElem hr
      have h2 := flat_get hown.1 ys (j / sz) _ hx2 (j % sz) _ hu2
      rw [Nat.div_add_mod' j sz] at h2
      rw [hu] at h2
      have h3 := hcell (j / sz) _ hx2 (j % sz) _ hu2
      rw [Addr.add_lit, ← Nat.div_add_mod' j sz, ← Nat.add_assoc, Nat.div_add_mod' j sz] at *
      rw [h2]; exact h3
    · unfold maxLen; omega
    · intro v' w' hown' hg hnil
      exact h v' w' ⟨hown.1, by rw [List.length_append, List.flatMap_append, ← hlm]; exact hown'⟩ hg

/-- An element of a list, by its place. -/
theorem get_some {α : Type} {l : List α} {k : Nat} (h : k < l.length) : ∃ x, l[k]? = some x ∧ l.drop k = x :: l.drop (k + 1) ∧ l.take (k + 1) = l.take k ++ [x] :=
  ⟨l[k], List.getElem?_eq_getElem h, List.drop_eq_getElem_cons h, by rw [List.take_succ_eq_append_getElem h]⟩

def entC (x : Ent) : List Value := [.int .i64 x.1, .int .i64 x.2]
abbrev RdE := Rd entC 2
abbrev OwnE := Own entC 2
theorem entC_len (x : Ent) : (entC x).length = 2 := rfl
theorem entC_one (x : Ent) : ∀ u ∈ entC x, u.oneCell' = true := by
  intro u hu; simp [entC] at hu; rcases hu with rfl | rfl <;> rfl

theorem Rd.cellsE {w : World} {A : Option Addr} {n c : Nat} {l : List Ent} (h : RdE w A n c l) {k : Nat} {a b : Int} (hx : l[k]? = some (a, b)) :
    ∃ bl o, A = some ⟨bl, o, none⟩ ∧ bl < w.heap.size ∧ w.cell? ⟨bl, o + k * 2, none⟩ = some (.int .i64 a) ∧ w.cell? ⟨bl, o + k * 2 + 1, none⟩ = some (.int .i64 b) := by
  obtain ⟨bl, o, hA, hb, hc⟩ := h.at_ hx
  exact ⟨bl, o, hA, hb, hc 0 _ rfl, hc 1 _ rfl⟩

end Go.Proofs.Ytjbkckcjmmmooaa
end
section
/- A logic of memory for walks: symbolic values, chunks of memory with names, and what keeps them. No program in sight. -/
namespace Go.Proofs.Ytjbkckcjmmmooaa.Sx
open Go

/-- A symbolic value of one cell. -/
inductive At where
  | any
  | val (v : Value)
  | ptr (n off : Nat)
  | eptr (n i sz off : Nat)
  | slc (n : Nat)
  | fn (f : FuncId) (caps : List Nat)

inductive TV where
  | at (a : At)
  | agg (l : List At)

inductive SV where
  | one (x : TV)
  | tup (l : List TV)

/-- What the logic is told of a program: how the elements of its slices are written, and what an abstract object is. -/
structure Ctx where
  P : Program
  EC : Type
  deq : DecidableEq EC
  α : EC → Type
  enc : (e : EC) → α e → List Value
  dcd : (e : EC) → List Value → Option (α e)
  dft : (e : EC) → α e
  sz : EC → Nat
  tid : EC → TypeId
  byT : TypeId → Option EC
  X : Type
  I : X → World → Value → (Nat → Prop) → Prop

structure Ctx.OK (C : Ctx) : Prop where
  len : ∀ e x, (C.enc e x).length = C.sz e
  one : ∀ e x, ∀ u ∈ C.enc e x, u.oneCell' = true
  dcd : ∀ e cs x, C.dcd e cs = some x → C.enc e x = cs
  pos : ∀ e, 0 < C.sz e
  info : ∀ e, ∃ i z, C.P.info? (C.tid e) = some i ∧ i.zero = some z ∧ i.size = C.sz e ∧ z.cells.toList = C.enc e (C.dft e) ∧ 0 < i.bytes
  byT : ∀ t e, C.byT t = some e → t = C.tid e
  local_ : ∀ x w w' v f, C.I x w v f → w.heap.size ≤ w'.heap.size → (∀ b, f b → w'.heap[b]? = w.heap[b]?) → C.I x w' v f
  mixed : C.P.follows .mixedOrders = true

inductive Chunk (C : Ctx) where
  | gone
  | box (cells : List At)
  | row (own : Bool) (e : C.EC) (l : List (C.α e))
  | abs (x : C.X)

section
variable {C : Ctx}

def Rels {α β : Type} (R : α → β → Prop) (l : List α) (m : List β) : Prop := l.length = m.length ∧ ∀ (i : Nat) (a : α) (b : β), l[i]? = some a → m[i]? = some b → R a b

theorem Rels.nil {α β : Type} {R : α → β → Prop} : Rels R [] [] := ⟨rfl, fun i a b h => by simp at h⟩
theorem Rels.mono {α β : Type} {R S : α → β → Prop} {l : List α} {m : List β} (h : Rels R l m) (hi : ∀ a b, a ∈ l → R a b → S a b) : Rels S l m :=
  ⟨h.1, fun i a b ha hb => hi a b (List.mem_of_getElem? ha) (h.2 i a b ha hb)⟩
theorem Rels.get {α β : Type} {R : α → β → Prop} {l : List α} {m : List β} (h : Rels R l m) {i : Nat} {a : α} (ha : l[i]? = some a) : ∃ b, m[i]? = some b ∧ R a b := by
  have hi : i < l.length := (List.getElem?_eq_some_iff.1 ha).1
  have hm : i < m.length := h.1 ▸ hi
  exact ⟨m[i], List.getElem?_eq_getElem hm, h.2 i a _ ha (List.getElem?_eq_getElem hm)⟩
theorem Rels.cons {α β : Type} {R : α → β → Prop} {a : α} {b : β} {l : List α} {m : List β} (hab : R a b) (h : Rels R l m) : Rels R (a :: l) (b :: m) :=
  ⟨by simp [h.1], fun i x y hx hy => by
    cases i with
    | zero => simp at hx hy; subst hx hy; exact hab
    | succ i => simp at hx hy; exact h.2 i x y hx hy⟩
theorem Rels.append {α β : Type} {R : α → β → Prop} {l l' : List α} {m m' : List β} (h : Rels R l m) (h' : Rels R l' m') : Rels R (l ++ l') (m ++ m') :=
  ⟨by simp [h.1, h'.1], fun i x y hx hy => by
    rcases Nat.lt_or_ge i l.length with hi | hi
    · rw [List.getElem?_append_left hi] at hx
      rw [List.getElem?_append_left (h.1 ▸ hi)] at hy
      exact h.2 i x y hx hy
    · rw [List.getElem?_append_right hi] at hx
      rw [List.getElem?_append_right (h.1 ▸ hi), ← h.1] at hy
      exact h'.2 _ x y hx hy⟩
theorem Rels.drop {α β : Type} {R : α → β → Prop} {l : List α} {m : List β} (h : Rels R l m) (k : Nat) : Rels R (l.drop k) (m.drop k) :=
  ⟨by simp [h.1], fun i x y hx hy => by rw [List.getElem?_drop] at hx hy; exact h.2 _ x y hx hy⟩
theorem Rels.take {α β : Type} {R : α → β → Prop} {l : List α} {m : List β} (h : Rels R l m) (k : Nat) : Rels R (l.take k) (m.take k) :=
  ⟨by simp [h.1], fun i x y hx hy => by
    rw [List.getElem?_take] at hx hy
    split at hx
    · rename_i hk; rw [if_pos hk] at hy; exact h.2 _ x y hx hy
    · cases hx⟩
theorem Rels.set {α β : Type} {R : α → β → Prop} {l : List α} {m : List β} (h : Rels R l m) (k : Nat) {a : α} {b : β} (hab : R a b) : Rels R (l.set k a) (m.set k b) :=
  ⟨by simp [h.1], fun i x y hx hy => by
    rw [List.getElem?_set] at hx hy
    split at hx
    · rename_i hk
      rw [if_pos hk] at hy
      split at hx
      · rename_i hl
        rw [if_pos (h.1 ▸ hl)] at hy
        simp at hx hy; subst hx hy; exact hab
      · cases hx
    · rename_i hk; rw [if_neg hk] at hy; exact h.2 _ x y hx hy⟩

def At.rel (σ : Nat → Value) : At → Value → Prop
  | .any, _ => True
  | .val u, v => v = u
  | .ptr n off, v => ∃ b, σ n = .pointer (some ⟨b, 0, none⟩) ∧ v = .pointer (some ⟨b, off, none⟩)
  | .eptr n i sz off, v => ∃ b o len cap, σ n = .slice (some ⟨b, o, none⟩) len cap ∧ i < len ∧ v = .pointer (some ⟨b, o + i * sz + off, none⟩)
  | .slc n, v => v = σ n
  | .fn f caps, v => v = .func (.func f) #[] (caps.map σ).toArray ∧ ∀ c ∈ caps, ∃ b, σ c = .pointer (some ⟨b, 0, none⟩)

def TV.rel (σ : Nat → Value) : TV → Value → Prop
  | .at a, v => a.rel σ v
  | .agg l, v => ∃ cs, v = .agg cs.toArray ∧ Rels (At.rel σ) l cs

def SV.rel (σ : Nat → Value) : SV → Value → Prop
  | .one x, v => x.rel σ v
  | .tup l, v => ∃ vs, v = .tuple vs.toArray ∧ Rels (TV.rel σ) l vs

def At.names : At → List Nat
  | .any | .val _ => []
  | .ptr n _ | .eptr n _ _ _ | .slc n => [n]
  | .fn _ caps => caps
def TV.names : TV → List Nat
  | .at a => a.names
  | .agg l => l.flatMap At.names
def SV.names : SV → List Nat
  | .one x => x.names
  | .tup l => l.flatMap TV.names

theorem At.rel_of {σ σ' : Nat → Value} {a : At} {v : Value} (h : a.rel σ v) (hn : ∀ n ∈ a.names, σ' n = σ n) : a.rel σ' v := by
  cases a with
  | any => trivial
  | val u => exact h
  | ptr n off => obtain ⟨b, h1, h2⟩ := h; exact ⟨b, (hn n (by simp [At.names])).trans h1, h2⟩
  | eptr n i sz off => obtain ⟨b, o, len, cap, h1, h2⟩ := h; exact ⟨b, o, len, cap, (hn n (by simp [At.names])).trans h1, h2⟩
  | slc n => exact (show v = σ n from h).trans (hn n (by simp [At.names])).symm
  | fn f caps =>
    refine ⟨?_, fun c hc => by rw [hn c hc]; exact h.2 c hc⟩
    rw [h.1]
    congr 2
    exact (List.map_congr_left fun n hm => hn n hm).symm
theorem TV.rel_of {σ σ' : Nat → Value} {a : TV} {v : Value} (h : a.rel σ v) (hn : ∀ n ∈ a.names, σ' n = σ n) : a.rel σ' v := by
  cases a with
  | «at» a => exact At.rel_of h hn
  | agg l =>
    obtain ⟨cs, h1, h2⟩ := h
    exact ⟨cs, h1, h2.mono fun a b ha hr => At.rel_of hr fun n hm => hn n (List.mem_flatMap.2 ⟨a, ha, hm⟩)⟩
theorem SV.rel_of {σ σ' : Nat → Value} {a : SV} {v : Value} (h : a.rel σ v) (hn : ∀ n ∈ a.names, σ' n = σ n) : a.rel σ' v := by
  cases a with
  | one a => exact TV.rel_of h hn
  | tup l =>
    obtain ⟨cs, h1, h2⟩ := h
    exact ⟨cs, h1, h2.mono fun a b ha hr => TV.rel_of hr fun n hm => hn n (List.mem_flatMap.2 ⟨a, ha, hm⟩)⟩

def Chunk.names : Chunk C → List Nat
  | .box cells => cells.flatMap At.names
  | _ => []

/-- The cells of a list of elements. -/
def flat (C : Ctx) (e : C.EC) (l : List (C.α e)) : List Value := l.flatMap (C.enc e)

/-- The slice value of a row that is read alone. -/
def Imm (C : Ctx) (w : World) (v : Value) (e : C.EC) (l : List (C.α e)) : Prop := ∃ A c, v = .slice A l.length c ∧ Rd (C.enc e) (C.sz e) w A l.length c l

def Holds (w : World) (σ : Nat → Value) (v : Value) (f : Nat → Prop) : Chunk C → Prop
  | .gone => True
  | .box cells => ∃ b t cs, v = .pointer (some ⟨b, 0, none⟩) ∧ (∀ k, f k ↔ k = b) ∧ w.heap[b]? = some (.cells cs t (0, 0)) ∧ Rels (At.rel σ) cells cs.toList
  | .row true e l => w.ownsRow 0 (C.tid e) (C.sz e) v l.length (flat C e l) ∧ (∀ k, f k ↔ v.ownBlock = some k)
  | .row false e l => Imm C w v e l ∧ (∀ k, ¬ f k)
  | .abs x => C.I x w v f ∧ ∃ b, v = .pointer (some ⟨b, 0, none⟩)

structure Sat (C : Ctx) (σ : Nat → Value) (φ : Nat → Nat → Prop) (w : World) (H : List (Chunk C)) : Prop where
  holds : ∀ (n : Nat) (c : Chunk C), H[n]? = some c → Holds w σ (σ n) (φ n) c
  dis : ∀ n m b, φ n b → φ m b → n = m
  bd : ∀ n b, φ n b → b < w.heap.size
  imm : ∀ (n : Nat) e l, H[n]? = some (.row false e l) → 0 < l.length → ∀ b, (σ n).ownBlock = some b → ∀ m, ¬ φ m b
  out : ∀ n, H.length ≤ n → ∀ b, ¬ φ n b
  cl : ∀ (n : Nat) (c : Chunk C), H[n]? = some c → ∀ m ∈ c.names, m < H.length

/-- The world went on: blocks outside the footprints φ are as they were, what is owned now was owned before or is new. -/
structure Adv (φ : Nat → Nat → Prop) (w : World) (φ' : Nat → Nat → Prop) (w' : World) : Prop where
  os : w'.os = w.os
  tape : w'.tape = w.tape
  output : w'.output = w.output
  size : w.heap.size ≤ w'.heap.size
  fr : ∀ k, k < w.heap.size → (∀ n, ¬ φ n k) → w'.heap[k]? = w.heap[k]?
  grow : ∀ n b, φ' n b → (∃ m, φ m b) ∨ w.heap.size ≤ b

theorem Adv.refl (φ : Nat → Nat → Prop) (w : World) : Adv φ w φ w := ⟨rfl, rfl, rfl, Nat.le_refl _, fun _ _ _ => rfl, fun n _ h => .inl ⟨n, h⟩⟩
theorem Adv.trans {φ φ' φ'' : Nat → Nat → Prop} {w w' w'' : World} (h : Adv φ w φ' w') (h' : Adv φ' w' φ'' w'') : Adv φ w φ'' w'' where
  os := h'.os.trans h.os
  tape := h'.tape.trans h.tape
  output := h'.output.trans h.output
  size := Nat.le_trans h.size h'.size
  fr k hk hn := (h'.fr k (Nat.lt_of_lt_of_le hk h.size) fun n hh => by
    rcases h.grow n k hh with ⟨m, hm⟩ | hle
    · exact hn m hm
    · omega).trans (h.fr k hk hn)
  grow n b hb := by
    rcases h'.grow n b hb with ⟨m, hm⟩ | hle
    · exact h.grow m b hm
    · exact .inr (Nat.le_trans h.size hle)

theorem Imm.keep {w w' : World} {v : Value} {e : C.EC} {l : List (C.α e)} (h : Imm C w v e l) (hs : w.heap.size ≤ w'.heap.size) (hb : 0 < l.length → ∀ b, v.ownBlock = some b → b < w.heap.size → w'.heap[b]? = w.heap[b]?) : Imm C w' v e l := by
  obtain ⟨A, c, rfl, hr⟩ := h
  refine ⟨A, c, rfl, ⟨hr.len, hr.cap, hr.max, hr.row, hr.nul, fun hn => ?_⟩⟩
  obtain ⟨b, o, rfl, hlt, hc⟩ := hr.get hn
  exact ⟨b, o, rfl, by omega, fun k x hx j u hu => (World.cell?_of_block (hb hn b rfl hlt)).trans (hc k x hx j u hu)⟩

theorem Imm.lt {w : World} {v : Value} {e : C.EC} {l : List (C.α e)} (h : Imm C w v e l) (hl : 0 < l.length) {b : Nat} (hb : v.ownBlock = some b) : b < w.heap.size := by
  obtain ⟨A, c, rfl, hr⟩ := h
  obtain ⟨b', o, rfl, hlt, _⟩ := hr.get hl
  simp [Value.ownBlock] at hb
  omega

theorem Holds.keep (hC : C.OK) {w w' : World} {σ σ' : Nat → Value} {v : Value} {f : Nat → Prop} {c : Chunk C} (h : Holds w σ v f c) (hs : w.heap.size ≤ w'.heap.size) (hf : ∀ b, f b → w'.heap[b]? = w.heap[b]?)
    (hi : ∀ e l, c = .row false e l → 0 < l.length → ∀ b, v.ownBlock = some b → b < w.heap.size → w'.heap[b]? = w.heap[b]?) (hn : ∀ n ∈ c.names, σ' n = σ n) : Holds w' σ' v f c := by
  match c with
  | .gone => trivial
  | .box cells =>
    obtain ⟨b, t, cs, h1, h2, h3, h4⟩ := h
    exact ⟨b, t, cs, h1, h2, (hf b ((h2 b).2 rfl)).trans h3, h4.mono fun a u ha hr => At.rel_of hr fun n hm => hn n (List.mem_flatMap.2 ⟨a, ha, hm⟩)⟩
  | .row true e l =>
    obtain ⟨⟨h1, h2⟩, h3⟩ := h
    refine ⟨⟨h1, ?_⟩, h3⟩
    rcases h2 with h2 | ⟨g, cap, cur, rfl, hg, hh, rest⟩
    · exact .inl h2
    · exact .inr ⟨g, cap, cur, rfl, hg, (hf g ((h3 g).2 rfl)).trans hh, rest⟩
  | .row false e l => exact ⟨h.1.keep hs (hi e l rfl), h.2⟩
  | .abs x => exact ⟨hC.local_ _ _ _ _ _ h.1 hs hf, h.2⟩

/-- One step: the names S are touched, all others keep their chunk. -/
theorem Sat.step (hC : C.OK) {σ σ' : Nat → Value} {φ φ' : Nat → Nat → Prop} {w w' : World} {H H' : List (Chunk C)} (h : Sat C σ φ w H) (S : Nat → Prop)
    (hsz : w.heap.size ≤ w'.heap.size) (hfr : ∀ k, k < w.heap.size → (∀ n, S n → ¬ φ n k) → w'.heap[k]? = w.heap[k]?)
    (hold : ∀ n, ¬ S n → H'[n]? = H[n]? ∧ σ' n = σ n ∧ (∀ b, φ' n b ↔ φ n b))
    (hmen : ∀ (n : Nat) (c : Chunk C), ¬ S n → H[n]? = some c → ∀ m ∈ c.names, σ' m = σ m)
    (hnew : ∀ (n : Nat) (c : Chunk C), S n → H'[n]? = some c → Holds w' σ' (σ' n) (φ' n) c)
    (hgrow : ∀ n b, S n → φ' n b → (∃ m, S m ∧ φ m b) ∨ w.heap.size ≤ b)
    (hdis : ∀ n m b, S n → S m → φ' n b → φ' m b → n = m)
    (hbd : ∀ n b, S n → φ' n b → b < w'.heap.size)
    (himm : ∀ (n : Nat) e l, S n → H'[n]? = some (.row false e l) → 0 < l.length → ∀ b, (σ' n).ownBlock = some b → ∀ m, ¬ φ' m b)
    (hout : ∀ n, H'.length ≤ n → ∀ b, ¬ φ' n b) (hlen : H.length ≤ H'.length) (hcl : ∀ (n : Nat) (c : Chunk C), S n → H'[n]? = some c → ∀ m ∈ c.names, m < H'.length) : Sat C σ' φ' w' H' where
  holds n c hc := by
    by_cases hS : S n
    · exact hnew n c hS hc
    · obtain ⟨h1, h2, h3⟩ := hold n hS
      rw [h1] at hc
      have hh := h.holds n c hc
      rw [h2]
      have hk : Holds w' σ' (σ n) (φ n) c := hh.keep hC hsz (fun b hb => hfr b (h.bd n b hb) fun m hm hb' => hS (by rw [h.dis n m b hb hb']; exact hm))
        (fun e l he hl b hb hlt => hfr b hlt fun m _ hb' => h.imm n e l (by rw [hc, he]) hl b hb m hb') (hmen n c hS hc)
      have : φ' n = φ n := funext fun b => propext (h3 b)
      rw [this]; exact hk
  dis n m b h1 h2 := by
    by_cases hn : S n <;> by_cases hm : S m
    · exact hdis n m b hn hm h1 h2
    · have h2' := ((hold m hm).2.2 b).1 h2
      rcases hgrow n b hn h1 with ⟨k, hk, hb⟩ | hle
      · exact absurd (h.dis k m b hb h2') (fun e => hm (e ▸ hk))
      · exact absurd (h.bd m b h2') (by omega)
    · have h1' := ((hold n hn).2.2 b).1 h1
      rcases hgrow m b hm h2 with ⟨k, hk, hb⟩ | hle
      · exact absurd (h.dis k n b hb h1') (fun e => hn (e ▸ hk))
      · exact absurd (h.bd n b h1') (by omega)
    · exact h.dis n m b (((hold n hn).2.2 b).1 h1) (((hold m hm).2.2 b).1 h2)
  bd n b hb := by
    by_cases hn : S n
    · exact hbd n b hn hb
    · exact Nat.lt_of_lt_of_le (h.bd n b (((hold n hn).2.2 b).1 hb)) hsz
  imm n e l hl hpos b hb m hm := by
    by_cases hn : S n
    · exact himm n e l hn hl hpos b hb m hm
    · obtain ⟨h1, h2, _⟩ := hold n hn
      rw [h1] at hl
      rw [h2] at hb
      by_cases hmS : S m
      · rcases hgrow m b hmS hm with ⟨k, _, hb'⟩ | hle
        · exact h.imm n e l hl hpos b hb k hb'
        · have := (h.holds n _ hl).1.lt hpos hb; omega
      · exact h.imm n e l hl hpos b hb m (((hold m hmS).2.2 b).1 hm)
  out := hout
  cl n c hc m hm := by
    by_cases hS : S n
    · exact hcl n c hS hc m hm
    · rw [(hold n hS).1] at hc
      exact Nat.lt_of_lt_of_le (h.cl n c hc m hm) hlen

theorem Sat.drawn {σ : Nat → Value} {φ : Nat → Nat → Prop} {w : World} {H : List (Chunk C)} (hC : C.OK) (h : Sat C σ φ w H) (k : Nat) : Sat C σ φ { w with drawn := k } H :=
  h.step hC (fun _ => False) (Nat.le_refl _) (fun _ _ _ => rfl) (fun _ _ => ⟨rfl, rfl, fun _ => Iff.rfl⟩) (fun _ _ _ _ _ _ => rfl) (fun _ _ h => h.elim) (fun _ _ h => h.elim)
    (fun _ _ _ h => h.elim) (fun _ _ h => h.elim) (fun _ _ _ h => h.elim) h.out (Nat.le_refl _) (fun _ _ h => h.elim)

/-- A new name. -/
theorem Sat.new (hC : C.OK) {σ : Nat → Value} {φ : Nat → Nat → Prop} {w w' : World} {H : List (Chunk C)} (h : Sat C σ φ w H) (c : Chunk C) (v : Value) (f : Nat → Prop)
    (hsz : w.heap.size ≤ w'.heap.size) (hfr : ∀ k, k < w.heap.size → w'.heap[k]? = w.heap[k]?)
    (hc : ∀ n, n ∉ c.names → Holds w' (fun k => if k = n then v else σ k) v f c) (hnm : ∀ n ∈ c.names, n < H.length)
    (hf : ∀ b, f b → w.heap.size ≤ b ∧ b < w'.heap.size)
    (himm : ∀ e l, c = .row false e l → 0 < l.length → ∀ b, v.ownBlock = some b → (∀ m, ¬ φ m b)) (himm2 : ∀ e l, c = .row false e l → ∀ b, ¬ f b) :
    Sat C (fun k => if k = H.length then v else σ k) (fun k => if k = H.length then f else φ k) w' (H ++ [c]) := by
  refine h.step hC (fun n => n = H.length) hsz (fun k hk _ => hfr k hk) (fun n hn => ?_) (fun n d hn hd m hm => ?_) (fun n d hn hd => ?_) (fun n b hn hb => ?_) (fun n m b hn hm _ _ => hn.trans hm.symm) (fun n b hn hb => ?_) (fun n e l hn hl hpos b hb m hm => ?_) (fun n hn b hb => ?_) (by simp) (fun n d hn hd m hm => ?_)
  · have hn' : ¬ n = H.length := hn
    refine ⟨?_, by simp [hn'], fun b => by simp [hn']⟩
    rcases Nat.lt_or_ge n H.length with hlt | hge
    · rw [List.getElem?_append_left hlt]
    · rw [List.getElem?_eq_none (by simp; omega), List.getElem?_eq_none hge]
  · have := h.cl n d hd m hm
    simp [Nat.ne_of_lt this]
  · have hn' : n = H.length := hn
    subst hn'
    simp at hd; subst hd
    simp only [if_true]
    exact hc _ fun hm => by have := hnm _ hm; omega
  · have hn' : n = H.length := hn
    subst hn'
    simp only [if_true] at hb
    exact .inr (hf b hb).1
  · have hn' : n = H.length := hn
    subst hn'
    simp only [if_true] at hb
    exact (hf b hb).2
  · have hn' : n = H.length := hn
    subst hn'
    simp at hl; subst hl
    simp only [if_true] at hb
    by_cases hm' : m = H.length
    · subst hm'; simp only [if_true] at hm; exact himm2 e l rfl b hm
    · simp only [if_neg hm'] at hm; exact himm e l rfl hpos b hb m hm
  · rw [List.length_append, List.length_singleton] at hn
    rw [if_neg (by omega)] at hb
    exact h.out n (by omega) b hb
  · have hn' : n = H.length := hn
    subst hn'
    simp at hd; subst hd
    have := hnm m hm
    simp; omega
end
end Go.Proofs.Ytjbkckcjmmmooaa.Sx
end
