/- A part of the proof. -/
import Derived.RowKit
import Derived.WalkKit
import Derived.ProofKit
import Derived.OpenShut
import Derived.Handy
import Derived.Lib.Hide
import Derived.BigQuiet
import Derived.Deep.QuietTactic
section
/- Plain laws on lists that are strictly ascending by a key. No program in sight. -/
namespace Go.Proofs.YtmjnoiajenoinaaGreat

section
variable {α : Type} (key : α ->Int)

/-- Strictly ascending. -/
def Srt (l : List α) : Prop := l.Pairwise (fun a b => key a < key b)
/-- The element with a key. -/
def fnd (l : List α) (k : Int) : Option α := l.find? (fun a => decide (key a = k))

variable {key}
theorem Srt.nil : Srt key [] := List.Pairwise.nil
theorem Srt.tail {x : α} {l : List α} (h : Srt key (x :: l)) : Srt key l := (List.pairwise_cons.1 h).2
theorem Srt.head {x : α} {l : List α} (h : Srt key (x :: l)) : ∀ y ∈ l, key x < key y := (List.pairwise_cons.1 h).1
theorem Srt.cons {x : α} {l : List α} (h : Srt key l) (hx : ∀ y ∈ l, key x < key y) : Srt key (x :: l) := List.pairwise_cons.2 ⟨hx, h⟩

theorem fnd_nil (k : Int) : fnd key ([] : List α) k = none := rfl
theorem fnd_cons (x : α) (l : List α) (k : Int) : fnd key (x :: l) k = if key x = k then some x else fnd key l k := by
  unfold fnd
  by_cases h : key x = k <;> simp [h]
theorem fnd_append (l m : List α) (k : Int) : fnd key (l ++ m) k = (fnd key l k).or (fnd key m k) := by
  unfold fnd; rw [List.find?_append]
theorem fnd_key {l : List α} {k : Int} {x : α} (h : fnd key l k = some x) : key x = k := by
  have := List.find?_some h; simpa using this
theorem fnd_mem {l : List α} {k : Int} {x : α} (h : fnd key l k = some x) : x ∈ l := List.mem_of_find?_eq_some h
theorem fnd_none {l : List α} {k : Int} : fnd key l k = none ↔ ∀ x ∈ l, key x ≠ k := by
  unfold fnd; rw [List.find?_eq_none]; simp
theorem fnd_of_lt {l : List α} {k : Int} (h : ∀ x ∈ l, k < key x) : fnd key l k = none := fnd_none.2 fun x hx => by have := h x hx; omega
theorem fnd_of_gt {l : List α} {k : Int} (h : ∀ x ∈ l, key x < k) : fnd key l k = none := fnd_none.2 fun x hx => by have := h x hx; omega

theorem Srt.fnd_self {l : List α} (h : Srt key l) {x : α} (hx : x ∈ l) : fnd key l (key x) = some x := by
  induction l with
  | nil => cases hx
  | cons y t ih =>
    rw [fnd_cons]
    rcases List.mem_cons.1 hx with rfl | hx
    · simp
    · have := h.head x hx
      rw [if_neg (by omega)]
      exact ih h.tail hx

/-- Two ascending lists with the same elements by key are one list. -/
theorem Srt.ext {l m : List α} (hl : Srt key l) (hm : Srt key m) (h : ∀ k, fnd key l k = fnd key m k) : l = m := by
  induction l generalizing m with
  | nil =>
    cases m with
    | nil => rfl
    | cons y t => have := h (key y); rw [fnd_nil, fnd_cons, if_pos rfl] at this; cases this
  | cons x t ih =>
    cases m with
    | nil => have := h (key x); rw [fnd_nil, fnd_cons, if_pos rfl] at this; cases this
    | cons y s =>
      have hxy : key x = key y := by
        rcases Int.lt_trichotomy (key x) (key y) with c | c | c
        · have := h (key x)
          rw [fnd_cons, if_pos rfl, fnd_cons, if_neg (by omega), fnd_of_lt (fun z hz => by have := hm.head z hz; omega)] at this
          cases this
        · exact c
        · have := h (key y)
          rw [fnd_cons, if_neg (by omega), fnd_of_lt (fun z hz => by have := hl.head z hz; omega), fnd_cons, if_pos rfl] at this
          cases this
      have e1 : x = y := by
        have := h (key x)
        rw [fnd_cons, if_pos rfl, fnd_cons, if_pos hxy.symm] at this
        exact Option.some.inj this
      subst e1
      congr 1
      refine ih hl.tail hm.tail fun k => ?_
      have := h k
      rw [fnd_cons, fnd_cons] at this
      by_cases hk : key x = k
      · subst hk
        rw [fnd_of_lt hl.head, fnd_of_lt hm.head]
      · rw [if_neg hk, if_neg hk] at this; exact this

theorem Srt.append {l m : List α} (hl : Srt key l) (hm : Srt key m) (h : ∀ x ∈ l, ∀ y ∈ m, key x < key y) : Srt key (l ++ m) :=
  List.pairwise_append.2 ⟨hl, hm, h⟩
theorem Srt.left {l m : List α} (h : Srt key (l ++ m)) : Srt key l := (List.pairwise_append.1 h).1
theorem Srt.right {l m : List α} (h : Srt key (l ++ m)) : Srt key m := (List.pairwise_append.1 h).2.1
theorem Srt.filter {l : List α} (h : Srt key l) (p : α ->Bool) : Srt key (l.filter p) := List.Pairwise.filter p h
theorem Srt.take {l : List α} (h : Srt key l) (n : Nat) : Srt key (l.take n) := List.Pairwise.sublist (List.take_sublist _ _) h
theorem Srt.drop {l : List α} (h : Srt key l) (n : Nat) : Srt key (l.drop n) := List.Pairwise.sublist (List.drop_sublist _ _) h

theorem fnd_filter {l : List α} (h : Srt key l) (p : α ->Bool) (k : Int) : fnd key (l.filter p) k = (fnd key l k).filter p := by
  induction l with
  | nil => rfl
  | cons x t ih =>
    have ih := ih h.tail
    rw [fnd_cons]
    by_cases hx : key x = k
    · rw [if_pos hx]
      by_cases hp : p x = true
      · simp [hp, fnd_cons, hx, Option.filter]
      · have hp' : p x = false := by simpa using hp
        have : fnd key (t.filter p) k = none := fnd_of_lt fun y hy => by have := h.head y (List.mem_filter.1 hy).1; omega
        simp [hp', Option.filter, this]
    · rw [if_neg hx, ← ih]
      by_cases hp : p x = true
      · simp [hp, fnd_cons, hx]
      · have hp' : p x = false := by simpa using hp
        simp [hp']

end

section
variable {α β : Type} (ka : α ->Int) (kb : β ->Int)

/-- A merge of two ascending lists by their keys: what each has at the next key. -/
def pairs : List α ->List β ->List (Option α × Option β)
  | [], [] => []
  | [], y :: m => (none, some y) :: pairs [] m
  | x :: l, [] => (some x, none) :: pairs l []
  | x :: l, y :: m => if ka x < kb y then (some x, none) :: pairs l (y :: m) else if kb y < ka x then (none, some y) :: pairs (x :: l) m else (some x, some y) :: pairs l m
termination_by l m => l.length + m.length

/-- The key of a pair. -/
def pkey (q : Option α × Option β) : Int := match q with
  | (some x, _) => ka x
  | (none, some y) => kb y
  | (none, none) => 0

variable {ka kb}
theorem pairs_mem (l : List α) (m : List β) : ∀ z ∈ pairs ka kb l m, (∃ x ∈ l, pkey ka kb z = ka x) ∨ (∃ y ∈ m, pkey ka kb z = kb y) := by
  fun_induction pairs ka kb l m with
  | case1 => intro z hz; cases hz
  | case2 y m ih =>
    intro z hz
    rcases List.mem_cons.1 hz with rfl | hz
    · exact .inr ⟨y, List.mem_cons_self, rfl⟩
    · rcases ih z hz with ⟨x, hx, _⟩ | ⟨x, hx, e⟩
      · cases hx
      · exact .inr ⟨x, List.mem_cons_of_mem _ hx, e⟩
  | case3 x l ih =>
    intro z hz
    rcases List.mem_cons.1 hz with rfl | hz
    · exact .inl ⟨x, List.mem_cons_self, rfl⟩
    · rcases ih z hz with ⟨x, hx, e⟩ | ⟨x, hx, _⟩
      · exact .inl ⟨x, List.mem_cons_of_mem _ hx, e⟩
      · cases hx
  | case4 x l y m h ih =>
    intro z hz
    rcases List.mem_cons.1 hz with rfl | hz
    · exact .inl ⟨x, List.mem_cons_self, rfl⟩
    · rcases ih z hz with ⟨x, hx, e⟩ | h
      · exact .inl ⟨x, List.mem_cons_of_mem _ hx, e⟩
      · exact .inr h
  | case5 x l y m h1 h2 ih =>
    intro z hz
    rcases List.mem_cons.1 hz with rfl | hz
    · exact .inr ⟨y, List.mem_cons_self, rfl⟩
    · rcases ih z hz with h | ⟨x, hx, e⟩
      · exact .inl h
      · exact .inr ⟨x, List.mem_cons_of_mem _ hx, e⟩
  | case6 x l y m h1 h2 ih =>
    intro z hz
    rcases List.mem_cons.1 hz with rfl | hz
    · exact .inl ⟨x, List.mem_cons_self, rfl⟩
    · rcases ih z hz with ⟨x, hx, e⟩ | ⟨x, hx, e⟩
      · exact .inl ⟨x, List.mem_cons_of_mem _ hx, e⟩
      · exact .inr ⟨x, List.mem_cons_of_mem _ hx, e⟩

theorem pairs_srt (l : List α) (m : List β) (hl : Srt ka l) (hm : Srt kb m) : Srt (pkey ka kb) (pairs ka kb l m) := by
  fun_induction pairs ka kb l m with
  | case1 => exact Srt.nil
  | case2 y m ih =>
    refine (ih Srt.nil hm.tail).cons fun z hz => ?_
    rcases pairs_mem _ _ z hz with ⟨x, hx, _⟩ | ⟨x, hx, e⟩
    · cases hx
    · rw [e]; exact hm.head x hx
  | case3 x l ih =>
    refine (ih hl.tail Srt.nil).cons fun z hz => ?_
    rcases pairs_mem _ _ z hz with ⟨x, hx, e⟩ | ⟨x, hx, _⟩
    · rw [e]; exact hl.head x hx
    · cases hx
  | case4 x l y m h ih =>
    refine (ih hl.tail hm).cons fun z hz => ?_
    show ka x < _
    rcases pairs_mem _ _ z hz with ⟨u, hu, e⟩ | ⟨u, hu, e⟩
    · rw [e]; exact hl.head u hu
    · rw [e]
      rcases List.mem_cons.1 hu with rfl | hu
      · exact h
      · have := hm.head u hu; omega
  | case5 x l y m h1 h2 ih =>
    refine (ih hl hm.tail).cons fun z hz => ?_
    show kb y < _
    rcases pairs_mem _ _ z hz with ⟨u, hu, e⟩ | ⟨u, hu, e⟩
    · rw [e]
      rcases List.mem_cons.1 hu with rfl | hu
      · exact h2
      · have := hl.head u hu; omega
    · rw [e]; exact hm.head u hu
  | case6 x l y m h1 h2 ih =>
    refine (ih hl.tail hm.tail).cons fun z hz => ?_
    show ka x < _
    rcases pairs_mem _ _ z hz with ⟨u, hu, e⟩ | ⟨u, hu, e⟩
    · rw [e]; exact hl.head u hu
    · rw [e]; have := hm.head u hu; omega

/-- What the two have at a key, if one of them has something. -/
def both2 (a : Option α) (b : Option β) : Option (Option α × Option β) := if a.isSome || b.isSome then some (a, b) else none

theorem pairs_fnd (l : List α) (m : List β) (hl : Srt ka l) (hm : Srt kb m) (k : Int) : fnd (pkey ka kb) (pairs ka kb l m) k = both2 (fnd ka l k) (fnd kb m k) := by
  fun_induction pairs ka kb l m with
  | case1 => rfl
  | case2 y m ih =>
    rw [fnd_cons, fnd_cons, ih Srt.nil hm.tail]
    show (if kb y = k then _ else _) = _
    by_cases h : kb y = k
    · simp [h, both2, fnd_nil]
    · simp [h]
  | case3 x l ih =>
    rw [fnd_cons, fnd_cons, ih hl.tail Srt.nil]
    show (if ka x = k then _ else _) = _
    by_cases h : ka x = k
    · simp [h, both2, fnd_nil]
    · simp [h]
  | case4 x l y m h ih =>
    rw [fnd_cons, fnd_cons, ih hl.tail hm]
    show (if ka x = k then _ else _) = _
    by_cases e : ka x = k
    · have : fnd kb (y :: m) k = none := fnd_of_lt fun z hz => by
        rcases List.mem_cons.1 hz with rfl | hz
        · omega
        · have := hm.head z hz; omega
      simp [e, both2, this]
    · simp [e]
  | case5 x l y m h1 h2 ih =>
    rw [fnd_cons (x := y), fnd_cons, ih hl hm.tail]
    show (if kb y = k then _ else _) = _
    by_cases e : kb y = k
    · have : fnd ka (x :: l) k = none := fnd_of_lt fun z hz => by
        rcases List.mem_cons.1 hz with rfl | hz
        · omega
        · have := hl.head z hz; omega
      simp [e, both2, this]
    · simp [e]
  | case6 x l y m h1 h2 ih =>
    rw [fnd_cons, fnd_cons, fnd_cons, ih hl.tail hm.tail]
    show (if ka x = k then _ else _) = _
    by_cases e : ka x = k
    · have : kb y = k := by omega
      simp [e, this, both2]
    · have : ¬ kb y = k := by omega
      simp [e, this]

end
/-- An entry: key and value. -/
abbrev Ent := Int × Int
abbrev Asc (l : List Ent) : Prop := Srt Prod.fst l

def getE : List Ent ->Int ->Option Int
  | [], _ => none
  | (k, v) :: t, q => if k = q then some v else getE t q

theorem getE_fnd (l : List Ent) (q : Int) : getE l q = (fnd Prod.fst l q).map Prod.snd := by
  induction l with
  | nil => rfl
  | cons x t ih =>
    obtain ⟨k, v⟩ := x
    rw [fnd_cons]
    simp only [getE]
    split <;> simp [ih]

theorem fnd_getE (l : List Ent) (q : Int) : fnd Prod.fst l q = (getE l q).map fun v => (q, v) := by
  rw [getE_fnd]
  cases h : fnd Prod.fst l q with
  | none => rfl
  | some x => have := fnd_key h; simp [← this]

theorem Asc.ext {l m : List Ent} (hl : Asc l) (hm : Asc m) (h : ∀ q, getE l q = getE m q) : l = m :=
  Srt.ext (key := Prod.fst) hl hm fun q => by rw [fnd_getE, fnd_getE, h]

instance (l : List Ent) : Decidable (Asc l) := inferInstanceAs (Decidable (List.Pairwise (fun a b : Ent => a.1 < b.1) l))
def ascB (l : List Ent) : Bool := decide (Asc l)

end Go.Proofs.YtmjnoiajenoinaaGreat
end
section
/- Words for slices of structs of one-cell fields that read as lists, and what keeps them. No program in sight. -/
namespace Go.Proofs.YtmjnoiajenoinaaGreat
open Go.RowKit

/-- The slice with address A, length n and capacity c reads as the list l; each element x has the cells f x. -/
structure Rd {α : Type} (f : α ->List Value) (sz : Nat) (w : World) (A : Option Addr) (n c : Nat) (l : List α) : Prop where
  len : n = l.length
  cap : n <=c
  max : c <=maxLen
  row : ∀ x, (f x).length = sz
  nul : A = none ->c = 0
  get : 0 < n ->∃ b o, A = some ⟨b, o, none⟩ /\b < w.heap.size /\∀ k x, l[k]? = some x ->∀ j u, (f x)[j]? = some u ->w.cell? ⟨b, o + k * sz + j, none⟩ = some u

section
variable {α : Type} {f : α ->List Value} {sz : Nat} {w w' : World} {A : Option Addr} {n c : Nat} {l : List α}

theorem Rd.at_ (h : Rd f sz w A n c l) {k : Nat} {x : α} (hx : l[k]? = some x) : ∃ b o, A = some ⟨b, o, none⟩ /\b < w.heap.size /\∀ j u, (f x)[j]? = some u ->w.cell? ⟨b, o + k * sz + j, none⟩ = some u := by
  have hk : k < l.length := by
    rcases Nat.lt_or_ge k l.length with h1 | h1
    · exact h1
    · rw [List.getElem?_eq_none h1] at hx; cases hx
  obtain ⟨b, o, hA, hb, hc⟩ := h.get (by rw [h.len]; omega)
  exact ⟨b, o, hA, hb, hc k x hx⟩

theorem Rd.keep (h : Rd f sz w A n c l) (hs : w.heap.size <=w'.heap.size) (hk : ∀ b o, b < w.heap.size ->w'.cell? ⟨b, o, none⟩ = w.cell? ⟨b, o, none⟩) : Rd f sz w' A n c l :=
  ⟨h.len, h.cap, h.max, h.row, h.nul, fun hn => by
    obtain ⟨b, o, hA, hb, hc⟩ := h.get hn
    exact ⟨b, o, hA, by omega, fun k x hx j u hu => (hk _ _ hb).trans (hc k x hx j u hu)⟩⟩

theorem Rd.below (h : Rd f sz w A n c l) (hb : Below w.heap.size w w') : Rd f sz w' A n c l :=
  h.keep hb.size fun _ _ hlt => hb.cell (by exact hlt)

theorem Rd.nil (hr : ∀ x, (f x).length = sz) : Rd f sz w none 0 0 [] := ⟨rfl, by omega, by unfold maxLen; omega, hr, fun _ => rfl, fun h => absurd h (by omega)⟩
end

/-- The slice value v is nil or the call's own row (blocks from B on), and holds the list l; each element x has the cells f x. -/
def Own {α : Type} (f : α ->List Value) (sz : Nat) (e : TypeId) (w : World) (B : Nat) (v : Value) (l : List α) : Prop :=
  (∀ x, (f x).length = sz) /\w.ownsRow B e sz v l.length (l.flatMap f)

section
variable {α : Type} {f : α ->List Value} {sz : Nat} {e : TypeId} {w w' : World} {B : Nat} {v : Value} {l : List α}

theorem length_flat (hr : ∀ x, (f x).length = sz) (l : List α) : (l.flatMap f).length = l.length * sz := by
  induction l with
  | nil => simp
  | cons x t ih => simp [ih, hr x, Nat.succ_mul, Nat.add_comm]

theorem flat_get (hr : ∀ x, (f x).length = sz) : ∀ (l : List α) (k : Nat) (x : α), l[k]? = some x ->∀ j u, (f x)[j]? = some u ->(l.flatMap f)[k * sz + j]? = some u := by
  intro l
  induction l with
  | nil => intro k x hx; simp at hx
  | cons y t ih =>
    intro k x hx j u hu
    rw [List.flatMap_cons]
    cases k with
    | zero =>
      simp at hx; subst hx
      have hj : j < (f y).length := (List.getElem?_eq_some_iff.1 hu).1
      rw [Nat.zero_mul, Nat.zero_add, List.getElem?_append_left hj]; exact hu
    | succ k =>
      simp at hx
      have := ih k x hx j u hu
      rw [List.getElem?_append_right (by rw [hr y, Nat.succ_mul]; omega), hr y, ← this]
      congr 1
      rw [Nat.succ_mul]; omega

theorem Own.nil (hr : ∀ x, (f x).length = sz) : Own f sz e w B (.slice none 0 0) ([] : List α) := ⟨hr, World.ownsRow_nil _ _ _ _⟩

theorem Own.form (h : Own f sz e w B v l) : ∃ A c, v = .slice A l.length c /\Rd f sz w A l.length c l /\(∀ a, A = some a ->B <=a.block) := by
  obtain ⟨hr, hlen, h⟩ := h
  rcases h with ⟨rfl, h0⟩ | ⟨g, cap, cur, rfl, hg, hh, hn, hm, hsz, htk⟩
  · have hnil : l = [] := List.eq_nil_of_length_eq_zero h0
    subst hnil
    exact ⟨none, 0, rfl, Rd.nil hr, fun _ h => by cases h⟩
  · refine ⟨some ⟨g, 0, none⟩, cap, rfl, ⟨rfl, hn, hm, hr, fun h => (by cases h), fun hpos => ⟨g, 0, rfl, ?_, ?_⟩⟩, fun a h => by cases h; exact hg⟩
    · rcases Nat.lt_or_ge g w.heap.size with h1 | h1
      · exact h1
      · rw [Array.getElem?_eq_none h1] at hh; cases hh
    · intro k x hx j u hu
      have h1 := flat_get hr l k x hx j u hu
      rw [← htk, List.getElem?_take] at h1
      rw [cell_of_row w g _ cur e _ hh]
      split at h1
      · rw [← h1, Array.getElem?_toList]; simp
      · cases h1

theorem Own.rd {A : Option Addr} {n c : Nat} (h : Own f sz e w B (.slice A n c) l) : n = l.length /\Rd f sz w A n c l := by
  obtain ⟨A', c', hv, hrd, _⟩ := h.form
  injection hv with h1 h2 h3
  subst h1 h2 h3
  exact ⟨rfl, hrd⟩

/-- What is owned stays owned where the blocks from B on are as they were. -/
theorem Own.keep (h : Own f sz e w B v l) (hk : ∀ b, B <=b ->b < w.heap.size ->w'.heap[b]? = w.heap[b]?) : Own f sz e w' B v l := by
  obtain ⟨hr, hlen, h⟩ := h
  refine ⟨hr, hlen, ?_⟩
  rcases h with h | ⟨g, cap, cur, hv, hg, hh, rest⟩
  · exact .inl h
  · have hlt : g < w.heap.size := by
      rcases Nat.lt_or_ge g w.heap.size with h1 | h1
      · exact h1
      · rw [Array.getElem?_eq_none h1] at hh; cases hh
    exact .inr ⟨g, cap, cur, hv, hg, (hk g hg hlt).trans hh, rest⟩

theorem Own.below (h : Own f sz e w B v l) (hb : Below w.heap.size w w') : Own f sz e w' B v l := h.keep fun b _ hlt => hb.block b hlt
theorem Own.alloc (h : Own f sz e w B v l) (o : Obj) : Own f sz e (w.alloc o) B v l := h.below ((Below.refl _ _).alloc (Nat.le_refl _) o)
theorem Own.mono {B' : Nat} (h : Own f sz e w B v l) (hB : B' <=B) : Own f sz e w B' v l := by
  obtain ⟨hr, hlen, h⟩ := h
  refine ⟨hr, hlen, ?_⟩
  rcases h with h | ⟨g, cap, cur, hv, hg, rest⟩
  · exact .inl h
  · exact .inr ⟨g, cap, cur, hv, by omega, rest⟩
end

/-- 'l[k:]': what is left of it, at the address that the model gives it. -/
theorem Rd.cut {α : Type} {f : α ->List Value} {sz : Nat} {w : World} {A : Option Addr} {n c : Nat} {l : List α} (h : Rd f sz w A n c l) {k : Nat} (hk : k <=n) :
    Rd f sz w (if c = k then A else A.map (·.add (k * sz))) (n - k) (c - k) (l.drop k) := by
  have hc := h.cap
  refine ⟨by rw [List.length_drop, h.len], by omega, by have := h.max; omega, h.row, fun hA => ?_, fun hn => ?_⟩
  · by_cases e : c = k
    · omega
    · rw [if_neg e] at hA
      have : A = none := by cases A <;> simp_all
      have := h.nul this; omega
  · obtain ⟨b, o, rfl, hb, hcell⟩ := h.get (by omega)
    rw [if_neg (by omega)]
    refine ⟨b, o + k * sz, by simp [Addr.add_lit], hb, fun j x hx i u hu => ?_⟩
    rw [List.getElem?_drop] at hx
    have := hcell (k + j) x hx i u hu
    rw [Nat.add_mul] at this
    rw [show o + k * sz + j * sz + i = o + (k * sz + j * sz) + i by omega]; exact this

/-- 'l[:k]'. -/
theorem Rd.head {α : Type} {f : α ->List Value} {sz : Nat} {w : World} {A : Option Addr} {n c : Nat} {l : List α} (h : Rd f sz w A n c l) {k : Nat} (hk : k <=n) :
    Rd f sz w A k c (l.take k) := by
  have hc := h.cap
  refine ⟨by rw [List.length_take, ← h.len]; omega, by omega, h.max, h.row, h.nul, fun hn => ?_⟩
  obtain ⟨b, o, rfl, hb, hcell⟩ := h.get (by omega)
  refine ⟨b, o, rfl, hb, fun j x hx i u hu => hcell j x ?_ i u hu⟩
  rw [List.getElem?_take] at hx
  split at hx
  · exact hx
  · cases hx

end Go.Proofs.YtmjnoiajenoinaaGreat
end
section
/- The arena as plain data, and what its steps keep. No program in sight. -/
namespace Go.Proofs.YtmjnoiajenoinaaGreat
open Go

structure NodeT where
  key : Int
  value : Int
  left : Int
  right : Int
  size : Int
  sum : Int
  min : Int
  max : Int
  deriving DecidableEq
def NodeT.zero : NodeT := ⟨0, 0, 0, 0, 0, 0, 0, 0⟩
structure Arn where
  used : List Bool
  gen : List Int
  rel : List Int
  fresh : Int
  nodes : List NodeT
  counts : List Int
  reads : Int

theorem getD_set {α : Type} (l : List α) (i j : Nat) (x d : α) : (l.set i x).getD j d = if i = j /\j < l.length then x else l.getD j d := by
  simp only [List.getD_eq_getElem?_getD, List.getElem?_set]
  by_cases h : i = j
  · subst h
    by_cases h2 : i < l.length
    · simp [h2]
    · simp [h2]
  · simp [h]
theorem countP_set' {α : Type} (p : α ->Bool) : ∀ (l : List α) (i : Nat) (x d : α), i < l.length ->(l.set i x).countP p + (if p (l.getD i d) then 1 else 0) = l.countP p + (if p x then 1 else 0) := by
  intro l
  induction l with
  | nil => intro i x d h; simp at h
  | cons y t ih =>
    intro i x d h
    cases i with
    | zero => simp [List.countP_cons]; omega
    | succ i =>
      have := ih i x d (by simpa using h)
      simp only [List.set_cons_succ, List.countP_cons, List.getD_cons_succ]
      omega

namespace Arn
def us (S : Arn) (i : Int) : Bool := S.used.getD i.toNat false
def nd (S : Arn) (i : Int) : NodeT := S.nodes.getD i.toNat NodeT.zero
def ct (S : Arn) (i : Int) : Int := S.counts.getD i.toNat 0
def gn (S : Arn) (i : Int) : Int := S.gen.getD i.toNat 0
def cap (S : Arn) : Int := S.used.length - 1
def free (S : Arn) : Int := S.rel.length + S.cap - S.fresh
def nu (S : Arn) : Nat := S.used.countP id
def indeg (S : Arn) (i : Int) : Nat := S.nodes.countP (fun x => x.left == i) + S.nodes.countP (fun x => x.right == i)
end Arn
def maxSize : Int := 2147483647

def addK (n x : NodeT) : NodeT := { n with size := IntKind.i64.wrap (n.size + x.size), sum := IntKind.i64.wrap (n.sum + x.sum), min := if x.min < n.min then x.min else n.min, max := if n.max < x.max then x.max else n.max }
def addC (S : Arn) (n : NodeT) (c : Int) : NodeT := if c = 0 then n else addK n (S.nd c)
def mkNode (S : Arn) (k v l r : Int) : NodeT := addC S (addC S ⟨k, v, l, r, 1, v, v, v⟩ l) r

/-- The arena is whole, and hs are the references held from outside. -/
structure Wf (S : Arn) (hs : List Int) : Prop where
  n1 : 2 <=S.used.length
  n2 : S.used.length <=65537
  ngen : S.gen.length = S.used.length
  nnod : S.nodes.length = S.used.length
  ncnt : S.counts.length = S.used.length
  fr : 0 <=S.fresh /\S.fresh < S.used.length
  rel : ∀ i ∈ S.rel, 1 <=i /\i <=S.fresh
  dup : S.rel.Nodup
  use : ∀ i : Int, S.us i = true ↔ 1 <=i /\i <=S.fresh /\i ∉ S.rel
  zero : ∀ i : Int, S.us i = false ->S.nd i = NodeT.zero
  kid : ∀ i, S.us i = true ->((S.nd i).left = 0 ∨ S.us (S.nd i).left = true) /\((S.nd i).right = 0 ∨ S.us (S.nd i).right = true)
  agg : ∀ i, S.us i = true ->S.nd i = mkNode S (S.nd i).key (S.nd i).value (S.nd i).left (S.nd i).right
  siz : ∀ i, S.us i = true ->1 <=(S.nd i).size /\(S.nd i).size <=maxSize /\(S.nd i).size = 1 + (S.nd (S.nd i).left).size + (S.nd (S.nd i).right).size
  cnt : ∀ i, S.us i = true ->S.ct i = S.indeg i + hs.count i /\1 <=S.ct i
  held : ∀ i ∈ hs, i = 0 ∨ S.us i = true
  few : hs.length + 2 * S.nu <=2000000000
  nus : S.rel.length + S.nu = S.fresh.toNat
  rds : 0 <=S.reads /\S.reads <=4000000000000000000

variable {S : Arn} {hs : List Int}
theorem Wf.pos (h : Wf S hs) {i : Int} (hi : S.us i = true) : 1 <=i /\i < S.used.length /\i.toNat < S.used.length := by
  have := (h.use i).1 hi
  have := h.fr
  omega
theorem Wf.us0 (h : Wf S hs) {i : Int} (hi : i <=0) : S.us i = false := by
  cases hb : S.us i with
  | false => rfl
  | true => have := (h.pos hb).1; omega
theorem Wf.nd0 (h : Wf S hs) : S.nd 0 = NodeT.zero := h.zero 0 (h.us0 (Int.le_refl 0))
theorem Wf.size_nonneg (h : Wf S hs) (i : Int) : 0 <=(S.nd i).size /\(S.nd i).size <=maxSize := by
  cases hb : S.us i with
  | false => rw [h.zero i hb]; decide
  | true => have := h.siz i hb; omega

/-! ### Free slots -/
theorem Wf.nu_le (h : Wf S hs) : S.nu <=65537 := by
  have := List.countP_le_length (p := id) (l := S.used)
  have := h.n2
  unfold Arn.nu; omega
theorem Wf.free_nonneg (h : Wf S hs) : 0 <=S.free /\S.free <=65536 /\(S.rel.length : Int) <=S.fresh /\S.free = S.cap - S.nu := by
  have := h.nus; have := h.fr; have := h.n2
  unfold Arn.free Arn.cap
  omega

/-! ### Reading -/
def rdS (S : Arn) (n : Nat) : Arn := { S with reads := S.reads + n }
theorem Wf.rd (h : Wf S hs) {n : Nat} (hn : S.reads + n <=4000000000000000000) : Wf (rdS S n) hs :=
  { h with rds := ⟨by have := h.rds; show 0 <=S.reads + (n : Int); omega, hn⟩ }

/-! ### A further reference -/
def bump (l : List Int) (i : Int) : List Int := l.set i.toNat (IntKind.i64.wrap (l.getD i.toNat 0 + 1))
def retA (S : Arn) (i : Int) : Arn := { S with counts := bump S.counts i }
def decS (S : Arn) (i : Int) : Arn := { S with counts := S.counts.set i.toNat (IntKind.i64.wrap (S.ct i - 1)) }
theorem bump_len (l : List Int) (i : Int) : (bump l i).length = l.length := by simp [bump]
theorem wrap_id {x : Int} (h1 : -9223372036854775808 <=x) (h2 : x <=9223372036854775807) : IntKind.i64.wrap x = x := by
  unfold IntKind.wrap
  simp [IntKind.signed, IntKind.bits]
  omega
theorem Wf.indeg_le (h : Wf S hs) (i : Int) : S.indeg i <=131074 := by
  have h1 := List.countP_le_length (p := fun x : NodeT => x.left == i) (l := S.nodes)
  have h2 := List.countP_le_length (p := fun x : NodeT => x.right == i) (l := S.nodes)
  have := h.nnod; have := h.n2
  unfold Arn.indeg; omega
theorem Wf.ct_le (h : Wf S hs) {i : Int} (hi : S.us i = true) : 1 <=S.ct i /\S.ct i <=2000200000 := by
  have h1 := h.cnt i hi
  have h2 := h.indeg_le i
  have h3 := List.count_le_length (a := i) (l := hs)
  have := h.few
  omega
theorem Wf.ret (h : Wf S hs) {i : Int} (hi : S.us i = true) (hf : hs.length < 1000000000) : Wf (retA S i) (i :: hs) := by
  have hp := h.pos hi
  have hc := h.ct_le hi
  refine { h with ncnt := by show (bump S.counts i).length = _; rw [bump_len]; exact h.ncnt, cnt := fun j hj => ?_, held := fun j hj => ?_, few := by have := h.nu_le; show (i :: hs).length + 2 * S.nu <=_; simp; omega }
  · have hj' : S.us j = true := hj
    have hpj := h.pos hj'
    obtain ⟨h1, h2⟩ := h.cnt j hj'
    have e : (retA S i).ct j = if i = j then S.ct j + 1 else S.ct j := by
      unfold retA Arn.ct bump
      simp only []
      rw [getD_set]
      by_cases e : i = j
      · subst e
        rw [if_pos ⟨rfl, by rw [h.ncnt]; omega⟩, if_pos rfl]
        unfold Arn.ct at hc
        rw [wrap_id (by omega) (by omega)]
      · rw [if_neg (by omega), if_neg e]
    have e2 : (retA S i).indeg j = S.indeg j := rfl
    rw [e, e2, List.count_cons]
    by_cases e3 : i = j
    · subst e3; simp; omega
    · simp [e3]; omega
  · rcases List.mem_cons.1 hj with rfl | hj
    · exact .inr hi
    · exact h.held j hj
theorem Wf.dec {i : Int} (h : Wf S (i :: hs)) (hi : S.us i = true) (h1 : 1 < S.ct i) : Wf (decS S i) hs := by
  have hp := h.pos hi
  have hc := h.ct_le hi
  refine { h with ncnt := by show (S.counts.set _ _).length = _; rw [List.length_set]; exact h.ncnt, cnt := fun j hj => ?_, held := fun j hj => h.held j (List.mem_cons_of_mem _ hj), few := by have := h.few; show hs.length + 2 * S.nu <=_; simp at this; omega }
  have hj' : S.us j = true := hj
  have hpj := h.pos hj'
  obtain ⟨h3, h4⟩ := h.cnt j hj'
  have e : (decS S i).ct j = if i = j then S.ct j - 1 else S.ct j := by
    unfold decS Arn.ct
    simp only []
    rw [getD_set]
    by_cases e : i = j
    · subst e
      rw [if_pos ⟨rfl, by rw [h.ncnt]; omega⟩, if_pos rfl]
      unfold Arn.ct at hc
      rw [wrap_id (by omega) (by omega)]
    · rw [if_neg (by omega), if_neg e]
  have e2 : (decS S i).indeg j = S.indeg j := rfl
  rw [e, e2]
  rw [List.count_cons] at h3
  by_cases e3 : i = j
  · subst e3; simp at h3 ⊢; omega
  · simp [e3] at h3 ⊢; omega
theorem Wf.perm {hs' : List Int} (h : Wf S hs) (p : hs.Perm hs') : Wf S hs' :=
  { h with cnt := fun i hi => by rw [← p.count_eq]; exact h.cnt i hi, held := fun i hi => h.held i (p.mem_iff.2 hi), few := by rw [← p.length_eq]; exact h.few }
/-- Nothing is held by holding the empty tree. -/
theorem Wf.zero_cons (h : Wf S hs) (hl : hs.length <=1000000000) : Wf S (0 :: hs) := by
  refine { h with cnt := fun i hi => ?_, held := fun i hi => ?_, few := by have := h.nu_le; simp; omega }
  · have hp := (h.pos hi).1
    rw [List.count_cons_of_ne (by omega)]
    exact h.cnt i hi
  · rcases List.mem_cons.1 hi with rfl | hi
    · exact .inl rfl
    · exact h.held i hi
theorem Wf.of_zero (h : Wf S (0 :: hs)) : Wf S hs := by
  refine { h with cnt := fun i hi => ?_, held := fun i hi => h.held i (List.mem_cons_of_mem _ hi), few := by have := h.few; simp at this; omega }
  have hp := (h.pos hi).1
  have := h.cnt i hi
  rw [List.count_cons_of_ne (by omega)] at this
  exact this

/-! ### Nodes -/
theorem addC_congr {S S' : Arn} {n : NodeT} {c : Int} (h : c ≠ 0 ->S'.nd c = S.nd c) : addC S' n c = addC S n c := by
  unfold addC
  by_cases hc : c = 0
  · rw [if_pos hc, if_pos hc]
  · rw [if_neg hc, if_neg hc, h hc]
theorem mkNode_congr {S S' : Arn} {k v l r : Int} (hl : l ≠ 0 ->S'.nd l = S.nd l) (hr : r ≠ 0 ->S'.nd r = S.nd r) : mkNode S' k v l r = mkNode S k v l r := by
  unfold mkNode
  rw [addC_congr hl, addC_congr hr]
theorem addC_flds (S : Arn) (n : NodeT) (c : Int) : (addC S n c).key = n.key /\(addC S n c).value = n.value /\(addC S n c).left = n.left /\(addC S n c).right = n.right := by
  unfold addC; split <;> exact ⟨rfl, rfl, rfl, rfl⟩
theorem mkNode_flds (S : Arn) (k v l r : Int) : (mkNode S k v l r).key = k /\(mkNode S k v l r).value = v /\(mkNode S k v l r).left = l /\(mkNode S k v l r).right = r := by
  unfold mkNode
  obtain ⟨h1, h2, h3, h4⟩ := addC_flds S (addC S ⟨k, v, l, r, 1, v, v, v⟩ l) r
  obtain ⟨g1, g2, g3, g4⟩ := addC_flds S ⟨k, v, l, r, 1, v, v, v⟩ l
  exact ⟨h1.trans g1, h2.trans g2, h3.trans g3, h4.trans g4⟩
theorem Wf.addC_size (h : Wf S hs) {n : NodeT} (h1 : 0 <=n.size /\n.size <=4294967296) (c : Int) : (addC S n c).size = n.size + (S.nd c).size := by
  unfold addC
  by_cases hc : c = 0
  · rw [if_pos hc, hc, h.nd0]; simp [NodeT.zero]
  · rw [if_neg hc]
    have := h.size_nonneg c
    unfold maxSize at this
    show IntKind.i64.wrap (n.size + (S.nd c).size) = _
    rw [wrap_id (by omega) (by omega)]
theorem Wf.mkNode_size (h : Wf S hs) (k v l r : Int) : (mkNode S k v l r).size = 1 + (S.nd l).size + (S.nd r).size := by
  unfold mkNode
  have h1 := h.size_nonneg l
  unfold maxSize at h1
  have e := h.addC_size (n := ⟨k, v, l, r, 1, v, v, v⟩) ⟨by show (0 : Int) <=1; decide, by show (1 : Int) <=4294967296; decide⟩ l
  have e' : (addC S ⟨k, v, l, r, 1, v, v, v⟩ l).size = 1 + (S.nd l).size := e
  rw [h.addC_size (by omega) r, e']

/-! ### A new node -/
def fresh3 (rl : List Int) (fr : Int) : Int × List Int × Int := if 0 < rl.length then (rl.getD (rl.length - 1) 0, rl.take (rl.length - 1), fr) else (fr + 1, rl, fr + 1)
def freshS (S : Arn) : Int × List Int × Int := fresh3 S.rel S.fresh
def nxt (S : Arn) : Int := (freshS S).1
def makeS (S : Arn) (k v l r : Int) : Arn :=
  { used := S.used.set (nxt S).toNat true, gen := S.gen.set (nxt S).toNat (IntKind.u32.wrap (S.gn (nxt S) + 1)), rel := (freshS S).2.1, fresh := (freshS S).2.2,
    nodes := S.nodes.set (nxt S).toNat (mkNode S k v l r), counts := bump (bump (S.counts.set (nxt S).toNat 1) l) r, reads := S.reads }
theorem Wf.nxt_spec (h : Wf S hs) (hf : 0 < S.free) : 1 <=nxt S /\nxt S < S.used.length /\S.us (nxt S) = false /\(0 <=(freshS S).2.2 /\(freshS S).2.2 < S.used.length) /\(freshS S).2.1.Nodup ∧
    (∀ i ∈ (freshS S).2.1, 1 <=i /\i <=(freshS S).2.2) /\(∀ i, (i = nxt S ∨ S.us i = true) ↔ 1 <=i /\i <=(freshS S).2.2 /\i ∉ (freshS S).2.1) /\(freshS S).2.1.length + (S.nu + 1) = (freshS S).2.2.toNat := by
  have hfr := h.fr
  have hnus := h.nus
  unfold nxt freshS fresh3
  by_cases hr : 0 < S.rel.length
  · simp only [if_pos hr]
    obtain ⟨q, x, hq⟩ : ∃ q x, S.rel = q ++ [x] := ⟨S.rel.dropLast, S.rel.getLast (by intro e; rw [e] at hr; simp at hr), (List.dropLast_concat_getLast _).symm⟩
    have e1 : S.rel.getD (S.rel.length - 1) 0 = x := by rw [hq]; simp
    have e2 : S.rel.take (S.rel.length - 1) = q := by rw [hq]; simp
    have hd := h.dup
    rw [hq] at hd hnus
    obtain ⟨d1, _, d2⟩ := List.nodup_append.1 hd
    have hx := h.rel x (by rw [hq]; simp)
    have hu : S.us x = false := by
      cases hb : S.us x with
      | false => rfl
      | true => exact absurd (by rw [hq]; simp) ((h.use x).1 hb).2.2
    rw [e1, e2]
    refine ⟨hx.1, by omega, hu, hfr, d1, fun i hi => h.rel i (by rw [hq]; simp [hi]), fun i => ?_, by simp at hnus; omega⟩
    rw [h.use i, hq]
    constructor
    · rintro (rfl | ⟨h1, h2, h3⟩)
      · exact ⟨hx.1, hx.2, fun hm => d2 _ hm _ (by simp) rfl⟩
      · exact ⟨h1, h2, fun hm => h3 (by simp [hm])⟩
    · rintro ⟨h1, h2, h3⟩
      by_cases e : i = x
      · exact .inl e
      · exact .inr ⟨h1, h2, by simp [h3, e]⟩
  · simp only [if_neg hr]
    have hr0 : S.rel = [] := List.length_eq_zero_iff.1 (by omega)
    unfold Arn.free Arn.cap at hf
    have hu : S.us (S.fresh + 1) = false := by
      cases hb : S.us (S.fresh + 1) with
      | false => rfl
      | true => have := ((h.use _).1 hb).2.1; omega
    refine ⟨by omega, by omega, hu, by omega, h.dup, fun i hi => by have := h.rel i hi; omega, fun i => ?_, by omega⟩
    rw [h.use i, hr0]
    simp
    omega
theorem make_us (h : Wf S hs) (hf : 0 < S.free) {k v l r : Int} (i : Int) : (makeS S k v l r).us i = true ↔ i = nxt S ∨ S.us i = true := by
  obtain ⟨h1, h2, h3, _⟩ := h.nxt_spec hf
  unfold Arn.us makeS
  simp only []
  rw [getD_set]
  by_cases e : i = nxt S
  · rw [if_pos ⟨by rw [e], by rw [e]; omega⟩]; simp [e]
  · by_cases e2 : (nxt S).toNat = i.toNat
    · omega
    · rw [if_neg (fun c => e2 c.1)]; simp [e]
theorem make_nd (h : Wf S hs) (hf : 0 < S.free) {k v l r : Int} (i : Int) : (makeS S k v l r).nd i = if i = nxt S then mkNode S k v l r else S.nd i := by
  obtain ⟨h1, h2, h3, _⟩ := h.nxt_spec hf
  have := h.nnod
  unfold Arn.nd makeS
  simp only []
  rw [getD_set]
  by_cases e : i = nxt S
  · rw [if_pos ⟨by rw [e], by rw [e]; omega⟩, if_pos e]
  · rw [if_neg (by omega), if_neg e]
theorem bump_get {cs : List Int} {l j : Int} (hl : 0 <=l) (hj : 0 <=j) (hn : j.toNat < cs.length) : (bump cs l).getD j.toNat 0 = if l = j then IntKind.i64.wrap (cs.getD j.toNat 0 + 1) else cs.getD j.toNat 0 := by
  unfold bump
  rw [getD_set]
  by_cases e : l = j
  · subst e; rw [if_pos ⟨rfl, hn⟩, if_pos rfl]
  · rw [if_neg (by omega), if_neg e]
theorem Wf.ge0 (h : Wf S hs) {i : Int} (hi : i = 0 ∨ S.us i = true) : 0 <=i := by
  rcases hi with rfl | hi
  · exact Int.le_refl _
  · have := (h.pos hi).1; omega
theorem Wf.indeg_free (h : Wf S hs) {i : Int} (h1 : 1 <=i) (hu : S.us i = false) : S.indeg i = 0 := by
  have key : ∀ n ∈ S.nodes, n.left ≠ i /\n.right ≠ i := by
    intro n hn
    obtain ⟨j, hj⟩ := List.mem_iff_getElem?.1 hn
    have e : S.nd (j : Int) = n := by unfold Arn.nd; simp [List.getD_eq_getElem?_getD, hj]
    cases hb : S.us (j : Int) with
    | false =>
      have := h.zero _ hb
      rw [e] at this
      rw [this]
      simp [NodeT.zero]; omega
    | true =>
      have := h.kid _ hb
      rw [e] at this
      refine ⟨fun c => ?_, fun c => ?_⟩
      · rcases this.1 with h2 | h2
        · omega
        · rw [c, hu] at h2; cases h2
      · rcases this.2 with h2 | h2
        · omega
        · rw [c, hu] at h2; cases h2
  unfold Arn.indeg
  have e1 : S.nodes.countP (fun x => x.left == i) = 0 := List.countP_eq_zero.2 fun n hn => by have := (key n hn).1; simpa using this
  have e2 : S.nodes.countP (fun x => x.right == i) = 0 := List.countP_eq_zero.2 fun n hn => by have := (key n hn).2; simpa using this
  rw [e1, e2]
theorem make_indeg (h : Wf S hs) (hf : 0 < S.free) {k v l r : Int} {i : Int} (hi : 1 <=i) : (makeS S k v l r).indeg i = S.indeg i + (if l = i then 1 else 0) + (if r = i then 1 else 0) := by
  obtain ⟨h1, h2, h3, _⟩ := h.nxt_spec hf
  have hn := h.nnod
  have hz : S.nodes.getD (nxt S).toNat NodeT.zero = NodeT.zero := h.zero _ h3
  obtain ⟨_, _, m1, m2⟩ := mkNode_flds S k v l r
  have a1 := countP_set' (fun x : NodeT => x.left == i) S.nodes (nxt S).toNat (mkNode S k v l r) NodeT.zero (by omega)
  have a2 := countP_set' (fun x : NodeT => x.right == i) S.nodes (nxt S).toNat (mkNode S k v l r) NodeT.zero (by omega)
  rw [hz] at a1 a2
  simp only [m1, m2] at a1 a2
  have z1 : ¬ (NodeT.zero.left == i) = true := by simp [NodeT.zero]; omega
  have z2 : ¬ (NodeT.zero.right == i) = true := by simp [NodeT.zero]; omega
  rw [if_neg z1] at a1
  rw [if_neg z2] at a2
  unfold Arn.indeg makeS
  simp only [beq_iff_eq] at a1 a2 ⊢
  omega
theorem Wf.make (h : Wf S hs) {k v l r : Int} (hl : l = 0 ∨ S.us l = true) (hr : r = 0 ∨ S.us r = true) (hf : 0 < S.free) (hz : (mkNode S k v l r).size <=maxSize) (hs1 : hs.length <=1000000000) :
    Wf (makeS S k v l r) (nxt S :: hs) := by
  obtain ⟨h1, h2, h3, h4, h5, h6, h7, h8⟩ := h.nxt_spec hf
  have ln : (makeS S k v l r).used.length = S.used.length := by simp [makeS]
  have hl0 := h.ge0 hl
  have hr0 := h.ge0 hr
  have l_ne : l ≠ 0 ->l ≠ nxt S := fun e c => by rcases hl with hl | hl; exact e hl; rw [c, h3] at hl; cases hl
  have r_ne : r ≠ 0 ->r ≠ nxt S := fun e c => by rcases hr with hr | hr; exact e hr; rw [c, h3] at hr; cases hr
  have hnu : (makeS S k v l r).nu = S.nu + 1 := by
    have a := countP_set' id S.used (nxt S).toNat true false (by omega)
    have : S.used.getD (nxt S).toNat false = false := h3
    rw [this] at a
    simp at a
    unfold Arn.nu makeS
    simp
    omega
  have hcong : ∀ c, (c = 0 ∨ S.us c = true) ->c ≠ 0 ->(makeS S k v l r).nd c = S.nd c := fun c hc hc0 => by
    rw [make_nd h hf, if_neg]
    rintro rfl
    rcases hc with hc | hc
    · exact hc0 hc
    · rw [h3] at hc; cases hc
  have nd0 : (makeS S k v l r).nd 0 = S.nd 0 := by rw [make_nd h hf, if_neg (by omega)]
  have ndk : ∀ c, (c = 0 ∨ S.us c = true) ->(makeS S k v l r).nd c = S.nd c := fun c hc => by
    by_cases e : c = 0
    · rw [e]; exact nd0
    · exact hcong c hc e
  constructor
  case n1 => rw [ln]; exact h.n1
  case n2 => rw [ln]; exact h.n2
  case ngen => rw [ln]; simp [makeS, h.ngen]
  case nnod => rw [ln]; simp [makeS, h.nnod]
  case ncnt => rw [ln]; simp [makeS, bump_len, h.ncnt]
  case fr => rw [ln]; exact h4
  case rel => exact h6
  case dup => exact h5
  case use => intro i; rw [make_us h hf]; exact h7 i
  case zero =>
    intro i hi
    have hn : ¬ (i = nxt S ∨ S.us i = true) := fun c => by rw [(make_us h hf (k := k) (v := v) (l := l) (r := r) i).2 c] at hi; cases hi
    rw [make_nd h hf, if_neg fun c => hn (.inl c)]
    exact h.zero i (by cases hb : S.us i with | false => rfl | true => exact absurd (.inr hb) hn)
  case kid =>
    intro i hi
    rw [make_us h hf] at hi
    rw [make_nd h hf]
    by_cases e : i = nxt S
    · rw [if_pos e]
      obtain ⟨_, _, m1, m2⟩ := mkNode_flds S k v l r
      rw [m1, m2, make_us h hf, make_us h hf]
      exact ⟨hl.imp id .inr, hr.imp id .inr⟩
    · rw [if_neg e]
      have := h.kid i (hi.resolve_left e)
      rw [make_us h hf, make_us h hf]
      exact ⟨this.1.imp id .inr, this.2.imp id .inr⟩
  case agg =>
    intro i hi
    rw [make_us h hf] at hi
    rw [make_nd h hf]
    by_cases e : i = nxt S
    · rw [if_pos e]
      obtain ⟨m3, m4, m1, m2⟩ := mkNode_flds S k v l r
      rw [m1, m2, m3, m4]
      exact (mkNode_congr (hcong l hl) (hcong r hr)).symm
    · rw [if_neg e]
      have hk := h.kid i (hi.resolve_left e)
      rw [mkNode_congr (hcong _ hk.1) (hcong _ hk.2)]
      exact h.agg i (hi.resolve_left e)
  case siz =>
    intro i hi
    rw [make_us h hf] at hi
    rw [make_nd h hf]
    by_cases e : i = nxt S
    · rw [if_pos e]
      obtain ⟨_, _, m1, m2⟩ := mkNode_flds S k v l r
      rw [m1, m2, ndk l hl, ndk r hr, h.mkNode_size] at *
      have := h.size_nonneg l; have := h.size_nonneg r
      omega
    · rw [if_neg e]
      have hk := h.kid i (hi.resolve_left e)
      rw [ndk _ hk.1, ndk _ hk.2]
      exact h.siz i (hi.resolve_left e)
  case cnt =>
    intro i hi
    rw [make_us h hf] at hi
    have hi1 : 1 <=i /\i < S.used.length := by
      rcases hi with rfl | hi
      · exact ⟨h1, h2⟩
      · have := h.pos hi; omega
    have hnc := h.ncnt
    rw [make_indeg h hf hi1.1]
    have ec : (makeS S k v l r).ct i = (bump (bump (S.counts.set (nxt S).toNat 1) l) r).getD i.toNat 0 := rfl
    rw [ec, bump_get hr0 (by omega) (by rw [bump_len, List.length_set]; omega), bump_get hl0 (by omega) (by rw [List.length_set]; omega), getD_set]
    by_cases e : i = nxt S
    · have e1 : ¬ l = i := fun c => l_ne (by omega) (c.trans e)
      have e2 : ¬ r = i := fun c => r_ne (by omega) (c.trans e)
      have hc0 : hs.count i = 0 := List.count_eq_zero.2 fun hm => by
        rcases h.held i hm with hh | hh
        · omega
        · rw [e, h3] at hh; cases hh
      rw [if_neg e2, if_neg e1, if_pos ⟨by rw [e], by omega⟩, if_neg e1, if_neg e2, h.indeg_free hi1.1 (by rw [e]; exact h3), ← e, List.count_cons_self, hc0]
      simp
    · have hu := hi.resolve_left e
      obtain ⟨c1, c2⟩ := h.cnt i hu
      have c3 := h.ct_le hu
      rw [if_neg (by omega : ¬ ((nxt S).toNat = i.toNat /\i.toNat < S.counts.length)), List.count_cons_of_ne (fun c => e c.symm)]
      have e3 : S.counts.getD i.toNat 0 = S.ct i := rfl
      rw [e3]
      by_cases e1 : l = i <;> by_cases e2 : r = i
      · rw [if_pos e2, if_pos e1, if_pos e1, if_pos e2, wrap_id (x := S.ct i + 1) (by omega) (by omega), wrap_id (by omega) (by omega)]; omega
      · rw [if_neg e2, if_pos e1, if_pos e1, if_neg e2, wrap_id (by omega) (by omega)]; omega
      · rw [if_pos e2, if_neg e1, if_neg e1, if_pos e2, wrap_id (by omega) (by omega)]; omega
      · rw [if_neg e2, if_neg e1, if_neg e1, if_neg e2]; omega
  case held =>
    intro i hi
    rw [make_us h hf]
    rcases List.mem_cons.1 hi with rfl | hi
    · exact .inr (.inl rfl)
    · exact (h.held i hi).imp id .inr
  case few => rw [hnu]; have := h.nu_le; simp; omega
  case nus => rw [hnu]; exact h8
  case rds => exact h.rds

/-! ### A slot that becomes free -/
def nz (c : Int) : List Int := if c = 0 then [] else [c]
def freeS (S : Arn) (k : Int) : Arn := { S with counts := S.counts.set k.toNat (IntKind.i64.wrap (S.ct k - 1)), nodes := S.nodes.set k.toNat NodeT.zero, used := S.used.set k.toNat false, rel := S.rel ++ [k] }
theorem nz_count {c i : Int} (hi : 1 <=i) : (nz c).count i = if c = i then 1 else 0 := by
  unfold nz
  by_cases hc : c = 0
  · rw [if_pos hc, if_neg (by omega)]; rfl
  · rw [if_neg hc]
    by_cases e : c = i
    · subst e; simp
    · simp [e]
theorem Wf.freed {k : Int} (h : Wf S (k :: hs)) (hk : S.us k = true) (hc : S.ct k = 1) : Wf (freeS S k) (nz (S.nd k).right ++ (nz (S.nd k).left ++ hs)) /\(freeS S k).nu + 1 = S.nu ∧
    (∀ i, (freeS S k).us i = true ↔ i ≠ k /\S.us i = true) /\(∀ i, (freeS S k).nd i = if i = k then NodeT.zero else S.nd i) := by
  have hp := h.pos hk
  have hnod := h.nnod
  have hcnt := h.ncnt
  obtain ⟨hc1, _⟩ := h.cnt k hk
  rw [List.count_cons_self] at hc1
  have hin : S.indeg k = 0 := by omega
  have hhk : hs.count k = 0 := by omega
  have ln : (freeS S k).used.length = S.used.length := by simp [freeS]
  have hus : ∀ i, (freeS S k).us i = true ↔ i ≠ k /\S.us i = true := by
    intro i
    unfold freeS Arn.us
    simp only []
    rw [getD_set]
    by_cases e : i = k
    · rw [if_pos ⟨by rw [e], by rw [e]; exact hp.2.2⟩]; simp [e]
    · rw [if_neg (by omega)]; simp [e]
  have hnd : ∀ i, (freeS S k).nd i = if i = k then NodeT.zero else S.nd i := by
    intro i
    unfold freeS Arn.nd
    simp only []
    rw [getD_set]
    by_cases e : i = k
    · rw [if_pos ⟨by rw [e], by rw [e]; omega⟩, if_pos e]
    · rw [if_neg (by omega), if_neg e]
  have hnu : (freeS S k).nu + 1 = S.nu := by
    have a := countP_set' id S.used k.toNat false false hp.2.2
    have : S.used.getD k.toNat false = true := hk
    rw [this] at a
    simp at a
    unfold Arn.nu freeS
    simp
    omega
  have nok : ∀ i, S.us i = true ->(S.nd i).left ≠ k /\(S.nd i).right ≠ k := by
    intro i hi
    have hpi := h.pos hi
    have hm : S.nd i ∈ S.nodes := by
      have : i.toNat < S.nodes.length := by omega
      unfold Arn.nd
      rw [List.getD_eq_getElem?_getD, List.getElem?_eq_getElem this]
      exact List.getElem_mem this
    unfold Arn.indeg at hin
    have e1 : S.nodes.countP (fun x => x.left == k) = 0 := by omega
    have e2 : S.nodes.countP (fun x => x.right == k) = 0 := by omega
    exact ⟨by simpa using List.countP_eq_zero.1 e1 _ hm, by simpa using List.countP_eq_zero.1 e2 _ hm⟩
  have ndk : ∀ c, c ≠ k ->(freeS S k).nd c = S.nd c := fun c hc => by rw [hnd, if_neg hc]
  refine ⟨?_, hnu, hus, hnd⟩
  constructor
  case n1 => rw [ln]; exact h.n1
  case n2 => rw [ln]; exact h.n2
  case ngen => rw [ln]; exact h.ngen
  case nnod => rw [ln]; simp [freeS, h.nnod]
  case ncnt => rw [ln]; simp [freeS, h.ncnt]
  case fr => rw [ln]; exact h.fr
  case rel =>
    intro i hi
    rcases List.mem_append.1 hi with hi | hi
    · exact h.rel i hi
    · simp at hi; subst hi; have := (h.use i).1 hk; exact ⟨this.1, this.2.1⟩
  case dup =>
    refine List.nodup_append.2 ⟨h.dup, by simp, fun a ha b hb => ?_⟩
    simp at hb; subst hb
    rintro rfl
    exact ((h.use a).1 hk).2.2 ha
  case use =>
    intro i
    rw [hus, h.use i]
    show _ ↔ 1 <=i /\i <=S.fresh /\i ∉ S.rel ++ [k]
    simp
    constructor
    · rintro ⟨a, b, c, d⟩; exact ⟨b, c, d, a⟩
    · rintro ⟨b, c, d, a⟩; exact ⟨a, b, c, d⟩
  case zero =>
    intro i hi
    rw [hnd]
    by_cases e : i = k
    · rw [if_pos e]
    · rw [if_neg e]
      refine h.zero i ?_
      cases hb : S.us i with
      | false => rfl
      | true => rw [(hus i).2 ⟨e, hb⟩] at hi; cases hi
  case kid =>
    intro i hi
    obtain ⟨e, hu⟩ := (hus i).1 hi
    have hkd := h.kid i hu
    have hn := nok i hu
    rw [ndk i e, hus, hus]
    exact ⟨hkd.1.imp id fun z => ⟨hn.1, z⟩, hkd.2.imp id fun z => ⟨hn.2, z⟩⟩
  case agg =>
    intro i hi
    obtain ⟨e, hu⟩ := (hus i).1 hi
    have hn := nok i hu
    rw [ndk i e, mkNode_congr (fun _ => ndk _ hn.1) (fun _ => ndk _ hn.2)]
    exact h.agg i hu
  case siz =>
    intro i hi
    obtain ⟨e, hu⟩ := (hus i).1 hi
    have hn := nok i hu
    rw [ndk i e, ndk _ hn.1, ndk _ hn.2]
    exact h.siz i hu
  case cnt =>
    intro i hi
    obtain ⟨e, hu⟩ := (hus i).1 hi
    have hpi := h.pos hu
    obtain ⟨c1, c2⟩ := h.cnt i hu
    have ec : (freeS S k).ct i = S.ct i := by
      unfold freeS Arn.ct
      simp only []
      rw [getD_set, if_neg (by omega)]
    have a1 := countP_set' (fun x : NodeT => x.left == i) S.nodes k.toNat NodeT.zero NodeT.zero (by omega)
    have a2 := countP_set' (fun x : NodeT => x.right == i) S.nodes k.toNat NodeT.zero NodeT.zero (by omega)
    have ek : S.nodes.getD k.toNat NodeT.zero = S.nd k := rfl
    have z1 : ¬ (NodeT.zero.left == i) = true := by simp [NodeT.zero]; omega
    have z2 : ¬ (NodeT.zero.right == i) = true := by simp [NodeT.zero]; omega
    rw [ek, if_neg z1] at a1
    rw [ek, if_neg z2] at a2
    have ei : (freeS S k).indeg i = (S.nodes.set k.toNat NodeT.zero).countP (fun x => x.left == i) + (S.nodes.set k.toNat NodeT.zero).countP (fun x => x.right == i) := rfl
    rw [List.count_cons_of_ne (fun c => e c.symm)] at c1
    rw [ec, List.count_append, List.count_append, nz_count hpi.1, nz_count hpi.1, ei]
    unfold Arn.indeg at c1
    simp only [beq_iff_eq] at a1 a2 c1 ⊢
    omega
  case held =>
    intro i hi
    rw [hus]
    have hkd := h.kid k hk
    have hn := nok k hk
    rcases List.mem_append.1 hi with hi | hi
    · unfold nz at hi
      split at hi
      · simp at hi
      · simp at hi; subst hi; exact hkd.2.imp id fun z => ⟨hn.2, z⟩
    · rcases List.mem_append.1 hi with hj | hj
      · unfold nz at hj
        split at hj
        · simp at hj
        · simp at hj; subst hj; exact hkd.1.imp id fun z => ⟨hn.1, z⟩
      · refine (h.held i (List.mem_cons_of_mem _ hj)).imp id fun z => ⟨fun e => ?_, z⟩
        rw [e] at hj
        exact (List.count_eq_zero.1 hhk) hj
  case few =>
    have h1 := h.few
    have h2 : ∀ c, (nz c).length <=1 := fun c => by unfold nz; split <;> simp
    have := h2 (S.nd k).left; have := h2 (S.nd k).right
    simp at h1 ⊢
    omega
  case nus =>
    have := h.nus
    show (S.rel ++ [k]).length + (freeS S k).nu = _
    have e : (freeS S k).fresh = S.fresh := rfl
    rw [e]; simp; omega
  case rds => exact h.rds
end Go.Proofs.YtmjnoiajenoinaaGreat
end
section
/- What stays of an arena, trees in it, a new arena. No program in sight. -/
namespace Go.Proofs.YtmjnoiajenoinaaGreat
open Go

variable {S S' S'' : Arn} {hs : List Int}

structure Kept (S S' : Arn) : Prop where
  len : S'.used.length = S.used.length
  gen : S'.gen = S.gen
  rds : S'.reads = S.reads
  kp : ∀ i, S'.us i = true ->S.us i = true /\S'.nd i = S.nd i
theorem Kept.refl (S : Arn) : Kept S S := ⟨rfl, rfl, rfl, fun _ h => ⟨h, rfl⟩⟩
theorem Kept.trans (h : Kept S S') (h' : Kept S' S'') : Kept S S'' :=
  ⟨h'.len.trans h.len, h'.gen.trans h.gen, h'.rds.trans h.rds, fun i hi => by
    obtain ⟨a, b⟩ := h'.kp i hi
    obtain ⟨c, d⟩ := h.kp i a
    exact ⟨c, b.trans d⟩⟩
theorem kept_dec (S : Arn) (i : Int) : Kept S (decS S i) := ⟨rfl, rfl, rfl, fun _ h => ⟨h, rfl⟩⟩
theorem kept_free {k : Int} (h : Wf S (k :: hs)) (hk : S.us k = true) (hc : S.ct k = 1) : Kept S (freeS S k) := by
  obtain ⟨_, _, hus, hnd⟩ := h.freed hk hc
  refine ⟨by simp [freeS], rfl, rfl, fun i hi => ?_⟩
  obtain ⟨e, hu⟩ := (hus i).1 hi
  exact ⟨hu, by rw [hnd, if_neg e]⟩

/-! ### What can be reached -/
inductive Rch (S : Arn) (hs : List Int) : Int ->Prop where
  | root {i : Int} : i ∈ hs ->S.us i = true ->Rch S hs i
  | left {i : Int} : Rch S hs i ->S.us (S.nd i).left = true ->Rch S hs (S.nd i).left
  | right {i : Int} : Rch S hs i ->S.us (S.nd i).right = true ->Rch S hs (S.nd i).right
theorem Rch.us {i : Int} (h : Rch S hs i) : S.us i = true := by cases h <;> assumption
theorem Rch.mono {hs' : List Int} (hh : ∀ i ∈ hs, i ∈ hs') {i : Int} (h : Rch S hs i) : Rch S hs' i := by
  induction h with
  | root h1 h2 => exact .root (hh _ h1) h2
  | left _ h2 ih => exact .left ih h2
  | right _ h2 ih => exact .right ih h2
theorem indeg_parent {i : Int} (h : Wf S hs) (hi : 1 <=i) (hd : 1 <=S.indeg i) : ∃ j, S.us j = true /\((S.nd j).left = i ∨ (S.nd j).right = i) := by
  have : ∃ n ∈ S.nodes, n.left = i ∨ n.right = i := by
    unfold Arn.indeg at hd
    by_cases e : S.nodes.countP (fun x => x.left == i) = 0
    · have : 0 < S.nodes.countP (fun x => x.right == i) := by omega
      obtain ⟨n, hn, hp⟩ := List.countP_pos_iff.1 this
      exact ⟨n, hn, .inr (by simpa using hp)⟩
    · obtain ⟨n, hn, hp⟩ := List.countP_pos_iff.1 (Nat.pos_of_ne_zero e)
      exact ⟨n, hn, .inl (by simpa using hp)⟩
  obtain ⟨n, hn, hp⟩ := this
  obtain ⟨j, hj⟩ := List.mem_iff_getElem?.1 hn
  have e : S.nd (j : Int) = n := by unfold Arn.nd; simp [List.getD_eq_getElem?_getD, hj]
  refine ⟨j, ?_, by rw [e]; exact hp⟩
  cases hb : S.us (j : Int) with
  | true => rfl
  | false =>
    have := h.zero _ hb
    rw [e] at this
    rw [this] at hp
    simp [NodeT.zero] at hp
    omega
/-- All that is in use can be reached from what is held. -/
theorem Wf.reach (h : Wf S hs) : ∀ (n : Nat) (i : Int), S.us i = true ->(maxSize - (S.nd i).size).toNat <=n ->Rch S hs i := by
  intro n
  induction n with
  | zero =>
    intro i hi hn
    have hsz := h.siz i hi
    obtain ⟨c1, c2⟩ := h.cnt i hi
    have hp := h.pos hi
    by_cases hm : 0 < hs.count i
    · exact .root (List.count_pos_iff.1 hm) hi
    · obtain ⟨j, hj, hor⟩ := indeg_parent h hp.1 (by omega)
      have hz := h.siz j hj
      have := h.size_nonneg (S.nd j).left
      have := h.size_nonneg (S.nd j).right
      rcases hor with e | e <;> rw [e] at hz <;> omega
  | succ n ih =>
    intro i hi hn
    have hsz := h.siz i hi
    obtain ⟨c1, c2⟩ := h.cnt i hi
    have hp := h.pos hi
    by_cases hm : 0 < hs.count i
    · exact .root (List.count_pos_iff.1 hm) hi
    · obtain ⟨j, hj, hor⟩ := indeg_parent h hp.1 (by omega)
      have hz := h.siz j hj
      have := h.size_nonneg (S.nd j).left
      have := h.size_nonneg (S.nd j).right
      have hr : Rch S hs j := ih j hj (by rcases hor with e | e <;> rw [e] at hz <;> omega)
      rcases hor with e | e
      · rw [← e]; exact .left hr (by rw [e]; exact hi)
      · rw [← e]; exact .right hr (by rw [e]; exact hi)
theorem Wf.reached (h : Wf S hs) {i : Int} (hi : S.us i = true) : Rch S hs i := h.reach _ i hi (Nat.le_refl _)
theorem Wf.empty (h : Wf S []) : S.nu = 0 /\S.free = S.cap := by
  have key : ∀ i, S.us i = false := by
    intro i
    cases hb : S.us i with
    | false => rfl
    | true =>
      exfalso
      have hr := h.reached hb
      clear hb
      induction hr with
      | root h1 _ => simp at h1
      | left _ _ ih => exact ih
      | right _ _ ih => exact ih
  have hn : S.nu = 0 := by
    unfold Arn.nu
    refine List.countP_eq_zero.2 fun b hb => ?_
    obtain ⟨j, hj⟩ := List.mem_iff_getElem?.1 hb
    have := key (j : Int)
    unfold Arn.us at this
    simp [List.getD_eq_getElem?_getD, hj] at this
    simp [this]
  have := h.free_nonneg
  exact ⟨hn, by omega⟩

/-- What is reached from hs stays as it is. -/
def Stay (S S' : Arn) (hs : List Int) : Prop := ∀ i, Rch S hs i ->S'.us i = true /\S'.nd i = S.nd i /\S'.gn i = S.gn i
theorem Stay.refl (S : Arn) (hs : List Int) : Stay S S hs := fun _ h => ⟨h.us, rfl, rfl⟩
theorem Stay.reach (h : Stay S S' hs) {i : Int} (hr : Rch S hs i) : Rch S' hs i := by
  induction hr with
  | root h1 h2 => exact .root h1 (h _ (.root h1 h2)).1
  | left h1 h2 ih =>
    have e := (h _ h1).2.1
    rw [← e]
    exact .left ih (by rw [e]; exact (h _ (.left h1 h2)).1)
  | right h1 h2 ih =>
    have e := (h _ h1).2.1
    rw [← e]
    exact .right ih (by rw [e]; exact (h _ (.right h1 h2)).1)
theorem Stay.trans (h : Stay S S' hs) (h' : Stay S' S'' hs) : Stay S S'' hs := fun i hi => by
  obtain ⟨a, b, c⟩ := h i hi
  obtain ⟨a', b', c'⟩ := h' i (h.reach hi)
  exact ⟨a', b'.trans b, c'.trans c⟩
theorem Stay.mono {hs' : List Int} (h : Stay S S' hs) (hh : ∀ i ∈ hs', i ∈ hs) : Stay S S' hs' := fun i hi => h i (hi.mono hh)
theorem Kept.stay {hs' : List Int} (k : Kept S S') (h0 : Wf S hs') (h : Wf S' hs) : Stay S S' hs := fun i hi => by
  have key : S'.us i = true := by
    induction hi with
    | root h1 h2 =>
      have := (h0.pos h2).1
      exact (h.held _ h1).resolve_left (by omega)
    | left h1 h2 ih =>
      have e := (k.kp _ ih).2
      have := (h0.pos h2).1
      have hk := (h.kid _ ih).1
      rw [e] at hk
      exact hk.resolve_left (by omega)
    | right h1 h2 ih =>
      have e := (k.kp _ ih).2
      have := (h0.pos h2).1
      have hk := (h.kid _ ih).2
      rw [e] at hk
      exact hk.resolve_left (by omega)
  exact ⟨key, (k.kp i key).2, by unfold Arn.gn; rw [k.gen]⟩
theorem stay_rd (S : Arn) (n : Nat) (hs : List Int) : Stay S (rdS S n) hs := fun _ h => ⟨h.us, rfl, rfl⟩
theorem stay_make {hs' : List Int} (h : Wf S hs') (hf : 0 < S.free) {k v l r : Int} (hs : List Int) : Stay S (makeS S k v l r) hs := fun i hi => by
  have hu := hi.us
  have h3 := (h.nxt_spec hf).2.2.1
  have e : i ≠ nxt S := fun e => by rw [e, h3] at hu; cases hu
  have hp := h.pos hu
  have h1 := (h.nxt_spec hf).1
  refine ⟨(make_us h hf i).2 (.inr hu), by rw [make_nd h hf, if_neg e], ?_⟩
  unfold Arn.gn makeS
  simp only []
  rw [getD_set, if_neg (by omega)]

/-! ### Trees -/
inductive Tr where
  | nil
  | node (l : Tr) (k v : Int) (r : Tr)
def Tr.size : Tr ->Nat
  | .nil => 0
  | .node l _ _ r => 1 + l.size + r.size
def Tr.list : Tr ->List Ent
  | .nil => []
  | .node l k v r => l.list ++ (k, v) :: r.list
theorem Tr.list_len : ∀ t : Tr, t.list.length = t.size
  | .nil => rfl
  | .node l k v r => by simp [Tr.list, Tr.size, l.list_len, r.list_len]; omega
def Rep (S : Arn) : Tr ->Int ->Prop
  | .nil, i => i = 0
  | .node l k v r, i => S.us i = true /\(S.nd i).key = k /\(S.nd i).value = v /\Rep S l (S.nd i).left /\Rep S r (S.nd i).right
theorem Rep.size (h : Wf S hs) : ∀ {t : Tr} {i : Int}, Rep S t i ->(S.nd i).size = t.size
  | .nil, i, hr => by have : i = 0 := hr; rw [this, h.nd0]; rfl
  | .node l k v r, i, hr => by
    obtain ⟨h1, _, _, h4, h5⟩ := hr
    rw [(h.siz i h1).2.2, Rep.size h h4, Rep.size h h5]
    simp [Tr.size]
theorem Rep.us {t : Tr} {i : Int} (hr : Rep S t i) : i = 0 ∨ S.us i = true := by
  cases t with
  | nil => exact .inl hr
  | node l k v r => exact .inr hr.1
theorem Rep.zero (h : Wf S hs) {t : Tr} (hr : Rep S t 0) : t = .nil := by
  cases t with
  | nil => rfl
  | node l k v r => have := hr.1; rw [h.us0 (Int.le_refl 0)] at this; cases this
theorem Rep.stay (h0 : S.us 0 = false) (st : Stay S S' hs) : ∀ {t : Tr} {i : Int}, Rep S t i ->(i = 0 ∨ Rch S hs i) ->Rep S' t i
  | .nil, i, hr, _ => hr
  | .node l k v r, i, hr, hi => by
    obtain ⟨h1, h2, h3, h4, h5⟩ := hr
    have e0 : Rch S hs i := hi.resolve_left fun e => by rw [e, h0] at h1; cases h1
    obtain ⟨a, b, _⟩ := st i e0
    refine ⟨a, by rw [b]; exact h2, by rw [b]; exact h3, ?_, ?_⟩
    · rw [b]; exact Rep.stay h0 st h4 (h4.us.imp id fun z => .left e0 z)
    · rw [b]; exact Rep.stay h0 st h5 (h5.us.imp id fun z => .right e0 z)
theorem Rep.held {hs' : List Int} (h : Wf S hs') (st : Stay S S' hs) {t : Tr} {i : Int} (hr : Rep S t i) (hm : i = 0 ∨ i ∈ hs) : Rep S' t i := by
  cases t with
  | nil => exact hr
  | node l k v r =>
    have h1 := hr.1
    have hp := (h.pos h1).1
    exact hr.stay (h.us0 (Int.le_refl 0)) st (.inr (.root (hm.resolve_left (by omega)) h1))
/-- Each index stands for one tree. -/
theorem Wf.tree (h : Wf S hs) : ∀ (n : Nat) (i : Int), (i = 0 ∨ S.us i = true) ->(S.nd i).size.toNat <=n ->∃ t, Rep S t i := by
  intro n
  induction n with
  | zero =>
    intro i hi hn
    rcases hi with rfl | hi
    · exact ⟨.nil, rfl⟩
    · have := h.siz i hi; omega
  | succ n ih =>
    intro i hi hn
    rcases hi with rfl | hi
    · exact ⟨.nil, rfl⟩
    · have hz := h.siz i hi
      have hk := h.kid i hi
      have h1 := h.size_nonneg (S.nd i).left
      have h2 := h.size_nonneg (S.nd i).right
      obtain ⟨l, hl⟩ := ih _ hk.1 (by omega)
      obtain ⟨r, hr⟩ := ih _ hk.2 (by omega)
      exact ⟨.node l _ _ r, hi, rfl, rfl, hl, hr⟩
theorem Rep.inj : ∀ {t u : Tr} {i : Int}, S.us 0 = false ->Rep S t i ->Rep S u i ->t = u
  | .nil, .nil, _, _, _, _ => rfl
  | .nil, .node _ _ _ _, i, h0, h1, h2 => by have e : i = 0 := h1; have := h2.1; rw [e, h0] at this; cases this
  | .node _ _ _ _, .nil, i, h0, h1, h2 => by have e : i = 0 := h2; have := h1.1; rw [e, h0] at this; cases this
  | .node l k v r, .node l' k' v' r', i, h0, h1, h2 => by
    obtain ⟨_, a2, a3, a4, a5⟩ := h1
    obtain ⟨_, b2, b3, b4, b5⟩ := h2
    rw [← a2, ← a3, ← b2, ← b3, Rep.inj h0 a4 b4, Rep.inj h0 a5 b5]

/-! ### A new arena -/
def newS (c : Nat) : Arn := { used := List.replicate (c + 1) false, gen := List.replicate (c + 1) 0, rel := [], fresh := 0, nodes := List.replicate (c + 1) NodeT.zero, counts := List.replicate (c + 1) 0, reads := 0 }
theorem getD_replicate {α : Type} (n i : Nat) (x : α) : (List.replicate n x).getD i x = x := by
  simp only [List.getD_eq_getElem?_getD, List.getElem?_replicate]
  split <;> rfl
theorem new_us (c : Nat) (i : Int) : (newS c).us i = false := getD_replicate _ _ _
theorem new_nd (c : Nat) (i : Int) : (newS c).nd i = NodeT.zero := getD_replicate _ _ _
theorem Wf.new {c : Nat} (h1 : 1 <=c) (h2 : c <=65536) : Wf (newS c) [] where
  n1 := by simp [newS]; omega
  n2 := by simp [newS]; omega
  ngen := by simp [newS]
  nnod := by simp [newS]
  ncnt := by simp [newS]
  fr := by simp [newS]
  rel i hi := by simp [newS] at hi
  dup := by simp [newS]
  use i := by rw [new_us]; simp [newS]; omega
  zero i _ := new_nd c i
  kid i hi := by rw [new_us] at hi; cases hi
  agg i hi := by rw [new_us] at hi; cases hi
  siz i hi := by rw [new_us] at hi; cases hi
  cnt i hi := by rw [new_us] at hi; cases hi
  held i hi := by simp at hi
  few := by simp [Arn.nu, newS, List.countP_replicate]
  nus := by simp [Arn.nu, newS, List.countP_replicate]
  rds := by simp [newS]
end Go.Proofs.YtmjnoiajenoinaaGreat
end
section
/- Making a node of two trees that are handed over; planting a tree. No program in sight. -/
namespace Go.Proofs.YtmjnoiajenoinaaGreat
open Go

variable {S S' S'' : Arn} {hs : List Int}

theorem indeg_pos (h : Wf S hs) {i j : Int} (hj : S.us j = true) (he : (S.nd j).left = i ∨ (S.nd j).right = i) : 1 <=S.indeg i := by
  have hp := h.pos hj
  have hn := h.nnod
  have hm : S.nd j ∈ S.nodes := by
    have : j.toNat < S.nodes.length := by omega
    unfold Arn.nd
    rw [List.getD_eq_getElem?_getD, List.getElem?_eq_getElem this]
    exact List.getElem_mem this
  unfold Arn.indeg
  rcases he with he | he
  · have := (List.countP_pos_iff (p := fun x : NodeT => x.left == i)).2 ⟨S.nd j, hm, by simpa using he⟩
    omega
  · have := (List.countP_pos_iff (p := fun x : NodeT => x.right == i)).2 ⟨S.nd j, hm, by simpa using he⟩
    omega
/-- A reference is given back to a tree that is held otherwise as well. -/
def relA (S : Arn) (i : Int) : Arn := if S.us i then decS S i else S
theorem relA_same (S : Arn) (i j : Int) : (relA S i).us j = S.us j /\(relA S i).nd j = S.nd j /\(relA S i).gn j = S.gn j /\(relA S i).indeg j = S.indeg j := by
  unfold relA; split <;> exact ⟨rfl, rfl, rfl, rfl⟩
theorem relA_flds (S : Arn) (i : Int) : (relA S i).reads = S.reads /\(relA S i).used = S.used /\(relA S i).nu = S.nu /\(relA S i).free = S.free /\(relA S i).nodes = S.nodes /\(relA S i).rel = S.rel /\(relA S i).fresh = S.fresh := by
  unfold relA; split <;> exact ⟨rfl, rfl, rfl, rfl, rfl, rfl, rfl⟩
theorem Wf.two {i : Int} (h : Wf S (i :: hs)) (hi : S.us i = true) (hd : 1 <=S.indeg i) : 1 < S.ct i := by
  obtain ⟨h1, _⟩ := h.cnt i hi
  rw [List.count_cons_self] at h1
  omega
theorem Wf.give {i : Int} (h : Wf S (i :: hs)) (hd : S.us i = true ->1 <=S.indeg i) : Wf (relA S i) hs := by
  unfold relA
  split
  · rename_i hi
    exact h.dec hi (h.two hi (hd hi))
  · rename_i hi
    have : i = 0 := (h.held i (by simp)).resolve_right hi
    subst this
    exact h.of_zero
theorem Wf.given {i : Int} (h : Wf S (i :: hs)) (hd : S.us i = true ->1 <=S.indeg i) (h1 : 1 < S.ct i ->S.us i = true ->S' = decS S i) (h2 : S.us i = false ->S' = S) : S' = relA S i := by
  unfold relA
  cases hi : S.us i with
  | true => rw [if_pos rfl]; exact h1 (h.two hi (hd hi)) hi
  | false => simp; exact h2 hi
theorem Rep.same (hu : ∀ j, S'.us j = S.us j) (hn : ∀ j, S'.nd j = S.nd j) : ∀ {t : Tr} {i : Int}, Rep S t i ->Rep S' t i
  | .nil, i, hr => hr
  | .node l k v r, i, hr => by
    obtain ⟨h1, h2, h3, h4, h5⟩ := hr
    exact ⟨(hu i).trans h1, by rw [hn]; exact h2, by rw [hn]; exact h3, by rw [hn]; exact Rep.same hu hn h4, by rw [hn]; exact Rep.same hu hn h5⟩
theorem stay_same (hu : ∀ j, S'.us j = S.us j) (hn : ∀ j, S'.nd j = S.nd j) (hg : ∀ j, S'.gn j = S.gn j) (hs : List Int) : Stay S S' hs := fun i hi => ⟨(hu i).trans hi.us, hn i, hg i⟩
def nodeS (S : Arn) (k v l r : Int) : Arn := relA (relA (makeS S k v l r) l) r
theorem make_flds (h : Wf S hs) (hf : 0 < S.free) {k v l r : Int} : (makeS S k v l r).reads = S.reads /\(makeS S k v l r).used.length = S.used.length /\(makeS S k v l r).nu = S.nu + 1 := by
  obtain ⟨h1, h2, h3, _⟩ := h.nxt_spec hf
  refine ⟨rfl, by simp [makeS], ?_⟩
  have a := countP_set' id S.used (nxt S).toNat true false (by omega)
  have : S.used.getD (nxt S).toNat false = false := h3
  rw [this] at a
  simp at a
  unfold Arn.nu makeS
  simp
  omega
theorem make_rep (h : Wf S hs) (hf : 0 < S.free) {k v l r : Int} : ∀ {t : Tr} {i : Int}, Rep S t i ->Rep (makeS S k v l r) t i
  | .nil, i, hr => hr
  | .node tl kk vv tr, i, hr => by
    obtain ⟨h1, h2, h3, h4, h5⟩ := hr
    have hx := (h.nxt_spec hf).2.2.1
    have e : i ≠ nxt S := fun e => by rw [e, hx] at h1; cases h1
    have en : (makeS S k v l r).nd i = S.nd i := by rw [make_nd h hf, if_neg e]
    exact ⟨(make_us h hf i).2 (.inr h1), by rw [en]; exact h2, by rw [en]; exact h3, by rw [en]; exact make_rep h hf h4, by rw [en]; exact make_rep h hf h5⟩

/-- The steps from a new node to the two references given back, from what the calls promise. -/
structure NodeR (S : Arn) (hs : List Int) (k v : Int) (tl tr : Tr) (S' : Arn) (i : Int) : Prop where
  wf : Wf S' (i :: hs)
  rep : Rep S' (.node tl k v tr) i
  stay : Stay S S' hs
  len : S'.used.length = S.used.length
  rds : S'.reads = S.reads
  nu : S'.nu = S.nu + 1
  pos : 1 <=i
theorem node_two {k v l r : Int} (h : Wf S (l :: r :: hs)) (hf : 0 < S.free) (hz : (mkNode S k v l r).size <=maxSize) (hl : hs.length <=999999990) :
    Wf (makeS S k v l r) (l :: (nxt S :: r :: hs)) /\((makeS S k v l r).us l = true ->1 <=(makeS S k v l r).indeg l) /\Wf (relA (makeS S k v l r) l) (r :: (nxt S :: hs)) /\((relA (makeS S k v l r) l).us r = true ->1 <=(relA (makeS S k v l r) l).indeg r) := by
  have hl1 := h.held l (by simp)
  have hr1 := h.held r (by simp)
  have hm := h.make (k := k) (v := v) hl1 hr1 hf hz (by simp; omega)
  obtain ⟨h1, h2, h3, _⟩ := h.nxt_spec hf
  have hm1 : Wf (makeS S k v l r) (l :: (nxt S :: r :: hs)) := hm.perm (List.Perm.swap _ _ _)
  have hu : (makeS S k v l r).us (nxt S) = true := (make_us h hf _).2 (.inl rfl)
  have hn : (makeS S k v l r).nd (nxt S) = mkNode S k v l r := by rw [make_nd h hf, if_pos rfl]
  obtain ⟨_, _, m1, m2⟩ := mkNode_flds S k v l r
  have d1 : 1 <=(makeS S k v l r).indeg l := indeg_pos hm hu (.inl (by rw [hn, m1]))
  have d2 : 1 <=(makeS S k v l r).indeg r := indeg_pos hm hu (.inr (by rw [hn, m2]))
  refine ⟨hm1, fun _ => d1, (hm1.give fun _ => d1).perm (List.Perm.swap _ _ _), fun _ => ?_⟩
  rw [(relA_same _ _ _).2.2.2]; exact d2
theorem node_ok {k v l r : Int} {tl tr : Tr} (h : Wf S (l :: r :: hs)) (hf : 0 < S.free) (hz : (mkNode S k v l r).size <=maxSize) (hl : hs.length <=999999990) (h1 : Rep S tl l) (h2 : Rep S tr r) : NodeR S hs k v tl tr (nodeS S k v l r) (nxt S) := by
  obtain ⟨a1, a2, a3, a4⟩ := node_two (k := k) (v := v) h hf hz hl
  obtain ⟨x1, x2, x3, _⟩ := h.nxt_spec hf
  have e1 : ∀ j, (nodeS S k v l r).us j = (makeS S k v l r).us j := fun j => by unfold nodeS; rw [(relA_same _ _ _).1, (relA_same _ _ _).1]
  have e2 : ∀ j, (nodeS S k v l r).nd j = (makeS S k v l r).nd j := fun j => by unfold nodeS; rw [(relA_same _ _ _).2.1, (relA_same _ _ _).2.1]
  have e3 : ∀ j, (nodeS S k v l r).gn j = (makeS S k v l r).gn j := fun j => by unfold nodeS; rw [(relA_same _ _ _).2.2.1, (relA_same _ _ _).2.2.1]
  obtain ⟨f1, f2, f3⟩ := make_flds h hf (k := k) (v := v) (l := l) (r := r)
  obtain ⟨p1, p2, p3, _⟩ := relA_flds (makeS S k v l r) l
  obtain ⟨q1, q2, q3, _⟩ := relA_flds (relA (makeS S k v l r) l) r
  have hn : (makeS S k v l r).nd (nxt S) = mkNode S k v l r := by rw [make_nd h hf, if_pos rfl]
  obtain ⟨m3, m4, m1, m2⟩ := mkNode_flds S k v l r
  refine ⟨a3.give a4, ?_, (stay_make h hf hs).trans (stay_same e1 e2 e3 hs), ?_, ?_, ?_, x1⟩
  · refine ⟨by rw [e1, make_us h hf]; exact .inl rfl, by rw [e2, hn, m3], by rw [e2, hn, m4], ?_, ?_⟩
    · rw [e2, hn, m1]; exact (make_rep h hf h1).same e1 e2
    · rw [e2, hn, m2]; exact (make_rep h hf h2).same e1 e2
  · unfold nodeS; rw [q2, p2]; exact f2
  · unfold nodeS; rw [q1, p1]; exact f1
  · unfold nodeS; rw [q3, p3]; exact f3
theorem mk_size {k v l r : Int} (h : Wf S hs) {tl tr : Tr} (h1 : Rep S tl l) (h2 : Rep S tr r) : (mkNode S k v l r).size = 1 + tl.size + tr.size := by
  rw [h.mkNode_size, h1.size h, h2.size h]

/-! ### Balance -/
def balN (l r : Int) : Prop := l + 1 <=3 * (r + 1) /\r + 1 <=3 * (l + 1)
instance (l r : Int) : Decidable (balN l r) := by unfold balN; infer_instance
def Tr.Bal : Tr ->Prop
  | .nil => True
  | .node l _ _ r => balN l.size r.size /\l.Bal /\r.Bal

/-- A tree with the entries of a list is made, and held. -/
structure PlantR (S : Arn) (hs : List Int) (l : List Ent) (S' : Arn) (i : Int) : Prop where
  wf : Wf S' (i :: hs)
  rep : ∃ t, Rep S' t i /\t.list = l /\t.Bal
  stay : Stay S S' hs
  len : S'.used.length = S.used.length
  rds : S'.reads = S.reads
  nu : S'.nu = S.nu + l.length
theorem PlantR.nil (h : Wf S hs) (hl : hs.length <=1000000000) : PlantR S hs [] S 0 := ⟨h.zero_cons hl, ⟨.nil, rfl, rfl, trivial⟩, Stay.refl _ _, rfl, rfl, rfl⟩
/-- From two planted trees to the tree of both with an entry between. -/
theorem PlantR.node {S1 S2 S3 : Arn} {a b : List Ent} {e : Ent} {il ir i : Int} (h1 : PlantR S hs a S1 il) (h2 : PlantR S1 (il :: hs) b S2 ir) (hb : balN a.length b.length)
    (h3 : ∀ tl tr, Rep S2 tl il ->Rep S2 tr ir ->NodeR S2 hs e.1 e.2 tl tr S3 i) : PlantR S hs (a ++ e :: b) S3 i := by
  obtain ⟨tl, r1, r2, r3⟩ := h1.rep
  obtain ⟨tr, q1, q2, q3⟩ := h2.rep
  have r1' : Rep S2 tl il := r1.held h1.wf h2.stay (.inr (by simp))
  have n := h3 tl tr r1' q1
  refine ⟨n.wf, ⟨_, n.rep, ?_, ?_, r3, q3⟩, ?_, ?_, ?_, ?_⟩
  · simp [Tr.list, r2, q2]
  · rw [← tl.list_len, ← tr.list_len, r2, q2]; exact hb
  · exact (h1.stay.trans (h2.stay.mono (by simp_all))).trans n.stay
  · rw [n.len, h2.len, h1.len]
  · rw [n.rds, h2.rds, h1.rds]
  · rw [n.nu, h2.nu, h1.nu]; simp; omega
end Go.Proofs.YtmjnoiajenoinaaGreat
end
section
/- Listing a tree, and trees of a given shape. No program in sight. -/
namespace Go.Proofs.YtmjnoiajenoinaaGreat
open Go

/-- What 'keys' of a lister collects where there is room for so many entries, and how many nodes it reads. -/
def lk : Tr ->Int ->Int ->Nat ->List Ent × Nat
  | .nil, _, _, _ => ([], 0)
  | .node l k v r, lo, hi, room => if room = 0 then ([], 0) else
    let a := if lo < k then lk l lo hi room else ([], 0)
    let b : List Ent := if lo <=k /\k <=hi /\a.1.length < room then [(k, v)] else []
    let c := if k < hi then lk r lo hi (room - (a.1.length + b.length)) else ([], 0)
    (a.1 ++ (b ++ c.1), 1 + a.2 + c.2)
def ne0 (t : Tr) : Nat := match t with
  | .nil => 0
  | .node _ _ _ _ => 1
/-- What 'places' of a lister collects, and how many nodes it reads. -/
def pl : Tr ->Int ->Int ->List Ent × Nat
  | .nil, _, _ => ([], 0)
  | .node l k v r, f, t => if t <=f then ([], 0) else
    let s : Int := l.size
    let a := if f < s then pl l f (if s < t then s else t) else ([], 0)
    let b : List Ent := if f <=s /\s < t then [(k, v)] else []
    let c := if s + 1 < t then pl r (if 0 < f - s - 1 then f - s - 1 else 0) (t - s - 1) else ([], 0)
    (a.1 ++ (b ++ c.1), 1 + ne0 l + a.2 + c.2)
/-- The shape that Build specifies. -/
def ShpT : Tr ->List Ent ->Prop
  | .nil, l => l = []
  | .node a k v b, l => 0 < l.length /\l.getD (l.length / 2) (0, 0) = (k, v) /\ShpT a (l.take (l.length / 2)) /\ShpT b (l.drop (l.length / 2 + 1))
theorem ShpT.list : ∀ {t : Tr} {l : List Ent}, ShpT t l ->t.list = l
  | .nil, l, h => by have : l = [] := h; rw [this]; rfl
  | .node a k v b, l, h => by
    obtain ⟨h1, h2, h3, h4⟩ := h
    simp only [Tr.list]
    rw [h3.list, h4.list, ← h2]
    have hp : l.length / 2 < l.length := by omega
    have e : l[l.length / 2]? = some (l.getD (l.length / 2) (0, 0)) := by simp [List.getD_eq_getElem?_getD, List.getElem?_eq_getElem hp]
    obtain ⟨q1, q2⟩ := List.getElem?_eq_some_iff.1 e
    have e2 : l.drop (l.length / 2) = l.getD (l.length / 2) (0, 0) :: l.drop (l.length / 2 + 1) := by rw [List.drop_eq_getElem_cons q1, q2]
    rw [← e2, List.take_append_drop]
structure BuildR (S : Arn) (hs : List Int) (l : List Ent) (S' : Arn) (i : Int) : Prop where
  wf : Wf S' (i :: hs)
  rep : ∃ t, Rep S' t i /\ShpT t l
  stay : Stay S S' hs
  len : S'.used.length = S.used.length
  rds : S'.reads = S.reads
  nu : S'.nu = S.nu + l.length
end Go.Proofs.YtmjnoiajenoinaaGreat
end
section
/- Ranks and positions in a tree. No program in sight. -/
namespace Go.Proofs.YtmjnoiajenoinaaGreat
open Go

end Go.Proofs.YtmjnoiajenoinaaGreat
end
section
/- Listing a tree gives what the reference gives. No program in sight. -/
namespace Go.Proofs.YtmjnoiajenoinaaGreat
open Go

theorem node_asc {l r : Tr} {k v : Int} (h : Asc (Tr.node l k v r).list) : Asc l.list /\Asc r.list /\(∀ x ∈ l.list, x.1 < k) /\(∀ x ∈ r.list, k < x.1) :=
  ⟨Srt.left h, (Srt.right h).tail, fun x hx => (List.pairwise_append.1 h).2.2 x hx (k, v) (by simp), fun x hx => (Srt.right h).head x hx⟩
end Go.Proofs.YtmjnoiajenoinaaGreat
end
section
/- How high a balanced tree is at most, and how many nodes a listing reads. No program in sight. -/
namespace Go.Proofs.YtmjnoiajenoinaaGreat
open Go

/-- The least weights of trees of the heights 0 to 80. -/
def wtsL : List Int := [1, 2, 3, 4, 6, 8, 11, 15, 20, 27, 36, 48, 64, 86, 115, 154, 206, 275, 367, 490, 654, 872, 1163, 1551, 2068, 2758, 3678, 4904, 6539, 8719, 11626, 15502, 20670, 27560, 36747, 48996, 65328, 87104, 116139, 154852, 206470, 275294, 367059, 489412, 652550, 870067, 1160090, 1546787, 2062383, 2749844, 3666459, 4888612, 6518150, 8690867, 11587823, 15450431, 20600575, 27467434, 36623246, 48830995, 65107994, 86810659, 115747546, 154330062, 205773416, 274364555, 365819407, 487759210, 650345614, 867127486, 1156169982, 1541559976, 2055413302, 2740551070, 3654068094, 4872090792, 6496121056, 8661494742, 11548659656, 15398212875, 20530950500]
def wt (h : Nat) : Int := wtsL.getD h 0
def hnC : List Int ->Int ->Int ->Int
  | [], h, _ => h
  | w :: l, h, k => if w - 1 <=k then hnC l (h + 1) k else h
/-- The greatest height of a tree with k keys. -/
def Hn (k : Int) : Int := hnC (wtsL.drop 1) 0 k
theorem wt_step : ∀ h < 80, wt (h + 1) = wt h + (wt h + 2) / 3 := by decide
theorem hnC_le : ∀ (l : List Int) (h k : Int), h <=hnC l h k
  | [], _, _ => Int.le_refl _
  | w :: l, h, k => by
    unfold hnC
    split
    · have := hnC_le l (h + 1) k; omega
    · exact Int.le_refl _
theorem hnC_ge : ∀ (l : List Int) (h k : Int) (m : Nat), m <=l.length ->(∀ i < m, l.getD i 0 - 1 <=k) ->h + m <=hnC l h k
  | [], h, k, m, hm, _ => by have : m = 0 := by simpa using hm
                             subst this; show h + 0 <=h; omega
  | w :: l, h, k, 0, _, _ => by have := hnC_le (w :: l) h k; show h + 0 <=_; omega
  | w :: l, h, k, m + 1, hm, hk => by
    have h0 := hk 0 (by omega)
    unfold hnC
    rw [if_pos (by simpa using h0)]
    have := hnC_ge l (h + 1) k m (by simpa using hm) (fun i hi => by have := hk (i + 1) (by omega); simpa using this)
    omega
theorem hnC_up : ∀ (l : List Int) (h k : Int), hnC l h k <=h + l.length
  | [], h, k => by show h <=h + 0; omega
  | w :: l, h, k => by
    unfold hnC
    have := hnC_up l (h + 1) k
    rw [List.length_cons]
    split <;> omega
theorem Hn_rng (k : Int) : 0 <=Hn k /\Hn k <=80 := by
  have h1 := hnC_le (wtsL.drop 1) 0 k
  have h2 := hnC_up (wtsL.drop 1) 0 k
  have h3 : (wtsL.drop 1).length = 80 := rfl
  unfold Hn
  omega
def ht : Tr ->Nat
  | .nil => 0
  | .node l _ _ r => 1 + (if ht l <=ht r then ht r else ht l)
theorem bal_wt : ∀ (t : Tr) (h : Nat), t.Bal ->h <=80 ->h <=ht t ->wt h <=t.size + 1
  | t, 0, _, _, _ => by have : wt 0 = 1 := rfl
                        rw [this]; omega
  | .nil, h + 1, _, _, hh => by simp [ht] at hh
  | .node l k v r, h + 1, hb, h8, hh => by
    obtain ⟨b0, bl, br⟩ := hb
    unfold balN at b0
    have hs : ((Tr.node l k v r).size : Int) = 1 + l.size + r.size := by simp [Tr.size]
    have st := wt_step h (by omega)
    have hh : h + 1 <=1 + (if ht l <=ht r then ht r else ht l) := hh
    by_cases c : ht l <=ht r
    · rw [if_pos c] at hh
      have := bal_wt r h br (by omega) (by omega)
      omega
    · rw [if_neg c] at hh
      have := bal_wt l h bl (by omega) (by omega)
      omega
/-- A balanced tree is no higher than its number of keys allows. -/
theorem Bal.height {t : Tr} (hb : t.Bal) (hs : t.size <=1000000) : (ht t : Int) <=Hn t.size := by
  have h80 : ht t <=80 := by
    by_cases c : ht t <=80
    · exact c
    · have := bal_wt t 80 hb (Nat.le_refl _) (by omega)
      have e : wt 80 = 20530950500 := rfl
      omega
  have hl : (wtsL.drop 1).length = 80 := rfl
  have := hnC_ge (wtsL.drop 1) 0 t.size (ht t) (by omega) (fun i hi => by
    have e : (wtsL.drop 1).getD i 0 = wt (i + 1) := by simp [wt, List.getD_eq_getElem?_getD]
    have := bal_wt t (i + 1) hb (by omega) (by omega)
    rw [e]; omega)
  unfold Hn
  omega

/-! ### Reads of a listing by keys -/
theorem ht_l (l r : Tr) (k v : Int) : 1 + ht l <=ht (.node l k v r) := by rw [ht]; split <;> omega
theorem ht_r (l r : Tr) (k v : Int) : 1 + ht r <=ht (.node l k v r) := by rw [ht]; split <;> omega
/-! ### Reads of a listing by places -/
end Go.Proofs.YtmjnoiajenoinaaGreat
end
section
/- What joining trees costs, and that one rotation is enough. No program in sight. -/
namespace Go.Proofs.YtmjnoiajenoinaaGreat
open Go

/-! ### The greatest height of a weight -/
/-- The greatest h whose least weight is at most w. -/
def gN (w : Nat) : Nat := (Hn ((w : Int) - 1)).toNat
theorem hnC_spec : ∀ (l : List Int) (h k : Int) (i : Nat), (i : Int) < hnC l h k - h ->l.getD i 0 - 1 <=k
  | [], h, k, i, hi => by simp [hnC] at hi; omega
  | w :: l, h, k, i, hi => by
    unfold hnC at hi
    split at hi
    · rename_i c
      cases i with
      | zero => simpa using c
      | succ i => have := hnC_spec l (h + 1) k i (by omega); simpa using this
    · omega
theorem wtsL_drop (i : Nat) : (wtsL.drop 1).getD i 0 = wt (i + 1) := by simp [wt, List.getD_eq_getElem?_getD]
theorem gN_rng (w : Nat) : gN w <=80 := by have := Hn_rng ((w : Int) - 1); unfold gN; omega
theorem gN_Hn (w : Nat) : (gN w : Int) = Hn ((w : Int) - 1) := by have := Hn_rng ((w : Int) - 1); unfold gN; omega
theorem gN_size (n : Nat) : (gN (n + 1) : Int) = Hn n := by rw [gN_Hn]; congr 1; omega
theorem gN_wt {w : Nat} (hw : 1 <=w) : wt (gN w) <=w := by
  have h0 := Hn_rng ((w : Int) - 1)
  have e := gN_Hn w
  cases h : gN w with
  | zero => have : wt 0 = 1 := rfl
            rw [this]; omega
  | succ g =>
    have := hnC_spec (wtsL.drop 1) 0 ((w : Int) - 1) g (by unfold Hn at e; omega)
    rw [wtsL_drop] at this
    omega
theorem wt_mono1 : ∀ h < 80, wt h < wt (h + 1) := by decide
theorem wt_mono : ∀ {i j : Nat}, i <=j ->j <=80 ->wt i <=wt j := by
  intro i j h
  induction h with
  | refl => intro _; exact Int.le_refl _
  | @step m h ih => intro hj; have := ih (by omega); have := wt_mono1 m (by omega); show wt i <=wt (m + 1); omega
theorem gN_le {w h : Nat} (h8 : h <=80) (hw : wt h <=w) : h <=gN w := by
  have hl : (wtsL.drop 1).length = 80 := rfl
  have := hnC_ge (wtsL.drop 1) 0 ((w : Int) - 1) h (by omega) (fun i hi => by
    rw [wtsL_drop]
    have := wt_mono (show i + 1 <=h by omega) h8
    omega)
  have e := gN_Hn w
  unfold Hn at e
  omega
theorem gN_mono {v w : Nat} (hv : 1 <=v) (h : v <=w) : gN v <=gN w := gN_le (gN_rng v) (by have := gN_wt hv; omega)
theorem gN_small {w : Nat} (hw : 1 <=w) (h : w <=1000000) : gN w <=60 := by
  by_cases c : gN w <=60
  · exact c
  · have h1 := gN_wt hw
    have h2 := wt_mono (show 61 <=gN w by omega) (gN_rng w)
    have : wt 61 = 86810659 := rfl
    omega
theorem gN_step {m w : Nat} (hm : 1 <=m) (h : 4 * m <=3 * w) (hw : w <=1000000) : gN m + 1 <=gN w := by
  have h1 := gN_small hm (by omega)
  have h2 := gN_wt hm
  have h3 := wt_step (gN m) (by omega)
  exact gN_le (by omega) (by omega)
theorem wt_step4 : ∀ h < 77, 4 <=h ->wt (h + 4) <=4 * wt h - 2 := by decide
theorem gN_step4 {r w : Nat} (hr : 5 <=r) (h : 4 * r <=w + 2) (hw : w <=1000000) : gN r + 4 <=gN w := by
  have h1 := gN_small (w := r) (by omega) (by omega)
  have h2 := gN_wt (w := r) (by omega)
  have h3 : 3 <=gN r := gN_le (by decide) (by have : wt 3 = 4 := rfl
                                              omega)
  by_cases c : gN r = 3
  · rw [c]; exact gN_le (by decide) (by have : wt (3 + 4) = 15 := rfl
                                        omega)
  · have := wt_step4 (gN r) (by omega) (by omega)
    exact gN_le (by omega) (by omega)

/-! ### How often a join goes down -/
def dsc (w v : Nat) : Nat := if h : w <=3 * v then 0 else 1 + dsc (3 * w / 4) v
termination_by w
decreasing_by omega
theorem dsc_zero {w v : Nat} (h : w <=3 * v) : dsc w v = 0 := by rw [dsc, dif_pos h]
theorem dsc_succ {w v : Nat} (h : ¬ w <=3 * v) : dsc w v = 1 + dsc (3 * w / 4) v := by rw [dsc, dif_neg h]
theorem dsc_mono (v : Nat) : ∀ (n w w' : Nat), w' < n ->w <=w' ->dsc w v <=dsc w' v := by
  intro n
  induction n with
  | zero => intro w w' h; omega
  | succ n ih =>
    intro w w' hn h
    by_cases c : w <=3 * v
    · rw [dsc_zero c]; exact Nat.zero_le _
    · rw [dsc_succ c, dsc_succ (show ¬ w' <=3 * v by omega)]
      have := ih (3 * w / 4) (3 * w' / 4) (by omega) (by omega)
      omega
theorem dsc_one {w v : Nat} (h : w <=3 * v + 3) (hv : 2 <=v) : dsc w v <=1 := by
  by_cases c : w <=3 * v
  · rw [dsc_zero c]; omega
  · rw [dsc_succ c, dsc_zero (by omega)]; omega
theorem dsc_two {w : Nat} (h : w <=6) : dsc w 1 <=2 := by
  by_cases c : w <=3
  · rw [dsc_zero (by omega)]; omega
  · rw [dsc_succ (by omega)]
    by_cases d : 3 * w / 4 <=3
    · rw [dsc_zero (by omega)]; omega
    · rw [dsc_succ (by omega), dsc_zero (by omega)]; omega
theorem dsc_tiny {w : Nat} (h : w <=5) : dsc w 1 <=1 := by
  by_cases c : w <=3
  · rw [dsc_zero (by omega)]; omega
  · rw [dsc_succ (by omega), dsc_zero (by omega)]; omega
/-- What a join of trees of these sizes may need. -/
def jB (a b : Nat) : Nat := 1 + 3 * (dsc (a + 1) (b + 1) + dsc (b + 1) (a + 1))
theorem jB_pos (a b : Nat) : 1 <=jB a b := by unfold jB; omega
theorem jB_comm (a b : Nat) : jB a b = jB b a := by unfold jB; omega
theorem jB_bal {a b : Nat} (h : balN a b) : jB a b = 1 := by
  unfold balN at h
  unfold jB
  rw [dsc_zero (by omega), dsc_zero (by omega)]
theorem jB_down {s m r : Nat} (h : balN s m) (hb : ¬ balN ((s + m + 1 : Nat) : Int) r) (hg : r < s + m + 1) : jB m r + 3 <=jB (s + m + 1) r := by
  unfold balN at h hb
  unfold jB
  rw [dsc_zero (w := r + 1) (by omega), dsc_zero (w := r + 1) (by omega), dsc_succ (w := s + m + 1 + 1) (by omega)]
  have := dsc_mono (r + 1) (3 * (s + m + 1 + 1) / 4 + 1) (m + 1) (3 * (s + m + 1 + 1) / 4) (by omega) (by omega)
  omega
/-! ### Rotations -/
def near (a b : Nat) : Prop := 3 * (b + 1) <=13 * (a + 1) /\3 * (a + 1) <=13 * (b + 1)
theorem join_near {s m r : Nat} (h : balN s m) (hb : ¬ balN ((s + m + 1 : Nat) : Int) r) (hg : r < s + m + 1) : near s (m + r + 1) := by
  unfold balN at h hb
  unfold near
  omega
theorem rot_nil {a s : Nat} (hn : near a (0 + s + 1)) (h1 : balN (0 : Nat) s) (_ : ¬ balN a ((0 + s + 1 : Nat) : Int)) (hlt : a < 0 + s + 1) : balN a (0 : Nat) /\balN ((a + 0 + 1 : Nat) : Int) s := by
  unfold balN at *
  unfold near at hn
  omega
theorem rot_two {a s x y : Nat} (hn : near a (x + y + 1 + s + 1)) (h1 : balN ((x + y + 1 : Nat) : Int) s) (h2 : balN x y) (hb : ¬ balN a ((x + y + 1 + s + 1 : Nat) : Int)) (hlt : a < x + y + 1 + s + 1)
    (hc : ¬ (balN a ((x + y + 1 : Nat) : Int) /\balN ((a + (x + y + 1) + 1 : Nat) : Int) s)) : balN a x /\balN y s /\balN ((a + x + 1 : Nat) : Int) ((y + s + 1 : Nat) : Int) := by
  unfold balN at *
  unfold near at hn
  omega
theorem near_comm {a b : Nat} (h : near a b) : near b a := ⟨h.2, h.1⟩
theorem balN_comm {a b : Int} (h : balN a b) : balN b a := ⟨h.2, h.1⟩
/-! ### States between -/
variable {S S' S1 S2 : Arn} {hs h1 h2 hs1 hs2 : List Int}
structure Got (S : Arn) (hs : List Int) (mk rd : Nat) (S' : Arn) (hs' : List Int) : Prop where
  wf : Wf S' hs'
  stay : Stay S S' hs
  len : S'.used.length = S.used.length
  nu : S'.nu <=S.nu + mk
  rd0 : S.reads <=S'.reads
  rd : S'.reads <=S.reads + rd
theorem Got.free {m r : Nat} (h : Got S hs m r S' hs1) (w : Wf S hs2) : S.free <=S'.free + m := by
  have a := w.free_nonneg.2.2.2
  have b := h.wf.free_nonneg.2.2.2
  have c : S'.cap = S.cap := by unfold Arn.cap; rw [h.len]
  have := h.nu
  omega
theorem Got.seq {h : List Int} {m1 r1 m2 r2 : Nat} (a : Got S h1 m1 r1 S1 hs1) (b : Got S1 h2 m2 r2 S2 hs2) (e1 : ∀ i ∈ h, i ∈ h1) (e2 : ∀ i ∈ h, i ∈ h2) : Got S h (m1 + m2) (r1 + r2) S2 hs2 where
  wf := b.wf
  stay := (a.stay.mono e1).trans (b.stay.mono e2)
  len := b.len.trans a.len
  nu := by have := a.nu; have := b.nu; omega
  rd0 := Int.le_trans a.rd0 b.rd0
  rd := by have := a.rd; have := b.rd; omega
theorem Got.mono {m r m' r' : Nat} (a : Got S hs m r S' hs1) (h1 : m <=m') (h2 : r <=r') : Got S hs m' r' S' hs1 where
  wf := a.wf
  stay := a.stay
  len := a.len
  nu := by have := a.nu; omega
  rd0 := a.rd0
  rd := by have := a.rd; omega
theorem Got.perm {m r : Nat} (a : Got S hs m r S' hs1) (p : hs1.Perm hs2) : Got S hs m r S' hs2 := ⟨a.wf.perm p, a.stay, a.len, a.nu, a.rd0, a.rd⟩
theorem Got.rds (w : Wf S hs1) {n : Nat} (hn : S.reads + n <=4000000000000000000) : Got S hs 0 n (rdS S n) hs1 where
  wf := w.rd hn
  stay := stay_rd S n hs
  len := rfl
  nu := Nat.le_refl _
  rd0 := by show S.reads <=S.reads + n; omega
  rd := Int.le_refl _
theorem Got.refl (w : Wf S hs1) : Got S hs 0 0 S hs1 := ⟨w, Stay.refl _ _, rfl, Nat.le_refl _, Int.le_refl _, by omega⟩
theorem Got.node {k v : Int} {tl tr : Tr} {i : Int} (n : NodeR S hs k v tl tr S' i) : Got S hs 1 0 S' (i :: hs) := ⟨n.wf, n.stay, n.len, by rw [n.nu]; exact Nat.le_refl _, by rw [n.rds]; exact Int.le_refl _, by rw [n.rds]; omega⟩
/-- A balanced tree with these entries is made, and held. -/
structure TrR (S : Arn) (hs : List Int) (L : List Ent) (mk rd : Nat) (S' : Arn) (i : Int) : Prop where
  got : Got S hs mk rd S' (i :: hs)
  tree : ∃ t, Rep S' t i /\t.list = L /\t.Bal
theorem TrR.mono {L : List Ent} {m r m' r' : Nat} {i : Int} (a : TrR S hs L m r S' i) (h1 : m <=m') (h2 : r <=r') : TrR S hs L m' r' S' i := ⟨a.got.mono h1 h2, a.tree⟩
end Go.Proofs.YtmjnoiajenoinaaGreat
end
section
/- Taking a node apart, holding and giving back a tree. No program in sight. -/
namespace Go.Proofs.YtmjnoiajenoinaaGreat
open Go

variable {S S' S1 S2 : Arn} {hs h1 h2 hs1 hs2 : List Int}

theorem countP_le : ∀ (l m : List Bool), l.length = m.length ->(∀ i : Nat, m.getD i false = true ->l.getD i false = true) ->m.countP id <=l.countP id
  | [], [], _, _ => Nat.le_refl _
  | [], _ :: _, h, _ => by simp at h
  | _ :: _, [], h, _ => by simp at h
  | a :: l, b :: m, h, hi => by
    have h0 := hi 0
    have ih := countP_le l m (by simpa using h) (fun i => by simpa using hi (i + 1))
    simp at h0
    rw [List.countP_cons, List.countP_cons]
    cases a <;> cases b <;> simp_all <;> omega
theorem Kept.nu_le (k : Kept S S') : S'.nu <=S.nu := by
  unfold Arn.nu
  refine countP_le _ _ k.len.symm fun i hi => ?_
  have := (k.kp (i : Int) (by unfold Arn.us; simpa using hi)).1
  unfold Arn.us at this
  simpa using this
/-- One more reference to a tree that may be empty. -/
def retL (S : Arn) (i : Int) : Arn := if i = 0 then S else retA S i
theorem retL_flds (S : Arn) (i : Int) : (retL S i).reads = S.reads /\(retL S i).used = S.used /\(∀ j, (retL S i).us j = S.us j) /\(∀ j, (retL S i).nd j = S.nd j) /\(∀ j, (retL S i).gn j = S.gn j) := by
  unfold retL; split <;> exact ⟨rfl, rfl, fun _ => rfl, fun _ => rfl, fun _ => rfl⟩
theorem retL_wf (w : Wf S hs) {i : Int} (hi : i = 0 ∨ S.us i = true) (hl : hs.length <=999999990) : Wf (retL S i) (i :: hs) := by
  unfold retL
  split
  · rename_i e; subst e; exact w.zero_cons (by omega)
  · rename_i e; exact w.ret (hi.resolve_left e) (by omega)
theorem retL_got (w : Wf S hs1) {i : Int} (hi : i = 0 ∨ S.us i = true) (hl : hs1.length <=999999990) : Got S hs 0 0 (retL S i) (i :: hs1) := by
  obtain ⟨a, b, c, d, e⟩ := retL_flds S i
  exact ⟨retL_wf w hi hl, stay_same c d e hs, by rw [b], by unfold Arn.nu; rw [b]; exact Nat.le_refl _, by rw [a]; exact Int.le_refl _, by rw [a]; omega⟩
theorem Rep.retL {t : Tr} {i j : Int} (h : Rep S t i) : Rep (retL S j) t i := Rep.same (retL_flds S j).2.2.1 (retL_flds S j).2.2.2.1 h
/-- A tree is given back. -/
theorem rel_got {i : Int} (w : Wf S (i :: hs1)) (w' : Wf S' hs1) (k : Kept S S') : Got S hs1 0 0 S' hs1 := ⟨w', k.stay w w', k.len, k.nu_le, by rw [k.rds]; exact Int.le_refl _, by rw [k.rds]; omega⟩
/-- A node is taken apart. -/
structure OpnR (S : Arn) (hs : List Int) (a : Tr) (k v : Int) (b : Tr) (S' : Arn) (l r : Int) : Prop where
  got : Got S hs 0 1 S' (l :: r :: hs)
  repl : Rep S' a l
  repr : Rep S' b r
theorem opn_wf {i : Int} {a b : Tr} {k v : Int} (w : Wf S (i :: hs)) (hr : Rep S (.node a k v b) i) (hl : hs.length <=900000000) (hrd : S.reads + 1 <=4000000000000000000) :
    Wf (rdS S 1) (i :: hs) /\Wf (retL (rdS S 1) (S.nd i).left) ((S.nd i).left :: i :: hs) /\Wf (retL (retL (rdS S 1) (S.nd i).left) (S.nd i).right) (i :: (S.nd i).left :: (S.nd i).right :: hs) := by
  have w1 : Wf (rdS S 1) (i :: hs) := w.rd (by omega)
  have hk := w.kid i hr.1
  have w2 := retL_wf w1 (i := (S.nd i).left) hk.1 (by simp; omega)
  have w3 := retL_wf w2 (i := (S.nd i).right) (by rw [(retL_flds _ _).2.2.1]; exact hk.2) (by simp; omega)
  refine ⟨w1, w2, w3.perm ?_⟩
  refine (List.Perm.swap _ _ _).trans ?_
  refine ((List.Perm.swap _ _ _).cons _).trans ?_
  exact List.Perm.swap _ _ _
theorem opn_ok {i : Int} {a b : Tr} {k v : Int} (w : Wf S (i :: hs)) (hr : Rep S (.node a k v b) i) (hl : hs.length <=900000000) (hrd : S.reads + 1 <=4000000000000000000)
    (w' : Wf S' ((S.nd i).left :: (S.nd i).right :: hs)) (kp : Kept (retL (retL (rdS S 1) (S.nd i).left) (S.nd i).right) S') : OpnR S hs a k v b S' (S.nd i).left (S.nd i).right := by
  obtain ⟨w1, w2, w3⟩ := opn_wf w hr hl hrd
  have hk := w.kid i hr.1
  have g1 : Got S hs 0 1 (rdS S 1) (i :: hs) := Got.rds w (by omega)
  have g2 : Got (rdS S 1) hs 0 0 _ _ := retL_got (hs := hs) w1 (i := (S.nd i).left) hk.1 (by simp; omega)
  have g3 : Got (retL (rdS S 1) (S.nd i).left) hs 0 0 _ _ := retL_got (hs := hs) w2 (i := (S.nd i).right) (by rw [(retL_flds _ _).2.2.1]; exact hk.2) (by simp; omega)
  have g4 := rel_got w3 w' kp
  refine ⟨(((g1.seq g2 (h := hs) (fun _ h => h) (fun _ h => h)).seq g3 (fun _ h => h) (fun _ h => h)).seq g4 (fun _ h => h) (fun _ h => by simp [h])), ?_, ?_⟩
  · have h1 : Rep (retL (retL (rdS S 1) (S.nd i).left) (S.nd i).right) a (S.nd i).left := (Rep.same (S := S) (S' := rdS S 1) (fun _ => rfl) (fun _ => rfl) hr.2.2.2.1).retL.retL
    exact h1.held w3 (kp.stay w3 w') (.inr (by simp))
  · have h1 : Rep (retL (retL (rdS S 1) (S.nd i).left) (S.nd i).right) b (S.nd i).right := (Rep.same (S := S) (S' := rdS S 1) (fun _ => rfl) (fun _ => rfl) hr.2.2.2.2).retL.retL
    exact h1.held w3 (kp.stay w3 w') (.inr (by simp))
theorem perm_rot {α : Type} (a b c : α) (l : List α) : (a :: b :: c :: l).Perm (c :: a :: b :: l) := ((List.Perm.swap c b l).cons a).trans (List.Perm.swap c a (b :: l))
theorem perm_tor {α : Type} (a b c : α) (l : List α) : (a :: b :: c :: l).Perm (b :: c :: a :: l) := (perm_rot b c a l).symm
theorem Got.rdn {m r n k : Nat} (a : Got S hs m r S1 hs1) (hn : n <=k) (hb : S1.reads + n <=4000000000000000000) : Got S hs m (r + k) (rdS S1 n) hs1 :=
  (a.seq (Got.rds (hs := hs) a.wf hb) (fun _ h => h) (fun _ h => h)).mono (by omega) (by omega)
theorem Rep.rdn {t : Tr} {i : Int} {n : Nat} (h : Rep S t i) : Rep (rdS S n) t i := Rep.same (S := S) (S' := rdS S n) (fun _ => rfl) (fun _ => rfl) h
/-! ### Rotations on the arena -/
section
variable {S0 S3 S4 : Arn} {A M B x y : Tr} {k1 v1 k2 v2 k3 v3 u m w i j q ix iy : Int} {r0 : Nat}
theorem single_okL (g : Got S0 hs 0 r0 S (u :: m :: w :: hs)) (n1 : NodeR S (w :: hs) k1 v1 A M S2 i) (n2 : NodeR S2 hs k2 v2 (.node A k1 v1 M) B S3 j)
    (bA : A.Bal) (bM : M.Bal) (bB : B.Bal) (c1 : balN A.size M.size) (c2 : balN ((A.size + M.size + 1 : Nat) : Int) B.size) : TrR S0 hs (A.list ++ (k1, v1) :: (M.list ++ (k2, v2) :: B.list)) 3 (r0 + 1) S3 j where
  got := ((g.seq (Got.node n1) (h := hs) (fun _ h => h) (fun _ h => by simp [h])).seq (Got.node n2) (fun _ h => h) (fun _ h => h)).mono (by omega) (by omega)
  tree := ⟨_, n2.rep, by simp [Tr.list], by
    refine ⟨?_, ⟨c1, bA, bM⟩, bB⟩
    have e : ((Tr.node A k1 v1 M).size : Int) = ((A.size + M.size + 1 : Nat) : Int) := by simp [Tr.size]; omega
    rw [e]; exact c2⟩
theorem single_okR (g : Got S0 hs 0 r0 S (u :: m :: w :: hs)) (n1 : NodeR S (u :: hs) k2 v2 M B S2 i) (n2 : NodeR S2 hs k1 v1 A (.node M k2 v2 B) S3 j)
    (bA : A.Bal) (bM : M.Bal) (bB : B.Bal) (c1 : balN M.size B.size) (c2 : balN A.size ((M.size + B.size + 1 : Nat) : Int)) : TrR S0 hs (A.list ++ (k1, v1) :: (M.list ++ (k2, v2) :: B.list)) 3 (r0 + 1) S3 j where
  got := ((g.seq (Got.node n1) (h := hs) (fun _ h => h) (fun _ h => by simp [h])).seq (Got.node n2) (fun _ h => h) (fun _ h => h)).mono (by omega) (by omega)
  tree := ⟨_, n2.rep, by simp [Tr.list], by
    refine ⟨?_, bA, ⟨c1, bM, bB⟩⟩
    have e : ((Tr.node M k2 v2 B).size : Int) = ((M.size + B.size + 1 : Nat) : Int) := by simp [Tr.size]; omega
    rw [e]; exact c2⟩
theorem double_ok (g : Got S0 hs 0 r0 S (u :: m :: w :: hs)) (o : OpnR S (u :: w :: hs) x k3 v3 y S1 ix iy) (n1 : NodeR S1 (iy :: w :: hs) k1 v1 A x S2 i) (n2 : NodeR S2 (i :: hs) k2 v2 y B S3 j)
    (n3 : NodeR S3 hs k3 v3 (.node A k1 v1 x) (.node y k2 v2 B) S4 q) (bA : A.Bal) (bx : x.Bal) (bY : y.Bal) (bB : B.Bal) (c1 : balN A.size x.size) (c2 : balN y.size B.size) (c3 : balN ((A.size + x.size + 1 : Nat) : Int) ((y.size + B.size + 1 : Nat) : Int)) :
    TrR S0 hs (A.list ++ (k1, v1) :: (x.list ++ (k3, v3) :: (y.list ++ (k2, v2) :: B.list))) 3 (r0 + 1) S4 q where
  got := ((((g.seq o.got (h := hs) (fun _ h => h) (fun _ h => by simp [h])).seq (Got.node n1) (h := hs) (fun _ h => h) (fun _ h => by simp [h])).seq (Got.node n2) (h := hs) (fun _ h => h) (fun _ h => by simp [h])).seq (Got.node n3) (fun _ h => h) (fun _ h => h)).mono (by omega) (by omega)
  tree := ⟨_, n3.rep, by simp [Tr.list], by
    refine ⟨?_, ⟨c1, bA, bx⟩, ⟨c2, bY, bB⟩⟩
    have e : ((Tr.node A k1 v1 x).size : Int) = ((A.size + x.size + 1 : Nat) : Int) := by simp [Tr.size]; omega
    have e2 : ((Tr.node y k2 v2 B).size : Int) = ((y.size + B.size + 1 : Nat) : Int) := by simp [Tr.size]; omega
    rw [e, e2]; exact c3⟩
end
end Go.Proofs.YtmjnoiajenoinaaGreat
end
section
/- Plain laws of insertion into ascending lists, of key lists, of unions. No program in sight. -/
namespace Go.Proofs.YtmjnoiajenoinaaGreat

def insGo (e : Ent) : Bool ->List Ent ->List Ent
  | put, [] => if put then [] else [e]
  | put, x :: t => (if !put && decide (e.1 <=x.1) then [e] else []) ++ ((if x.1 = e.1 then [] else [x]) ++ insGo e (put || decide (e.1 <=x.1)) t)

theorem insGo_len (e : Ent) : ∀ (l : List Ent) (put : Bool), (insGo e put l).length <=l.length + (if put then 0 else 1) := by
  intro l
  induction l with
  | nil => intro put; cases put <;> simp [insGo]
  | cons x t ih =>
    intro put
    simp only [insGo, List.length_append, List.length_cons]
    have h1 := ih (put || decide (e.1 <=x.1))
    have h2 : (if x.1 = e.1 then ([] : List Ent) else [x]).length <=1 := by split <;> simp
    cases put
    · by_cases h : e.1 <=x.1
      · simp [h] at h1 ⊢; omega
      · simp [h] at h1 ⊢; omega
    · simp at h1 ⊢; omega

/-- The list with an entry put in. -/
abbrev insE (l : List Ent) (e : Ent) : List Ent := insGo e false l

theorem insE_len (l : List Ent) (e : Ent) : (insE l e).length <=l.length + 1 := by simpa using insGo_len e l false

theorem insGo_true {e : Ent} : ∀ {l : List Ent}, (∀ x ∈ l, e.1 < x.1) ->insGo e true l = l := by
  intro l
  induction l with
  | nil => intro _; simp [insGo]
  | cons x t ih =>
    intro h
    have hx := h x List.mem_cons_self
    have : ¬ x.1 = e.1 := by omega
    simp [insGo, this, ih fun y hy => h y (List.mem_cons_of_mem _ hy)]

theorem insE_cons {e x : Ent} {t : List Ent} (h : Asc (x :: t)) : insE (x :: t) e = if e.1 < x.1 then e :: x :: t else if x.1 = e.1 then e :: t else x :: insE t e := by
  have hh := h.head
  rcases Int.lt_trichotomy e.1 x.1 with c | c | c
  · have h1 : e.1 <=x.1 := by omega
    have h2 : ¬ x.1 = e.1 := by omega
    simp [insE, insGo, h1, h2, c, insGo_true (e := e) (l := t) fun y hy => by have := hh y hy; omega]
  · have h1 : e.1 <=x.1 := by omega
    have h2 : ¬ e.1 < x.1 := by omega
    simp [insE, insGo, c, insGo_true (e := e) (l := t) fun y hy => by have := hh y hy; omega]
  · have h1 : ¬ e.1 <=x.1 := by omega
    have h2 : ¬ x.1 = e.1 := by omega
    have h3 : ¬ e.1 < x.1 := by omega
    simp [insE, insGo, h1, h2, h3]

theorem insE_mem {l : List Ent} {e z : Ent} (h : Asc l) (hz : z ∈ insE l e) : z = e ∨ z ∈ l := by
  induction l with
  | nil => simp [insE, insGo] at hz; exact .inl hz
  | cons x t ih =>
    rw [insE_cons h] at hz
    split at hz
    · rcases List.mem_cons.1 hz with rfl | hz
      · exact .inl rfl
      · exact .inr hz
    · split at hz
      · rcases List.mem_cons.1 hz with rfl | hz
        · exact .inl rfl
        · exact .inr (List.mem_cons_of_mem _ hz)
      · rcases List.mem_cons.1 hz with rfl | hz
        · exact .inr List.mem_cons_self
        · rcases ih h.tail hz with rfl | hz
          · exact .inl rfl
          · exact .inr (List.mem_cons_of_mem _ hz)

theorem insE_asc {l : List Ent} (e : Ent) (h : Asc l) : Asc (insE l e) := by
  induction l with
  | nil => simp [insE, insGo, Srt]
  | cons x t ih =>
    rw [insE_cons h]
    split
    · rename_i c
      exact Srt.cons h fun y hy => by
        rcases List.mem_cons.1 hy with rfl | hy
        · exact c
        · have := h.head y hy; omega
    · split
      · rename_i c
        exact Srt.cons h.tail fun y hy => by have := h.head y hy; omega
      · rename_i c1 c2
        refine Srt.cons (ih h.tail) fun y hy => ?_
        rcases insE_mem h.tail hy with rfl | hy
        · omega
        · exact h.head y hy

theorem insE_get {l : List Ent} (e : Ent) (h : Asc l) (q : Int) : getE (insE l e) q = if e.1 = q then some e.2 else getE l q := by
  obtain ⟨k, v⟩ := e
  induction l with
  | nil => simp [insE, insGo, getE]
  | cons x t ih =>
    obtain ⟨a, b⟩ := x
    rw [insE_cons h]
    by_cases c1 : k < a
    · simp only [if_pos c1, getE]
    · rw [if_neg c1]
      by_cases c2 : a = k
      · subst c2; simp [getE]
        split <;> simp_all
      · rw [if_neg c2]
        simp only [getE, ih h.tail]
        by_cases c3 : a = q
        · simp [c3, show ¬ k = q by omega]
        · simp [c3]

/-- The keys of a list of entries, put together. -/
def keysOf (xs : List Int) : List Ent := xs.foldl (fun acc k => insE acc (k, 0)) []

theorem foldl_snoc {α β : Type} (f : β ->α ->β) (b : β) (l : List α) (x : α) : (l ++ [x]).foldl f b = f (l.foldl f b) x := by simp

theorem keysOf_snoc (xs : List Int) (k : Int) : keysOf (xs ++ [k]) = insE (keysOf xs) (k, 0) := foldl_snoc _ _ _ _

theorem snoc_ind {α : Type} {P : List α ->Prop} (h0 : P []) (h1 : ∀ l x, P l ->P (l ++ [x])) (l : List α) : P l := by
  have : ∀ n (l : List α), l.length = n ->P l := by
    intro n
    induction n with
    | zero => intro l hl; rw [List.eq_nil_of_length_eq_zero hl]; exact h0
    | succ n ih =>
      intro l hl
      rcases List.eq_nil_or_concat l with rfl | ⟨L, b, rfl⟩
      · exact h0
      · rw [List.concat_eq_append]; exact h1 L b (ih L (by simpa using hl))
  exact this _ l rfl

theorem keysOf_spec (xs : List Int) : Asc (keysOf xs) /\(keysOf xs).length <=xs.length /\∀ q, (getE (keysOf xs) q).isSome = true ↔ q ∈ xs := by
  induction xs using snoc_ind with
  | h0 => exact ⟨Srt.nil, Nat.le_refl _, fun q => by simp [keysOf, getE]⟩
  | h1 xs k ih =>
    obtain ⟨h1, h2, h3⟩ := ih
    rw [keysOf_snoc]
    refine ⟨insE_asc _ h1, ?_, fun q => ?_⟩
    · have := insE_len (keysOf xs) (k, 0); simp; omega
    · rw [insE_get _ h1]
      by_cases e : k = q
      · subst e; simp
      · have : ¬ q = k := fun h => e h.symm
        simp [e, h3, this]

/-- All keys of three lists, ascending. -/
def keys3 (l m n : List Ent) : List Int := (keysOf ((l ++ m ++ n).map Prod.fst)).map Prod.fst

theorem mem_keys {l : List Ent} {q : Int} : (getE l q).isSome = true ↔ q ∈ l.map Prod.fst := by
  induction l with
  | nil => simp [getE]
  | cons x t ih =>
    obtain ⟨a, b⟩ := x
    simp only [getE, List.map_cons, List.mem_cons]
    by_cases e : a = q
    · subst e; simp
    · have : ¬ q = a := fun h => e h.symm
      simp [e, ih, this]

theorem keys3_srt (l m n : List Ent) : Srt id (keys3 l m n) := by
  have h := (keysOf_spec ((l ++ m ++ n).map Prod.fst)).1
  unfold keys3 Srt
  rw [List.pairwise_map]
  exact h
theorem keys3_mem (l m n : List Ent) (q : Int) : q ∈ keys3 l m n ↔ (getE l q).isSome = true ∨ (getE m q).isSome = true ∨ (getE n q).isSome = true := by
  unfold keys3
  rw [← mem_keys, (keysOf_spec _).2.2, mem_keys, mem_keys, mem_keys]
  simp only [List.map_append, List.mem_append, or_assoc]
theorem keys3_len (l m n : List Ent) : (keys3 l m n).length <=l.length + m.length + n.length := by
  have := (keysOf_spec ((l ++ m ++ n).map Prod.fst)).2.1
  unfold keys3
  simp at this ⊢; omega

/-- A valid list out of the first entries of a raw one. -/
def listE (raw : List Ent) (most : Nat) : List Ent := (raw.take most).foldl insE []

theorem listE_spec (raw : List Ent) (most : Nat) : Asc (listE raw most) /\(listE raw most).length <=most := by
  unfold listE
  have h1 : (raw.take most).length <=most := List.length_take_le _ _
  generalize raw.take most = xs at h1
  have : ∀ (xs acc : List Ent), Asc acc ->Asc (xs.foldl insE acc) /\(xs.foldl insE acc).length <=acc.length + xs.length := by
    intro xs
    induction xs with
    | nil => intro acc h; exact ⟨h, by simp⟩
    | cons x t ih =>
      intro acc h
      have := ih _ (insE_asc x h)
      have h2 := insE_len acc x
      exact ⟨this.1, by simp only [List.foldl_cons, List.length_cons]; omega⟩
  have := this xs [] Srt.nil
  exact ⟨this.1, by simp at this; omega⟩

end Go.Proofs.YtmjnoiajenoinaaGreat
end
section
/- Lists and costs of taking trees apart and putting them together. No program in sight. -/
namespace Go.Proofs.YtmjnoiajenoinaaGreat
open Go

/-! ### Lists -/
theorem asc_parts {a b : List Ent} {k v : Int} (h : Asc (a ++ (k, v) :: b)) : Asc a /\Asc b /\(∀ x ∈ a, x.1 < k) /\(∀ x ∈ b, k < x.1) :=
  ⟨Srt.left h, (Srt.right h).tail, fun x hx => (List.pairwise_append.1 h).2.2 x hx (k, v) (by simp), fun x hx => (Srt.right h).head x hx⟩
theorem asc_join {a b : List Ent} {k v : Int} (h1 : Asc a) (h2 : Asc b) (h3 : ∀ x ∈ a, x.1 < k) (h4 : ∀ x ∈ b, k < x.1) : Asc (a ++ (k, v) :: b) := by
  refine List.pairwise_append.2 ⟨h1, Srt.cons h2 h4, fun x hx y hy => ?_⟩
  rcases List.mem_cons.1 hy with rfl | hy
  · exact h3 x hx
  · have := h3 x hx; have := h4 y hy; omega
theorem insE_left {a b : List Ent} {k v : Int} {e : Ent} (h : Asc (a ++ (k, v) :: b)) (he : e.1 < k) : insE (a ++ (k, v) :: b) e = insE a e ++ (k, v) :: b := by
  induction a with
  | nil =>
    rw [List.nil_append, insE_cons h, if_pos he]
    simp [insE, insGo]
  | cons x a ih =>
    have ha : Asc (x :: a) := Srt.left h
    have h' : Asc (x :: (a ++ (k, v) :: b)) := h
    rw [List.cons_append, insE_cons h', insE_cons ha, ih h'.tail]
    split
    · rfl
    · split <;> rfl
theorem insE_right {a b : List Ent} {k v : Int} {e : Ent} (h : Asc (a ++ (k, v) :: b)) (he : k < e.1) : insE (a ++ (k, v) :: b) e = a ++ (k, v) :: insE b e := by
  induction a with
  | nil =>
    rw [List.nil_append, insE_cons h, if_neg (by show ¬ e.1 < k; omega), if_neg (by show ¬ k = e.1; omega)]
    rfl
  | cons x a ih =>
    have h' : Asc (x :: (a ++ (k, v) :: b)) := h
    have hx : x.1 < k := (asc_parts h).2.2.1 x (by simp)
    rw [List.cons_append, insE_cons h', if_neg (by omega), if_neg (by omega), ih h'.tail]
    rfl
theorem insE_at {a b : List Ent} {v : Int} {e : Ent} (h : Asc (a ++ (e.1, v) :: b)) : insE (a ++ (e.1, v) :: b) e = a ++ e :: b := by
  induction a with
  | nil =>
    rw [List.nil_append, insE_cons h, if_neg (by show ¬ e.1 < e.1; omega), if_pos rfl]
    rfl
  | cons x a ih =>
    have h' : Asc (x :: (a ++ (e.1, v) :: b)) := h
    have hx : x.1 < e.1 := (asc_parts h).2.2.1 x (by simp)
    rw [List.cons_append, insE_cons h', if_neg (by omega), if_neg (by omega), ih h'.tail]
    rfl
/-- The entries whose keys pass a test that is of one mind on either side. -/
def flt (p : Int ->Bool) (l : List Ent) : List Ent := l.filter fun x => p x.1
theorem flt_all {p : Int ->Bool} {l : List Ent} (h : ∀ x ∈ l, p x.1 = true) : flt p l = l := List.filter_eq_self.2 h
theorem flt_node {p : Int ->Bool} (a b : List Ent) (k v : Int) : flt p (a ++ (k, v) :: b) = flt p a ++ (if p k then (k, v) :: flt p b else flt p b) := by
  unfold flt
  rw [List.filter_append, List.filter_cons]
theorem flt_asc {p : Int ->Bool} {l : List Ent} (h : Asc l) : Asc (flt p l) := List.Pairwise.filter _ h
theorem flt_mem {p : Int ->Bool} {l : List Ent} {x : Ent} (h : x ∈ flt p l) : x ∈ l := (List.mem_filter.1 h).1
theorem flt_len {p : Int ->Bool} {l : List Ent} : (flt p l).length <=l.length := List.length_filter_le _ _
theorem getE_left {a b : List Ent} {k v q : Int} (h : Asc (a ++ (k, v) :: b)) (hq : q < k) : getE (a ++ (k, v) :: b) q = getE a q := by
  obtain ⟨_, _, _, h4⟩ := asc_parts h
  rw [getE_fnd, getE_fnd, fnd_append, fnd_cons, if_neg (by show ¬ k = q; omega), fnd_of_lt (l := b) (fun x hx => by have := h4 x hx; omega)]
  simp
theorem getE_right {a b : List Ent} {k v q : Int} (h : Asc (a ++ (k, v) :: b)) (hq : k < q) : getE (a ++ (k, v) :: b) q = getE b q := by
  obtain ⟨_, _, h3, _⟩ := asc_parts h
  rw [getE_fnd, getE_fnd, fnd_append, fnd_cons, if_neg (by show ¬ k = q; omega), fnd_of_gt (l := a) (fun x hx => by have := h3 x hx; omega)]
  simp
theorem getE_at {a b : List Ent} {k v : Int} (h : Asc (a ++ (k, v) :: b)) : getE (a ++ (k, v) :: b) k = some v := by
  obtain ⟨_, _, h3, _⟩ := asc_parts h
  rw [getE_fnd, fnd_append, fnd_cons, if_pos rfl, fnd_of_gt (l := a) (fun x hx => by have := h3 x hx; omega)]
  simp

/-! ### Costs -/
theorem w0 : wt 0 = 1 := rfl
theorem w2 : wt 2 = 3 := rfl
theorem w3 : wt 3 = 4 := rfl
theorem w4 : wt 4 = 6 := rfl
theorem w5 : wt 5 = 8 := rfl
theorem w6 : wt 6 = 11 := rfl
theorem jB_less {l c : Nat} (h : balN l c) (hc : 2 <=c) : jB l (c - 1) <=4 := by
  unfold balN at h
  unfold jB
  rw [dsc_zero (w := c - 1 + 1) (by omega)]
  have := dsc_one (w := l + 1) (v := c - 1 + 1) (by omega) (by omega)
  omega
theorem jB_nil {l : Nat} (h : balN l 1) : jB l 0 <=7 := by
  unfold balN at h
  unfold jB
  rw [dsc_zero (w := 0 + 1) (by omega)]
  have := dsc_two (w := l + 1) (by omega)
  show 1 + 3 * (dsc (l + 1) 1 + 0) <=7
  omega
theorem jB_more {l c : Nat} (h : balN l c) : jB l (c + 1) <=4 := by
  unfold balN at h
  unfold jB
  rw [dsc_zero (w := l + 1) (by omega)]
  by_cases hl : l = 0
  · subst hl
    have := dsc_tiny (w := c + 1 + 1) (by omega)
    show 1 + 3 * (0 + dsc (c + 1 + 1) 1) <=4
    omega
  · have := dsc_one (w := c + 1 + 1) (v := l + 1) (by omega) (by omega)
    omega
/-- What taking off the last entry may need. -/
def pB (n : Nat) : Nat := if n <=3 then n else gN (n + 1) + 3
theorem pB_g (n : Nat) : pB n <=gN (n + 1) + 3 := by
  unfold pB
  split <;> omega
theorem pB_pos {n : Nat} (h : 1 <=n) : 1 <=pB n := by unfold pB; split <;> omega
theorem pB_step {l r : Nat} (h : balN l r) (hr : 1 <=r) (hz : l + r + 1 <=900000) : pB r + jB l (r - 1) <=pB (l + r + 1) := by
  have hb := h
  unfold balN at hb
  by_cases r1 : r = 1
  · subst r1
    have p1 : pB 1 = 1 := rfl
    rw [p1]
    have j : jB l (1 - 1) = 1 + 3 * (dsc (l + 1) 1 + dsc 1 (l + 1)) := rfl
    rw [j, dsc_zero (w := 1) (by omega)]
    by_cases c1 : l <=2
    · rw [dsc_zero (by omega)]
      unfold pB; split
      · omega
      · omega
    · have : pB (l + 1 + 1) = gN (l + 1 + 1 + 1) + 3 := by unfold pB; rw [if_neg (by omega)]
      rw [this]
      by_cases c2 : l <=4
      · have := dsc_tiny (w := l + 1) (by omega)
        have := gN_le (w := l + 1 + 1 + 1) (h := 4) (by decide) (by rw [w4]; omega)
        omega
      · have := dsc_two (w := l + 1) (by omega)
        have := gN_le (w := l + 1 + 1 + 1) (h := 5) (by decide) (by rw [w5]; omega)
        omega
  · by_cases c : l + 1 <=3 * r
    · have j : jB l (r - 1) = 1 := by
        unfold jB
        rw [dsc_zero (by omega), dsc_zero (by omega)]
      rw [j]
      by_cases r3 : r <=3
      · have : pB r = r := by unfold pB; rw [if_pos r3]
        rw [this]
        unfold pB
        split
        · omega
        · have := gN_le (w := l + r + 1 + 1) (h := 3) (by decide) (by rw [w3]; omega)
          omega
      · have e1 : pB r = gN (r + 1) + 3 := by unfold pB; rw [if_neg r3]
        have e2 : pB (l + r + 1) = gN (l + r + 1 + 1) + 3 := by unfold pB; rw [if_neg (by omega)]
        have := gN_step (m := r + 1) (w := l + r + 1 + 1) (by omega) (by omega) (by omega)
        omega
    · have j := jB_less h (show 2 <=r by omega)
      have e2 : pB (l + r + 1) = gN (l + r + 1 + 1) + 3 := by unfold pB; rw [if_neg (by omega)]
      by_cases r3 : r <=3
      · have e1 : pB r = r := by unfold pB; rw [if_pos r3]
        by_cases r2 : r = 2
        · have := gN_le (w := l + r + 1 + 1) (h := 5) (by decide) (by rw [w5]; omega)
          omega
        · have := gN_le (w := l + r + 1 + 1) (h := 6) (by decide) (by rw [w6]; omega)
          omega
      · have e1 : pB r = gN (r + 1) + 3 := by unfold pB; rw [if_neg r3]
        have := gN_step4 (r := r + 1) (w := l + r + 1 + 1) (by omega) (by omega) (by omega)
        omega
/-- What a concatenation may need. -/
def cB (l r : Nat) : Nat := if l = 0 ∨ r = 0 then 0 else pB l + jB (l - 1) r
theorem cB_bal {l r : Nat} (h : balN l r) (hz : l + r <=800000) : cB l r <=4 * gN (l + r + 2) := by
  unfold cB
  split
  · omega
  · have h1 := pB_g l
    have h5 : jB (l - 1) r <=7 := by
      rw [jB_comm]
      by_cases c : l = 1
      · subst c; exact jB_nil (balN_comm h)
      · have := jB_less (balN_comm h) (show 2 <=l by omega); omega
    have hb := h
    unfold balN at hb
    have h3 := gN_step (m := l + 1) (w := l + r + 2) (by omega) (by omega) (by omega)
    have h4 := gN_le (w := l + r + 2) (h := 3) (by decide) (by rw [w3]; omega)
    omega
/-- What an insertion and a deletion may need. -/
def iB (n : Nat) : Nat := 4 * gN (n + 1) + 1
def dB (n : Nat) : Nat := if n <=1 then 1 else 4 * gN (n + 1) + 4
theorem iB_step {l c : Nat} (h : balN l c) (hz : l + c <=800000) : iB c + 4 <=iB (l + c + 1) := by
  unfold balN at h
  unfold iB
  have := gN_step (m := c + 1) (w := l + c + 1 + 1) (by omega) (by omega) (by omega)
  omega
theorem dB_le (n : Nat) : dB n <=4 * gN (n + 1) + 4 := by unfold dB; split <;> omega
theorem dB_pos (n : Nat) : 1 <=dB n := by unfold dB; split <;> omega
theorem dB_step {l c : Nat} (h : balN l c) (hc : 1 <=c) (hz : l + c <=800000) : dB c + jB l (c - 1) <=dB (l + c + 1) := by
  have hb := h
  unfold balN at hb
  have e : dB (l + c + 1) = 4 * gN (l + c + 1 + 1) + 4 := by unfold dB; rw [if_neg (by omega)]
  rw [e]
  by_cases c1 : c = 1
  · subst c1
    have j := jB_nil h
    have e1 : dB 1 = 1 := rfl
    have := gN_le (w := l + 1 + 1 + 1) (h := 2) (by decide) (by rw [w2]; omega)
    rw [e1]
    show 1 + jB l 0 <=_
    omega
  · have j := jB_less h (show 2 <=c by omega)
    have e1 : dB c = 4 * gN (c + 1) + 4 := by unfold dB; rw [if_neg (by omega)]
    have := gN_step (m := c + 1) (w := l + c + 1 + 1) (by omega) (by omega) (by omega)
    omega
theorem dB_found {l r : Nat} (h : balN l r) (hz : l + r <=800000) : cB l r + 1 <=dB (l + r + 1) := by
  unfold dB
  split
  · have e1 : l = 0 := by omega
    subst e1
    unfold cB; simp
  · have := cB_bal h hz
    have e : l + r + 1 + 1 = l + r + 2 := rfl
    rw [e]
    omega
theorem insE_ge {l : List Ent} (e : Ent) (h : Asc l) : l.length <=(insE l e).length := by
  induction l with
  | nil => exact Nat.zero_le _
  | cons x l ih =>
    rw [insE_cons h]
    have := ih h.tail
    split
    · simp
    · split <;> simp <;> omega
def hasK (l : List Ent) (k : Int) : Prop := ∃ v, (k, v) ∈ l
def neK (key : Int) (q : Int) : Bool := decide (q ≠ key)
theorem flt_ne_len {l : List Ent} {k : Int} (h : Asc l) (hk : hasK l k) : (flt (neK k) l).length + 1 = l.length := by
  induction l with
  | nil => obtain ⟨v, hv⟩ := hk; simp at hv
  | cons x l ih =>
    obtain ⟨v, hv⟩ := hk
    have hh := h.head
    unfold flt at ih ⊢
    rw [List.filter_cons]
    by_cases e : x.1 = k
    · have : (l.filter fun x => neK k x.1) = l := List.filter_eq_self.2 fun y hy => by have := hh y hy; simp [neK]; omega
      simp [neK, e]
      simpa [neK] using this
    · have hm : (k, v) ∈ l := by
        rcases List.mem_cons.1 hv with q | q
        · exact absurd (congrArg Prod.fst q).symm e
        · exact q
      have := ih h.tail ⟨v, hm⟩
      simp [neK, e] at this ⊢
      omega
theorem Got.of_zero {S S' : Arn} {hs hs1 : List Int} {m r : Nat} (a : Got S hs m r S' (0 :: hs1)) : Got S hs m r S' hs1 := ⟨a.wf.of_zero, a.stay, a.len, a.nu, a.rd0, a.rd⟩
theorem flt_upR {p : Int ->Bool} {a b : List Ent} {k v : Int} (hb : ∀ x ∈ b, p x.1 = true) (hk : p k = true) : flt p (a ++ (k, v) :: b) = flt p a ++ (k, v) :: b := by
  rw [flt_node, flt_all hb, hk]; simp
theorem flt_upL {p : Int ->Bool} {a b : List Ent} {k v : Int} (ha : ∀ x ∈ a, p x.1 = true) (hk : p k = true) : flt p (a ++ (k, v) :: b) = a ++ (k, v) :: flt p b := by
  rw [flt_node, flt_all ha, hk]; simp
end Go.Proofs.YtmjnoiajenoinaaGreat
end
section
/- Set operations on ascending lists: one step at the key of the first tree's root. No program in sight. -/
namespace Go.Proofs.YtmjnoiajenoinaaGreat
open Go

theorem getE_app (a b : List Ent) (q : Int) : getE (a ++ b) q = (getE a q).or (getE b q) := by
  induction a with
  | nil => simp [getE]
  | cons x a ih =>
    have e : ∀ (l : List Ent), getE (x :: l) q = if x.1 = q then some x.2 else getE l q := fun l => rfl
    rw [List.cons_append, e, e]
    split
    · rfl
    · exact ih
theorem getE_no {l : List Ent} {q : Int} (h : ∀ x ∈ l, x.1 ≠ q) : getE l q = none := by
  induction l with
  | nil => rfl
  | cons x l ih =>
    unfold getE
    rw [if_neg (h x (List.mem_cons_self ..)), ih fun y hy => h y (List.mem_cons_of_mem _ hy)]
theorem getE_in {l : List Ent} {x : Ent} (h : x ∈ l) : getE l x.1 ≠ none := by
  induction l with
  | nil => cases h
  | cons y l ih =>
    unfold getE
    split
    · simp
    · rename_i c
      rcases List.mem_cons.1 h with rfl | h
      · exact absurd rfl c
      · exact ih h
theorem getE_some {l : List Ent} {q v : Int} (h : getE l q = some v) : (q, v) ∈ l := by
  induction l with
  | nil => cases h
  | cons y l ih =>
    unfold getE at h
    split at h
    · rename_i c; cases h; subst c; exact List.mem_cons_self ..
    · exact List.mem_cons_of_mem _ (ih h)
theorem getE_flt (p : Int ->Bool) (l : List Ent) (q : Int) : getE (flt p l) q = if p q = true then getE l q else none := by
  induction l with
  | nil => simp [flt, getE]
  | cons x l ih =>
    have ih' : getE (l.filter fun x => p x.1) q = _ := ih
    unfold flt
    rw [List.filter_cons]
    conv => rhs; unfold getE
    split
    · rename_i c
      conv => lhs; unfold getE
      rw [ih']
      by_cases e : x.1 = q
      · rw [if_pos e, if_pos (by rw [← e]; exact c), if_pos e]
      · rw [if_neg e, if_neg e]
    · rename_i c
      rw [ih']
      by_cases e : x.1 = q
      · rw [if_neg (by rw [← e]; exact c), if_neg (by rw [← e]; exact c)]
      · rw [if_neg e]
theorem flt_two (p q : Int ->Bool) (h : ∀ k, p k = true ->q k = false) (l : List Ent) : (flt p l).length + (flt q l).length <=l.length := by
  induction l with
  | nil => simp [flt]
  | cons x l ih =>
    unfold flt at *
    rw [List.filter_cons, List.filter_cons]
    have := h x.1
    cases e : p x.1 <;> cases e' : q x.1 <;> simp_all <;> omega

/-- What an operation of two lists answers. -/
structure SetR (f : Option Int ->Option Int ->Option Int) (l m out : List Ent) : Prop where
  asc : Asc out
  get : ∀ k, getE out k = f (getE l k) (getE m k)
  len : out.length <=l.length + m.length
variable {f : Option Int ->Option Int ->Option Int} {a b m p q : List Ent} {k v : Int}
def ltB (key : Int) (q : Int) : Bool := decide (q < key)
def gtB (key : Int) (q : Int) : Bool := decide (key < q)
theorem SetR.low (h0 : f none none = none) (hl : ∀ x ∈ a, x.1 < k) (h : SetR f a (flt (ltB k) m) p) : ∀ x ∈ p, x.1 < k := fun x hx => by
  have e := getE_in hx
  rw [h.get] at e
  cases ea : getE a x.1 with
  | some w => exact hl (x.1, w) (getE_some ea)
  | none =>
    rw [ea, getE_flt] at e
    split at e
    · rename_i c; exact of_decide_eq_true c
    · exact absurd h0 e
theorem SetR.high (h0 : f none none = none) (hl : ∀ x ∈ b, k < x.1) (h : SetR f b (flt (gtB k) m) q) : ∀ x ∈ q, k < x.1 := fun x hx => by
  have e := getE_in hx
  rw [h.get] at e
  cases ea : getE b x.1 with
  | some w => exact hl (x.1, w) (getE_some ea)
  | none =>
    rw [ea, getE_flt] at e
    split at e
    · rename_i c; exact of_decide_eq_true c
    · exact absurd h0 e
theorem SetR.step (h0 : f none none = none) (hl : Asc (a ++ (k, v) :: b)) (hp : SetR f a (flt (ltB k) m) p) (hq : SetR f b (flt (gtB k) m) q) :
    (∀ w, f (some v) (getE m k) = some w ->SetR f (a ++ (k, v) :: b) m (p ++ (k, w) :: q)) /\(f (some v) (getE m k) = none ->SetR f (a ++ (k, v) :: b) m (p ++ q)) := by
  obtain ⟨_, _, la, lb⟩ := asc_parts hl
  have lp := hp.low h0 la
  have lq := hq.high h0 lb
  have two := flt_two (ltB k) (gtB k) (fun x hx => by unfold ltB gtB at *; simp at *; omega) m
  have hpl := hp.len
  have hql := hq.len
  have pl : ∀ r, r < k ->getE p r = f (getE (a ++ (k, v) :: b) r) (getE m r) := fun r hr => by
    rw [hp.get, getE_left hl hr, getE_flt, if_pos (by simp [ltB, hr])]
  have pr : ∀ r, k < r ->getE q r = f (getE (a ++ (k, v) :: b) r) (getE m r) := fun r hr => by
    rw [hq.get, getE_right hl hr, getE_flt, if_pos (by simp [gtB, hr])]
  refine ⟨fun w hw => ?_, fun hn => ?_⟩
  · have ha : Asc (p ++ (k, w) :: q) := asc_join hp.asc hq.asc lp lq
    refine ⟨ha, fun r => ?_, by simp; omega⟩
    rcases Int.lt_trichotomy r k with c | c | c
    · rw [getE_left ha c, pl r c]
    · rw [c, getE_at ha, getE_at hl, hw]
    · rw [getE_right ha c, pr r c]
  · refine ⟨Srt.append hp.asc hq.asc fun x hx y hy => Int.lt_trans (lp x hx) (lq y hy), fun r => ?_, by simp; omega⟩
    rw [getE_app]
    rcases Int.lt_trichotomy r k with c | c | c
    · rw [getE_no (l := q) fun x hx => by have := lq x hx; omega, Option.or_none, pl r c]
    · rw [c, getE_no (l := q) fun x hx => by have := lq x hx; omega, getE_no (l := p) fun x hx => by have := lp x hx; omega, getE_at hl, hn]; rfl
    · rw [getE_no (l := p) fun x hx => by have := lp x hx; omega, Option.none_or, pr r c]
theorem SetR.left {l : List Ent} (ha : Asc l) (h : ∀ x, f x none = x) : SetR f l [] l := ⟨ha, fun k => by simp [getE, h], by simp⟩
theorem SetR.right {l : List Ent} (ha : Asc l) (h : ∀ x, f none x = x) : SetR f [] l l := ⟨ha, fun k => by simp [getE, h], by simp⟩
theorem SetR.same {l : List Ent} (ha : Asc l) (h : ∀ x, f x x = x) : SetR f l l l := ⟨ha, fun k => by rw [h], by omega⟩
theorem SetR.none {l m : List Ent} (h : ∀ k, f (getE l k) (getE m k) = none) : SetR f l m [] := ⟨Srt.nil, fun k => by rw [h]; rfl, by simp⟩
theorem SetR.ext {l m x y : List Ent} (h : SetR f l m x) (h' : SetR f l m y) : x = y := Asc.ext h.asc h'.asc fun q => by rw [h.get, h'.get]
end Go.Proofs.YtmjnoiajenoinaaGreat
end
section
/- Plain laws of patches: what each function of the patch layer comes to, on lists. No program in sight. -/
namespace Go.Proofs.YtmjnoiajenoinaaGreat

structure Chg where
  kind : Int
  key : Int
  old : Int
  new : Int
  deriving DecidableEq

def Chg.before (c : Chg) : Option Int := if c.kind = 1 then none else some c.old
def Chg.after (c : Chg) : Option Int := if c.kind = 2 then none else some c.new

/-- The change of a key from one value to another one, if they differ. -/
def mkChg (k : Int) (x y : Option Int) : Option Chg :=
  if x = y then none else match x, y with
    | none, none => none
    | none, some v => some ⟨1, k, 0, v⟩
    | some u, none => some ⟨2, k, u, 0⟩
    | some u, some v => some ⟨3, k, u, v⟩

theorem mkChg_some {k : Int} {x y : Option Int} {c : Chg} (h : mkChg k x y = some c) : c.key = k /\c.before = x /\c.after = y /\x ≠ y /\(c.kind = 1 ∨ c.kind = 2 ∨ c.kind = 3) := by
  unfold mkChg at h
  split at h
  · cases h
  · rename_i hne
    cases x <;> cases y <;> simp at h <;> subst h <;> simp [Chg.before, Chg.after]
    simpa using hne

theorem mkChg_none {k : Int} {x y : Option Int} : mkChg k x y = none ↔ x = y := by
  unfold mkChg
  split
  · simp [*]
  · cases x <;> cases y <;> simp_all

/-- A change that is what its own values say. -/
def Chg.ok (c : Chg) : Prop := mkChg c.key c.before c.after = some c
instance (c : Chg) : Decidable c.ok := by unfold Chg.ok; infer_instance

theorem Chg.ok_kind {c : Chg} (h : c.ok) : c.kind = 1 ∨ c.kind = 2 ∨ c.kind = 3 := (mkChg_some h).2.2.2.2
theorem Chg.ok_ext {c d : Chg} (hc : c.ok) (hd : d.ok) (hk : c.key = d.key) (hb : c.before = d.before) (ha : c.after = d.after) : c = d := by
  unfold Chg.ok at hc hd
  rw [hk, hb, ha, hd] at hc
  exact (Option.some.inj hc).symm

/-- A valid patch. -/
def Val (p : List Chg) : Prop := Srt Chg.key p /\∀ c ∈ p, c.ok

def valGo : Option Int ->List Chg ->Bool
  | _, [] => true
  | prev, c :: t => (match prev with | none => true | some k => decide (k < c.key)) && decide c.ok && valGo (some c.key) t

theorem valGo_iff (p : List Chg) : ∀ prev, valGo prev p = true ↔ Val p /\(∀ k, prev = some k ->∀ c ∈ p, k < c.key) := by
  induction p with
  | nil => intro prev; simp [valGo, Val, Srt.nil]
  | cons c t ih =>
    intro prev
    simp only [valGo, Bool.and_eq_true, decide_eq_true_eq, ih]
    constructor
    · rintro ⟨⟨h1, h2⟩, ⟨h3, h4⟩, h5⟩
      have h6 := h5 c.key rfl
      refine ⟨⟨h3.cons h6, ?_⟩, ?_⟩
      · intro d hd
        rcases List.mem_cons.1 hd with rfl | hd
        · exact h2
        · exact h4 d hd
      · intro k hk d hd
        subst hk
        simp at h1
        rcases List.mem_cons.1 hd with rfl | hd
        · exact h1
        · have := h6 d hd; omega
    · rintro ⟨⟨h1, h2⟩, h3⟩
      refine ⟨⟨?_, h2 c List.mem_cons_self⟩, ⟨h1.tail, fun d hd => h2 d (List.mem_cons_of_mem _ hd)⟩, ?_⟩
      · cases prev with
        | none => rfl
        | some k => simpa using h3 k rfl c List.mem_cons_self
      · intro k hk d hd
        cases hk
        exact h1.head d hd

def valB (p : List Chg) : Bool := valGo none p
theorem valB_iff {p : List Chg} : valB p = true ↔ Val p := by
  unfold valB; rw [valGo_iff]; simp

/-! ### The patch between two lists -/
abbrev pE := pairs (Prod.fst : Ent ->Int) (Prod.fst : Ent ->Int)
abbrev pC := pairs Chg.key Chg.key
abbrev pEC := pairs (Prod.fst : Ent ->Int) Chg.key

def btw1 (z : Option Ent × Option Ent) : List Chg := (mkChg (pkey Prod.fst Prod.fst z) (z.1.map Prod.snd) (z.2.map Prod.snd)).toList
def btw (l m : List Ent) : List Chg := (pE l m).flatMap btw1

/-- An ascending list of what is made of each element of an ascending list, at most one each, under its key. -/
theorem flatOpt_srt {α β : Type} {ka : α ->Int} {kb : β ->Int} (f : α ->Option β) (hf : ∀ x y, f x = some y ->kb y = ka x) {l : List α} (h : Srt ka l) :
    Srt kb (l.flatMap fun x => (f x).toList) := by
  induction l with
  | nil => exact Srt.nil
  | cons x t ih =>
    rw [List.flatMap_cons]
    cases hx : f x with
    | none => simpa [hx] using ih h.tail
    | some y =>
      show Srt kb (y :: t.flatMap fun x => (f x).toList)
      refine Srt.cons (ih h.tail) fun z hz => ?_
      rw [List.mem_flatMap] at hz
      obtain ⟨u, hu, hz⟩ := hz
      rw [hf x y hx, hf u z (by simpa using hz)]
      exact h.head u hu

theorem flatOpt_fnd {α β : Type} {ka : α ->Int} {kb : β ->Int} (f : α ->Option β) (hf : ∀ x y, f x = some y ->kb y = ka x) {l : List α} (h : Srt ka l) (k : Int) :
    fnd kb (l.flatMap fun x => (f x).toList) k = (fnd ka l k).bind f := by
  induction l with
  | nil => rfl
  | cons x t ih =>
    rw [List.flatMap_cons, fnd_append, fnd_cons, ih h.tail]
    by_cases e : ka x = k
    · rw [if_pos e]
      cases hx : f x with
      | none =>
        have : fnd ka t k = none := fnd_of_lt fun z hz => by have := h.head z hz; omega
        simp [hx, this, fnd_nil]
      | some y => simp [hx, fnd_cons, hf x y hx, e]
    · rw [if_neg e]
      cases hx : f x with
      | none => simp [fnd_nil]
      | some y => simp [fnd_cons, hf x y hx, e, fnd_nil]

theorem btw_srt {l m : List Ent} (hl : Asc l) (hm : Asc m) : Srt Chg.key (btw l m) :=
  flatOpt_srt (ka := pkey Prod.fst Prod.fst) (fun z => mkChg (pkey Prod.fst Prod.fst z) (z.1.map Prod.snd) (z.2.map Prod.snd)) (fun _ _ h => (mkChg_some h).1) (pairs_srt l m hl hm)

theorem btw_fnd {l m : List Ent} (hl : Asc l) (hm : Asc m) (k : Int) : fnd Chg.key (btw l m) k = mkChg k (getE l k) (getE m k) := by
  have h := flatOpt_fnd (ka := pkey Prod.fst Prod.fst) (kb := Chg.key) (fun z : Option Ent × Option Ent => mkChg (pkey Prod.fst Prod.fst z) (z.1.map Prod.snd) (z.2.map Prod.snd)) (fun _ _ h => (mkChg_some h).1) (pairs_srt l m hl hm) k
  refine h.trans ?_
  cases hz : fnd (pkey Prod.fst Prod.fst) (pE l m) k with
  | none =>
    rw [pairs_fnd l m hl hm] at hz
    unfold both2 at hz
    split at hz
    · cases hz
    · rename_i hn
      simp at hn
      rw [getE_fnd, getE_fnd, hn.1, hn.2]
      simp [mkChg_none.2 rfl]
  | some z =>
    have hk := fnd_key hz
    rw [pairs_fnd l m hl hm] at hz
    unfold both2 at hz
    split at hz
    · cases hz
      simp only [Option.bind_some, hk, getE_fnd]
    · cases hz

/-- A valid patch is known by its changes' values, key by key. -/
theorem Val.ext {p q : List Chg} (hp : Val p) (hq : Val q) (h : ∀ k, (fnd Chg.key p k).map (fun c => (c.before, c.after)) = (fnd Chg.key q k).map (fun c => (c.before, c.after))) : p = q := by
  refine Srt.ext (key := Chg.key) hp.1 hq.1 fun k => ?_
  have := h k
  cases h1 : fnd Chg.key p k with
  | none => rw [h1] at this; cases h2 : fnd Chg.key q k with
    | none => rfl
    | some d => rw [h2] at this; cases this
  | some c =>
    cases h2 : fnd Chg.key q k with
    | none => rw [h1, h2] at this; cases this
    | some d =>
      rw [h1, h2] at this
      simp at this
      rw [Chg.ok_ext (hp.2 c (fnd_mem h1)) (hq.2 d (fnd_mem h2)) ((fnd_key h1).trans (fnd_key h2).symm) this.1 this.2]

end Go.Proofs.YtmjnoiajenoinaaGreat
end
section
/- Plain laws of patches: what is carried through the loop of a check. No program in sight. -/
namespace Go.Proofs.YtmjnoiajenoinaaGreat.Sx
open Go

def cA (p : List Chg) (n : Nat) : Chg := p.getD n ⟨0, 0, 0, 0⟩
def eA (p : List Ent) (n : Nat) : Ent := p.getD n (0, 0)
theorem cA_get {p : List Chg} {n : Nat} (h : n < p.length) : p[n]? = some (cA p n) := by simp [cA, List.getD_eq_getElem?_getD, List.getElem?_eq_getElem h]
theorem eA_get {p : List Ent} {n : Nat} (h : n < p.length) : p[n]? = some (eA p n) := by simp [eA, List.getD_eq_getElem?_getD, List.getElem?_eq_getElem h]
theorem drop_cons {α : Type} {l : List α} {n : Nat} {x : α} (h : l[n]? = some x) : l.drop n = x :: l.drop (n + 1) := by
  obtain ⟨h1, h2⟩ := List.getElem?_eq_some_iff.1 h
  rw [List.drop_eq_getElem_cons h1, h2]
theorem take_snoc {α : Type} {l : List α} {n : Nat} {x : α} (h : l[n]? = some x) : l.take (n + 1) = l.take n ++ [x] := by
  rw [List.take_add_one, h]; rfl

def prevK (p : List Chg) : Nat ->Option Int
  | 0 => none
  | k + 1 => (p[k]?).map Chg.key
/-- The key is not greater than the one before. -/
def lowB (p : List Chg) (k : Nat) (ky : Int) : Bool := match prevK p k with
  | none => false
  | some q => decide (ky <=q)
theorem lowB_succ {p : List Chg} {k : Nat} {x : Chg} (h : p[k]? = some x) (ky : Int) : lowB p (k + 1) ky = decide (ky <=x.key) := by simp [lowB, prevK, h]
theorem valGo_step {p : List Chg} {k : Nat} {c : Chg} (hx : p[k]? = some c) :
    valGo (prevK p k) (p.drop k) = (!lowB p k c.key && decide c.ok && valGo (prevK p (k + 1)) (p.drop (k + 1))) := by
  rw [drop_cons hx, show prevK p (k + 1) = some c.key by simp [prevK, hx]]
  simp only [valGo, lowB]
  congr 2
  cases prevK p k with
  | none => rfl
  | some q => by_cases h : q < c.key
              · simp [h, show ¬ c.key <=q by omega]
              · simp [h, show c.key <=q by omega]

/-- What 'change' answers of a change's own values. -/
def CmpR (c d : Chg) (ok : Bool) : Prop := ok = (mkChg c.key c.before c.after).isSome /\∀ e, mkChg c.key c.before c.after = some e ->d = e
theorem CmpR.ok {c d : Chg} {ok : Bool} (h : CmpR c d ok) : decide c.ok = (ok && decide (d = c)) := by
  obtain ⟨h1, h2⟩ := h
  cases hm : mkChg c.key c.before c.after with
  | none => rw [hm] at h1; subst h1; simp [Chg.ok, hm]
  | some e => rw [hm] at h1; subst h1; simp [Chg.ok, hm, h2 e hm]
theorem chg_eqB (c d : Chg) : (d.kind == c.kind && (d.key == c.key && (d.old == c.old && (d.new == c.new && true)))) = decide (d = c) := by
  cases c; cases d; simp [Bool.decide_and]; rfl
end Go.Proofs.YtmjnoiajenoinaaGreat.Sx
end
section
/- Set operations on lists, as the reference makes them, answer as SetR says. No program in sight. -/
namespace Go.Proofs.YtmjnoiajenoinaaGreat
open Go Sx

end Go.Proofs.YtmjnoiajenoinaaGreat
end
