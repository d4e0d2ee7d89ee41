/- Words for slices of structs of one-cell fields that read as lists, and what keeps them. No program in sight. -/
import Derived.Test.YtacdmmomkngpkaaSrt
import Derived.WalkKit
import Derived.ProofKit
import Derived.OpenShut
import Derived.Handy
import Derived.Lib.Hide
import Derived.BigQuiet
import Derived.Deep.QuietTactic
namespace Go.Proofs.Ytacdmmomkngpkaa
open Go.RowKit

/-- The slice with address A, length n and capacity c reads as the list l; each element x has the cells f x. -/
structure Rd {α : Type} (f : α → List Value) (sz : Nat) (w : World) (A : Option Addr) (n c : Nat) (l : List α) : Prop where
  len : n = l.length
  cap : n ≤ c
  max : c ≤ maxLen
  row : ∀ x, (f x).length = sz
  nul : A = none → c = 0
  get : 0 < n → ∃ b o, A = some ⟨b, o, none⟩ ∧ b < w.heap.size ∧ ∀ k x, l[k]? = some x → ∀ j u, (f x)[j]? = some u → w.cell? ⟨b, o + k * sz + j, none⟩ = some u

section
variable {α : Type} {f : α → List Value} {sz : Nat} {w w' : World} {A : Option Addr} {n c : Nat} {l : List α}

theorem Rd.at_ (h : Rd f sz w A n c l) {k : Nat} {x : α} (hx : l[k]? = some x) : ∃ b o, A = some ⟨b, o, none⟩ ∧ b < w.heap.size ∧ ∀ j u, (f x)[j]? = some u → w.cell? ⟨b, o + k * sz + j, none⟩ = some u := by
  have hk : k < l.length := by
    rcases Nat.lt_or_ge k l.length with h1 | h1
    · exact h1
    · rw [List.getElem?_eq_none h1] at hx; cases hx
  obtain ⟨b, o, hA, hb, hc⟩ := h.get (by rw [h.len]; omega)
  exact ⟨b, o, hA, hb, hc k x hx⟩

theorem Rd.keep (h : Rd f sz w A n c l) (hs : w.heap.size ≤ w'.heap.size) (hk : ∀ b o, b < w.heap.size → w'.cell? ⟨b, o, none⟩ = w.cell? ⟨b, o, none⟩) : Rd f sz w' A n c l :=
  ⟨h.len, h.cap, h.max, h.row, h.nul, fun hn => by
    obtain ⟨b, o, hA, hb, hc⟩ := h.get hn
    exact ⟨b, o, hA, by omega, fun k x hx j u hu => (hk _ _ hb).trans (hc k x hx j u hu)⟩⟩

theorem Rd.below (h : Rd f sz w A n c l) (hb : Below w.heap.size w w') : Rd f sz w' A n c l :=
  h.keep hb.size fun _ _ hlt => hb.cell (by exact hlt)

theorem Rd.nil (hr : ∀ x, (f x).length = sz) : Rd f sz w none 0 0 [] := ⟨rfl, by omega, by unfold maxLen; omega, hr, fun _ => rfl, fun h => absurd h (by omega)⟩
end

theorem below_drewN {B : Nat} {a w : World} (h : Below B a w) (n : Nat) : Below B a (w.drewN n) := ⟨h.os, h.tape, h.output, h.size, h.block⟩

/-- The slice value v is nil or the call's own row (blocks from B on), and holds the list l; each element x has the cells f x. -/
def Own {α : Type} (f : α → List Value) (sz : Nat) (e : TypeId) (w : World) (B : Nat) (v : Value) (l : List α) : Prop :=
  (∀ x, (f x).length = sz) ∧ w.ownsRow B e sz v l.length (l.flatMap f)

section
variable {α : Type} {f : α → List Value} {sz : Nat} {e : TypeId} {w w' : World} {B : Nat} {v : Value} {l : List α}

theorem length_flat (hr : ∀ x, (f x).length = sz) (l : List α) : (l.flatMap f).length = l.length * sz := by
  induction l with
  | nil => simp
  | cons x t ih => simp [ih, hr x, Nat.succ_mul, Nat.add_comm]

theorem flat_get (hr : ∀ x, (f x).length = sz) : ∀ (l : List α) (k : Nat) (x : α), l[k]? = some x → ∀ j u, (f x)[j]? = some u → (l.flatMap f)[k * sz + j]? = some u := by
  intro l
  induction l with
  | nil => intro k x hx; simp at hx
  | cons y t ih =>
    intro k x hx j u hu
    rw [List.flatMap_cons]
    cases k with
    | zero =>
      simp at hx; subst hx
      have hj : j < (f y).length := (List.getElem?_eq_some_iff.1 hu).1
      rw [Nat.zero_mul, Nat.zero_add, List.getElem?_append_left hj]; exact hu
    | succ k =>
      simp at hx
      have := ih k x hx j u hu
      rw [List.getElem?_append_right (by rw [hr y, Nat.succ_mul]; omega), hr y, ← this]
      congr 1
      rw [Nat.succ_mul]; omega

theorem Own.nil (hr : ∀ x, (f x).length = sz) : Own f sz e w B (.slice none 0 0) ([] : List α) := ⟨hr, World.ownsRow_nil _ _ _ _⟩

theorem Own.form (h : Own f sz e w B v l) : ∃ A c, v = .slice A l.length c ∧ Rd f sz w A l.length c l ∧ (∀ a, A = some a → B ≤ a.block) := by
  obtain ⟨hr, hlen, h⟩ := h
  rcases h with ⟨rfl, h0⟩ | ⟨g, cap, cur, rfl, hg, hh, hn, hm, hsz, htk⟩
  · have hnil : l = [] := List.eq_nil_of_length_eq_zero h0
    subst hnil
    exact ⟨none, 0, rfl, Rd.nil hr, fun _ h => by cases h⟩
  · refine ⟨some ⟨g, 0, none⟩, cap, rfl, ⟨rfl, hn, hm, hr, fun h => (by cases h), fun hpos => ⟨g, 0, rfl, ?_, ?_⟩⟩, fun a h => by cases h; exact hg⟩
    · rcases Nat.lt_or_ge g w.heap.size with h1 | h1
      · exact h1
      · rw [Array.getElem?_eq_none h1] at hh; cases hh
    · intro k x hx j u hu
      have h1 := flat_get hr l k x hx j u hu
      rw [← htk, List.getElem?_take] at h1
      rw [cell_of_row w g _ cur e _ hh]
      split at h1
      · rw [← h1, Array.getElem?_toList]; simp
      · cases h1

theorem Own.rd {A : Option Addr} {n c : Nat} (h : Own f sz e w B (.slice A n c) l) : n = l.length ∧ Rd f sz w A n c l := by
  obtain ⟨A', c', hv, hrd, _⟩ := h.form
  injection hv with h1 h2 h3
  subst h1 h2 h3
  exact ⟨rfl, hrd⟩

theorem Own.ge (h : Own f sz e w B v l) : ∀ k, v.ownBlock = some k → B ≤ k ∧ k < w.heap.size := h.2.lt

/-- What is owned stays owned where the blocks from B on are as they were. -/
theorem Own.keep (h : Own f sz e w B v l) (hk : ∀ b, B ≤ b → b < w.heap.size → w'.heap[b]? = w.heap[b]?) : Own f sz e w' B v l := by
  obtain ⟨hr, hlen, h⟩ := h
  refine ⟨hr, hlen, ?_⟩
  rcases h with h | ⟨g, cap, cur, hv, hg, hh, rest⟩
  · exact .inl h
  · have hlt : g < w.heap.size := by
      rcases Nat.lt_or_ge g w.heap.size with h1 | h1
      · exact h1
      · rw [Array.getElem?_eq_none h1] at hh; cases hh
    exact .inr ⟨g, cap, cur, hv, hg, (hk g hg hlt).trans hh, rest⟩

theorem Own.below (h : Own f sz e w B v l) (hb : Below w.heap.size w w') : Own f sz e w' B v l := h.keep fun b _ hlt => hb.block b hlt
theorem Own.drew (h : Own f sz e w B v l) : Own f sz e w.drew B v l := h
theorem Own.drewN (h : Own f sz e w B v l) (n : Nat) : Own f sz e (w.drewN n) B v l := h
theorem Own.alloc (h : Own f sz e w B v l) (o : Obj) : Own f sz e (w.alloc o) B v l := h.below ((Below.refl _ _).alloc (Nat.le_refl _) o)
theorem Own.mono {B' : Nat} (h : Own f sz e w B v l) (hB : B' ≤ B) : Own f sz e w B' v l := by
  obtain ⟨hr, hlen, h⟩ := h
  refine ⟨hr, hlen, ?_⟩
  rcases h with h | ⟨g, cap, cur, hv, hg, rest⟩
  · exact .inl h
  · exact .inr ⟨g, cap, cur, hv, by omega, rest⟩
end

/-- 'out = append(out, x)': out nil or the call's own; the one element lies in a new block. -/
theorem wpList_push {P : Program} {α : Type} {f : α → List Value} {sz : Nat} {e : TypeId} {W : World} {B : Nat} {ops : Array Oper} {rest : List Oper} {o : Oper} {a : Act} {Q : Exit → Act → World → Prop}
    (hgd : o.guard = none) (s x : Operand) (t : TypeId) (ho : o.op = .call { callee := .builtin .append, args := #[s, x], argTypes := #[t, t] })
    (z : Value) (bytes : Nat) (ht : P.underlying t = some (.slice e)) (hinfo : (P.info? e).map (fun i => (i.zero, i.size, i.bytes)) = some (some z, sz, bytes)) (hzs : z.cells.size = sz) (hsz : 0 < sz)
    (v : Value) (l : List α) (hown : Own f sz e W B v l) (hs : a.eval s = v) (y : α) (cs : Array Value) (hcs : f y = cs.toList) (hx : a.eval x = .slice (some ⟨W.heap.size, 0, none⟩) 1 1) (h1 : ∀ u ∈ f y, u.oneCell' = true)
    (hbytes : (l.length + 1) * bytes ≤ 140737488355328) (hby : 0 < bytes) (hB : B ≤ W.heap.size)
    (h : ∀ v' w', Own f sz e w' B v' (l ++ [y]) → W.grownBy w' v.ownBlock → v' ≠ .slice none 0 0 → wpList P ops Q rest (a.put o.dst v') w') : wpList P ops Q (o :: rest) a (W.alloc (.cells cs e)) := by
  obtain ⟨i, hi, hz0, hz1, hz2⟩ := info_parts hinfo
  have hl := hown.1 y
  refine wpList_append_own _ hgd s x t ho B e i z sz bytes ht hi hz0 hz1 hz2 hzs hsz v l.length (l.flatMap f) hs ((hown.alloc _).2) ⟨W.heap.size, 0, none⟩ 1 1 (f y) hx (by omega) ?_ h1 ?_ hbytes (by simp; omega) ?_
  · intro j u hu
    rw [Addr.add_lit, Nat.zero_add, World.cell?_alloc_new]
    rw [hcs] at hu
    rw [← Array.getElem?_toList]; exact hu
  · have : l.length + 1 ≤ 140737488355328 := Nat.le_trans (Nat.le_mul_of_pos_right _ hby) hbytes
    unfold maxLen; omega
  · intro v' w' hown' hg hnil
    refine h v' w' ⟨hown.1, by simpa using hown'⟩ ?_ ?_
    · exact ⟨hg.os, hg.tape, hg.output, Nat.le_trans (by simp) hg.size, fun k hk hne => (hg.block k (by simp; omega) hne).trans (Below.heap_alloc W _ k hk)⟩
    · intro e; have := hnil.1 e; simp at this

/-- The same behind draws. -/
theorem wpList_pushN {P : Program} {α : Type} {f : α → List Value} {sz : Nat} {e : TypeId} {W : World} {B m : Nat} {ops : Array Oper} {rest : List Oper} {o : Oper} {a : Act} {Q : Exit → Act → World → Prop}
    (hgd : o.guard = none) (s x : Operand) (t : TypeId) (ho : o.op = .call { callee := .builtin .append, args := #[s, x], argTypes := #[t, t] })
    (z : Value) (bytes : Nat) (ht : P.underlying t = some (.slice e)) (hinfo : (P.info? e).map (fun i => (i.zero, i.size, i.bytes)) = some (some z, sz, bytes)) (hzs : z.cells.size = sz) (hsz : 0 < sz)
    (v : Value) (l : List α) (hown : Own f sz e W B v l) (hs : a.eval s = v) (y : α) (cs : Array Value) (hcs : f y = cs.toList) (hx : a.eval x = .slice (some ⟨W.heap.size, 0, none⟩) 1 1) (h1 : ∀ u ∈ f y, u.oneCell' = true)
    (hbytes : (l.length + 1) * bytes ≤ 140737488355328) (hby : 0 < bytes) (hB : B ≤ W.heap.size)
    (h : ∀ v' w', Own f sz e w' B v' (l ++ [y]) → W.grownBy w' v.ownBlock → v' ≠ .slice none 0 0 → wpList P ops Q rest (a.put o.dst v') w') : wpList P ops Q (o :: rest) a ((W.alloc (.cells cs e)).drewN m) := by
  obtain ⟨i, hi, hz0, hz1, hz2⟩ := info_parts hinfo
  have hl := hown.1 y
  refine wpList_append_own _ hgd s x t ho B e i z sz bytes ht hi hz0 hz1 hz2 hzs hsz v l.length (l.flatMap f) hs (((hown.alloc _).drewN _).2) ⟨W.heap.size, 0, none⟩ 1 1 (f y) hx (by omega) ?_ h1 ?_ hbytes (by simp; omega) ?_
  · intro j u hu
    rw [Addr.add_lit, Nat.zero_add, World.cell?_drewN, World.cell?_alloc_new]
    rw [hcs] at hu
    rw [← Array.getElem?_toList]; exact hu
  · have : l.length + 1 ≤ 140737488355328 := Nat.le_trans (Nat.le_mul_of_pos_right _ hby) hbytes
    unfold maxLen; omega
  · intro v' w' hown' hg hnil
    refine h v' w' ⟨hown.1, by simpa using hown'⟩ ?_ ?_
    · exact ⟨hg.os, hg.tape, hg.output, Nat.le_trans (by simp) hg.size, fun k hk hne => (hg.block k (by simp; omega) hne).trans (Below.heap_alloc W _ k hk)⟩
    · intro e; have := hnil.1 e; simp at this

/-- A block of another element type is not the row that is owned: it stays as it is behind an append. -/
theorem Own.other {α : Type} {f : α → List Value} {sz : Nat} {e t : TypeId} {w w' : World} {B b : Nat} {v : Value} {l : List α} {cs : Array Value} (h : Own f sz e w B v l) (hb : w.heap[b]? = some (.cells cs t (0, 0))) (ht : t ≠ e) (hg : w.grownBy w' v.ownBlock) :
    w'.heap[b]? = some (.cells cs t (0, 0)) := by
  have hlt : b < w.heap.size := by
    rcases Nat.lt_or_ge b w.heap.size with h1 | h1
    · exact h1
    · rw [Array.getElem?_eq_none h1] at hb; cases hb
  rw [hg.block b hlt ?_, hb]
  obtain ⟨_, _, h⟩ := h
  rcases h with ⟨rfl, _⟩ | ⟨g, cap, cur, rfl, _, hh, _⟩
  · intro h; cases h
  · intro e'
    have : b = g := Option.some.inj e'
    subst this
    rw [hb] at hh
    injection hh with hh
    injection hh with _ h2 _
    exact ht h2

theorem box_at {w : World} {b : Nat} {t : TypeId} {cs : Array Value} (h : w.heap[b]? = some (.cells cs t (0, 0))) (i : Nat) : w.cell? ⟨b, i, none⟩ = cs[i]? := cell_of_row w b i cs t (0, 0) h
theorem box_lt {w : World} {b : Nat} {o : Obj} (h : w.heap[b]? = some o) : b < w.heap.size := by
  rcases Nat.lt_or_ge b w.heap.size with h1 | h1
  · exact h1
  · rw [Array.getElem?_eq_none h1] at h; cases h
theorem box_below {w w' : World} {b B : Nat} {o : Obj} (h : w.heap[b]? = some o) (hb : Below B w w') (hlt : b < B) : w'.heap[b]? = some o := (hb.block b hlt).trans h

/-- 'l[k:]': what is left of it, at the address that the model gives it. -/
theorem Rd.cut {α : Type} {f : α → List Value} {sz : Nat} {w : World} {A : Option Addr} {n c : Nat} {l : List α} (h : Rd f sz w A n c l) {k : Nat} (hk : k ≤ n) :
    Rd f sz w (if c = k then A else A.map (·.add (k * sz))) (n - k) (c - k) (l.drop k) := by
  have hc := h.cap
  refine ⟨by rw [List.length_drop, h.len], by omega, by have := h.max; omega, h.row, fun hA => ?_, fun hn => ?_⟩
  · by_cases e : c = k
    · omega
    · rw [if_neg e] at hA
      have : A = none := by cases A <;> simp_all
      have := h.nul this; omega
  · obtain ⟨b, o, rfl, hb, hcell⟩ := h.get (by omega)
    rw [if_neg (by omega)]
    refine ⟨b, o + k * sz, by simp [Addr.add_lit], hb, fun j x hx i u hu => ?_⟩
    rw [List.getElem?_drop] at hx
    have := hcell (k + j) x hx i u hu
    rw [Nat.add_mul] at this
    rw [show o + k * sz + j * sz + i = o + (k * sz + j * sz) + i by omega]; exact this

/-- 'l[:k]'. -/
theorem Rd.head {α : Type} {f : α → List Value} {sz : Nat} {w : World} {A : Option Addr} {n c : Nat} {l : List α} (h : Rd f sz w A n c l) {k : Nat} (hk : k ≤ n) :
    Rd f sz w A k c (l.take k) := by
  have hc := h.cap
  refine ⟨by rw [List.length_take, ← h.len]; omega, by omega, h.max, h.row, h.nul, fun hn => ?_⟩
  obtain ⟨b, o, rfl, hb, hcell⟩ := h.get (by omega)
  refine ⟨b, o, rfl, hb, fun j x hx i u hu => hcell j x ?_ i u hu⟩
  rw [List.getElem?_take] at hx
  split at hx
  · exact hx
  · cases hx

/-- 'out = append(out, src...)': out nil or the call's own. -/
theorem wpList_pushAll {P : Program} {α : Type} {f : α → List Value} {sz : Nat} {e : TypeId} {W : World} {B : Nat} {ops : Array Oper} {rest : List Oper} {o : Oper} {a : Act} {Q : Exit → Act → World → Prop}
    (hgd : o.guard = none) (s x : Operand) (t : TypeId) (ho : o.op = .call { callee := .builtin .append, args := #[s, x], argTypes := #[t, t] })
    (z : Value) (bytes : Nat) (ht : P.underlying t = some (.slice e)) (hinfo : (P.info? e).map (fun i => (i.zero, i.size, i.bytes)) = some (some z, sz, bytes)) (hzs : z.cells.size = sz) (hsz : 0 < sz)
    (v : Value) (l : List α) (hown : Own f sz e W B v l) (hs : a.eval s = v) (A : Option Addr) (m c : Nat) (ys : List α) (hx : a.eval x = .slice A m c) (hsrc : Rd f sz W A m c ys) (h1 : ∀ y, ∀ u ∈ f y, u.oneCell' = true)
    (hbytes : (l.length + ys.length) * bytes ≤ 140737488355328) (hby : 0 < bytes) (hB : B ≤ W.heap.size)
    (h : ∀ v' w', Own f sz e w' B v' (l ++ ys) → W.grownBy w' v.ownBlock → wpList P ops Q rest (a.put o.dst v') w') : wpList P ops Q (o :: rest) a W := by
  obtain ⟨i, hi, hz0, hz1, hz2⟩ := info_parts hinfo
  have hone : ∀ u ∈ ys.flatMap f, u.oneCell' = true := fun u hu => by
    obtain ⟨y, _, hy⟩ := List.mem_flatMap.1 hu
    exact h1 y u hy
  have hlm := hsrc.len
  have hle : l.length + ys.length ≤ 140737488355328 := Nat.le_trans (Nat.le_mul_of_pos_right _ hby) hbytes
  cases A with
  | none =>
    have hc0 := hsrc.nul rfl
    have hcp := hsrc.cap
    have hm0 : m = 0 := by omega
    subst hc0 hm0
    have hys : ys = [] := List.eq_nil_of_length_eq_zero hlm.symm
    subst hys
    have hrun := run_append_owned_none (P := P) (w := W) B t o.type e i sz ht hi v l.length (l.flatMap f) hown.2
    refine wpList_plain hgd fun K hK => ?_
    unfold Oper.wp
    simp [execOp, ho, resolve, invoke, builtin, hs, hx, hrun, Result.andThen]
    exact hK _ _ (h v W (by simpa using hown) (World.grownBy.refl _ _))
  | some ad =>
    refine wpList_append_own _ hgd s x t ho B e i z sz bytes ht hi hz0 hz1 hz2 hzs hsz v l.length (l.flatMap f) hs hown.2 ad m c (ys.flatMap f) hx (by rw [length_flat hown.1, hlm]) ?_ hone ?_ (by rw [hlm]; exact hbytes) hB ?_
    · intro j u hu
      have hpos : 0 < m := by
        rcases Nat.eq_zero_or_pos m with h0 | h0
        · rw [h0] at hlm
          rw [List.eq_nil_of_length_eq_zero hlm.symm] at hu; simp at hu
        · exact h0
      obtain ⟨b, of, hA, _, hcell⟩ := hsrc.get hpos
      cases hA
      have hjl : j < ys.length * sz := by
        have := (List.getElem?_eq_some_iff.1 hu).1
        rwa [length_flat hown.1] at this
      have hk : j / sz < ys.length := (Nat.div_lt_iff_lt_mul hsz).2 hjl
      have hx2 : ys[j / sz]? = some ys[j / sz] := List.getElem?_eq_getElem hk
      have hr : j % sz < (f ys[j / sz]).length := by rw [hown.1]; exact Nat.mod_lt _ hsz
      have hu2 : (f ys[j / sz])[j % sz]? = some ((f ys[j / sz])[j % sz]) := List.getElem?_eq_getElem hr
      have h2 := flat_get hown.1 ys (j / sz) _ hx2 (j % sz) _ hu2
      rw [Nat.div_add_mod' j sz] at h2
      rw [hu] at h2
      have h3 := hcell (j / sz) _ hx2 (j % sz) _ hu2
      rw [Addr.add_lit, ← Nat.div_add_mod' j sz, ← Nat.add_assoc, Nat.div_add_mod' j sz] at *
      rw [h2]; exact h3
    · unfold maxLen; omega
    · intro v' w' hown' hg hnil
      exact h v' w' ⟨hown.1, by rw [List.length_append, List.flatMap_append, ← hlm]; exact hown'⟩ hg

/-- An element of a list, by its place. -/
theorem get_some {α : Type} {l : List α} {k : Nat} (h : k < l.length) : ∃ x, l[k]? = some x ∧ l.drop k = x :: l.drop (k + 1) ∧ l.take (k + 1) = l.take k ++ [x] :=
  ⟨l[k], List.getElem?_eq_getElem h, List.drop_eq_getElem_cons h, by rw [List.take_succ_eq_append_getElem h]⟩

def entC (x : Ent) : List Value := [.int .i64 x.1, .int .i64 x.2]
abbrev RdE := Rd entC 2
abbrev OwnE := Own entC 2
theorem entC_len (x : Ent) : (entC x).length = 2 := rfl
theorem entC_one (x : Ent) : ∀ u ∈ entC x, u.oneCell' = true := by
  intro u hu; simp [entC] at hu; rcases hu with rfl | rfl <;> rfl

theorem Rd.cellsE {w : World} {A : Option Addr} {n c : Nat} {l : List Ent} (h : RdE w A n c l) {k : Nat} {a b : Int} (hx : l[k]? = some (a, b)) :
    ∃ bl o, A = some ⟨bl, o, none⟩ ∧ bl < w.heap.size ∧ w.cell? ⟨bl, o + k * 2, none⟩ = some (.int .i64 a) ∧ w.cell? ⟨bl, o + k * 2 + 1, none⟩ = some (.int .i64 b) := by
  obtain ⟨bl, o, hA, hb, hc⟩ := h.at_ hx
  exact ⟨bl, o, hA, hb, hc 0 _ rfl, hc 1 _ rfl⟩

end Go.Proofs.Ytacdmmomkngpkaa
