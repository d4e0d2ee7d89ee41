/- A logic of memory for walks: symbolic values, chunks of memory with names, and what keeps them. No program in sight. -/
import Derived.WalkKit
import Derived.ProofKit
import Derived.OpenShut
import Derived.OrdersHeld
import Derived.Laws.AppendOwnNone
import Derived.Deep.Draws
import Derived.Test.YtacdmmomkngpkaaLib
namespace Go.Proofs.Ytacdmmomkngpkaa.Sx
open Go

/-- A symbolic value of one cell. -/
inductive At where
  | any
  | val (v : Value)
  | ptr (n off : Nat)
  | eptr (n i sz off : Nat)
  | slc (n : Nat)
  | fn (f : FuncId) (caps : List Nat)

inductive TV where
  | at (a : At)
  | agg (l : List At)

inductive SV where
  | one (x : TV)
  | tup (l : List TV)

/-- What the logic is told of a program: how the elements of its slices are written, and what an abstract object is. -/
structure Ctx where
  P : Program
  EC : Type
  deq : DecidableEq EC
  α : EC → Type
  enc : (e : EC) → α e → List Value
  dcd : (e : EC) → List Value → Option (α e)
  dft : (e : EC) → α e
  sz : EC → Nat
  tid : EC → TypeId
  byT : TypeId → Option EC
  X : Type
  I : X → World → Value → (Nat → Prop) → Prop

structure Ctx.OK (C : Ctx) : Prop where
  len : ∀ e x, (C.enc e x).length = C.sz e
  one : ∀ e x, ∀ u ∈ C.enc e x, u.oneCell' = true
  dcd : ∀ e cs x, C.dcd e cs = some x → C.enc e x = cs
  pos : ∀ e, 0 < C.sz e
  info : ∀ e, ∃ i z, C.P.info? (C.tid e) = some i ∧ i.zero = some z ∧ i.size = C.sz e ∧ z.cells.toList = C.enc e (C.dft e) ∧ 0 < i.bytes
  byT : ∀ t e, C.byT t = some e → t = C.tid e
  local_ : ∀ x w w' v f, C.I x w v f → w.heap.size ≤ w'.heap.size → (∀ b, f b → w'.heap[b]? = w.heap[b]?) → C.I x w' v f
  mixed : C.P.follows .mixedOrders = true

inductive Chunk (C : Ctx) where
  | gone
  | box (cells : List At)
  | row (own : Bool) (e : C.EC) (l : List (C.α e))
  | abs (x : C.X)

section
variable {C : Ctx}

def Rels {α β : Type} (R : α → β → Prop) (l : List α) (m : List β) : Prop := l.length = m.length ∧ ∀ (i : Nat) (a : α) (b : β), l[i]? = some a → m[i]? = some b → R a b

theorem Rels.nil {α β : Type} {R : α → β → Prop} : Rels R [] [] := ⟨rfl, fun i a b h => by simp at h⟩
theorem Rels.mono {α β : Type} {R S : α → β → Prop} {l : List α} {m : List β} (h : Rels R l m) (hi : ∀ a b, a ∈ l → R a b → S a b) : Rels S l m :=
  ⟨h.1, fun i a b ha hb => hi a b (List.mem_of_getElem? ha) (h.2 i a b ha hb)⟩
theorem Rels.get {α β : Type} {R : α → β → Prop} {l : List α} {m : List β} (h : Rels R l m) {i : Nat} {a : α} (ha : l[i]? = some a) : ∃ b, m[i]? = some b ∧ R a b := by
  have hi : i < l.length := (List.getElem?_eq_some_iff.1 ha).1
  have hm : i < m.length := h.1 ▸ hi
  exact ⟨m[i], List.getElem?_eq_getElem hm, h.2 i a _ ha (List.getElem?_eq_getElem hm)⟩
theorem Rels.cons {α β : Type} {R : α → β → Prop} {a : α} {b : β} {l : List α} {m : List β} (hab : R a b) (h : Rels R l m) : Rels R (a :: l) (b :: m) :=
  ⟨by simp [h.1], fun i x y hx hy => by
    cases i with
    | zero => simp at hx hy; subst hx hy; exact hab
    | succ i => simp at hx hy; exact h.2 i x y hx hy⟩
theorem Rels.append {α β : Type} {R : α → β → Prop} {l l' : List α} {m m' : List β} (h : Rels R l m) (h' : Rels R l' m') : Rels R (l ++ l') (m ++ m') :=
  ⟨by simp [h.1, h'.1], fun i x y hx hy => by
    rcases Nat.lt_or_ge i l.length with hi | hi
    · rw [List.getElem?_append_left hi] at hx
      rw [List.getElem?_append_left (h.1 ▸ hi)] at hy
      exact h.2 i x y hx hy
    · rw [List.getElem?_append_right hi] at hx
      rw [List.getElem?_append_right (h.1 ▸ hi), ← h.1] at hy
      exact h'.2 _ x y hx hy⟩
theorem Rels.drop {α β : Type} {R : α → β → Prop} {l : List α} {m : List β} (h : Rels R l m) (k : Nat) : Rels R (l.drop k) (m.drop k) :=
  ⟨by simp [h.1], fun i x y hx hy => by rw [List.getElem?_drop] at hx hy; exact h.2 _ x y hx hy⟩
theorem Rels.take {α β : Type} {R : α → β → Prop} {l : List α} {m : List β} (h : Rels R l m) (k : Nat) : Rels R (l.take k) (m.take k) :=
  ⟨by simp [h.1], fun i x y hx hy => by
    rw [List.getElem?_take] at hx hy
    split at hx
    · rename_i hk; rw [if_pos hk] at hy; exact h.2 _ x y hx hy
    · cases hx⟩
theorem Rels.set {α β : Type} {R : α → β → Prop} {l : List α} {m : List β} (h : Rels R l m) (k : Nat) {a : α} {b : β} (hab : R a b) : Rels R (l.set k a) (m.set k b) :=
  ⟨by simp [h.1], fun i x y hx hy => by
    rw [List.getElem?_set] at hx hy
    split at hx
    · rename_i hk
      rw [if_pos hk] at hy
      split at hx
      · rename_i hl
        rw [if_pos (h.1 ▸ hl)] at hy
        simp at hx hy; subst hx hy; exact hab
      · cases hx
    · rename_i hk; rw [if_neg hk] at hy; exact h.2 _ x y hx hy⟩

def At.rel (σ : Nat → Value) : At → Value → Prop
  | .any, _ => True
  | .val u, v => v = u
  | .ptr n off, v => ∃ b, σ n = .pointer (some ⟨b, 0, none⟩) ∧ v = .pointer (some ⟨b, off, none⟩)
  | .eptr n i sz off, v => ∃ b o len cap, σ n = .slice (some ⟨b, o, none⟩) len cap ∧ i < len ∧ v = .pointer (some ⟨b, o + i * sz + off, none⟩)
  | .slc n, v => v = σ n
  | .fn f caps, v => v = .func (.func f) #[] (caps.map σ).toArray ∧ ∀ c ∈ caps, ∃ b, σ c = .pointer (some ⟨b, 0, none⟩)

def TV.rel (σ : Nat → Value) : TV → Value → Prop
  | .at a, v => a.rel σ v
  | .agg l, v => ∃ cs, v = .agg cs.toArray ∧ Rels (At.rel σ) l cs

def SV.rel (σ : Nat → Value) : SV → Value → Prop
  | .one x, v => x.rel σ v
  | .tup l, v => ∃ vs, v = .tuple vs.toArray ∧ Rels (TV.rel σ) l vs

def At.names : At → List Nat
  | .any | .val _ => []
  | .ptr n _ | .eptr n _ _ _ | .slc n => [n]
  | .fn _ caps => caps
def TV.names : TV → List Nat
  | .at a => a.names
  | .agg l => l.flatMap At.names
def SV.names : SV → List Nat
  | .one x => x.names
  | .tup l => l.flatMap TV.names

theorem At.rel_of {σ σ' : Nat → Value} {a : At} {v : Value} (h : a.rel σ v) (hn : ∀ n ∈ a.names, σ' n = σ n) : a.rel σ' v := by
  cases a with
  | any => trivial
  | val u => exact h
  | ptr n off => obtain ⟨b, h1, h2⟩ := h; exact ⟨b, (hn n (by simp [At.names])).trans h1, h2⟩
  | eptr n i sz off => obtain ⟨b, o, len, cap, h1, h2⟩ := h; exact ⟨b, o, len, cap, (hn n (by simp [At.names])).trans h1, h2⟩
  | slc n => exact (show v = σ n from h).trans (hn n (by simp [At.names])).symm
  | fn f caps =>
    refine ⟨?_, fun c hc => by rw [hn c hc]; exact h.2 c hc⟩
    rw [h.1]
    congr 2
    exact (List.map_congr_left fun n hm => hn n hm).symm
theorem TV.rel_of {σ σ' : Nat → Value} {a : TV} {v : Value} (h : a.rel σ v) (hn : ∀ n ∈ a.names, σ' n = σ n) : a.rel σ' v := by
  cases a with
  | «at» a => exact At.rel_of h hn
  | agg l =>
    obtain ⟨cs, h1, h2⟩ := h
    exact ⟨cs, h1, h2.mono fun a b ha hr => At.rel_of hr fun n hm => hn n (List.mem_flatMap.2 ⟨a, ha, hm⟩)⟩
theorem SV.rel_of {σ σ' : Nat → Value} {a : SV} {v : Value} (h : a.rel σ v) (hn : ∀ n ∈ a.names, σ' n = σ n) : a.rel σ' v := by
  cases a with
  | one a => exact TV.rel_of h hn
  | tup l =>
    obtain ⟨cs, h1, h2⟩ := h
    exact ⟨cs, h1, h2.mono fun a b ha hr => TV.rel_of hr fun n hm => hn n (List.mem_flatMap.2 ⟨a, ha, hm⟩)⟩

def Chunk.names : Chunk C → List Nat
  | .box cells => cells.flatMap At.names
  | _ => []

/-- The cells of a list of elements. -/
def flat (C : Ctx) (e : C.EC) (l : List (C.α e)) : List Value := l.flatMap (C.enc e)

/-- The slice value of a row that is read alone. -/
def Imm (C : Ctx) (w : World) (v : Value) (e : C.EC) (l : List (C.α e)) : Prop := ∃ A c, v = .slice A l.length c ∧ Rd (C.enc e) (C.sz e) w A l.length c l

def Holds (w : World) (σ : Nat → Value) (v : Value) (f : Nat → Prop) : Chunk C → Prop
  | .gone => True
  | .box cells => ∃ b t cs, v = .pointer (some ⟨b, 0, none⟩) ∧ (∀ k, f k ↔ k = b) ∧ w.heap[b]? = some (.cells cs t (0, 0)) ∧ Rels (At.rel σ) cells cs.toList
  | .row true e l => w.ownsRow 0 (C.tid e) (C.sz e) v l.length (flat C e l) ∧ (∀ k, f k ↔ v.ownBlock = some k)
  | .row false e l => Imm C w v e l ∧ (∀ k, ¬ f k)
  | .abs x => C.I x w v f ∧ ∃ b, v = .pointer (some ⟨b, 0, none⟩)

structure Sat (C : Ctx) (σ : Nat → Value) (φ : Nat → Nat → Prop) (w : World) (H : List (Chunk C)) : Prop where
  holds : ∀ (n : Nat) (c : Chunk C), H[n]? = some c → Holds w σ (σ n) (φ n) c
  dis : ∀ n m b, φ n b → φ m b → n = m
  bd : ∀ n b, φ n b → b < w.heap.size
  imm : ∀ (n : Nat) e l, H[n]? = some (.row false e l) → 0 < l.length → ∀ b, (σ n).ownBlock = some b → ∀ m, ¬ φ m b
  out : ∀ n, H.length ≤ n → ∀ b, ¬ φ n b
  cl : ∀ (n : Nat) (c : Chunk C), H[n]? = some c → ∀ m ∈ c.names, m < H.length

/-- The world went on: blocks outside the footprints φ are as they were, what is owned now was owned before or is new. -/
structure Adv (φ : Nat → Nat → Prop) (w : World) (φ' : Nat → Nat → Prop) (w' : World) : Prop where
  os : w'.os = w.os
  tape : w'.tape = w.tape
  output : w'.output = w.output
  size : w.heap.size ≤ w'.heap.size
  fr : ∀ k, k < w.heap.size → (∀ n, ¬ φ n k) → w'.heap[k]? = w.heap[k]?
  grow : ∀ n b, φ' n b → (∃ m, φ m b) ∨ w.heap.size ≤ b

theorem Adv.refl (φ : Nat → Nat → Prop) (w : World) : Adv φ w φ w := ⟨rfl, rfl, rfl, Nat.le_refl _, fun _ _ _ => rfl, fun n b h => .inl ⟨n, h⟩⟩
theorem Adv.trans {φ φ' φ'' : Nat → Nat → Prop} {w w' w'' : World} (h : Adv φ w φ' w') (h' : Adv φ' w' φ'' w'') : Adv φ w φ'' w'' where
  os := h'.os.trans h.os
  tape := h'.tape.trans h.tape
  output := h'.output.trans h.output
  size := Nat.le_trans h.size h'.size
  fr k hk hn := (h'.fr k (Nat.lt_of_lt_of_le hk h.size) fun n hh => by
    rcases h.grow n k hh with ⟨m, hm⟩ | hle
    · exact hn m hm
    · omega).trans (h.fr k hk hn)
  grow n b hb := by
    rcases h'.grow n b hb with ⟨m, hm⟩ | hle
    · exact h.grow m b hm
    · exact .inr (Nat.le_trans h.size hle)

theorem Imm.keep {w w' : World} {v : Value} {e : C.EC} {l : List (C.α e)} (h : Imm C w v e l) (hs : w.heap.size ≤ w'.heap.size) (hb : 0 < l.length → ∀ b, v.ownBlock = some b → b < w.heap.size → w'.heap[b]? = w.heap[b]?) : Imm C w' v e l := by
  obtain ⟨A, c, rfl, hr⟩ := h
  refine ⟨A, c, rfl, ⟨hr.len, hr.cap, hr.max, hr.row, hr.nul, fun hn => ?_⟩⟩
  obtain ⟨b, o, rfl, hlt, hc⟩ := hr.get hn
  exact ⟨b, o, rfl, by omega, fun k x hx j u hu => (World.cell?_of_block (hb hn b rfl hlt)).trans (hc k x hx j u hu)⟩

theorem Imm.lt {w : World} {v : Value} {e : C.EC} {l : List (C.α e)} (h : Imm C w v e l) (hl : 0 < l.length) {b : Nat} (hb : v.ownBlock = some b) : b < w.heap.size := by
  obtain ⟨A, c, rfl, hr⟩ := h
  obtain ⟨b', o, rfl, hlt, _⟩ := hr.get hl
  simp [Value.ownBlock] at hb
  omega

theorem Holds.keep (hC : C.OK) {w w' : World} {σ σ' : Nat → Value} {v : Value} {f : Nat → Prop} {c : Chunk C} (h : Holds w σ v f c) (hs : w.heap.size ≤ w'.heap.size) (hf : ∀ b, f b → w'.heap[b]? = w.heap[b]?)
    (hi : ∀ e l, c = .row false e l → 0 < l.length → ∀ b, v.ownBlock = some b → b < w.heap.size → w'.heap[b]? = w.heap[b]?) (hn : ∀ n ∈ c.names, σ' n = σ n) : Holds w' σ' v f c := by
  match c with
  | .gone => trivial
  | .box cells =>
    obtain ⟨b, t, cs, h1, h2, h3, h4⟩ := h
    exact ⟨b, t, cs, h1, h2, (hf b ((h2 b).2 rfl)).trans h3, h4.mono fun a u ha hr => At.rel_of hr fun n hm => hn n (List.mem_flatMap.2 ⟨a, ha, hm⟩)⟩
  | .row true e l =>
    obtain ⟨⟨h1, h2⟩, h3⟩ := h
    refine ⟨⟨h1, ?_⟩, h3⟩
    rcases h2 with h2 | ⟨g, cap, cur, rfl, hg, hh, rest⟩
    · exact .inl h2
    · exact .inr ⟨g, cap, cur, rfl, hg, (hf g ((h3 g).2 rfl)).trans hh, rest⟩
  | .row false e l => exact ⟨h.1.keep hs (hi e l rfl), h.2⟩
  | .abs x => exact ⟨hC.local_ _ _ _ _ _ h.1 hs hf, h.2⟩

/-- One step: the names S are touched, all others keep their chunk. -/
theorem Sat.step (hC : C.OK) {σ σ' : Nat → Value} {φ φ' : Nat → Nat → Prop} {w w' : World} {H H' : List (Chunk C)} (h : Sat C σ φ w H) (S : Nat → Prop)
    (hsz : w.heap.size ≤ w'.heap.size) (hfr : ∀ k, k < w.heap.size → (∀ n, S n → ¬ φ n k) → w'.heap[k]? = w.heap[k]?)
    (hold : ∀ n, ¬ S n → H'[n]? = H[n]? ∧ σ' n = σ n ∧ (∀ b, φ' n b ↔ φ n b))
    (hmen : ∀ (n : Nat) (c : Chunk C), ¬ S n → H[n]? = some c → ∀ m ∈ c.names, σ' m = σ m)
    (hnew : ∀ (n : Nat) (c : Chunk C), S n → H'[n]? = some c → Holds w' σ' (σ' n) (φ' n) c)
    (hgrow : ∀ n b, S n → φ' n b → (∃ m, S m ∧ φ m b) ∨ w.heap.size ≤ b)
    (hdis : ∀ n m b, S n → S m → φ' n b → φ' m b → n = m)
    (hbd : ∀ n b, S n → φ' n b → b < w'.heap.size)
    (himm : ∀ (n : Nat) e l, S n → H'[n]? = some (.row false e l) → 0 < l.length → ∀ b, (σ' n).ownBlock = some b → ∀ m, ¬ φ' m b)
    (hout : ∀ n, H'.length ≤ n → ∀ b, ¬ φ' n b) (hlen : H.length ≤ H'.length) (hcl : ∀ (n : Nat) (c : Chunk C), S n → H'[n]? = some c → ∀ m ∈ c.names, m < H'.length) : Sat C σ' φ' w' H' where
  holds n c hc := by
    by_cases hS : S n
    · exact hnew n c hS hc
    · obtain ⟨h1, h2, h3⟩ := hold n hS
      rw [h1] at hc
      have hh := h.holds n c hc
      rw [h2]
      have hk : Holds w' σ' (σ n) (φ n) c := hh.keep hC hsz (fun b hb => hfr b (h.bd n b hb) fun m hm hb' => hS (by rw [h.dis n m b hb hb']; exact hm))
        (fun e l he hl b hb hlt => hfr b hlt fun m _ hb' => h.imm n e l (by rw [hc, he]) hl b hb m hb') (hmen n c hS hc)
      have : φ' n = φ n := funext fun b => propext (h3 b)
      rw [this]; exact hk
  dis n m b h1 h2 := by
    by_cases hn : S n <;> by_cases hm : S m
    · exact hdis n m b hn hm h1 h2
    · have h2' := ((hold m hm).2.2 b).1 h2
      rcases hgrow n b hn h1 with ⟨k, hk, hb⟩ | hle
      · exact absurd (h.dis k m b hb h2') (fun e => hm (e ▸ hk))
      · exact absurd (h.bd m b h2') (by omega)
    · have h1' := ((hold n hn).2.2 b).1 h1
      rcases hgrow m b hm h2 with ⟨k, hk, hb⟩ | hle
      · exact absurd (h.dis k n b hb h1') (fun e => hn (e ▸ hk))
      · exact absurd (h.bd n b h1') (by omega)
    · exact h.dis n m b (((hold n hn).2.2 b).1 h1) (((hold m hm).2.2 b).1 h2)
  bd n b hb := by
    by_cases hn : S n
    · exact hbd n b hn hb
    · exact Nat.lt_of_lt_of_le (h.bd n b (((hold n hn).2.2 b).1 hb)) hsz
  imm n e l hl hpos b hb m hm := by
    by_cases hn : S n
    · exact himm n e l hn hl hpos b hb m hm
    · obtain ⟨h1, h2, _⟩ := hold n hn
      rw [h1] at hl
      rw [h2] at hb
      by_cases hmS : S m
      · rcases hgrow m b hmS hm with ⟨k, _, hb'⟩ | hle
        · exact h.imm n e l hl hpos b hb k hb'
        · have := (h.holds n _ hl).1.lt hpos hb; omega
      · exact h.imm n e l hl hpos b hb m (((hold m hmS).2.2 b).1 hm)
  out := hout
  cl n c hc m hm := by
    by_cases hS : S n
    · exact hcl n c hS hc m hm
    · rw [(hold n hS).1] at hc
      exact Nat.lt_of_lt_of_le (h.cl n c hc m hm) hlen

theorem Sat.drawn {σ : Nat → Value} {φ : Nat → Nat → Prop} {w : World} {H : List (Chunk C)} (hC : C.OK) (h : Sat C σ φ w H) (k : Nat) : Sat C σ φ { w with drawn := k } H :=
  h.step hC (fun _ => False) (Nat.le_refl _) (fun _ _ _ => rfl) (fun _ _ => ⟨rfl, rfl, fun _ => Iff.rfl⟩) (fun _ _ _ _ _ _ => rfl) (fun _ _ h => h.elim) (fun _ _ h => h.elim)
    (fun _ _ _ h => h.elim) (fun _ _ h => h.elim) (fun _ _ _ h => h.elim) h.out (Nat.le_refl _) (fun _ _ h => h.elim)

/-- A new name. -/
theorem Sat.new (hC : C.OK) {σ : Nat → Value} {φ : Nat → Nat → Prop} {w w' : World} {H : List (Chunk C)} (h : Sat C σ φ w H) (c : Chunk C) (v : Value) (f : Nat → Prop)
    (hsz : w.heap.size ≤ w'.heap.size) (hfr : ∀ k, k < w.heap.size → w'.heap[k]? = w.heap[k]?)
    (hc : ∀ n, n ∉ c.names → Holds w' (fun k => if k = n then v else σ k) v f c) (hnm : ∀ n ∈ c.names, n < H.length)
    (hf : ∀ b, f b → w.heap.size ≤ b ∧ b < w'.heap.size)
    (himm : ∀ e l, c = .row false e l → 0 < l.length → ∀ b, v.ownBlock = some b → (∀ m, ¬ φ m b)) (himm2 : ∀ e l, c = .row false e l → ∀ b, ¬ f b) :
    Sat C (fun k => if k = H.length then v else σ k) (fun k => if k = H.length then f else φ k) w' (H ++ [c]) := by
  refine h.step hC (fun n => n = H.length) hsz (fun k hk _ => hfr k hk) (fun n hn => ?_) (fun n d hn hd m hm => ?_) (fun n d hn hd => ?_) (fun n b hn hb => ?_) (fun n m b hn hm _ _ => hn.trans hm.symm) (fun n b hn hb => ?_) (fun n e l hn hl hpos b hb m hm => ?_) (fun n hn b hb => ?_) (by simp) (fun n d hn hd m hm => ?_)
  · have hn' : ¬ n = H.length := hn
    refine ⟨?_, by simp [hn'], fun b => by simp [hn']⟩
    rcases Nat.lt_or_ge n H.length with hlt | hge
    · rw [List.getElem?_append_left hlt]
    · rw [List.getElem?_eq_none (by simp; omega), List.getElem?_eq_none hge]
  · have := h.cl n d hd m hm
    simp [Nat.ne_of_lt this]
  · have hn' : n = H.length := hn
    subst hn'
    simp at hd; subst hd
    simp only [if_true]
    exact hc _ fun hm => by have := hnm _ hm; omega
  · have hn' : n = H.length := hn
    subst hn'
    simp only [if_true] at hb
    exact .inr (hf b hb).1
  · have hn' : n = H.length := hn
    subst hn'
    simp only [if_true] at hb
    exact (hf b hb).2
  · have hn' : n = H.length := hn
    subst hn'
    simp at hl; subst hl
    simp only [if_true] at hb
    by_cases hm' : m = H.length
    · subst hm'; simp only [if_true] at hm; exact himm2 e l rfl b hm
    · simp only [if_neg hm'] at hm; exact himm e l rfl hpos b hb m hm
  · rw [List.length_append, List.length_singleton] at hn
    rw [if_neg (by omega)] at hb
    exact h.out n (by omega) b hb
  · have hn' : n = H.length := hn
    subst hn'
    simp at hd; subst hd
    have := hnm m hm
    simp; omega
end
end Go.Proofs.Ytacdmmomkngpkaa.Sx
