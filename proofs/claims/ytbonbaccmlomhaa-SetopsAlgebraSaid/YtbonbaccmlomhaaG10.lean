/- A part of the proof. -/
import Derived.Test.YtbonbaccmlomhaaG5
import Derived.Test.YtbonbaccmlomhaaG1
import Derived.Test.YtbonbaccmlomhaaG9
import Derived.Test.YtbonbaccmlomhaaG8
import Derived.Test.YtbonbaccmlomhaaG2
import Derived.Test.YtbonbaccmlomhaaG4
section
/- What is still to come of two trees, as plain data: what a walk through both finds is the patch between their lists. -/
namespace Go.Proofs.Ytbonbaccmlomhaa.Sx
open Go

def itZ : ItemT := ⟨0, 0, 0, 0, false⟩
def lastI (l : List ItemT) : ItemT := l.getLastD itZ
def pushL (S : Arn) (l : List ItemT) (i : Int) : List ItemT := if i = 0 then l else l ++ [⟨i, (S.nd i).size, 0, 0, false⟩]
def expL (S : Arn) (l : List ItemT) : List ItemT := pushL S (pushL S l.dropLast (S.nd (lastI l).index).right ++ [⟨0, 0, (S.nd (lastI l).index).key, (S.nd (lastI l).index).value, true⟩]) (S.nd (lastI l).index).left

inductive Part where
  | tr (t : Tr)
  | en (e : Ent)
def Part.list : Part → List Ent
  | .tr t => t.list
  | .en e => [e]
def Part.w : Part → Nat
  | .tr t => 2 * t.size
  | .en _ => 1
def flatP (ps : List Part) : List Ent := ps.flatMap Part.list
def wgt : List Part → Nat
  | [] => 0
  | p :: ps => p.w + wgt ps
def PartR (S : Arn) : Part → ItemT → Prop
  | .tr t, x => x.single = false ∧ S.us x.index = true ∧ Rep S t x.index ∧ x.size = t.size
  | .en e, x => x.single = true ∧ x.key = e.1 ∧ x.value = e.2
def StkR (S : Arn) : List Part → List ItemT → Prop
  | [], l => l = []
  | p :: ps, l => l ≠ [] ∧ PartR S p (lastI l) ∧ StkR S ps l.dropLast
def trP (t : Tr) (ps : List Part) : List Part := match t with
  | .nil => ps
  | .node .. => .tr t :: ps

variable {S : Arn} {hs : List Int}
theorem lastI_snoc (l : List ItemT) (x : ItemT) : lastI (l ++ [x]) = x := by simp [lastI]
theorem lastI_at {l : List ItemT} (h : l ≠ []) : l.dropLast ++ [lastI l] = l := by
  unfold lastI
  rw [List.getLastD_eq_getLast?, List.getLast?_eq_some_getLast h]
  exact List.dropLast_concat_getLast h
theorem StkR.push {ps : List Part} {l : List ItemT} (h : StkR S ps l) {p : Part} {x : ItemT} (hp : PartR S p x) : StkR S (p :: ps) (l ++ [x]) :=
  ⟨by simp, by rw [lastI_snoc]; exact hp, by rw [List.dropLast_concat]; exact h⟩
theorem flatP_trP (t : Tr) (ps : List Part) : flatP (trP t ps) = t.list ++ flatP ps := by
  cases t <;> simp [trP, flatP, Part.list, Tr.list]
theorem wgt_trP (t : Tr) (ps : List Part) : wgt (trP t ps) = 2 * t.size + wgt ps := by
  cases t <;> simp [trP, wgt, Part.w, Tr.size]
theorem StkR.tree (w : Wf S hs) {ps : List Part} {l : List ItemT} (h : StkR S ps l) {t : Tr} {i : Int} (hr : Rep S t i) : StkR S (trP t ps) (pushL S l i) := by
  cases t with
  | nil =>
    have : i = 0 := hr
    subst this
    simpa [trP, pushL] using h
  | node a k v b =>
    have hu := hr.1
    have := (w.pos hu).1
    rw [pushL, if_neg (by omega)]
    exact h.push (show PartR S (.tr (.node a k v b)) _ from ⟨rfl, hu, hr, hr.size w⟩)
theorem StkR.exp (w : Wf S hs) {a b : Tr} {k v : Int} {ps : List Part} {l : List ItemT} (h : StkR S (.tr (.node a k v b) :: ps) l) : StkR S (trP a (.en (k, v) :: trP b ps)) (expL S l) := by
  obtain ⟨_, ⟨_, _, ⟨_, h2, h3, h4, h5⟩, _⟩, h6⟩ := h
  exact ((h6.tree w h5).push (show PartR S (.en (k, v)) _ from ⟨rfl, h2, h3⟩)).tree w h4
theorem StkR.len (w : Wf S hs) : ∀ {ps : List Part} {l : List ItemT}, StkR S ps l → l.length ≤ wgt ps
  | [], l, h => by have : l = [] := h; simp [this]
  | p :: ps, l, h => by
    obtain ⟨h1, h2, h3⟩ := h
    have := StkR.len w h3
    have h4 := congrArg List.length (lastI_at h1)
    rw [List.length_append] at h4
    have : 1 ≤ p.w := by
      cases p with
      | en e => exact Nat.le_refl 1
      | tr t =>
        cases t with
        | nil =>
          have h5 : (lastI l).index = 0 := h2.2.2.1
          have := (w.pos h2.2.1).1
          omega
        | node a k v b => simp [Part.w, Tr.size]; omega
    simp only [wgt, List.length_singleton] at *
    omega
theorem StkR.empty {ps : List Part} (h : StkR S ps []) : ps = [] := by
  cases ps with
  | nil => rfl
  | cons p ps => exact absurd rfl h.1
theorem StkR.cons {ps : List Part} {l : List ItemT} (h : StkR S ps l) (hl : l ≠ []) : ∃ p qs, ps = p :: qs ∧ PartR S p (lastI l) ∧ StkR S qs l.dropLast := by
  cases ps with
  | nil => exact absurd h hl
  | cons p ps => exact ⟨p, ps, rfl, h.2⟩
theorem PartR.tree (w : Wf S hs) {p : Part} {x : ItemT} (h : PartR S p x) (hx : x.single = false) : ∃ a k v b, p = .tr (.node a k v b) ∧ S.us x.index = true ∧ Rep S (.node a k v b) x.index ∧ x.size = 1 + a.size + b.size := by
  cases p with
  | en e => have := h.1; rw [hx] at this; cases this
  | tr t =>
    cases t with
    | nil =>
      have h5 : x.index = 0 := h.2.2.1
      have := (w.pos h.2.1).1
      omega
    | node a k v b => exact ⟨a, k, v, b, rfl, h.2.1, h.2.2.1, by rw [h.2.2.2]; simp [Tr.size]⟩
theorem PartR.ent {p : Part} {x : ItemT} (h : PartR S p x) (hx : x.single = true) : p = .en (x.key, x.value) := by
  cases p with
  | en e => obtain ⟨_, h1, h2⟩ := h; rw [h1, h2]
  | tr t => have := h.1; rw [hx] at this; cases this

/-! ### What a visitor finds -/
def goV {σ : Type} (f : Chg → σ → σ × Bool) : σ → List Chg → σ
  | s, [] => s
  | s, c :: cs => if (f c s).2 then goV f (f c s).1 cs else (f c s).1
def stepV {σ : Type} (f : Chg → σ → σ × Bool) (cs : List Chg) (s : σ) : σ × Bool := match cs with
  | [] => (s, true)
  | c :: _ => f c s
/-- What a pair says. -/
def pairC (k l r : Int) (inL inR : Bool) : List Chg := if inL then (if inR then (if l = r then [] else [⟨3, k, l, r⟩]) else [⟨2, k, l, 0⟩]) else [⟨1, k, 0, r⟩]
theorem pE_common (l A B : List Ent) : pE (l ++ A) (l ++ B) = l.map (fun x => (some x, some x)) ++ pE A B := by
  induction l with
  | nil => rfl
  | cons x l ih =>
    show pairs Prod.fst Prod.fst (x :: (l ++ A)) (x :: (l ++ B)) = _
    rw [pairs, if_neg (by omega), if_neg (by omega)]
    exact congrArg _ ih
theorem btw_common (l A B : List Ent) : btw (l ++ A) (l ++ B) = btw A B := by
  unfold btw
  rw [pE_common, List.flatMap_append]
  have : (l.map fun x => (some x, some x)).flatMap btw1 = [] := by
    rw [List.flatMap_eq_nil_iff]
    intro z hz
    obtain ⟨x, _, rfl⟩ := List.mem_map.1 hz
    simp [btw1, mkChg]
  rw [this]; rfl
/-! ### The walk's steps -/
def wI (x : ItemT) : Nat := if x.single then 1 else 2 * x.size.toNat
def wL (l : List ItemT) : Nat := (l.map wI).sum
theorem wL_snoc (l : List ItemT) (x : ItemT) : wL (l ++ [x]) = wL l + wI x := by simp [wL]
theorem wL_last {l : List ItemT} (h : l ≠ []) : wL l = wL l.dropLast + wI (lastI l) := by
  conv => lhs; rw [← lastI_at h]
  exact wL_snoc _ _
theorem StkR.wgt : ∀ {ps : List Part} {l : List ItemT}, StkR S ps l → wL l = Sx.wgt ps
  | [], l, h => by have : l = [] := h; subst this; rfl
  | p :: ps, l, h => by
    obtain ⟨h1, h2, h3⟩ := h
    rw [wL_last h1, StkR.wgt h3, Sx.wgt]
    have : wI (lastI l) = p.w := by
      cases p with
      | en e => have := h2.1; simp [wI, this, Part.w]
      | tr t => have h4 := h2.1; have h5 := h2.2.2.2; simp [wI, h4, Part.w, h5]
    omega
structure PIn {σ : Type} (S : Arn) (f : Chg → σ → σ × Bool) (fin : σ) (sz : σ → Nat) (W Z : Nat) (l r : List ItemT) (s : σ) (m : Nat) : Prop where
  ex : ∃ ps qs, StkR S ps l ∧ StkR S qs r ∧ goV f s (btw (flatP ps) (flatP qs)) = fin
  rd : m + 3 * (wL l + wL r) ≤ 2 + 3 * W
  zs : sz s + (wL l + wL r) ≤ Z
section
variable {σ : Type} {f : Chg → σ → σ × Bool} {fin s : σ} {sz : σ → Nat} {W Z m : Nat} {l r : List ItemT}
theorem PIn.len (w : Wf S hs) (h : PIn S f fin sz W Z l r s m) : l.length ≤ Z ∧ r.length ≤ Z ∧ sz s ≤ Z ∧ m ≤ 2 + 3 * W := by
  obtain ⟨⟨ps, qs, h1, h2, _⟩, h3, h4⟩ := h
  have := h1.len w; have := h2.len w
  have := h1.wgt; have := h2.wgt
  omega
theorem PIn.done (h : PIn S f fin sz W Z [] [] s m) : s = fin := by
  obtain ⟨⟨ps, qs, h1, h2, h3⟩, _, _⟩ := h
  rw [h1.empty, h2.empty] at h3
  have e : btw (flatP []) (flatP []) = [] := by
    show btw [] [] = []
    unfold btw pE; rw [pairs]; rfl
  rw [e] at h3
  exact h3
theorem wL_exp (w : Wf S hs) {ps : List Part} {a b : Tr} {k v : Int} (h : StkR S (.tr (.node a k v b) :: ps) l) : wL (expL S l) + 1 = wL l := by
  have h1 := (h.exp w).wgt
  have h2 := h.wgt
  rw [wgt_trP] at h1
  simp only [Sx.wgt, Part.w, Tr.size] at h1 h2
  rw [wgt_trP] at h1
  omega
theorem flatP_exp (a b : Tr) (k v : Int) (ps : List Part) : flatP (trP a (.en (k, v) :: trP b ps)) = flatP (.tr (.node a k v b) :: ps) := by
  rw [flatP_trP]
  show a.list ++ ((k, v) :: flatP (trP b ps)) = _
  rw [flatP_trP]
  simp [flatP, Part.list, Tr.list]
theorem PIn.left (w : Wf S hs) (h : PIn S f fin sz W Z l r s m) (hl : l ≠ []) (h1 : (lastI l).single = false) : S.us (lastI l).index = true ∧ ∀ k, k ≤ 3 → PIn S f fin sz W Z (expL S l) r s (m + k) ∧ wL (expL S l) + wL r < wL l + wL r := by
  obtain ⟨⟨ps, qs, a1, a2, a3⟩, a4, a5⟩ := h
  obtain ⟨p, ps', rfl, b1, b2⟩ := a1.cons hl
  obtain ⟨x, k, v, y, rfl, d1, d2, d3⟩ := b1.tree w h1
  have e := wL_exp w a1
  refine ⟨d1, fun n hn => ⟨⟨⟨_, qs, a1.exp w, a2, ?_⟩, by omega, by omega⟩, by omega⟩⟩
  rw [flatP_exp]; exact a3
theorem PIn.right (w : Wf S hs) (h : PIn S f fin sz W Z l r s m) (hr : r ≠ []) (h1 : (lastI r).single = false) : S.us (lastI r).index = true ∧ ∀ k, k ≤ 3 → PIn S f fin sz W Z l (expL S r) s (m + k) ∧ wL l + wL (expL S r) < wL l + wL r := by
  obtain ⟨⟨ps, qs, a1, a2, a3⟩, a4, a5⟩ := h
  obtain ⟨p, qs', rfl, b1, b2⟩ := a2.cons hr
  obtain ⟨x, k, v, y, rfl, d1, d2, d3⟩ := b1.tree w h1
  have e := wL_exp w a2
  refine ⟨d1, fun n hn => ⟨⟨⟨ps, _, a1, a2.exp w, ?_⟩, by omega, by omega⟩, by omega⟩⟩
  rw [flatP_exp]; exact a3
def inL (l r : List ItemT) : Bool := decide (l ≠ []) && (decide (r = []) || decide ((lastI l).key ≤ (lastI r).key))
def popI (b : Bool) (l : List ItemT) : List ItemT := if b then l.dropLast else l
end
end Go.Proofs.Ytbonbaccmlomhaa.Sx
end
section
/- What is still to come of a tree: push, pop, top, expand. -/
namespace Go.Proofs.Ytbonbaccmlomhaa.Sx
open Go

/-KEEP Wf exW inU Arn.cap Arn.free rdS pushL lastI expL-/
abbrev chSd (l : List ItemT) (S : Arn) : List (Chunk C0) := [.box [.slc 2], .box [.ptr 3 0, .slc 4, .slc 5, vU64 S.reads], .row true EC.item l, .box [.slc 6, .slc 7, .slc 8, vU S.fresh], .row true EC.node S.nodes, .row true EC.int S.counts, .row true EC.bool S.used, .row true EC.u32 S.gen, .row true EC.u32 S.rel]
def sdM (H : List (Chunk C0)) (k : List ItemT → Arn → Prop) : Prop := match H with
  | [.box [.slc 2], .box [.ptr 3 0, .slc 4, .slc 5, .val (.int .u64 rd)], .row true .item l, .box [.slc 6, .slc 7, .slc 8, .val (.int .u32 fr)], .row true .node nd, .row true .int ct, .row true .bool us, .row true .u32 gn, .row true .u32 rl] => k l ⟨us, gn, rl, fr, nd, ct, rd⟩
  | _ => False
abbrev itA (x : ItemT) : TV := .agg [vU x.index, vI x.size, vI x.key, vI x.value, vB x.single]
noncomputable def aPush : Ann C0 := { Γ := [(49, frameT [] tSize)] }
def tPush : Tfm C0 := fun args H K => match args with
  | [.at (.ptr 0 0), .at (.ptr 1 0), .at (.val (.int .u32 i))] => sdM H fun l S => inU i ∧ exW S ∧ (i = 0 ∨ S.us i = true) ∧ S.reads < 4000000000000000000 ∧ l.length ≤ 1000000 ∧ ∀ l' S' m, l' = pushL S l i → S' = rdS S m → m ≤ 1 → K (.tup []) (chSd l' S') [0, 1, 2]
  | _ => False
noncomputable def aPop : Ann C0 := { Γ := [], trunc := fun n => n = 13 }
def tPop : Tfm C0 := fun args H K => match args, H with
  | [.at (.ptr 0 0)], [.box [.slc 1], .row true .item l] => 0 < l.length ∧ l.length ≤ 1000000 ∧ ∀ l', l' = l.dropLast → K (.tup []) [.box [.slc 1], .row true EC.item l'] [0, 1]
  | _, _ => False
def tTop : Tfm C0 := fun args H K => match args, H with
  | [.at (.ptr 0 0)], [.box [.slc 1], .row true .item l] => l.length ≤ 1000000 ∧ ∀ x b, x = lastI l → b = decide (l ≠ []) → K (.tup [itA x, .at (vB b)]) [.box [.slc 1], .row true EC.item l] []
  | _, _ => False
noncomputable def aExp : Ann C0 := { Γ := [(152, frameT [] tTop), (153, frameT [] tPop), (63, frameT [] tNode), (151, frameT [] tPush)] }
def tExp : Tfm C0 := fun args H K => match args with
  | [.at (.ptr 0 0), .at (.ptr 1 0)] => sdM H fun l S => 0 < l.length ∧ exW S ∧ S.us (lastI l).index = true ∧ S.reads ≤ 3000000000000000000 ∧ l.length ≤ 900000 ∧ ∀ l' S' m, l' = expL S l → S' = rdS S m → m ≤ 3 → K (.tup []) (chSd l' S') [0, 1, 2]
  | _ => False
end Go.Proofs.Ytbonbaccmlomhaa.Sx
end
section
/- What the walks of treework.Pairs share. -/
namespace Go.Proofs.Ytbonbaccmlomhaa.Sx
open Go

structure XP {σ : Type} (P : List ItemT → List ItemT → σ → Nat → Bool → Prop) where
  l : List ItemT
  r : List ItemT
  s : σ
  m : Nat
  c : Bool
  h : P l r s m c
abbrev bxI (x : ItemT) : Chunk C0 := .box [vU x.index, vI x.size, vI x.key, vI x.value, vB x.single]
def relP (a b : Nat) (H : List (Chunk C0)) (l r : List ItemT) : Prop := match H[a]?, H[b]? with
  | some (.row true .item l'), some (.row true .item r') => l' = l ∧ r' = r
  | _, _ => False
def ifI (b : Bool) (x : Int) : Int := if b then x else 0
def fR (lo hi : Int) (c : Chg) (s : List Chg) : List Chg × Bool := (if lo ≤ c.key ∧ c.key ≤ hi then s ++ [c] else s, decide (c.key < hi))
def fC (_ : Chg) (s : Int) : Int × Bool := (IntKind.i64.wrap (s + 1), true)
def fF (c : Chg) (_ : Chg × Bool) : (Chg × Bool) × Bool := ((c, true), false)
def tCom : Tfm C0 := fun args H K => match args, H with
  | [], [] => K (.one (.at (vB true))) [] []
  | _, _ => False
section
variable {σ : Type} (S : Arn) (f : Chg → σ → σ × Bool) (fin : σ) (sz : σ → Nat) (W Z : Nat)
def PA0 : List ItemT → List ItemT → σ → Nat → Bool → Prop := fun l r s m _ => PIn S f fin sz W Z l r s m
def PA1 : List ItemT → List ItemT → σ → Nat → Bool → Prop := fun l r s m c => PIn S f fin sz W Z l r s m ∧ (c = true ↔ l = [] ∧ r = [])
def PA2 : List ItemT → List ItemT → σ → Nat → Bool → Prop := fun l r s m c => PIn S f fin sz W Z l r s m ∧ ¬ (l = [] ∧ r = []) ∧ (c = true → l ≠ [] ∧ r ≠ [] ∧ (lastI l).single = false ∧ (lastI r).single = false ∧ (lastI l).index = (lastI r).index)
def PA3 : List ItemT → List ItemT → σ → Nat → Bool → Prop := fun l r s m c => PIn S f fin sz W Z l r s m ∧ ¬ (l = [] ∧ r = []) ∧ (c = true → l ≠ [] ∧ (lastI l).single = false) ∧ (c = false → l ≠ [] → (lastI l).single = false → r ≠ [] ∧ (lastI r).single = false)
def PA4 : List ItemT → List ItemT → σ → Nat → Bool → Prop := fun l r s m c => PIn S f fin sz W Z l r s m ∧ ¬ (l = [] ∧ r = []) ∧ (c = true → r ≠ [] ∧ (lastI r).single = false) ∧ (c = false → (l ≠ [] → (lastI l).single = true) ∧ (r ≠ [] → (lastI r).single = true))
def PA5 : List ItemT → List ItemT → σ → Nat → Bool → Prop := fun l r s m _ => PIn S f fin sz W Z l r s m ∧ ¬ (l = [] ∧ r = []) ∧ (l ≠ [] → (lastI l).single = true) ∧ (r ≠ [] → (lastI r).single = true)
end
theorem btw_self (l : List Ent) : btw l l = [] := by
  have e := btw_common l [] []
  simp only [List.append_nil] at e
  rw [e]
  unfold btw pE; rw [pairs]; rfl
end Go.Proofs.Ytbonbaccmlomhaa.Sx
end
section
/- treework.Pairs with the visitor of diff's Range$1; this file is written by gen_pa.py. -/
namespace Go.Proofs.Ytbonbaccmlomhaa.Sx
open Go

/-KEEP Wf exW inU Arn.cap Arn.free Rep Tr.size Tr.list btw rdS pushL lastI expL inL popI wL stepV pairC goV fR fC fF-/
abbrev chR (lo hi : Int) (s : List Chg) (S : Arn) : List (Chunk C0) := [.box [.ptr 2 0, .slc 3, .slc 4, vU64 S.reads], .box [.fn 107 [5, 6, 7]], .box [.slc 8, .slc 9, .slc 10, vU S.fresh], .row true EC.node S.nodes, .row true EC.int S.counts, .box [vI lo], .box [vI hi], .box [.slc 11], .row true EC.bool S.used, .row true EC.u32 S.gen, .row true EC.u32 S.rel, .row true EC.chg s]
def mR (H : List (Chunk C0)) (k : Int → Int → List Chg → Arn → Prop) : Prop := match H with
  | [.box [.ptr 2 0, .slc 3, .slc 4, .val (.int .u64 rd)], .box [.fn 107 [5, 6, 7]], .box [.slc 8, .slc 9, .slc 10, .val (.int .u32 fr)], .row true .node nd, .row true .int ct, .box [.val (.int .i64 lo)], .box [.val (.int .i64 hi)], .box [.slc 11], .row true .bool us, .row true .u32 gn, .row true .u32 rl, .row true .chg s] => k lo hi s ⟨us, gn, rl, fr, nd, ct, rd⟩
  | _ => False
/-! ### The visitor -/
def tStepR : Tfm C0 := fun args H K => match args, H with
  | [.agg [.val (.int .i64 k), .val (.int .i64 y), .val (.int .i64 o), .val (.int .i64 n)], .at (.ptr 0 0), .at (.ptr 1 0), .at (.ptr 2 0)], [.box [.val (.int .i64 lo)], .box [.val (.int .i64 hi)], .box [.slc 3], .row true .chg s] => s.length ≤ 1000000 ∧
    ∀ s' b, (s', b) = fR lo hi ⟨k, y, o, n⟩ s → K (.one (.at (vB b))) [.box [vI lo], .box [vI hi], .box [.slc 3], .row true EC.chg s'] [2, 3]
  | _, _ => False
noncomputable def aVisR : Ann C0 := { Γ := [(107, frameT [] tStepR)] }
def tVisR : Tfm C0 := fun args H K => match args, H with
  | [.agg [.val (.int .i64 k), .val (.int .i64 x), .val (.int .i64 y), .val (.bool a), .val (.bool b), .val (.bool _), .val (.bool _)], .at (.ptr 0 0)], [.box [.fn 107 [1, 2, 3]], .box [.val (.int .i64 lo)], .box [.val (.int .i64 hi)], .box [.slc 4], .row true .chg s] => s.length ≤ 1000000 ∧ 
    ∀ s' q, (s', q) = stepV (fR lo hi) (pairC k x y a b) s → K (.one (.at (vB q))) [.box [.fn 107 [1, 2, 3]], .box [vI lo], .box [vI hi], .box [.slc 4], .row true EC.chg s'] [3, 4]
  | _, _ => False

/-! ### The walk -/
abbrev hpR (lo hi : Int) (s : List Chg) (S : Arn) (l r : List ItemT) : List (Chunk C0) := chR lo hi s S ++ [.box [.slc 14], .box [.slc 15], .row true EC.item l, .row true EC.item r]
noncomputable def aPaR (P0 P1 P2 P3 P4 P5 : List ItemT → List ItemT → List Chg → Nat → Bool → Prop) (lo hi : Int) (S : Arn) : Ann C0 := { Γ := [(151, frameT [] tPush), (152, frameT [] tTop), (153, frameT [] tPop), (154, frameT [] tExp), (133, frameT [] tCom), (135, frameT [] tVisR)], inv := fun n => match n with
  | 3 => some { X := XP P0, sl := [10, 11], tf := fun x => [.one (.at (.ptr 12 0)), .one (.at (.ptr 13 0))], hf := fun x => hpR lo hi x.s (rdS S x.m) x.l x.r, μ := fun x => wL x.l + wL x.r, wr := [0, 7, 11] }
  | 2015 => some { X := XP P1, sl := [10, 11, 12, 13, 14, 15, 90], tf := fun x => [.one (.at (.ptr 12 0)), .one (.at (.ptr 13 0)), .one (.at (.ptr 16 0)), vb (decide (x.l ≠ [])), .one (.at (.ptr 17 0)), vb (decide (x.r ≠ [])), vb x.c], hf := fun x => hpR lo hi x.s (rdS S x.m) x.l x.r ++ [bxI (lastI x.l), bxI (lastI x.r)], rel := fun _ H x => relP 14 15 H x.l x.r, wr := [0, 7, 11] }
  | 1017 => some { X := XP P2, sl := [10, 11, 12, 13, 14, 15, 97], tf := fun x => [.one (.at (.ptr 12 0)), .one (.at (.ptr 13 0)), .one (.at (.ptr 16 0)), vb (decide (x.l ≠ [])), .one (.at (.ptr 17 0)), vb (decide (x.r ≠ [])), vb x.c], hf := fun x => hpR lo hi x.s (rdS S x.m) x.l x.r ++ [bxI (lastI x.l), bxI (lastI x.r)], rel := fun _ H x => relP 14 15 H x.l x.r, wr := [0, 7, 11] }
  | 1021 => some { X := XP P3, sl := [10, 11, 12, 13, 14, 15, 124], tf := fun x => [.one (.at (.ptr 12 0)), .one (.at (.ptr 13 0)), .one (.at (.ptr 16 0)), vb (decide (x.l ≠ [])), .one (.at (.ptr 17 0)), vb (decide (x.r ≠ [])), vb x.c], hf := fun x => hpR lo hi x.s (rdS S x.m) x.l x.r ++ [bxI (lastI x.l), bxI (lastI x.r)], rel := fun _ H x => relP 14 15 H x.l x.r, wr := [0, 7, 11] }
  | 1023 => some { X := XP P4, sl := [10, 11, 12, 13, 14, 15, 148], tf := fun x => [.one (.at (.ptr 12 0)), .one (.at (.ptr 13 0)), .one (.at (.ptr 16 0)), vb (decide (x.l ≠ [])), .one (.at (.ptr 17 0)), vb (decide (x.r ≠ [])), vb x.c], hf := fun x => hpR lo hi x.s (rdS S x.m) x.l x.r ++ [bxI (lastI x.l), bxI (lastI x.r)], rel := fun _ H x => relP 14 15 H x.l x.r, wr := [0, 7, 11] }
  | 1007 => some { X := XP P5, sl := [10, 11, 12, 13, 14, 15, 16], tf := fun x => [.one (.at (.ptr 12 0)), .one (.at (.ptr 13 0)), .one (.at (.ptr 16 0)), vb (decide (x.l ≠ [])), .one (.at (.ptr 17 0)), vb (decide (x.r ≠ [])), .one (.at (.ptr 18 0))], hf := fun x => hpR lo hi x.s (rdS S x.m) x.l x.r ++ [bxI (lastI x.l), bxI (lastI x.r), .box [vI 0, vI 0, vI 0, vB (inL x.l x.r), vB false, vB (decide (x.l ≠ [])), vB (decide (x.r ≠ []))]], rel := fun _ H x => relP 14 15 H x.l x.r, wr := [0, 7, 11] }
  | 1008 => some { X := XP P5, sl := [10, 11, 12, 13, 14, 15, 16], tf := fun x => [.one (.at (.ptr 12 0)), .one (.at (.ptr 13 0)), .one (.at (.ptr 16 0)), vb (decide (x.l ≠ [])), .one (.at (.ptr 17 0)), vb (decide (x.r ≠ [])), .one (.at (.ptr 18 0))], hf := fun x => hpR lo hi x.s (rdS S x.m) x.l x.r ++ [bxI (lastI x.l), bxI (lastI x.r), .box [vI 0, vI 0, vI 0, vB (inL x.l x.r), vB (inL x.r x.l), vB (decide (x.l ≠ [])), vB (decide (x.r ≠ []))]], rel := fun _ H x => relP 14 15 H x.l x.r, wr := [0, 7, 11] }
  | 1011 => some { X := XP P5, sl := [10, 11, 12, 13, 14, 15, 16], tf := fun x => [.one (.at (.ptr 12 0)), .one (.at (.ptr 13 0)), .one (.at (.ptr 16 0)), vb (decide (x.l ≠ [])), .one (.at (.ptr 17 0)), vb (decide (x.r ≠ [])), .one (.at (.ptr 18 0))], hf := fun x => hpR lo hi x.s (rdS S x.m) (popI (inL x.l x.r) x.l) x.r ++ [bxI (lastI x.l), bxI (lastI x.r), .box [vI (ifI (inL x.l x.r) (lastI x.l).key), vI (ifI (inL x.l x.r) (lastI x.l).value), vI 0, vB (inL x.l x.r), vB (inL x.r x.l), vB (decide (x.l ≠ [])), vB (decide (x.r ≠ []))]], rel := fun _ H x => relP 14 15 H x.l x.r, wr := [0, 7, 11] }
  | _ => none }
def tPaR : Tfm C0 := fun args H K => match args with
  | [.at (.ptr 0 0), .at (.val (.int .u32 x)), .at (.val (.int .u32 y)), .at (.fn 133 []), .at (.fn 135 [1])] => mR H fun lo hi s S => ∃ hs t1 t2, Wf S hs ∧ Rep S t1 x ∧ Rep S t2 y ∧ List.length s + 2 * (t1.size + t2.size) ≤ 800000 ∧ S.reads + (2 + 6 * (t1.size + t2.size)) ≤ 3000000000000000000 ∧
    ∀ s' S' m, s' = goV (fR lo hi) s (btw t1.list t2.list) → S' = rdS S m → m ≤ 2 + 6 * (t1.size + t2.size) → K (.tup []) (chR lo hi s' S') [0, 7, 11]
  | _ => False
/-! ### each, and the function itself -/
abbrev ceR (lo hi : Int) (s : List Chg) (S : Arn) : List (Chunk C0) := [.box [.ptr 4 0, .slc 5, .slc 6, vU64 S.reads], .box [vI lo], .box [vI hi], .box [.slc 7], .box [.slc 8, .slc 9, .slc 10, vU S.fresh], .row true EC.node S.nodes, .row true EC.int S.counts, .row true EC.chg s, .row true EC.bool S.used, .row true EC.u32 S.gen, .row true EC.u32 S.rel]
def meR (H : List (Chunk C0)) (k : Int → Int → List Chg → Arn → Prop) : Prop := match H with
  | [.box [.ptr 4 0, .slc 5, .slc 6, .val (.int .u64 rd)], .box [.val (.int .i64 lo)], .box [.val (.int .i64 hi)], .box [.slc 7], .box [.slc 8, .slc 9, .slc 10, .val (.int .u32 fr)], .row true .node nd, .row true .int ct, .row true .chg s, .row true .bool us, .row true .u32 gn, .row true .u32 rl] => k lo hi s ⟨us, gn, rl, fr, nd, ct, rd⟩
  | _ => False
noncomputable def aEaR : Ann C0 := { Γ := [(134, frameT [] tPaR)] }
def tEaR : Tfm C0 := fun args H K => match args with
  | [.at (.ptr 0 0), .at (.val (.int .u32 x)), .at (.val (.int .u32 y)), .at (.fn 107 [1, 2, 3])] => meR H fun lo hi s S => ∃ hs t1 t2, Wf S hs ∧ Rep S t1 x ∧ Rep S t2 y ∧ List.length s + 2 * (t1.size + t2.size) ≤ 800000 ∧ S.reads + (2 + 6 * (t1.size + t2.size)) ≤ 3000000000000000000 ∧
    ∀ s' S' m, s' = goV (fR lo hi) s (btw t1.list t2.list) → S' = rdS S m → m ≤ 2 + 6 * (t1.size + t2.size) → (x = y → m = 0) → K (.tup []) (ceR lo hi s' S') [0, 3, 7]
  | _ => False
noncomputable def aFnR : Ann C0 := { Γ := [(106, frameT [] tEaR)] }
def tFnR : Tfm C0 := fun args H K => match args with
  | [.at (.ptr 0 0), .at (.val (.int .u32 x)), .at (.val (.int .u32 y)), .at (.val (.int .i64 lo)), .at (.val (.int .i64 hi))] => arM H fun S => ∃ hs t1 t2, Wf S hs ∧ Rep S t1 x ∧ Rep S t2 y ∧ t1.size + t2.size ≤ 300000 ∧ S.reads + (2 + 6 * (t1.size + t2.size)) ≤ 3000000000000000000 ∧
    ∀ s' S' m, s' = goV (fR lo hi) [] (btw t1.list t2.list) → S' = rdS S m → m ≤ 2 + 6 * (t1.size + t2.size) → (x = y → m = 0) → K (.one (.at (.slc 7))) (chS S' ++ [.row true EC.chg s']) [0]
  | _ => False
end Go.Proofs.Ytbonbaccmlomhaa.Sx
end
section
/- treework.Pairs with the visitor of diff's Count$1; this file is written by gen_pa.py. -/
namespace Go.Proofs.Ytbonbaccmlomhaa.Sx
open Go

/-KEEP Wf exW inU Arn.cap Arn.free Rep Tr.size Tr.list btw rdS pushL lastI expL inL popI wL stepV pairC goV fR fC fF-/
abbrev chC (s : Int) (S : Arn) : List (Chunk C0) := [.box [.ptr 2 0, .slc 3, .slc 4, vU64 S.reads], .box [.fn 119 [5]], .box [.slc 6, .slc 7, .slc 8, vU S.fresh], .row true EC.node S.nodes, .row true EC.int S.counts, .box [vI s], .row true EC.bool S.used, .row true EC.u32 S.gen, .row true EC.u32 S.rel]
def mC (H : List (Chunk C0)) (k : Int → Arn → Prop) : Prop := match H with
  | [.box [.ptr 2 0, .slc 3, .slc 4, .val (.int .u64 rd)], .box [.fn 119 [5]], .box [.slc 6, .slc 7, .slc 8, .val (.int .u32 fr)], .row true .node nd, .row true .int ct, .box [.val (.int .i64 s)], .row true .bool us, .row true .u32 gn, .row true .u32 rl] => k s ⟨us, gn, rl, fr, nd, ct, rd⟩
  | _ => False
/-! ### The visitor -/
def tStepC : Tfm C0 := fun args H K => match args, H with
  | [.agg [.val (.int .i64 k), .val (.int .i64 y), .val (.int .i64 o), .val (.int .i64 n)], .at (.ptr 0 0)], [.box [.val (.int .i64 s)]] => ∀ s' b, (s', b) = fC ⟨k, y, o, n⟩ s → K (.one (.at (vB b))) [.box [vI s']] [0]
  | _, _ => False
noncomputable def aVisC : Ann C0 := { Γ := [(119, frameT [] tStepC)] }
def tVisC : Tfm C0 := fun args H K => match args, H with
  | [.agg [.val (.int .i64 k), .val (.int .i64 x), .val (.int .i64 y), .val (.bool a), .val (.bool b), .val (.bool _), .val (.bool _)], .at (.ptr 0 0)], [.box [.fn 119 [1]], .box [.val (.int .i64 s)]] => 
    ∀ s' q, (s', q) = stepV fC (pairC k x y a b) s → K (.one (.at (vB q))) [.box [.fn 119 [1]], .box [vI s']] [1]
  | _, _ => False

/-! ### The walk -/
abbrev hpC (s : Int) (S : Arn) (l r : List ItemT) : List (Chunk C0) := chC  s S ++ [.box [.slc 11], .box [.slc 12], .row true EC.item l, .row true EC.item r]
noncomputable def aPaC (P0 P1 P2 P3 P4 P5 : List ItemT → List ItemT → Int → Nat → Bool → Prop) (S : Arn) : Ann C0 := { Γ := [(151, frameT [] tPush), (152, frameT [] tTop), (153, frameT [] tPop), (154, frameT [] tExp), (133, frameT [] tCom), (135, frameT [] tVisC)], inv := fun n => match n with
  | 3 => some { X := XP P0, sl := [10, 11], tf := fun x => [.one (.at (.ptr 9 0)), .one (.at (.ptr 10 0))], hf := fun x => hpC  x.s (rdS S x.m) x.l x.r, μ := fun x => wL x.l + wL x.r, wr := [0, 5] }
  | 2015 => some { X := XP P1, sl := [10, 11, 12, 13, 14, 15, 90], tf := fun x => [.one (.at (.ptr 9 0)), .one (.at (.ptr 10 0)), .one (.at (.ptr 13 0)), vb (decide (x.l ≠ [])), .one (.at (.ptr 14 0)), vb (decide (x.r ≠ [])), vb x.c], hf := fun x => hpC  x.s (rdS S x.m) x.l x.r ++ [bxI (lastI x.l), bxI (lastI x.r)], rel := fun _ H x => relP 11 12 H x.l x.r, wr := [0, 5] }
  | 1017 => some { X := XP P2, sl := [10, 11, 12, 13, 14, 15, 97], tf := fun x => [.one (.at (.ptr 9 0)), .one (.at (.ptr 10 0)), .one (.at (.ptr 13 0)), vb (decide (x.l ≠ [])), .one (.at (.ptr 14 0)), vb (decide (x.r ≠ [])), vb x.c], hf := fun x => hpC  x.s (rdS S x.m) x.l x.r ++ [bxI (lastI x.l), bxI (lastI x.r)], rel := fun _ H x => relP 11 12 H x.l x.r, wr := [0, 5] }
  | 1021 => some { X := XP P3, sl := [10, 11, 12, 13, 14, 15, 124], tf := fun x => [.one (.at (.ptr 9 0)), .one (.at (.ptr 10 0)), .one (.at (.ptr 13 0)), vb (decide (x.l ≠ [])), .one (.at (.ptr 14 0)), vb (decide (x.r ≠ [])), vb x.c], hf := fun x => hpC  x.s (rdS S x.m) x.l x.r ++ [bxI (lastI x.l), bxI (lastI x.r)], rel := fun _ H x => relP 11 12 H x.l x.r, wr := [0, 5] }
  | 1023 => some { X := XP P4, sl := [10, 11, 12, 13, 14, 15, 148], tf := fun x => [.one (.at (.ptr 9 0)), .one (.at (.ptr 10 0)), .one (.at (.ptr 13 0)), vb (decide (x.l ≠ [])), .one (.at (.ptr 14 0)), vb (decide (x.r ≠ [])), vb x.c], hf := fun x => hpC  x.s (rdS S x.m) x.l x.r ++ [bxI (lastI x.l), bxI (lastI x.r)], rel := fun _ H x => relP 11 12 H x.l x.r, wr := [0, 5] }
  | 1007 => some { X := XP P5, sl := [10, 11, 12, 13, 14, 15, 16], tf := fun x => [.one (.at (.ptr 9 0)), .one (.at (.ptr 10 0)), .one (.at (.ptr 13 0)), vb (decide (x.l ≠ [])), .one (.at (.ptr 14 0)), vb (decide (x.r ≠ [])), .one (.at (.ptr 15 0))], hf := fun x => hpC  x.s (rdS S x.m) x.l x.r ++ [bxI (lastI x.l), bxI (lastI x.r), .box [vI 0, vI 0, vI 0, vB (inL x.l x.r), vB false, vB (decide (x.l ≠ [])), vB (decide (x.r ≠ []))]], rel := fun _ H x => relP 11 12 H x.l x.r, wr := [0, 5] }
  | 1008 => some { X := XP P5, sl := [10, 11, 12, 13, 14, 15, 16], tf := fun x => [.one (.at (.ptr 9 0)), .one (.at (.ptr 10 0)), .one (.at (.ptr 13 0)), vb (decide (x.l ≠ [])), .one (.at (.ptr 14 0)), vb (decide (x.r ≠ [])), .one (.at (.ptr 15 0))], hf := fun x => hpC  x.s (rdS S x.m) x.l x.r ++ [bxI (lastI x.l), bxI (lastI x.r), .box [vI 0, vI 0, vI 0, vB (inL x.l x.r), vB (inL x.r x.l), vB (decide (x.l ≠ [])), vB (decide (x.r ≠ []))]], rel := fun _ H x => relP 11 12 H x.l x.r, wr := [0, 5] }
  | 1011 => some { X := XP P5, sl := [10, 11, 12, 13, 14, 15, 16], tf := fun x => [.one (.at (.ptr 9 0)), .one (.at (.ptr 10 0)), .one (.at (.ptr 13 0)), vb (decide (x.l ≠ [])), .one (.at (.ptr 14 0)), vb (decide (x.r ≠ [])), .one (.at (.ptr 15 0))], hf := fun x => hpC  x.s (rdS S x.m) (popI (inL x.l x.r) x.l) x.r ++ [bxI (lastI x.l), bxI (lastI x.r), .box [vI (ifI (inL x.l x.r) (lastI x.l).key), vI (ifI (inL x.l x.r) (lastI x.l).value), vI 0, vB (inL x.l x.r), vB (inL x.r x.l), vB (decide (x.l ≠ [])), vB (decide (x.r ≠ []))]], rel := fun _ H x => relP 11 12 H x.l x.r, wr := [0, 5] }
  | _ => none }
def tPaC : Tfm C0 := fun args H K => match args with
  | [.at (.ptr 0 0), .at (.val (.int .u32 x)), .at (.val (.int .u32 y)), .at (.fn 133 []), .at (.fn 135 [1])] => mC H fun  s S => ∃ hs t1 t2, Wf S hs ∧ Rep S t1 x ∧ Rep S t2 y ∧ (fun _ => 0) s + 2 * (t1.size + t2.size) ≤ 800000 ∧ S.reads + (2 + 6 * (t1.size + t2.size)) ≤ 3000000000000000000 ∧
    ∀ s' S' m, s' = goV fC s (btw t1.list t2.list) → S' = rdS S m → m ≤ 2 + 6 * (t1.size + t2.size) → K (.tup []) (chC  s' S') [0, 5]
  | _ => False
/-! ### each, and the function itself -/
abbrev ceC (s : Int) (S : Arn) : List (Chunk C0) := [.box [.ptr 2 0, .slc 3, .slc 4, vU64 S.reads], .box [vI s], .box [.slc 5, .slc 6, .slc 7, vU S.fresh], .row true EC.node S.nodes, .row true EC.int S.counts, .row true EC.bool S.used, .row true EC.u32 S.gen, .row true EC.u32 S.rel]
def meC (H : List (Chunk C0)) (k : Int → Arn → Prop) : Prop := match H with
  | [.box [.ptr 2 0, .slc 3, .slc 4, .val (.int .u64 rd)], .box [.val (.int .i64 s)], .box [.slc 5, .slc 6, .slc 7, .val (.int .u32 fr)], .row true .node nd, .row true .int ct, .row true .bool us, .row true .u32 gn, .row true .u32 rl] => k s ⟨us, gn, rl, fr, nd, ct, rd⟩
  | _ => False
noncomputable def aEaC : Ann C0 := { Γ := [(134, frameT [] tPaC)] }
def tEaC : Tfm C0 := fun args H K => match args with
  | [.at (.ptr 0 0), .at (.val (.int .u32 x)), .at (.val (.int .u32 y)), .at (.fn 119 [1])] => meC H fun  s S => ∃ hs t1 t2, Wf S hs ∧ Rep S t1 x ∧ Rep S t2 y ∧ (fun _ => 0) s + 2 * (t1.size + t2.size) ≤ 800000 ∧ S.reads + (2 + 6 * (t1.size + t2.size)) ≤ 3000000000000000000 ∧
    ∀ s' S' m, s' = goV fC s (btw t1.list t2.list) → S' = rdS S m → m ≤ 2 + 6 * (t1.size + t2.size) → (x = y → m = 0) → K (.tup []) (ceC  s' S') [0, 1]
  | _ => False
noncomputable def aFnC : Ann C0 := { Γ := [(106, frameT [] tEaC)] }
def tFnC : Tfm C0 := fun args H K => match args with
  | [.at (.ptr 0 0), .at (.val (.int .u32 x)), .at (.val (.int .u32 y))] => arM H fun S => ∃ hs t1 t2, Wf S hs ∧ Rep S t1 x ∧ Rep S t2 y ∧ t1.size + t2.size ≤ 300000 ∧ S.reads + (2 + 6 * (t1.size + t2.size)) ≤ 3000000000000000000 ∧
    ∀ s' S' m, s' = goV fC 0 (btw t1.list t2.list) → S' = rdS S m → m ≤ 2 + 6 * (t1.size + t2.size) → (x = y → m = 0) → K (.one (.at (vI s'))) (chS S') [0]
  | _ => False
end Go.Proofs.Ytbonbaccmlomhaa.Sx
end
section
/- treework.Pairs with the visitor of diff's First$1; this file is written by gen_pa.py. -/
namespace Go.Proofs.Ytbonbaccmlomhaa.Sx
open Go

/-KEEP Wf exW inU Arn.cap Arn.free Rep Tr.size Tr.list btw rdS pushL lastI expL inL popI wL stepV pairC goV fR fC fF-/
abbrev chF (s : Chg × Bool) (S : Arn) : List (Chunk C0) := [.box [.ptr 2 0, .slc 3, .slc 4, vU64 S.reads], .box [.fn 120 [5, 6]], .box [.slc 7, .slc 8, .slc 9, vU S.fresh], .row true EC.node S.nodes, .row true EC.int S.counts, .box [vI s.1.kind, vI s.1.key, vI s.1.old, vI s.1.new], .box [vB s.2], .row true EC.bool S.used, .row true EC.u32 S.gen, .row true EC.u32 S.rel]
def mF (H : List (Chunk C0)) (k : Chg × Bool → Arn → Prop) : Prop := match H with
  | [.box [.ptr 2 0, .slc 3, .slc 4, .val (.int .u64 rd)], .box [.fn 120 [5, 6]], .box [.slc 7, .slc 8, .slc 9, .val (.int .u32 fr)], .row true .node nd, .row true .int ct, .box [.val (.int .i64 sk), .val (.int .i64 sy), .val (.int .i64 so), .val (.int .i64 sn)], .box [.val (.bool sb)], .row true .bool us, .row true .u32 gn, .row true .u32 rl] => k (⟨sk, sy, so, sn⟩, sb) ⟨us, gn, rl, fr, nd, ct, rd⟩
  | _ => False
/-! ### The visitor -/
def tStepF : Tfm C0 := fun args H K => match args, H with
  | [.agg [.val (.int .i64 k), .val (.int .i64 y), .val (.int .i64 o), .val (.int .i64 n)], .at (.ptr 0 0), .at (.ptr 1 0)], [.box [.val (.int .i64 sk), .val (.int .i64 sy), .val (.int .i64 so), .val (.int .i64 sn)], .box [.val (.bool sb)]] =>
    ∀ s' b, (s', b) = fF ⟨k, y, o, n⟩ (⟨sk, sy, so, sn⟩, sb) → K (.one (.at (vB b))) [.box [vI s'.1.kind, vI s'.1.key, vI s'.1.old, vI s'.1.new], .box [vB s'.2]] [0, 1]
  | _, _ => False
noncomputable def aVisF : Ann C0 := { Γ := [(120, frameT [] tStepF)] }
def tVisF : Tfm C0 := fun args H K => match args, H with
  | [.agg [.val (.int .i64 k), .val (.int .i64 x), .val (.int .i64 y), .val (.bool a), .val (.bool b), .val (.bool _), .val (.bool _)], .at (.ptr 0 0)], [.box [.fn 120 [1, 2]], .box [.val (.int .i64 sk), .val (.int .i64 sy), .val (.int .i64 so), .val (.int .i64 sn)], .box [.val (.bool sb)]] => 
    ∀ s' q, (s', q) = stepV fF (pairC k x y a b) (⟨sk, sy, so, sn⟩, sb) → K (.one (.at (vB q))) [.box [.fn 120 [1, 2]], .box [vI s'.1.kind, vI s'.1.key, vI s'.1.old, vI s'.1.new], .box [vB s'.2]] [1, 2]
  | _, _ => False

/-! ### The walk -/
abbrev hpF (s : Chg × Bool) (S : Arn) (l r : List ItemT) : List (Chunk C0) := chF  s S ++ [.box [.slc 12], .box [.slc 13], .row true EC.item l, .row true EC.item r]
noncomputable def aPaF (P0 P1 P2 P3 P4 P5 : List ItemT → List ItemT → Chg × Bool → Nat → Bool → Prop) (S : Arn) : Ann C0 := { Γ := [(151, frameT [] tPush), (152, frameT [] tTop), (153, frameT [] tPop), (154, frameT [] tExp), (133, frameT [] tCom), (135, frameT [] tVisF)], inv := fun n => match n with
  | 3 => some { X := XP P0, sl := [10, 11], tf := fun x => [.one (.at (.ptr 10 0)), .one (.at (.ptr 11 0))], hf := fun x => hpF  x.s (rdS S x.m) x.l x.r, μ := fun x => wL x.l + wL x.r, wr := [0, 5, 6] }
  | 2015 => some { X := XP P1, sl := [10, 11, 12, 13, 14, 15, 90], tf := fun x => [.one (.at (.ptr 10 0)), .one (.at (.ptr 11 0)), .one (.at (.ptr 14 0)), vb (decide (x.l ≠ [])), .one (.at (.ptr 15 0)), vb (decide (x.r ≠ [])), vb x.c], hf := fun x => hpF  x.s (rdS S x.m) x.l x.r ++ [bxI (lastI x.l), bxI (lastI x.r)], rel := fun _ H x => relP 12 13 H x.l x.r, wr := [0, 5, 6] }
  | 1017 => some { X := XP P2, sl := [10, 11, 12, 13, 14, 15, 97], tf := fun x => [.one (.at (.ptr 10 0)), .one (.at (.ptr 11 0)), .one (.at (.ptr 14 0)), vb (decide (x.l ≠ [])), .one (.at (.ptr 15 0)), vb (decide (x.r ≠ [])), vb x.c], hf := fun x => hpF  x.s (rdS S x.m) x.l x.r ++ [bxI (lastI x.l), bxI (lastI x.r)], rel := fun _ H x => relP 12 13 H x.l x.r, wr := [0, 5, 6] }
  | 1021 => some { X := XP P3, sl := [10, 11, 12, 13, 14, 15, 124], tf := fun x => [.one (.at (.ptr 10 0)), .one (.at (.ptr 11 0)), .one (.at (.ptr 14 0)), vb (decide (x.l ≠ [])), .one (.at (.ptr 15 0)), vb (decide (x.r ≠ [])), vb x.c], hf := fun x => hpF  x.s (rdS S x.m) x.l x.r ++ [bxI (lastI x.l), bxI (lastI x.r)], rel := fun _ H x => relP 12 13 H x.l x.r, wr := [0, 5, 6] }
  | 1023 => some { X := XP P4, sl := [10, 11, 12, 13, 14, 15, 148], tf := fun x => [.one (.at (.ptr 10 0)), .one (.at (.ptr 11 0)), .one (.at (.ptr 14 0)), vb (decide (x.l ≠ [])), .one (.at (.ptr 15 0)), vb (decide (x.r ≠ [])), vb x.c], hf := fun x => hpF  x.s (rdS S x.m) x.l x.r ++ [bxI (lastI x.l), bxI (lastI x.r)], rel := fun _ H x => relP 12 13 H x.l x.r, wr := [0, 5, 6] }
  | 1007 => some { X := XP P5, sl := [10, 11, 12, 13, 14, 15, 16], tf := fun x => [.one (.at (.ptr 10 0)), .one (.at (.ptr 11 0)), .one (.at (.ptr 14 0)), vb (decide (x.l ≠ [])), .one (.at (.ptr 15 0)), vb (decide (x.r ≠ [])), .one (.at (.ptr 16 0))], hf := fun x => hpF  x.s (rdS S x.m) x.l x.r ++ [bxI (lastI x.l), bxI (lastI x.r), .box [vI 0, vI 0, vI 0, vB (inL x.l x.r), vB false, vB (decide (x.l ≠ [])), vB (decide (x.r ≠ []))]], rel := fun _ H x => relP 12 13 H x.l x.r, wr := [0, 5, 6] }
  | 1008 => some { X := XP P5, sl := [10, 11, 12, 13, 14, 15, 16], tf := fun x => [.one (.at (.ptr 10 0)), .one (.at (.ptr 11 0)), .one (.at (.ptr 14 0)), vb (decide (x.l ≠ [])), .one (.at (.ptr 15 0)), vb (decide (x.r ≠ [])), .one (.at (.ptr 16 0))], hf := fun x => hpF  x.s (rdS S x.m) x.l x.r ++ [bxI (lastI x.l), bxI (lastI x.r), .box [vI 0, vI 0, vI 0, vB (inL x.l x.r), vB (inL x.r x.l), vB (decide (x.l ≠ [])), vB (decide (x.r ≠ []))]], rel := fun _ H x => relP 12 13 H x.l x.r, wr := [0, 5, 6] }
  | 1011 => some { X := XP P5, sl := [10, 11, 12, 13, 14, 15, 16], tf := fun x => [.one (.at (.ptr 10 0)), .one (.at (.ptr 11 0)), .one (.at (.ptr 14 0)), vb (decide (x.l ≠ [])), .one (.at (.ptr 15 0)), vb (decide (x.r ≠ [])), .one (.at (.ptr 16 0))], hf := fun x => hpF  x.s (rdS S x.m) (popI (inL x.l x.r) x.l) x.r ++ [bxI (lastI x.l), bxI (lastI x.r), .box [vI (ifI (inL x.l x.r) (lastI x.l).key), vI (ifI (inL x.l x.r) (lastI x.l).value), vI 0, vB (inL x.l x.r), vB (inL x.r x.l), vB (decide (x.l ≠ [])), vB (decide (x.r ≠ []))]], rel := fun _ H x => relP 12 13 H x.l x.r, wr := [0, 5, 6] }
  | _ => none }
def tPaF : Tfm C0 := fun args H K => match args with
  | [.at (.ptr 0 0), .at (.val (.int .u32 x)), .at (.val (.int .u32 y)), .at (.fn 133 []), .at (.fn 135 [1])] => mF H fun  s S => ∃ hs t1 t2, Wf S hs ∧ Rep S t1 x ∧ Rep S t2 y ∧ (fun _ => 0) s + 2 * (t1.size + t2.size) ≤ 800000 ∧ S.reads + (2 + 6 * (t1.size + t2.size)) ≤ 3000000000000000000 ∧
    ∀ s' S' m, s' = goV fF s (btw t1.list t2.list) → S' = rdS S m → m ≤ 2 + 6 * (t1.size + t2.size) → K (.tup []) (chF  s' S') [0, 5, 6]
  | _ => False
/-! ### each, and the function itself -/
abbrev ceF (s : Chg × Bool) (S : Arn) : List (Chunk C0) := [.box [.ptr 3 0, .slc 4, .slc 5, vU64 S.reads], .box [vI s.1.kind, vI s.1.key, vI s.1.old, vI s.1.new], .box [vB s.2], .box [.slc 6, .slc 7, .slc 8, vU S.fresh], .row true EC.node S.nodes, .row true EC.int S.counts, .row true EC.bool S.used, .row true EC.u32 S.gen, .row true EC.u32 S.rel]
def meF (H : List (Chunk C0)) (k : Chg × Bool → Arn → Prop) : Prop := match H with
  | [.box [.ptr 3 0, .slc 4, .slc 5, .val (.int .u64 rd)], .box [.val (.int .i64 sk), .val (.int .i64 sy), .val (.int .i64 so), .val (.int .i64 sn)], .box [.val (.bool sb)], .box [.slc 6, .slc 7, .slc 8, .val (.int .u32 fr)], .row true .node nd, .row true .int ct, .row true .bool us, .row true .u32 gn, .row true .u32 rl] => k (⟨sk, sy, so, sn⟩, sb) ⟨us, gn, rl, fr, nd, ct, rd⟩
  | _ => False
noncomputable def aEaF : Ann C0 := { Γ := [(134, frameT [] tPaF)] }
def tEaF : Tfm C0 := fun args H K => match args with
  | [.at (.ptr 0 0), .at (.val (.int .u32 x)), .at (.val (.int .u32 y)), .at (.fn 120 [1, 2])] => meF H fun  s S => ∃ hs t1 t2, Wf S hs ∧ Rep S t1 x ∧ Rep S t2 y ∧ (fun _ => 0) s + 2 * (t1.size + t2.size) ≤ 800000 ∧ S.reads + (2 + 6 * (t1.size + t2.size)) ≤ 3000000000000000000 ∧
    ∀ s' S' m, s' = goV fF s (btw t1.list t2.list) → S' = rdS S m → m ≤ 2 + 6 * (t1.size + t2.size) → (x = y → m = 0) → K (.tup []) (ceF  s' S') [0, 1, 2]
  | _ => False
noncomputable def aFnF : Ann C0 := { Γ := [(106, frameT [] tEaF)] }
def tFnF : Tfm C0 := fun args H K => match args with
  | [.at (.ptr 0 0), .at (.val (.int .u32 x)), .at (.val (.int .u32 y))] => arM H fun S => ∃ hs t1 t2, Wf S hs ∧ Rep S t1 x ∧ Rep S t2 y ∧ t1.size + t2.size ≤ 300000 ∧ S.reads + (2 + 6 * (t1.size + t2.size)) ≤ 3000000000000000000 ∧
    ∀ s' S' m, s' = goV fF (⟨0, 0, 0, 0⟩, false) (btw t1.list t2.list) → S' = rdS S m → m ≤ 2 + 6 * (t1.size + t2.size) → (x = y → m = 0) → K (.tup [.agg [vI s'.1.kind, vI s'.1.key, vI s'.1.old, vI s'.1.new], .at (vB s'.2)]) (chS S') [0]
  | _ => False
end Go.Proofs.Ytbonbaccmlomhaa.Sx
end
section
/- diff's functions as they are used, and the law DiffOfSelf. -/
namespace Go.Proofs.Ytbonbaccmlomhaa.Sx
open Go

/-! ### Plain -/
def rngC (lo hi : Int) (cs : List Chg) : List Chg := cs.filter fun c => decide (lo ≤ c.key ∧ c.key ≤ hi)
def Kin (l : List Ent) : Prop := ∀ x ∈ l, -9223372036854775808 ≤ x.1 ∧ x.1 ≤ 9223372036854775807
/-! ### The contracts -/
/-KEEP Wf exW inU live Arn.cap Arn.free Rep rdS Tr.size Tr.list btw rngC goV fR Asc Kin PlantR listE newS sameB-/
def tRangeB : Tfm C0 := fun args H K => match args with
  | [.at (.ptr 0 0), .at (.val (.int .u32 x)), .at (.val (.int .u32 y)), .at (.val (.int .i64 lo)), .at (.val (.int .i64 hi))] => arM H fun S => ∃ hs t1 t2, Wf S hs ∧ Rep S t1 x ∧ Rep S t2 y ∧ t1.size + t2.size ≤ 300000 ∧ S.reads + (2 + 6 * (t1.size + t2.size)) ≤ 3000000000000000000 ∧ Asc t1.list ∧ Asc t2.list ∧
    ∀ s' S' m, s' = rngC lo hi (btw t1.list t2.list) → S' = rdS S m → m ≤ 2 + 6 * (t1.size + t2.size) → (x = y → m = 0) → K (.one (.at (.slc 7))) (chS S' ++ [.row true EC.chg s']) [0]
  | _ => False
noncomputable def aDiff : Ann C0 := { Γ := [(62, frameT [] tRangeB)] }
def tDiff : Tfm C0 := fun args H K => match args with
  | [.at (.ptr 0 0), .at (.val (.int .u32 x)), .at (.val (.int .u32 y))] => arM H fun S => ∃ hs t1 t2, Wf S hs ∧ Rep S t1 x ∧ Rep S t2 y ∧ t1.size + t2.size ≤ 300000 ∧ S.reads + (2 + 6 * (t1.size + t2.size)) ≤ 3000000000000000000 ∧ Asc t1.list ∧ Asc t2.list ∧ Kin t1.list ∧ Kin t2.list ∧
    ∀ s' S' m, s' = btw t1.list t2.list → S' = rdS S m → m ≤ 2 + 6 * (t1.size + t2.size) → (x = y → m = 0) → K (.one (.at (.slc 7))) (chS S' ++ [.row true EC.chg s']) [0]
  | _ => False
/-! A tree and itself. -/
def selfM (x y : Int) (S : Arn) : Prop := x = y ∧ ∃ hs t, Wf S hs ∧ Rep S t x ∧ t.size ≤ 100000 ∧ S.reads ≤ 1000000000000000000 ∧ Asc t.list ∧ Kin t.list
theorem selfM.go {x y : Int} {S : Arn} (h : selfM x y S) : ∃ hs t, Wf S hs ∧ Rep S t x ∧ Rep S t y ∧ t.size + t.size ≤ 300000 ∧ S.reads + (2 + 6 * ((t.size : Int) + t.size)) ≤ 3000000000000000000 ∧ Asc t.list ∧ Kin t.list ∧ btw t.list t.list = [] ∧ (∀ m, (x = y → m = 0) → rdS S m = S) := by
  obtain ⟨rfl, hs, t, h1, h2, h3, h4, h5, h6⟩ := h
  exact ⟨hs, t, h1, h2, h2, by omega, by omega, h5, h6, btw_self _, fun m hm => by rw [hm rfl, rdS_zero]⟩
def tDiffS : Tfm C0 := fun args H K => match args with
  | [.at (.ptr 0 0), .at (.val (.int .u32 x)), .at (.val (.int .u32 y))] => arM H fun S => selfM x y S ∧ K (.one (.at (.slc 7))) (chS S ++ [.row true EC.chg []]) [0]
  | _ => False
def tRangeS : Tfm C0 := fun args H K => match args with
  | [.at (.ptr 0 0), .at (.val (.int .u32 x)), .at (.val (.int .u32 y)), .at (.val (.int .i64 _)), .at (.val (.int .i64 _))] => arM H fun S => selfM x y S ∧ K (.one (.at (.slc 7))) (chS S ++ [.row true EC.chg []]) [0]
  | _ => False
def tFirstS : Tfm C0 := fun args H K => match args with
  | [.at (.ptr 0 0), .at (.val (.int .u32 x)), .at (.val (.int .u32 y))] => arM H fun S => selfM x y S ∧ K (.tup [.agg [vI 0, vI 0, vI 0, vI 0], .at (vB false)]) (chS S) [0]
  | _ => False
def tCountS : Tfm C0 := fun args H K => match args with
  | [.at (.ptr 0 0), .at (.val (.int .u32 x)), .at (.val (.int .u32 y))] => arM H fun S => selfM x y S ∧ K (.one (.at (vI 0))) (chS S) [0]
  | _ => False
def tSameT : Tfm C0 := fun args H K => match args, H with
  | [.at (.slc 0), .at (.slc 1)], [.row false .chg l, .row false .chg m] => l = m ∧ K (.one (.at (vB true))) [.row false EC.chg l, .row false EC.chg m] []
  | _, _ => False
/-! ### The example of the chapter -/
noncomputable def aAwake18 : Ann C0 := { Γ := [(34, frameT [] tNew), (51, frameT [] tPlantA), (16, frameT [] tDiff), (61, frameT [] tSameT)] }
def tAwake18 : Tfm C0 := fun args H K => match args, H with
  | [], [] => K (.one (.at (vB true))) [] []
  | _, _ => False
/-! ### The law -/
noncomputable def aDos : Ann C0 := { Γ := [(36, frameT [] tLst), (54, frameT [] tGrow), (15, frameT [] tAwake18), (27, frameT [] tReads), (16, frameT [] tDiffS), (62, frameT [] tRangeS), (85, frameT [] tFirstS), (84, frameT [] tCountS), (78, frameT [] tWi)] }
def tDos : Tfm C0 := fun args H K => match args, H with
  | [.at (.slc 0), .at (.val (.int .u64 t)), .at (.val (.int .i64 _)), .at (.val (.int .i64 _))], [.row false .ent raw] => 0 ≤ t ∧ Kin raw ∧ K (.one (.at (vB true))) [.row false EC.ent raw] []
  | _, _ => False
theorem listE_sub (raw : List Ent) (n : Nat) : ∀ x ∈ listE raw n, x ∈ raw := by
  have key : ∀ (l acc : List Ent), Asc acc → ∀ x ∈ l.foldl insE acc, x ∈ acc ∨ x ∈ l := by
    intro l
    induction l with
    | nil => intro acc _ x hx; exact .inl hx
    | cons a l ih =>
      intro acc ha x hx
      rcases ih (insE acc a) (insE_asc a ha) x hx with h | h
      · rcases insE_mem ha h with h | h
        · exact .inr (by simp [h])
        · exact .inl h
      · exact .inr (by simp [h])
  intro x hx
  unfold listE at hx
  rcases key (raw.take n) [] (by simp [Srt]) x hx with h | h
  · simp at h
  · exact List.mem_of_mem_take h
end Go.Proofs.Ytbonbaccmlomhaa.Sx
end
section
/- Trees that are held, with their entries: what is free, and what a set operation answers. No program in sight. -/
namespace Go.Proofs.Ytbonbaccmlomhaa.Sx
open Go

variable {S S' : Arn} {hs : List Int} {f : Int → Option Int → Option Int → Option Int}
def sumL (E : List (Int × List Ent)) : Nat := (E.map fun p => p.2.length).sum
structure Hld (S : Arn) (E : List (Int × List Ent)) : Prop where
  wf : Wf S (E.map Prod.fst)
  rep : ∀ p ∈ E, ∃ t, Rep S t p.1 ∧ t.list = p.2 ∧ t.Bal
  asc : ∀ p ∈ E, Asc p.2
  kin : ∀ p ∈ E, Kin p.2
theorem nuR_sum (w : Wf S hs) : ∀ E : List (Int × List Ent), (∀ p ∈ E, ∃ t, Rep S t p.1 ∧ t.list = p.2 ∧ t.Bal) → nuR S (E.map Prod.fst) ≤ nuR S [] + sumL E
  | [], _ => by simp [sumL]
  | p :: E, h => by
    obtain ⟨t, rp, lt, _⟩ := h p (List.mem_cons_self ..)
    have a := nuR_cons (hs := E.map Prod.fst) w rp
    have b := nuR_sum w E fun q hq => h q (List.mem_cons_of_mem _ hq)
    have c : t.size = p.2.length := by rw [← t.list_len, lt]
    rw [List.map_cons]
    unfold sumL at *
    rw [List.map_cons, List.sum_cons]
    omega
open Classical in
theorem nuR_nil (w : Wf S hs) : nuR S [] = 0 := by
  unfold nuR
  refine List.countP_eq_zero.2 fun i _ hi => ?_
  have hr : Rch S [] (i : Int) := of_decide_eq_true hi
  clear hi
  generalize (i : Int) = j at hr
  induction hr with
  | root a _ => cases a
  | left _ _ ih => exact ih
  | right _ _ ih => exact ih
theorem Hld.room {E : List (Int × List Ent)} (h : Hld S E) : S.cap ≤ S.free + sumL E := by
  have a := h.wf.free_nonneg.2.2.2
  have b := h.wf.nuR
  have c := nuR_sum h.wf E h.rep
  have d := nuR_nil h.wf
  omega
theorem Hld.step {E : List (Int × List Ent)} {L : List Ent} {m r : Nat} {j : Int} (e : Hld S E) (tr : TrR S (E.map Prod.fst) L m r S' j) (ha : Asc L) (hk : Kin L) : Hld S' ((j, L) :: E) where
  wf := tr.got.wf
  rep p hp := by
    rcases List.mem_cons.1 hp with rfl | hp
    · exact tr.tree
    · obtain ⟨t, rp, lt, bt⟩ := e.rep p hp
      exact ⟨t, rp.held e.wf tr.got.stay (.inr (List.mem_map.2 ⟨p, hp, rfl⟩)), lt, bt⟩
  asc p hp := by
    rcases List.mem_cons.1 hp with rfl | hp
    · exact ha
    · exact e.asc p hp
  kin p hp := by
    rcases List.mem_cons.1 hp with rfl | hp
    · exact hk
    · exact e.kin p hp
theorem Hld.rd {E : List (Int × List Ent)} {n : Nat} (e : Hld S E) (h : S.reads + n ≤ 4000000000000000000) : Hld (rdS S n) E where
  wf := e.wf.rd h
  rep p hp := by
    obtain ⟨t, rp, lt, bt⟩ := e.rep p hp
    exact ⟨t, rp.rdn, lt, bt⟩
  asc := e.asc
  kin := e.kin
theorem set_kin {g : Option Int → Option Int → Option Int} {l m L : List Ent} (g0 : g none none = none) (h : SetR g l m L) (hl : Kin l) (hm : Kin m) : Kin L := fun x hx => by
  have e := getE_in hx
  rw [h.get] at e
  cases ea : getE l x.1 with
  | some v => exact hl (x.1, v) (getE_some ea)
  | none =>
    cases eb : getE m x.1 with
    | some v => exact hm (x.1, v) (getE_some eb)
    | none => rw [ea, eb] at e; exact absurd g0 e
theorem sumL_le {E : List (Int × List Ent)} {p : Int × List Ent} (h : p ∈ E) : p.2.length ≤ sumL E := by
  induction E with
  | nil => cases h
  | cons q E ih =>
    unfold sumL at *
    rw [List.map_cons, List.sum_cons]
    rcases List.mem_cons.1 h with rfl | h
    · omega
    · have := ih h; omega
theorem Hld.op {E : List (Int × List Ent)} {x y : Int} {l m : List Ent} (e : Hld S E) (hx : (x, l) ∈ E) (hy : (y, m) ∈ E) (hl : l.length ≤ 65536) (hm : m.length ≤ 65536) (he : E.length ≤ 900000) (hr : S.reads ≤ 900000000000000000) :
    ∃ tx ty, OpM S (E.map Prod.fst) tx ty x y ∧ tx.list = l ∧ ty.list = m ∧ tx.size = l.length ∧ ty.size = m.length := by
  obtain ⟨t, rp, lt, bt⟩ := e.rep _ hx
  obtain ⟨u, ru, lu, bu⟩ := e.rep _ hy
  have lt : t.list = l := lt
  have lu : u.list = m := lu
  have a1 := e.asc _ hx
  have a2 := e.asc _ hy
  have sz : t.size = l.length := by rw [← t.list_len, lt]
  have su : u.size = m.length := by rw [← u.list_len, lu]
  exact ⟨t, u, ⟨e.wf, rp, ru, bt, bu, by rw [lt]; exact a1, by rw [lu]; exact a2, by omega, by omega, by simpa using he, hr⟩, lt, lu, sz, su⟩
theorem needS_le (tx ty : Tr) : needS tx ty ≤ (tx.size : Int) + ty.size + 984 ∧ 0 ≤ needS tx ty := by
  have := Hn_rng ((tx.size : Int) + ty.size)
  unfold needS
  omega
/-- Where there is room, a set operation makes a tree of its answer. -/
theorem SoR.ok {whole : Int → Int → Int → Prop} {res : Int → Int → Int} {tx ty : Tr} {x y p i e : Int} (o : OpM S hs tx ty x y) (hf : needS tx ty ≤ S.free)
    (hw : whole x y p → ∃ t, Rep S t (res x y) ∧ t.Bal ∧ SetR (f p) tx.list ty.list t.list) (h : SoR f whole res S hs tx ty x y p S' i e) :
    e = 0 ∧ ∃ L, SetR (f p) tx.list ty.list L ∧ TrR S hs L 65537 2000000000 S' i := by
  have hr := o.rd
  have hl := o.hl
  rcases h with ⟨a, b, c, d⟩ | ⟨_, a, _⟩ | ⟨_, _, b, c⟩
  · obtain ⟨t, rp, bal, st⟩ := hw a
    rw [c]
    exact ⟨b, t.list, st, hold_tr (m := 0) o.wf rp bal (by omega) (by omega) (by rw [d, rdS_zero]) (by omega) rfl⟩
  · omega
  · exact ⟨b, c⟩
theorem wh_uni {tx ty : Tr} {x y p : Int} (o : OpM S hs tx ty x y) (h : whU x y p) : ∃ t, Rep S t (reU x y) ∧ t.Bal ∧ SetR (fUni p) tx.list ty.list t.list := by
  have h0 : S.us 0 = false := o.wf.us0 (Int.le_refl 0)
  unfold reU
  split
  · rename_i c
    have ry := o.ry
    rw [c] at ry
    rw [ry.zero o.wf]
    exact ⟨tx, o.rx, o.bx, SetR.left o.ax (fUni_l p)⟩
  · rename_i c
    split
    · rename_i d
      have ry := o.ry
      rw [← d] at ry
      rcases h with h | h | h
      · have rx := o.rx
        rw [h] at rx
        rw [rx.zero o.wf]
        rw [d] at h
        exact absurd h c
      · exact absurd h c
      · rw [ry.inj h0 o.rx]
        exact ⟨tx, o.rx, o.bx, SetR.same o.ax (fUni_s h.2)⟩
    · rename_i d
      rcases h with h | h | h
      · have rx := o.rx
        rw [h] at rx
        rw [rx.zero o.wf]
        exact ⟨ty, o.ry, o.bY, SetR.right o.ay (fUni_r p)⟩
      · exact absurd h c
      · exact absurd h.1 d
theorem wh_int {tx ty : Tr} {x y p : Int} (o : OpM S hs tx ty x y) (h : whU x y p) : ∃ t, Rep S t (reI x y) ∧ t.Bal ∧ SetR (fInt p) tx.list ty.list t.list := by
  have h0 : S.us 0 = false := o.wf.us0 (Int.le_refl 0)
  unfold reI
  split
  · rename_i c
    refine ⟨.nil, rfl, trivial, SetR.none fun k => ?_⟩
    rcases c with c | c
    · have rx := o.rx
      rw [c] at rx
      rw [rx.zero o.wf]
      rfl
    · have ry := o.ry
      rw [c] at ry
      rw [ry.zero o.wf]
      show fInt p _ none = none
      cases getE tx.list k <;> rfl
  · rename_i c
    rcases h with h | h | h
    · exact absurd (.inl h) c
    · exact absurd (.inr h) c
    · have ry := o.ry
      rw [← h.1] at ry
      rw [ry.inj h0 o.rx]
      exact ⟨tx, o.rx, o.bx, SetR.same o.ax (fInt_s h.2)⟩
theorem wh_sub {tx ty : Tr} {x y p : Int} (o : OpM S hs tx ty x y) (h : whS x y p) : ∃ t, Rep S t (reS x y) ∧ t.Bal ∧ SetR (gSub p) tx.list ty.list t.list := by
  have h0 : S.us 0 = false := o.wf.us0 (Int.le_refl 0)
  unfold reS
  split
  · rename_i c
    refine ⟨.nil, rfl, trivial, SetR.none fun k => ?_⟩
    rcases c with c | c
    · have rx := o.rx
      rw [c] at rx
      rw [rx.zero o.wf]
      rfl
    · have ry := o.ry
      rw [← c] at ry
      rw [ry.inj h0 o.rx]
      show fSub _ _ = none
      cases getE tx.list k <;> rfl
  · rename_i c
    rcases h with h | h | h
    · exact absurd (.inl h) c
    · have ry := o.ry
      rw [h] at ry
      rw [ry.zero o.wf]
      exact ⟨tx, o.rx, o.bx, SetR.left o.ax fun x => by cases x <;> rfl⟩
    · exact absurd (.inr h) c
theorem wh_exc {tx ty : Tr} {x y p : Int} (o : OpM S hs tx ty x y) (h : whS x y p) : ∃ t, Rep S t (reE x y) ∧ t.Bal ∧ SetR (gExc p) tx.list ty.list t.list := by
  have h0 : S.us 0 = false := o.wf.us0 (Int.le_refl 0)
  unfold reE
  split
  · rename_i c
    refine ⟨.nil, rfl, trivial, SetR.none fun k => ?_⟩
    have ry := o.ry
    rw [← c] at ry
    rw [ry.inj h0 o.rx]
    show fExc _ _ = none
    cases getE tx.list k <;> rfl
  · rename_i c
    split
    · rename_i d
      have rx := o.rx
      rw [d] at rx
      rw [rx.zero o.wf]
      exact ⟨ty, o.ry, o.bY, SetR.right o.ay fun x => by cases x <;> rfl⟩
    · rename_i d
      rcases h with h | h | h
      · exact absurd h d
      · have ry := o.ry
        rw [h] at ry
        rw [ry.zero o.wf]
        exact ⟨tx, o.rx, o.bx, SetR.left o.ax fun x => by cases x <;> rfl⟩
      · exact absurd h c
/-- The short forms: there is room. -/
def tSoPk (f : Int → Option Int → Option Int → Option Int) : Tfm C0 := fun args H K => match args with
  | [.at (.ptr 0 0), .at (.val (.int .u32 x)), .at (.val (.int .u32 y)), .at (.val (.int .i64 p))] => arM H fun S => ∃ hs tx ty, OpM S hs tx ty x y ∧ 1 ≤ p ∧ p ≤ 5 ∧ needS tx ty ≤ S.free ∧
    ∀ S' i L, SetR (f p) tx.list ty.list L → TrR S hs L 65537 2000000000 S' i → K (.tup [.at (vU i), .at (vI 0)]) (chS S') W7
  | _ => False
def tSoNk (f : Int → Option Int → Option Int → Option Int) : Tfm C0 := fun args H K => match args with
  | [.at (.ptr 0 0), .at (.val (.int .u32 x)), .at (.val (.int .u32 y))] => arM H fun S => ∃ hs tx ty, OpM S hs tx ty x y ∧ needS tx ty ≤ S.free ∧
    ∀ S' i L, SetR (f 1) tx.list ty.list L → TrR S hs L 65537 2000000000 S' i → K (.tup [.at (vU i), .at (vI 0)]) (chS S') W7
  | _ => False
theorem soPk {g : FuncId} {whole : Int → Int → Int → Prop} {res : Int → Int → Int} (s : SoundT C0 g (tSoP f whole res))
    (hw : ∀ S hs tx ty x y p, OpM S hs tx ty x y → whole x y p → ∃ t, Rep S t (res x y) ∧ t.Bal ∧ SetR (f p) tx.list ty.list t.list) : SoundT C0 g (tSoPk f) := s.weak fun args H K h => by
  unfold tSoPk at h
  unfold tSoP
  split at h <;> try exact h.elim
  unfold arM at h ⊢
  split at h <;> try exact h.elim
  obtain ⟨hs, tx, ty, o, p1, p2, hf, h⟩ := h
  refine ⟨hs, tx, ty, o, fun q => absurd ⟨p1, p2⟩ q, fun _ _ S' i e so => ?_⟩
  obtain ⟨e0, L, hL, tr⟩ := SoR.ok o hf (hw _ _ _ _ _ _ _ o) so
  rw [e0]
  exact h S' i L hL tr
theorem soNk {g : FuncId} {whole : Int → Int → Int → Prop} {res : Int → Int → Int} (s : SoundT C0 g (tSoN f whole res))
    (hw : ∀ S hs tx ty x y p, OpM S hs tx ty x y → whole x y p → ∃ t, Rep S t (res x y) ∧ t.Bal ∧ SetR (f p) tx.list ty.list t.list) : SoundT C0 g (tSoNk f) := s.weak fun args H K h => by
  unfold tSoNk at h
  unfold tSoN
  split at h <;> try exact h.elim
  unfold arM at h ⊢
  split at h <;> try exact h.elim
  obtain ⟨hs, tx, ty, o, hf, h⟩ := h
  refine ⟨hs, tx, ty, o, fun S' i e so => ?_⟩
  obtain ⟨e0, L, hL, tr⟩ := SoR.ok o hf (hw _ _ _ _ _ _ _ o) so
  rw [e0]
  exact h S' i L hL tr
theorem s_soUk : SoundT C0 22 (tSoPk fUni) := soPk s_soU fun _ _ _ _ _ _ _ o h => wh_uni o h
theorem s_soIk : SoundT C0 32 (tSoPk fInt) := soPk s_soI fun _ _ _ _ _ _ _ o h => wh_int o h
theorem s_soSk : SoundT C0 37 (tSoNk gSub) := soNk s_soS fun _ _ _ _ _ _ _ o h => wh_sub o h
theorem s_soEk : SoundT C0 41 (tSoNk gExc) := soNk s_soE fun _ _ _ _ _ _ _ o h => wh_exc o h
/-- An operation on two trees that are held. -/
theorem Hld.set {E : List (Int × List Ent)} {l m L : List Ent} {p j : Int} (e : Hld S E) {x y : Int} (hx : (x, l) ∈ E) (hy : (y, m) ∈ E) (h0 : f p none none = none) (hL : SetR (f p) l m L) (tr : TrR S (E.map Prod.fst) L 65537 2000000000 S' j) : Hld S' ((j, L) :: E) :=
  e.step tr hL.asc (set_kin h0 hL (e.kin _ hx) (e.kin _ hy))
/-- In an arena of at least 4000 slots there is room while no more than 1000 entries are held. -/
theorem Hld.go {E : List (Int × List Ent)} {x y : Int} {l m : List Ent} (e : Hld S E) (hx : (x, l) ∈ E) (hy : (y, m) ∈ E) (hE : sumL E ≤ 1000) (he : E.length ≤ 20) (hc : 4000 ≤ S.cap) (hr : S.reads ≤ 900000000000000000) :
    ∃ tx ty, OpM S (E.map Prod.fst) tx ty x y ∧ tx.list = l ∧ ty.list = m ∧ needS tx ty ≤ S.free := by
  have a := sumL_le hx
  have b := sumL_le hy
  have a : l.length ≤ sumL E := a
  have b : m.length ≤ sumL E := b
  obtain ⟨tx, ty, o, h1, h2, h3, h4⟩ := e.op hx hy (by omega) (by omega) (by omega) hr
  have c := needS_le tx ty
  have d := e.room
  exact ⟨tx, ty, o, h1, h2, by omega⟩
theorem Hld.ls {E : List (Int × List Ent)} {x : Int} {l : List Ent} (e : Hld S E) (hx : (x, l) ∈ E) (hl : l.length ≤ 60000) : ∃ t, Rep S t x ∧ Asc t.list ∧ Kin t.list ∧ t.size ≤ 60000 ∧ t.list = l := by
  obtain ⟨t, rp, lt, _⟩ := e.rep _ hx
  have lt : t.list = l := lt
  have sz : t.size = l.length := by rw [← t.list_len, lt]
  exact ⟨t, rp, by rw [lt]; exact e.asc _ hx, by rw [lt]; exact e.kin _ hx, by omega, lt⟩
theorem sumL_cons (j : Int) (L : List Ent) (E : List (Int × List Ent)) : sumL ((j, L) :: E) = L.length + sumL E := by
  unfold sumL; rw [List.map_cons, List.sum_cons]
theorem sumL_nil : sumL [] = 0 := rfl
theorem tr_cap {L : List Ent} {m r : Nat} {j : Int} (tr : TrR S hs L m r S' j) : S'.cap = S.cap := cap_len tr.got.len
end Go.Proofs.Ytbonbaccmlomhaa.Sx
end
section
/- The order of the free slots, and the arena's Dump. -/
/-KEEP exW inU Arn.cap Arn.free-/
namespace Go.Proofs.Ytbonbaccmlomhaa.Sx
open Go

def upTo (fr : Int) (n : Nat) : List Int := (List.range n).map fun (k : Nat) => fr + 1 + (k : Int)
def orderL (us : List Bool) (rl : List Int) (fr : Int) : List Int := rl.reverse ++ upTo fr ((us.length : Int) - 1 - fr).toNat
structure XOr1 (rl : List Int) where
  k : Nat
  h : k ≤ rl.length
structure XOr2 (us : List Bool) (fr : Int) where
  n : Nat
  h : n ≤ ((us.length : Int) - 1 - fr).toNat
noncomputable def aOrder (us : List Bool) (gn rl : List Int) (fr : Int) : Ann C0 := { Γ := [(109, frameT [] tSlFree), (108, frameT [] tSlCap)], inv := fun n => match n with
  | 3 => some { X := XOr1 rl, sl := [4, 3], tf := fun x => [vi .i64 ((x.k : Int) - 1), .one (.at (.slc 4))], hf := fun x => slC us gn rl fr ++ [.row true EC.u32 (rl.drop x.k).reverse], μ := fun x => x.k }
  | 7 => some { X := XOr2 us fr, sl := [5, 3], tf := fun x => [vi .i64 (fr + 1 + (x.n : Int)), .one (.at (.slc 4))], hf := fun x => slC us gn rl fr ++ [.row true EC.u32 (rl.reverse ++ upTo fr x.n)], μ := fun x => ((us.length : Int) - 1 - fr).toNat - x.n }
  | _ => none }
def tOrder : Tfm C0 := fun args H K => match args with
  | [.at (.ptr 0 0)] => slM H fun us gn rl fr => 1 ≤ us.length ∧ us.length ≤ 65537 ∧ rl.length ≤ 65537 ∧ 0 ≤ fr ∧ fr ≤ us.length - 1 ∧ ∀ o : List Int, o = orderL us rl fr → K (.one (.at (.slc 4))) (slC us gn rl fr ++ [.row true EC.u32 o]) []
  | _ => False
def SlotT.zero : SlotT := ⟨false, 0, 0, NodeT.zero⟩
def slotAt (S : Arn) (k : Nat) : SlotT := ⟨S.us ((k : Int) + 1), if S.us ((k : Int) + 1) then S.ct ((k : Int) + 1) else 0, S.gn ((k : Int) + 1), S.nd ((k : Int) + 1)⟩
def ncap (S : Arn) : Nat := S.used.length - 1
def slotsOf (S : Arn) : List SlotT := (List.range (ncap S)).map (slotAt S)
def orderOf (S : Arn) : List Int := orderL S.used S.rel S.fresh
structure XDu (S : Arn) where
  i : Nat
  h : i ≤ ncap S
def fillS (S : Arn) (i : Nat) : List SlotT := (List.range i).map (slotAt S) ++ List.replicate (ncap S - i) SlotT.zero
noncomputable def aDump (S : Arn) : Ann C0 := { quiet := [67, 68, 69, 65], Γ := [(65, frameT [] tCap), (66, frameT [] tOrder), (67, frameT [] tSlAllocated), (68, frameT [] tCount), (69, frameT [] tGen)], inv := fun n => match n with
  | 1002 => some { X := Unit, sl := [3, 2], tf := fun _ => [.one (.at (.ptr 7 0)), .one (.at (.ptr 10 0))], hf := fun _ => chS S ++ [.box [.slc 8, .slc 9], .row true EC.slot (fillS S 0), .row true EC.u32 (orderOf S), .box [.slc 11, .slc 12], .row true EC.slot [], .row true EC.u32 []] }
  | 3 => some { X := XDu S, sl := [18, 3, 2], tf := fun x => [vi .i64 x.i, .one (.at (.ptr 7 0)), .one (.at (.ptr 10 0))], hf := fun x => chS S ++ [.box [.slc 8, .slc 9], .row true EC.slot (fillS S x.i), .row true EC.u32 (orderOf S), .box [.slc 11, .slc 12], .row true EC.slot [], .row true EC.u32 []], μ := fun x => ncap S - x.i }
  | _ => none }
def tDump : Tfm C0 := fun args H K => match args with
  | [.at (.ptr 0 0)] => arM H fun S => exW S ∧ ∀ (d : List SlotT) (o : List Int), d = slotsOf S → o = orderOf S → K (.one (.agg [.slc 7, .slc 8])) (chS S ++ [.row true EC.slot d, .row true EC.u32 o]) []
  | _ => False
end Go.Proofs.Ytbonbaccmlomhaa.Sx
end
section
/- A dump's allocated slots, edges, marks; the reference's Check; Sound. -/
namespace Go.Proofs.Ytbonbaccmlomhaa.Sx
open Go

/-KEEP Wf exW inU allU Arn.cap Arn.free alcD cntL kidsL slotsOf orderOf MarksR CleanD kidsU-/
def alcD (d : List SlotT) (i : Int) : Bool := decide (1 ≤ i) && (decide (i ≤ (d.length : Int)) && (d.getD (i - 1).toNat SlotT.zero).alloc)
def cntL (l : List Int) (n : Nat) : List Int := (List.range n).map fun (j : Nat) => ((l.count ((j : Int) + 1) : Nat) : Int)
def kidsL (d : List SlotT) : List Int := d.flatMap fun x => if x.alloc = true then [x.node.left, x.node.right] else []
def allU (l : List Int) : Prop := ∀ x ∈ l, inU x
def kidsU (d : List SlotT) : Prop := ∀ x ∈ d, inU x.node.left ∧ inU x.node.right
def mkd (m : List Bool) (i : Int) : Prop := 1 ≤ i ∧ m.getD (i - 1).toNat false = true
def sltD (d : List SlotT) (i : Int) : SlotT := d.getD (i - 1).toNat SlotT.zero
abbrev eS (d : List SlotT) (i : Nat) : SlotT := d.getD i SlotT.zero
structure MarksR (d : List SlotT) (roots : List Int) (m : List Bool) : Prop where
  len : m.length = d.length
  root : ∀ i ∈ roots, alcD d i = true → mkd m i
  left : ∀ i, mkd m i → alcD d (sltD d i).node.left = true → mkd m (sltD d i).node.left
  right : ∀ i, mkd m i → alcD d (sltD d i).node.right = true → mkd m (sltD d i).node.right
def szD (d : List SlotT) (i : Int) : Int := if alcD d i = true then (sltD d i).node.size else 0
structure CleanD (d : List SlotT) (fl roots : List Int) : Prop where
  free : ∀ i < d.length, fl.count ((i : Int) + 1) = if (d.getD i SlotT.zero).alloc = true then 0 else 1
  left : ∀ i < d.length, (d.getD i SlotT.zero).alloc = true → (d.getD i SlotT.zero).node.left = 0 ∨ alcD d (d.getD i SlotT.zero).node.left = true
  right : ∀ i < d.length, (d.getD i SlotT.zero).alloc = true → (d.getD i SlotT.zero).node.right = 0 ∨ alcD d (d.getD i SlotT.zero).node.right = true
  size : ∀ i < d.length, (d.getD i SlotT.zero).alloc = true → (d.getD i SlotT.zero).node.size = 1 + szD d (d.getD i SlotT.zero).node.left + szD d (d.getD i SlotT.zero).node.right
  zr : ∀ i < d.length, 0 ≤ (d.getD i SlotT.zero).node.size ∧ (d.getD i SlotT.zero).node.size ≤ 4294967296
  count : ∀ i < d.length, (d.getD i SlotT.zero).count = if (d.getD i SlotT.zero).alloc = true then ((kidsL d).count ((i : Int) + 1) : Int) + (roots.count ((i : Int) + 1) : Int) else 0
  mark : ∀ m, MarksR d roots m → ∀ i < d.length, (d.getD i SlotT.zero).alloc = true → m.getD i false = true
  rng : ∀ x ∈ fl, 1 ≤ x ∧ x ≤ d.length
  held : ∀ x ∈ roots, x = 0 ∨ alcD d x = true
def tAlc : Tfm C0 := fun args H K => match args, H with
  | [.agg [.slc 0, .slc 1], .at (.val (.int .u32 i))], [.row false .slot d, .row false .u32 fl] => inU i ∧ d.length ≤ 1000000 ∧ K (.one (.at (vB (alcD d i)))) [.row false EC.slot d, .row false EC.u32 fl] []
  | _, _ => False
def tKids : Tfm C0 := fun args H K => match args, H with
  | [.agg [.val (.bool _), .val (.int .i64 _), .val (.int .u32 _), .val (.int .i64 _), .val (.int .i64 _), .val (.int .u32 l), .val (.int .u32 r), .val (.int .i64 _), .val (.int .i64 _), .val (.int .i64 _), .val (.int .i64 _)]], [] => K (.one (.agg [vU l, vU r])) [] []
  | _, _ => False
structure XIx (n : Nat) where
  i : Nat
  h : i ≤ n
structure XIn (d : List SlotT) where
  i : Nat
  h : i < d.length
noncomputable def aInE (d : List SlotT) (fl : List Int) : Ann C0 := { Γ := [(149, frameT [] tKids)], rounds := fun n => if n = 7 then 3 else 0, inv := fun n => match n with
  | 3 => some { X := XIx d.length, sl := [4, 1, 3], tf := fun x => [vi .i64 x.i, .one (.at (.ptr 2 0)), .one (.at (.slc 3))], hf := fun x => [.row false EC.slot d, .row false EC.u32 fl, .box [.slc 0, .slc 1], .row true EC.int (cntL (kidsL (d.take x.i)) d.length)], μ := fun x => d.length - x.i }
  | 1004 => some { X := XIn d, sl := [4, 1, 3], tf := fun x => [vi .i64 x.i, .one (.at (.ptr 2 0)), .one (.at (.slc 3))], hf := fun x => [.row false EC.slot d, .row false EC.u32 fl, .box [.slc 0, .slc 1], .row true EC.int (cntL (kidsL (d.take (x.i + 1))) d.length)], rel := fun T _ z => slotI T 4 z.i }
  | _ => none }
def tInE : Tfm C0 := fun args H K => match args, H with
  | [.agg [.slc 0, .slc 1]], [.row false .slot d, .row false .u32 fl] => d.length ≤ 100000 ∧ kidsU d ∧ ∀ o, o = cntL (kidsL d) d.length → K (.one (.at (.slc 2))) [.row false EC.slot d, .row false EC.u32 fl, .row true EC.int o] []
  | _, _ => False
noncomputable def aCnt (l : List Int) (n : Int) : Ann C0 := { Γ := [], inv := fun k => match k with
  | 3 => some { X := XIx l.length, sl := [6, 5], tf := fun x => [vi .i64 x.i, .one (.at (.slc 1))], hf := fun x => [.row false EC.u32 l, .row true EC.int (cntL (l.take x.i) n.toNat)], μ := fun x => l.length - x.i }
  | _ => none }
def tCnt : Tfm C0 := fun args H K => match args, H with
  | [.at (.slc 0), .at (.val (.int .i64 n))], [.row false .u32 l] => 0 ≤ n ∧ n ≤ 100000 ∧ l.length ≤ 1000000 ∧ allU l ∧ ∀ o, o = cntL l n.toNat → K (.one (.at (.slc 1))) [.row false EC.u32 l, .row true EC.int o] []
  | _, _ => False
structure XMks (P : List Bool → List Int → Prop) where
  m : List Bool
  w : List Int
  h : P m w
noncomputable def aMk (P : List Bool → List Int → Prop) (d : List SlotT) (fl roots : List Int) : Ann C0 := { Γ := [(140, frameT [] tAlc), (149, frameT [] tKids)], trunc := fun n => n = 28, inv := fun k => match k with
  | 3 => some { X := XMks P, sl := [2, 5, 6], tf := fun _ => [.one (.at (.ptr 3 0)), .one (.at (.slc 4)), .one (.at (.slc 5))], hf := fun x => [.row false EC.slot d, .row false EC.u32 fl, .row false EC.u32 roots, .box [.slc 0, .slc 1], .row true EC.bool x.m, .row true EC.u32 x.w], μ := fun x => x.w.length + 3 * x.m.count false }
  | _ => none }
def tMk : Tfm C0 := fun args H K => match args, H with
  | [.agg [.slc 0, .slc 1], .at (.slc 2)], [.row false .slot d, .row false .u32 fl, .row false .u32 roots] => d.length ≤ 100000 ∧ roots.length ≤ 1000000 ∧ kidsU d ∧ allU roots ∧ ∀ m, MarksR d roots m → K (.one (.at (.slc 3))) [.row false EC.slot d, .row false EC.u32 fl, .row false EC.u32 roots, .row true EC.bool m] []
  | _, _ => False
theorem alcD_lo {d : List SlotT} {i : Int} (h : ¬ 1 ≤ i) : alcD d i = false := by simp [alcD, h]
theorem alcD_rng {d : List SlotT} {i : Int} (h : alcD d i = true) : 1 ≤ i ∧ i ≤ (d.length : Int) := by simp [alcD] at h; exact ⟨h.1, h.2.1⟩
structure PMk (d : List SlotT) (roots : List Int) (m : List Bool) (w : List Int) : Prop where
  len : m.length = d.length
  u : ∀ x ∈ w, inU x
  wl : w.length + 2 * m.count false ≤ roots.length + 2 * d.length
  root : ∀ i ∈ roots, alcD d i = true → mkd m i ∨ i ∈ w
  left : ∀ i, mkd m i → alcD d (sltD d i).node.left = true → mkd m (sltD d i).node.left ∨ (sltD d i).node.left ∈ w
  right : ∀ i, mkd m i → alcD d (sltD d i).node.right = true → mkd m (sltD d i).node.right ∨ (sltD d i).node.right ∈ w
theorem PMk.start (d : List SlotT) (roots : List Int) (h : ∀ x ∈ roots, inU x) : PMk d roots (List.replicate d.length false) roots := by
  have z : ∀ i, ¬ mkd (List.replicate d.length false) i := fun i hi => by
    have := hi.2
    rw [getD_replicate] at this; cases this
  exact ⟨by simp, h, by simp, fun i hi _ => .inr hi, fun i hi => (z i hi).elim, fun i hi => (z i hi).elim⟩
theorem PMk.done {d : List SlotT} {roots : List Int} {m : List Bool} (h : PMk d roots m []) : MarksR d roots m :=
  ⟨h.len, fun i a b => (h.root i a b).resolve_right (by simp), fun i a b => (h.left i a b).resolve_right (by simp), fun i a b => (h.right i a b).resolve_right (by simp)⟩
/-- What was taken from the work needs no mark: it is marked, or not allocated. -/
theorem PMk.skip {d : List SlotT} {roots : List Int} {m : List Bool} {w : List Int} {x : Int} (h : PMk d roots m (w ++ [x])) (hx : alcD d x = true → mkd m x) : PMk d roots m w := by
  have key : ∀ j, alcD d j = true → mkd m j ∨ j ∈ w ++ [x] → mkd m j ∨ j ∈ w := fun j ha hj => by
    rcases hj with hj | hj
    · exact .inl hj
    · rcases List.mem_append.1 hj with hj | hj
      · exact .inr hj
      · have e : j = x := by simpa using hj
        subst e; exact .inl (hx ha)
  refine ⟨h.len, fun y hy => h.u y (by simp [hy]), by have := h.wl; simp at this; omega, fun i a b => key i b (h.root i a b), fun i a b => key _ b (h.left i a b), fun i a b => key _ b (h.right i a b)⟩
theorem count_mark {m : List Bool} {k : Nat} (h1 : k < m.length) (h2 : m.getD k false = false) : (m.set k true).count false + 1 = m.count false := by
  have := countP_set' (fun b : Bool => b == false) m k true false h1
  rw [h2] at this
  simpa [List.count] using this
theorem PMk.mark {d : List SlotT} {roots : List Int} {m : List Bool} {w : List Int} {x : Int} (h : PMk d roots m (w ++ [x])) (hx : alcD d x = true) (hm : m.getD (x - 1).toNat false = false) (hk : inU (sltD d x).node.left ∧ inU (sltD d x).node.right) :
    PMk d roots (m.set (x - 1).toNat true) (w ++ [(sltD d x).node.left, (sltD d x).node.right]) := by
  obtain ⟨x1, x2⟩ := alcD_rng hx
  have hl := h.len
  have hs : ∀ j, mkd (m.set (x - 1).toNat true) j ↔ j = x ∨ mkd m j := fun j => by
    unfold mkd
    rw [getD_set]
    constructor
    · rintro ⟨a, b⟩
      by_cases e : j = x
      · exact .inl e
      · rw [if_neg (by omega)] at b; exact .inr ⟨a, b⟩
    · rintro (e | ⟨a, b⟩)
      · subst e; exact ⟨x1, by rw [if_pos ⟨rfl, by omega⟩]⟩
      · refine ⟨a, ?_⟩
        split
        · rfl
        · exact b
  have key : ∀ j, mkd m j ∨ j ∈ w ++ [x] → mkd (m.set (x - 1).toNat true) j ∨ j ∈ w ++ [(sltD d x).node.left, (sltD d x).node.right] := fun j hj => by
    rw [hs]
    rcases hj with hj | hj
    · exact .inl (.inr hj)
    · rcases List.mem_append.1 hj with hj | hj
      · exact .inr (by simp [hj])
      · exact .inl (.inl (by simpa using hj))
  have hc := count_mark (m := m) (k := (x - 1).toNat) (by omega) hm
  have l1 : (w ++ [(sltD d x).node.left, (sltD d x).node.right]).length = w.length + 2 := by simp
  have l2 : (w ++ [x]).length = w.length + 1 := by simp
  refine ⟨by simp [hl], fun y hy => ?_, by have := h.wl; omega, fun i a b => key i (h.root i a b), fun i a b => ?_, fun i a b => ?_⟩
  · simp at hy
    rcases hy with hy | hy | hy
    · exact h.u y (by simp [hy])
    · subst hy; exact hk.1
    · subst hy; exact hk.2
  · rcases (hs i).1 a with e | e
    · subst e; exact .inr (by simp)
    · exact key _ (h.left i e b)
  · rcases (hs i).1 a with e | e
    · subst e; exact .inr (by simp)
    · exact key _ (h.right i e b)
/-! ### The plain law: a whole arena's dump is clean. -/
def ineQ (out : List Int) (c : Int) (al : Bool) (ja jb : Prop) (G : List Int → Prop) : Prop :=
  brS al (ja ∧ jb ∧ brS (decide (c ≥ 1)) (ja ∧ jb ∧ brS (decide (IntKind.u64.wrap c ≤ IntKind.u64.wrap (out.length : Int))) (ja ∧ jb ∧ 0 ≤ IntKind.u32.wrap (c - 1) ∧ IntKind.u32.wrap (c - 1) < (out.length : Int) ∧ 0 ≤ IntKind.u32.wrap (c - 1) ∧ IntKind.u32.wrap (c - 1) < (out.length : Int) ∧
    G (out.set (IntKind.u32.wrap (c - 1)).toNat (IntKind.i64.wrap (out.getD (IntKind.u32.wrap (c - 1)).toNat 0 + 1)))) (G out)) (G out)) (G out)
end Go.Proofs.Ytbonbaccmlomhaa.Sx
end
section
/- The reference's Check of a dump, Clean and Sound. -/
namespace Go.Proofs.Ytbonbaccmlomhaa.Sx
open Go

/-KEEP Wf exW inU allU Arn.cap Arn.free alcD cntL kidsL slotsOf orderOf MarksR CleanD kidsU-/
structure XCk (d : List SlotT) (roots : List Int) where
  i : Nat
  m : List Bool
  h : i ≤ d.length ∧ MarksR d roots m
structure XCj (d : List SlotT) (roots : List Int) (P : Nat → Int → Prop) where
  i : Nat
  m : List Bool
  c : Int
  h : i < d.length ∧ MarksR d roots m ∧ P i c
abbrev bxSl (x : SlotT) : Chunk C0 := .box [.val (.bool x.alloc), vI x.count, vU x.gen, vI x.node.key, vI x.node.value, vU x.node.left, vU x.node.right, vI x.node.size, vI x.node.sum, vI x.node.min, vI x.node.max]
abbrev chK (d : List SlotT) (fl roots : List Int) (m : List Bool) : List (Chunk C0) := [.row false EC.slot d, .row false EC.u32 fl, .row false EC.u32 roots, .box [.slc 0, .slc 1], .row true EC.int (cntL (kidsL d) d.length), .row true EC.bool m, .row true EC.int (cntL fl d.length), .row true EC.int (cntL roots d.length), .row true EC.find []]
structure XIy (n : Nat) where
  i : Nat
  h : i < n
noncomputable def aChk (P0 P1 P2 P3 P4 : Nat → Int → Prop) (d : List SlotT) (fl roots : List Int) : Ann C0 := { Γ := [(146, frameT [] tInE), (147, frameT [] tMk), (148, frameT [] tCnt), (140, frameT [] tAlc), (149, frameT [] tKids)], quiet := [146, 147, 148, 140, 149], rounds := fun n => if n = 19 then 3 else 0, inv := fun n => match n with
  | 5 => some { X := XCk d roots, sl := [2, 6, 7, 8, 9, 5, 10], tf := fun x => [.one (.at (.ptr 3 0)), .one (.at (.slc 4)), .one (.at (.slc 5)), .one (.at (.slc 6)), .one (.at (.slc 7)), .one (.at (.slc 8)), vi .i64 x.i], hf := fun x => chK d fl roots x.m, μ := fun x => d.length - x.i }
  | 1011 => some { X := XCj d roots P4, sl := [2, 6, 7, 8, 9, 5, 10, 12, 13], tf := fun x => [.one (.at (.ptr 3 0)), .one (.at (.slc 4)), .one (.at (.slc 5)), .one (.at (.slc 6)), .one (.at (.slc 7)), .one (.at (.slc 8)), vi .i64 x.i, .one (.at (.ptr 9 0)), vi .i64 x.c], hf := fun x => chK d fl roots x.m ++ [bxSl (eS d x.i)], rel := fun T _ z => slotI T 10 z.i }
  | 1013 => some { X := XCj d roots P0, sl := [2, 6, 7, 8, 9, 5, 10, 12, 60], tf := fun x => [.one (.at (.ptr 3 0)), .one (.at (.slc 4)), .one (.at (.slc 5)), .one (.at (.slc 6)), .one (.at (.slc 7)), .one (.at (.slc 8)), vi .i64 x.i, .one (.at (.ptr 9 0)), vb false], hf := fun x => chK d fl roots x.m ++ [bxSl (eS d x.i)], rel := fun T _ z => slotI T 10 z.i }
  | 1025 => some { X := XCj d roots P1, sl := [2, 6, 7, 8, 9, 5, 10, 12, 17], tf := fun x => [.one (.at (.ptr 3 0)), .one (.at (.slc 4)), .one (.at (.slc 5)), .one (.at (.slc 6)), .one (.at (.slc 7)), .one (.at (.slc 8)), vi .i64 x.i, .one (.at (.ptr 9 0)), vi .i64 x.c], hf := fun x => chK d fl roots x.m ++ [bxSl (eS d x.i)], rel := fun T _ z => slotI T 10 z.i }
  | 1026 => some { X := XCj d roots P2, sl := [2, 6, 7, 8, 9, 5, 10, 12, 110], tf := fun x => [.one (.at (.ptr 3 0)), .one (.at (.slc 4)), .one (.at (.slc 5)), .one (.at (.slc 6)), .one (.at (.slc 7)), .one (.at (.slc 8)), vi .i64 x.i, .one (.at (.ptr 9 0)), vb false], hf := fun x => chK d fl roots x.m ++ [bxSl (eS d x.i)], rel := fun T _ z => slotI T 10 z.i }
  | 1028 => some { X := XCj d roots P3, sl := [2, 6, 7, 8, 9, 5, 10, 12, 15], tf := fun x => [.one (.at (.ptr 3 0)), .one (.at (.slc 4)), .one (.at (.slc 5)), .one (.at (.slc 6)), .one (.at (.slc 7)), .one (.at (.slc 8)), vi .i64 x.i, .one (.at (.ptr 9 0)), vi .i64 x.c], hf := fun x => chK d fl roots x.m ++ [bxSl (eS d x.i)], rel := fun T _ z => slotI T 10 z.i }
  | 1029 => some { X := XCj d roots P0, sl := [2, 6, 7, 8, 9, 5, 10, 12, 132], tf := fun x => [.one (.at (.ptr 3 0)), .one (.at (.slc 4)), .one (.at (.slc 5)), .one (.at (.slc 6)), .one (.at (.slc 7)), .one (.at (.slc 8)), vi .i64 x.i, .one (.at (.ptr 9 0)), vb false], hf := fun x => chK d fl roots x.m ++ [bxSl (eS d x.i)], rel := fun T _ z => slotI T 10 z.i }
  | 1031 => some { X := XCj d roots P0, sl := [2, 6, 7, 8, 9, 5, 10, 12, 149], tf := fun x => [.one (.at (.ptr 3 0)), .one (.at (.slc 4)), .one (.at (.slc 5)), .one (.at (.slc 6)), .one (.at (.slc 7)), .one (.at (.slc 8)), vi .i64 x.i, .one (.at (.ptr 9 0)), vb false], hf := fun x => chK d fl roots x.m ++ [bxSl (eS d x.i)], rel := fun T _ z => slotI T 10 z.i }
  | 33 => some { X := XIx fl.length, sl := [2, 5, 19], tf := fun x => [.one (.at (.ptr 3 0)), .one (.at (.slc 4)), vi .i64 x.i], hf := fun _ => [.row false EC.slot d, .row false EC.u32 fl, .row false EC.u32 roots, .box [.slc 0, .slc 1], .row true EC.find []], μ := fun x => fl.length - x.i }
  | 1036 => some { X := XIy fl.length, sl := [2, 5, 19, 180], tf := fun x => [.one (.at (.ptr 3 0)), .one (.at (.slc 4)), vi .i64 x.i, vb false], hf := fun _ => [.row false EC.slot d, .row false EC.u32 fl, .row false EC.u32 roots, .box [.slc 0, .slc 1], .row true EC.find []], rel := fun T _ z => slotI T 19 z.i }
  | 38 => some { X := XIx roots.length, sl := [2, 5, 20], tf := fun x => [.one (.at (.ptr 3 0)), .one (.at (.slc 4)), vi .i64 x.i], hf := fun _ => [.row false EC.slot d, .row false EC.u32 fl, .row false EC.u32 roots, .box [.slc 0, .slc 1], .row true EC.find []], μ := fun x => roots.length - x.i }
  | 1041 => some { X := XIy roots.length, sl := [2, 5, 20, 209], tf := fun x => [.one (.at (.ptr 3 0)), .one (.at (.slc 4)), vi .i64 x.i, vb false], hf := fun _ => [.row false EC.slot d, .row false EC.u32 fl, .row false EC.u32 roots, .box [.slc 0, .slc 1], .row true EC.find []], rel := fun T _ z => slotI T 20 z.i }
  | _ => none }
def tChk : Tfm C0 := fun args H K => match args, H with
  | [.agg [.slc 0, .slc 1], .at (.slc 2)], [.row false .slot d, .row false .u32 fl, .row false .u32 roots] => CleanD d fl roots ∧ kidsU d ∧ allU fl ∧ allU roots ∧ d.length ≤ 100000 ∧ fl.length ≤ 1000000 ∧ roots.length ≤ 1000000 ∧
    K (.one (.at (.slc 3))) [.row false EC.slot d, .row false EC.u32 fl, .row false EC.u32 roots, .row true EC.find []] []
  | _, _ => False
noncomputable def aCln : Ann C0 := { Γ := [(125, frameT [] tChk)] }
def tCln : Tfm C0 := fun args H K => match args, H with
  | [.agg [.slc 0, .slc 1], .at (.slc 2)], [.row false .slot d, .row false .u32 fl, .row false .u32 roots] => CleanD d fl roots ∧ kidsU d ∧ allU fl ∧ allU roots ∧ d.length ≤ 100000 ∧ fl.length ≤ 1000000 ∧ roots.length ≤ 1000000 ∧
    K (.one (.at (vB true))) [.row false EC.slot d, .row false EC.u32 fl, .row false EC.u32 roots] []
  | _, _ => False
noncomputable def aSound : Ann C0 := { Γ := [(21, frameT [] tDump), (91, frameT [] tCln)] }
def tSound : Tfm C0 := fun args H K => match args with
  | [.at (.ptr 0 0), .at (.slc 7)] => arMr H fun S rest => match rest with
    | [.row false .u32 roots] => ∃ hs, Wf S hs ∧ roots.Perm hs ∧ roots.length ≤ 1000000 ∧ K (.one (.at (vB true))) (chS S ++ [.row false EC.u32 roots]) []
    | _ => False
  | _ => False
def P0c (_ : Nat) (_ : Int) : Prop := True
def P4c (d : List SlotT) (i : Nat) (c : Int) : Prop := c = if (eS d i).alloc = true then 0 else 1
def P1c (d : List SlotT) (i : Nat) (c : Int) : Prop := (eS d i).alloc = true ∧ c = 1 + szD d (eS d i).node.left + szD d (eS d i).node.right
def P2c (d : List SlotT) (i : Nat) (_ : Int) : Prop := (eS d i).alloc = true
def P3c (d : List SlotT) (roots : List Int) (i : Nat) (c : Int) : Prop := c = if (eS d i).alloc = true then ((kidsL d).count ((i : Int) + 1) : Int) + (roots.count ((i : Int) + 1) : Int) else 0
end Go.Proofs.Ytbonbaccmlomhaa.Sx
end
section
/- Equal dumps, and the count of a slot of a dump. -/
namespace Go.Proofs.Ytbonbaccmlomhaa.Sx
open Go

/-KEEP Wf exW inU alcD slotsOf orderOf-/
noncomputable def aSameS (l m : List SlotT) : Ann C0 := { Γ := [], inv := fun n => match n with
  | 4 => some { X := XIx l.length, sl := [5], tf := fun x => [vi .i64 x.i], hf := fun _ => [.row false EC.slot l, .row false EC.slot m], μ := fun x => l.length - x.i }
  | _ => none }
def tSameS : Tfm C0 := fun args H K => match args, H with
  | [.at (.slc 0), .at (.slc 1)], [.row false .slot l, .row false .slot m] => l = m ∧ l.length ≤ 1000000 ∧ K (.one (.at (vB true))) [.row false EC.slot l, .row false EC.slot m] []
  | _, _ => False
noncomputable def aSameU (l m : List Int) : Ann C0 := { Γ := [], inv := fun n => match n with
  | 4 => some { X := XIx l.length, sl := [5], tf := fun x => [vi .i64 x.i], hf := fun _ => [.row false EC.u32 l, .row false EC.u32 m], μ := fun x => l.length - x.i }
  | _ => none }
def tSameU : Tfm C0 := fun args H K => match args, H with
  | [.at (.slc 0), .at (.slc 1)], [.row false .u32 l, .row false .u32 m] => l = m ∧ l.length ≤ 1000000 ∧ K (.one (.at (vB true))) [.row false EC.u32 l, .row false EC.u32 m] []
  | _, _ => False
noncomputable def aSameD : Ann C0 := { Γ := [(74, frameT [] tSameS), (75, frameT [] tSameU)] }
def tSameD : Tfm C0 := fun args H K => match args, H with
  | [.agg [.slc 0, .slc 1], .agg [.slc 2, .slc 3]], [.row false .slot d, .row false .u32 f, .row false .slot e, .row false .u32 g] => d = e ∧ f = g ∧ d.length ≤ 1000000 ∧ f.length ≤ 1000000 ∧ K (.one (.at (vB true))) [.row false EC.slot d, .row false EC.u32 f, .row false EC.slot e, .row false EC.u32 g] []
  | _, _ => False
def cntD (d : List SlotT) (i : Int) : Int := if alcD d i = true then (sltD d i).count else 0
noncomputable def aCn24 : Ann C0 := { Γ := [(140, frameT [] tAlc)] }
def tCn24 : Tfm C0 := fun args H K => match args, H with
  | [.agg [.slc 0, .slc 1], .at (.val (.int .u32 i))], [.row false .slot d, .row false .u32 fl] => inU i ∧ d.length ≤ 1000000 ∧ ∀ c, c = cntD d i → K (.one (.at (vI c))) [.row false EC.slot d, .row false EC.u32 fl] []
  | _, _ => False
end Go.Proofs.Ytbonbaccmlomhaa.Sx
end
section
/- The reference's trees over a dump: nodes, balance, height, list, order, Check, Tree. -/
namespace Go.Proofs.Ytbonbaccmlomhaa.Sx
open Go

/-KEEP Wf exW inU alcD slotsOf orderOf ndD RepD Asc Tr.Bal Tr.size Tr.list ht balB lastK anyK gtL ShpT-/
def ndD (d : List SlotT) (i : Int) : NodeT := if alcD d i = true then (sltD d i).node else NodeT.zero
def lastK : Tr → Int → Int
  | .nil, x => x
  | .node _ k _ r, _ => lastK r k
def anyK : Tr → Bool → Bool
  | .nil, b => b
  | .node _ _ _ _, _ => true
def gtL (x : Int) (l : List Ent) : Prop := ∀ y ∈ l, x < y.1
/-- An index of a dump stands for a tree. -/
def RepD (d : List SlotT) : Tr → Int → Prop
  | .nil, i => i = 0
  | .node l k v r, i => alcD d i = true ∧ (ndD d i).key = k ∧ (ndD d i).value = v ∧ (ndD d i).size = 1 + l.size + r.size ∧ RepD d l (ndD d i).left ∧ RepD d r (ndD d i).right
noncomputable def aAlcG : Ann C0 := { Γ := [(140, frameT [] tAlc)] }
def tNd : Tfm C0 := fun args H K => match args, H with
  | [.agg [.slc 0, .slc 1], .at (.val (.int .u32 i))], [.row false .slot d, .row false .u32 fl] => inU i ∧ d.length ≤ 1000000 ∧ ∀ n, n = ndD d i → K (.one (nodeA n)) [.row false EC.slot d, .row false EC.u32 fl] []
  | _, _ => False
def tBl7 (n : Nat) : Tfm C0 := fun args H K => match args, H with
  | [.agg [.slc 0, .slc 1], .at (.val (.int .u32 i))], [.row false .slot d, .row false .u32 fl] => d.length ≤ 1000000 ∧ (∃ t, RepD d t i ∧ t.Bal ∧ t.size < n ∧ t.size ≤ 1000000) ∧ K (.one (.at (vB true))) [.row false EC.slot d, .row false EC.u32 fl] []
  | _, _ => False
noncomputable def aBl7 (n : Nat) : Ann C0 := { quiet := [116, 130, 142], Γ := [(116, frameT [] tNd), (130, frameT [] tBal), (142, frameT [] (tBl7 n))] }
def tHt7 (n : Nat) : Tfm C0 := fun args H K => match args, H with
  | [.agg [.slc 0, .slc 1], .at (.val (.int .u32 i))], [.row false .slot d, .row false .u32 fl] => d.length ≤ 1000000 ∧ ∃ t, RepD d t i ∧ t.size < n ∧ t.size ≤ 1000000 ∧ ∀ h, h = (ht t : Int) → K (.one (.at (vI h))) [.row false EC.slot d, .row false EC.u32 fl] []
  | _, _ => False
def tLi7 (n : Nat) : Tfm C0 := fun args H K => match args, H with
  | [.agg [.slc 0, .slc 1], .at (.val (.int .u32 i))], [.row false .slot d, .row false .u32 fl] => d.length ≤ 1000000 ∧ ∃ t, RepD d t i ∧ t.size < n ∧ t.size ≤ 1000000 ∧ ∀ r, r = t.list → K (.one (.at (.slc 2))) [.row false EC.slot d, .row false EC.u32 fl, .row true EC.ent r] []
  | _, _ => False
noncomputable def aLi7 (n : Nat) : Ann C0 := { quiet := [116, 117], Γ := [(116, frameT [] tNd), (117, frameT [] (tLi7 n))] }
def tOr7 (n : Nat) : Tfm C0 := fun args H K => match args, H with
  | [.at (.ptr 0 0), .at (.val (.int .u32 i))], [.box [.slc 1, .slc 2, .val (.int .i64 last), .val (.bool any), .val (.int .i64 most)], .row false .slot d, .row false .u32 fl] => d.length ≤ 1000000 ∧ ∃ t, RepD d t i ∧ Asc t.list ∧ t.size < n ∧ (t.size : Int) ≤ most ∧ most ≤ 10000000 ∧ (any = true → gtL last t.list) ∧
    ∀ la an mo, la = lastK t last → an = anyK t any → mo = most - t.size → K (.one (.at (vB true))) [.box [.slc 1, .slc 2, vI la, vB an, vI mo], .row false EC.slot d, .row false EC.u32 fl] [0]
  | _, _ => False
noncomputable def aOr7 (n : Nat) : Ann C0 := { Γ := [(116, frameT [] tNd), (141, frameT [] (tOr7 n))] }
noncomputable def aCk7 (n : Nat) : Ann C0 := { Γ := [(140, frameT [] tAlc), (141, frameT [] (tOr7 n)), (142, frameT [] (tBl7 n))] }
def tCk7 : Tfm C0 := fun args H K => match args, H with
  | [.agg [.slc 0, .slc 1], .at (.val (.int .u32 i))], [.row false .slot d, .row false .u32 fl] => d.length ≤ 1000000 ∧ (∃ t, RepD d t i ∧ Asc t.list ∧ t.Bal ∧ t.size ≤ 2 * d.length + 2 ∧ t.size ≤ 1000000) ∧ K (.one (.at (vI 0))) [.row false EC.slot d, .row false EC.u32 fl] []
  | _, _ => False
noncomputable def aTr7 (n : Nat) (l : List Ent) (d : List SlotT) (fl : List Int) : Ann C0 := { Γ := [(115, frameT [] tCk7), (116, frameT [] tNd), (117, frameT [] (tLi7 n))], inv := fun k => match k with
  | 7 => some { X := XIx l.length, sl := [8, 3, 7], tf := fun x => [vi .i64 x.i, .one (.at (.ptr 3 0)), .one (.at (.slc 4))], hf := fun _ => [.row false EC.slot d, .row false EC.u32 fl, .row false EC.ent l, .box [.slc 0, .slc 1], .row true EC.ent l], μ := fun x => l.length - x.i }
  | _ => none }
def tTr7 : Tfm C0 := fun args H K => match args, H with
  | [.agg [.slc 0, .slc 1], .at (.val (.int .u32 i)), .at (.slc 2)], [.row false .slot d, .row false .u32 fl, .row false .ent l] => d.length ≤ 1000000 ∧ (∃ t, RepD d t i ∧ Asc t.list ∧ t.Bal ∧ t.size ≤ 2 * d.length + 2 ∧ t.size ≤ 1000000 ∧ t.list = l) ∧ K (.one (.at (vB true))) [.row false EC.slot d, .row false EC.u32 fl, .row false EC.ent l] []
  | _, _ => False
theorem bt7 {b : Bool} {t f : Prop} (h : b = true) (ht : t) : brS b t f := by rw [h]; exact ht
theorem RepD.inU {d : List SlotT} {t : Tr} {i : Int} (h : RepD d t i) (hl : d.length ≤ 1000000) : inU i := by
  cases t with
  | nil => have : i = 0 := h; rw [this]; exact ⟨by omega, by omega⟩
  | node l k v r => have := alcD_rng h.1; exact ⟨by omega, by omega⟩
theorem RepD.sz {d : List SlotT} {t : Tr} {i : Int} (h : RepD d t i) : (ndD d i).size = t.size := by
  cases t with
  | nil =>
    have : i = 0 := h
    unfold ndD
    rw [this, alcD_lo (by omega)]; rfl
  | node l k v r => rw [h.2.2.2.1]; simp [Tr.size]
/-! ### From the arena to its dump -/
end Go.Proofs.Ytbonbaccmlomhaa.Sx
end
section
/- What the update laws share: Kept, spare, awake, lengths of dumps. -/
namespace Go.Proofs.Ytbonbaccmlomhaa.Sx
open Go

/-KEEP Wf exW inU live Arn.cap Arn.free Rep rdS Tr.size Tr.list alcD slotsOf orderOf PlantR newS insE flt getE TrR upM Hn-/
/-- Every slot that is allocated in d is so in e, with the same node and generation. -/
def keptD (d e : List SlotT) : Prop := d.length = e.length ∧ ∀ i : Nat, i < d.length → (eS d i).alloc = true → (eS e i).alloc = true ∧ (eS e i).node = (eS d i).node ∧ (eS e i).gen = (eS d i).gen
structure XKp (d : List SlotT) where
  i : Nat
  h : i ≤ d.length
noncomputable def aKp (d e : List SlotT) (fl gl : List Int) : Ann C0 := { Γ := [], inv := fun n => match n with
  | 4 => some { X := XKp d, sl := [5, 2, 3], tf := fun x => [vi .i64 x.i, .one (.at (.ptr 4 0)), .one (.at (.ptr 5 0))], hf := fun _ => [.row false EC.slot d, .row false EC.u32 fl, .row false EC.slot e, .row false EC.u32 gl, .box [.slc 0, .slc 1], .box [.slc 2, .slc 3]], μ := fun x => d.length - x.i }
  | _ => none }
def tKept : Tfm C0 := fun args H K => match args, H with
  | [.agg [.slc 0, .slc 1], .agg [.slc 2, .slc 3]], [.row false .slot d, .row false .u32 fl, .row false .slot e, .row false .u32 gl] => keptD d e ∧ d.length ≤ 1000000 ∧ K (.one (.at (vB true))) [.row false EC.slot d, .row false EC.u32 fl, .row false EC.slot e, .row false EC.u32 gl] []
  | _, _ => False
def tSpare : Tfm C0 := fun args H K => match args, H with
  | [.at (.val (.int .u16 n)), .at (.val (.int .i64 need))], [] => 0 ≤ n ∧ n ≤ 65535 ∧ 0 ≤ need ∧ need ≤ 60000 ∧ ∀ s, 0 ≤ s → s ≤ need + 8 → K (.one (.at (vI s))) [] []
  | _, _ => False
noncomputable def aAw14 : Ann C0 := { Γ := [(34, frameT [] tNew), (59, frameT [] tUpIn), (57, frameT [] tUpDe), (49, frameT [] tSize)] }
def tAw14 : Tfm C0 := fun args H K => match args, H with
  | [], [] => K (.one (.at (vB true))) [] []
  | _, _ => False
theorem newS_free (c : Nat) : (newS c).free = c := by
  unfold Arn.free Arn.cap newS
  simp
end Go.Proofs.Ytbonbaccmlomhaa.Sx
end
