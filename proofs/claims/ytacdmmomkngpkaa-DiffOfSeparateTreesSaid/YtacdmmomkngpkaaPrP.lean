/- What is still to come of two trees, as plain data: what a walk through both finds is the patch between their lists. -/
import Derived.Test.YtacdmmomkngpkaaQR9
import Derived.Test.YtacdmmomkngpkaaArC
namespace Go.Proofs.Ytacdmmomkngpkaa.Sx
open Go

def itZ : ItemT := ⟨0, 0, 0, 0, false⟩
def lastI (l : List ItemT) : ItemT := l.getLastD itZ
def pushL (S : Arn) (l : List ItemT) (i : Int) : List ItemT := if i = 0 then l else l ++ [⟨i, (S.nd i).size, 0, 0, false⟩]
def expL (S : Arn) (l : List ItemT) : List ItemT := pushL S (pushL S l.dropLast (S.nd (lastI l).index).right ++ [⟨0, 0, (S.nd (lastI l).index).key, (S.nd (lastI l).index).value, true⟩]) (S.nd (lastI l).index).left

inductive Part where
  | tr (t : Tr)
  | en (e : Ent)
def Part.list : Part → List Ent
  | .tr t => t.list
  | .en e => [e]
def Part.w : Part → Nat
  | .tr t => 2 * t.size
  | .en _ => 1
def flatP (ps : List Part) : List Ent := ps.flatMap Part.list
def wgt : List Part → Nat
  | [] => 0
  | p :: ps => p.w + wgt ps
def PartR (S : Arn) : Part → ItemT → Prop
  | .tr t, x => x.single = false ∧ S.us x.index = true ∧ Rep S t x.index ∧ x.size = t.size
  | .en e, x => x.single = true ∧ x.key = e.1 ∧ x.value = e.2
def StkR (S : Arn) : List Part → List ItemT → Prop
  | [], l => l = []
  | p :: ps, l => l ≠ [] ∧ PartR S p (lastI l) ∧ StkR S ps l.dropLast
def trP (t : Tr) (ps : List Part) : List Part := match t with
  | .nil => ps
  | .node .. => .tr t :: ps

variable {S : Arn} {hs : List Int}
theorem lastI_snoc (l : List ItemT) (x : ItemT) : lastI (l ++ [x]) = x := by simp [lastI]
theorem lastI_at {l : List ItemT} (h : l ≠ []) : l.dropLast ++ [lastI l] = l := by
  unfold lastI
  rw [List.getLastD_eq_getLast?, List.getLast?_eq_some_getLast h]
  exact List.dropLast_concat_getLast h
theorem StkR.push {ps : List Part} {l : List ItemT} (h : StkR S ps l) {p : Part} {x : ItemT} (hp : PartR S p x) : StkR S (p :: ps) (l ++ [x]) :=
  ⟨by simp, by rw [lastI_snoc]; exact hp, by rw [List.dropLast_concat]; exact h⟩
theorem flatP_trP (t : Tr) (ps : List Part) : flatP (trP t ps) = t.list ++ flatP ps := by
  cases t <;> simp [trP, flatP, Part.list, Tr.list]
theorem wgt_trP (t : Tr) (ps : List Part) : wgt (trP t ps) = 2 * t.size + wgt ps := by
  cases t <;> simp [trP, wgt, Part.w, Tr.size]
theorem StkR.tree (w : Wf S hs) {ps : List Part} {l : List ItemT} (h : StkR S ps l) {t : Tr} {i : Int} (hr : Rep S t i) : StkR S (trP t ps) (pushL S l i) := by
  cases t with
  | nil =>
    have : i = 0 := hr
    subst this
    simpa [trP, pushL] using h
  | node a k v b =>
    have hu := hr.1
    have := (w.pos hu).1
    rw [pushL, if_neg (by omega)]
    exact h.push (show PartR S (.tr (.node a k v b)) _ from ⟨rfl, hu, hr, hr.size w⟩)
theorem StkR.exp (w : Wf S hs) {a b : Tr} {k v : Int} {ps : List Part} {l : List ItemT} (h : StkR S (.tr (.node a k v b) :: ps) l) : StkR S (trP a (.en (k, v) :: trP b ps)) (expL S l) := by
  obtain ⟨_, ⟨_, _, ⟨_, h2, h3, h4, h5⟩, _⟩, h6⟩ := h
  exact ((h6.tree w h5).push (show PartR S (.en (k, v)) _ from ⟨rfl, h2, h3⟩)).tree w h4
theorem StkR.len (w : Wf S hs) : ∀ {ps : List Part} {l : List ItemT}, StkR S ps l → l.length ≤ wgt ps
  | [], l, h => by have : l = [] := h; simp [this]
  | p :: ps, l, h => by
    obtain ⟨h1, h2, h3⟩ := h
    have := StkR.len w h3
    have h4 := congrArg List.length (lastI_at h1)
    rw [List.length_append] at h4
    have : 1 ≤ p.w := by
      cases p with
      | en e => exact Nat.le_refl 1
      | tr t =>
        cases t with
        | nil =>
          have h5 : (lastI l).index = 0 := h2.2.2.1
          have := (w.pos h2.2.1).1
          omega
        | node a k v b => simp [Part.w, Tr.size]; omega
    simp only [wgt, List.length_singleton] at *
    omega
theorem StkR.empty {ps : List Part} (h : StkR S ps []) : ps = [] := by
  cases ps with
  | nil => rfl
  | cons p ps => exact absurd rfl h.1
theorem StkR.cons {ps : List Part} {l : List ItemT} (h : StkR S ps l) (hl : l ≠ []) : ∃ p qs, ps = p :: qs ∧ PartR S p (lastI l) ∧ StkR S qs l.dropLast := by
  cases ps with
  | nil => exact absurd h hl
  | cons p ps => exact ⟨p, ps, rfl, h.2⟩
theorem PartR.tree (w : Wf S hs) {p : Part} {x : ItemT} (h : PartR S p x) (hx : x.single = false) : ∃ a k v b, p = .tr (.node a k v b) ∧ S.us x.index = true ∧ Rep S (.node a k v b) x.index ∧ x.size = 1 + a.size + b.size := by
  cases p with
  | en e => have := h.1; rw [hx] at this; cases this
  | tr t =>
    cases t with
    | nil =>
      have h5 : x.index = 0 := h.2.2.1
      have := (w.pos h.2.1).1
      omega
    | node a k v b => exact ⟨a, k, v, b, rfl, h.2.1, h.2.2.1, by rw [h.2.2.2]; simp [Tr.size]⟩
theorem PartR.ent {p : Part} {x : ItemT} (h : PartR S p x) (hx : x.single = true) : p = .en (x.key, x.value) := by
  cases p with
  | en e => obtain ⟨_, h1, h2⟩ := h; rw [h1, h2]
  | tr t => have := h.1; rw [hx] at this; cases this

/-! ### What a visitor finds -/
def goV {σ : Type} (f : Chg → σ → σ × Bool) : σ → List Chg → σ
  | s, [] => s
  | s, c :: cs => if (f c s).2 then goV f (f c s).1 cs else (f c s).1
def stepV {σ : Type} (f : Chg → σ → σ × Bool) (cs : List Chg) (s : σ) : σ × Bool := match cs with
  | [] => (s, true)
  | c :: _ => f c s
theorem goV_step {σ : Type} (f : Chg → σ → σ × Bool) {cs : List Chg} (h : cs.length ≤ 1) (s : σ) (rest : List Chg) : goV f s (cs ++ rest) = if (stepV f cs s).2 then goV f (stepV f cs s).1 rest else (stepV f cs s).1 := by
  match cs, h with
  | [], _ => simp [stepV]
  | [c], _ => rfl
/-- What a pair says. -/
def pairC (k l r : Int) (inL inR : Bool) : List Chg := if inL then (if inR then (if l = r then [] else [⟨3, k, l, r⟩]) else [⟨2, k, l, 0⟩]) else [⟨1, k, 0, r⟩]
theorem pairC_len (k l r : Int) (a b : Bool) : (pairC k l r a b).length ≤ 1 := by
  unfold pairC; repeat' split
  all_goals simp
theorem pE_common (l A B : List Ent) : pE (l ++ A) (l ++ B) = l.map (fun x => (some x, some x)) ++ pE A B := by
  induction l with
  | nil => rfl
  | cons x l ih =>
    show pairs Prod.fst Prod.fst (x :: (l ++ A)) (x :: (l ++ B)) = _
    rw [pairs, if_neg (by omega), if_neg (by omega)]
    exact congrArg _ ih
theorem btw_common (l A B : List Ent) : btw (l ++ A) (l ++ B) = btw A B := by
  unfold btw
  rw [pE_common, List.flatMap_append]
  have : (l.map fun x => (some x, some x)).flatMap btw1 = [] := by
    rw [List.flatMap_eq_nil_iff]
    intro z hz
    obtain ⟨x, _, rfl⟩ := List.mem_map.1 hz
    simp [btw1, mkChg]
  rw [this]; rfl
theorem btw_left (e : Ent) (A : List Ent) : btw (e :: A) [] = pairC e.1 e.2 0 true false ++ btw A [] := by
  unfold btw pE
  rw [pairs, List.flatMap_cons]
  rfl
theorem btw_right (e : Ent) (B : List Ent) : btw [] (e :: B) = pairC e.1 0 e.2 false true ++ btw [] B := by
  unfold btw pE
  rw [pairs, List.flatMap_cons]
  rfl
theorem btw_lt {e f : Ent} (h : e.1 < f.1) (A B : List Ent) : btw (e :: A) (f :: B) = pairC e.1 e.2 0 true false ++ btw A (f :: B) := by
  unfold btw pE
  rw [pairs, if_pos h, List.flatMap_cons]
  rfl
theorem btw_gt {e f : Ent} (h : f.1 < e.1) (A B : List Ent) : btw (e :: A) (f :: B) = pairC f.1 0 f.2 false true ++ btw (e :: A) B := by
  unfold btw pE
  rw [pairs, if_neg (by omega), if_pos h, List.flatMap_cons]
  rfl
theorem btw_eq {e f : Ent} (h : e.1 = f.1) (A B : List Ent) : btw (e :: A) (f :: B) = pairC f.1 e.2 f.2 true true ++ btw A B := by
  unfold btw pE
  rw [pairs, if_neg (by omega), if_neg (by omega), List.flatMap_cons]
  congr 1
  simp only [btw1, mkChg, pkey, pairC, Option.map]
  split <;> simp_all

/-! ### The walk's steps -/
def wI (x : ItemT) : Nat := if x.single then 1 else 2 * x.size.toNat
def wL (l : List ItemT) : Nat := (l.map wI).sum
theorem wL_snoc (l : List ItemT) (x : ItemT) : wL (l ++ [x]) = wL l + wI x := by simp [wL]
theorem wL_last {l : List ItemT} (h : l ≠ []) : wL l = wL l.dropLast + wI (lastI l) := by
  conv => lhs; rw [← lastI_at h]
  exact wL_snoc _ _
theorem StkR.wgt : ∀ {ps : List Part} {l : List ItemT}, StkR S ps l → wL l = Sx.wgt ps
  | [], l, h => by have : l = [] := h; subst this; rfl
  | p :: ps, l, h => by
    obtain ⟨h1, h2, h3⟩ := h
    rw [wL_last h1, StkR.wgt h3, Sx.wgt]
    have : wI (lastI l) = p.w := by
      cases p with
      | en e => have := h2.1; simp [wI, this, Part.w]
      | tr t => have h4 := h2.1; have h5 := h2.2.2.2; simp [wI, h4, Part.w, h5]
    omega
structure PIn {σ : Type} (S : Arn) (f : Chg → σ → σ × Bool) (fin : σ) (sz : σ → Nat) (W Z : Nat) (l r : List ItemT) (s : σ) (m : Nat) : Prop where
  ex : ∃ ps qs, StkR S ps l ∧ StkR S qs r ∧ goV f s (btw (flatP ps) (flatP qs)) = fin
  rd : m + 3 * (wL l + wL r) ≤ 2 + 3 * W
  zs : sz s + (wL l + wL r) ≤ Z
section
variable {σ : Type} {f : Chg → σ → σ × Bool} {fin s : σ} {sz : σ → Nat} {W Z m : Nat} {l r : List ItemT}
theorem PIn.init (w : Wf S hs) {x y : Int} {t1 t2 : Tr} (h1 : Rep S t1 x) (h2 : Rep S t2 y) (hm : m ≤ 2) (hz : sz s + 2 * (t1.size + t2.size) ≤ Z) : PIn S f (goV f s (btw t1.list t2.list)) sz (2 * (t1.size + t2.size)) Z (pushL S [] x) (pushL S [] y) s m := by
  have a1 : StkR S (trP t1 []) (pushL S [] x) := StkR.tree w (show StkR S [] [] from rfl) h1
  have a2 : StkR S (trP t2 []) (pushL S [] y) := StkR.tree w (show StkR S [] [] from rfl) h2
  have e1 := a1.wgt
  have e2 := a2.wgt
  rw [wgt_trP] at e1 e2
  simp only [Sx.wgt] at e1 e2
  refine ⟨⟨_, _, a1, a2, ?_⟩, by omega, by omega⟩
  rw [flatP_trP, flatP_trP]
  simp [flatP]
theorem PIn.len (w : Wf S hs) (h : PIn S f fin sz W Z l r s m) : l.length ≤ Z ∧ r.length ≤ Z ∧ sz s ≤ Z ∧ m ≤ 2 + 3 * W := by
  obtain ⟨⟨ps, qs, h1, h2, _⟩, h3, h4⟩ := h
  have := h1.len w; have := h2.len w
  have := h1.wgt; have := h2.wgt
  omega
theorem PIn.done (h : PIn S f fin sz W Z [] [] s m) : s = fin := by
  obtain ⟨⟨ps, qs, h1, h2, h3⟩, _, _⟩ := h
  rw [h1.empty, h2.empty] at h3
  have e : btw (flatP []) (flatP []) = [] := by
    show btw [] [] = []
    unfold btw pE; rw [pairs]; rfl
  rw [e] at h3
  exact h3
theorem PIn.common (w : Wf S hs) (h : PIn S f fin sz W Z l r s m) (hl : l ≠ []) (hr : r ≠ []) (h1 : (lastI l).single = false) (h2 : (lastI r).single = false) (he : (lastI l).index = (lastI r).index) : PIn S f fin sz W Z l.dropLast r.dropLast s m ∧ wL l.dropLast + wL r.dropLast < wL l + wL r := by
  obtain ⟨⟨ps, qs, a1, a2, a3⟩, a4, a5⟩ := h
  obtain ⟨p, ps', rfl, b1, b2⟩ := a1.cons hl
  obtain ⟨q, qs', rfl, c1, c2⟩ := a2.cons hr
  obtain ⟨x, k, v, y, rfl, d1, d2, d3⟩ := b1.tree w h1
  obtain ⟨x', k', v', y', rfl, e1, e2, e3⟩ := c1.tree w h2
  rw [he] at d2
  have ei := Rep.inj (w.us0 (Int.le_refl 0)) d2 e2
  rw [← ei] at a3
  have f1 := wL_last hl
  have f2 := wL_last hr
  have f3 : 1 ≤ wI (lastI l) := by simp [wI, h1]; omega
  refine ⟨⟨⟨ps', qs', b2, c2, ?_⟩, by omega, by omega⟩, by omega⟩
  rw [← a3]
  simp only [flatP, List.flatMap_cons, Part.list]
  rw [btw_common]
theorem wL_exp (w : Wf S hs) {ps : List Part} {a b : Tr} {k v : Int} (h : StkR S (.tr (.node a k v b) :: ps) l) : wL (expL S l) + 1 = wL l := by
  have h1 := (h.exp w).wgt
  have h2 := h.wgt
  rw [wgt_trP] at h1
  simp only [Sx.wgt, Part.w, Tr.size] at h1 h2
  rw [wgt_trP] at h1
  omega
theorem flatP_exp (a b : Tr) (k v : Int) (ps : List Part) : flatP (trP a (.en (k, v) :: trP b ps)) = flatP (.tr (.node a k v b) :: ps) := by
  rw [flatP_trP]
  show a.list ++ ((k, v) :: flatP (trP b ps)) = _
  rw [flatP_trP]
  simp [flatP, Part.list, Tr.list]
theorem PIn.left (w : Wf S hs) (h : PIn S f fin sz W Z l r s m) (hl : l ≠ []) (h1 : (lastI l).single = false) : S.us (lastI l).index = true ∧ ∀ k, k ≤ 3 → PIn S f fin sz W Z (expL S l) r s (m + k) ∧ wL (expL S l) + wL r < wL l + wL r := by
  obtain ⟨⟨ps, qs, a1, a2, a3⟩, a4, a5⟩ := h
  obtain ⟨p, ps', rfl, b1, b2⟩ := a1.cons hl
  obtain ⟨x, k, v, y, rfl, d1, d2, d3⟩ := b1.tree w h1
  have e := wL_exp w a1
  refine ⟨d1, fun n hn => ⟨⟨⟨_, qs, a1.exp w, a2, ?_⟩, by omega, by omega⟩, by omega⟩⟩
  rw [flatP_exp]; exact a3
theorem PIn.right (w : Wf S hs) (h : PIn S f fin sz W Z l r s m) (hr : r ≠ []) (h1 : (lastI r).single = false) : S.us (lastI r).index = true ∧ ∀ k, k ≤ 3 → PIn S f fin sz W Z l (expL S r) s (m + k) ∧ wL l + wL (expL S r) < wL l + wL r := by
  obtain ⟨⟨ps, qs, a1, a2, a3⟩, a4, a5⟩ := h
  obtain ⟨p, qs', rfl, b1, b2⟩ := a2.cons hr
  obtain ⟨x, k, v, y, rfl, d1, d2, d3⟩ := b1.tree w h1
  have e := wL_exp w a2
  refine ⟨d1, fun n hn => ⟨⟨⟨ps, _, a1, a2.exp w, ?_⟩, by omega, by omega⟩, by omega⟩⟩
  rw [flatP_exp]; exact a3
def inL (l r : List ItemT) : Bool := decide (l ≠ []) && (decide (r = []) || decide ((lastI l).key ≤ (lastI r).key))
def popI (b : Bool) (l : List ItemT) : List ItemT := if b then l.dropLast else l
/-- The next pair: both tops are entries, or one stack is empty. -/
theorem PIn.visit (h : PIn S f fin sz W Z l r s m) (hsz : ∀ c s, sz (f c s).1 ≤ sz s + 1) (hne : ¬ (l = [] ∧ r = [])) (h1 : l ≠ [] → (lastI l).single = true) (h2 : r ≠ [] → (lastI r).single = true) (s' : σ) (b : Bool)
    (hv : (s', b) = stepV f (pairC (if inL r l then (lastI r).key else (lastI l).key) (if inL l r then (lastI l).value else 0) (if inL r l then (lastI r).value else 0) (inL l r) (inL r l)) s) :
    (b = false → s' = fin) ∧ (b = true → PIn S f fin sz W Z (popI (inL l r) l) (popI (inL r l) r) s' m) ∧ wL (popI (inL l r) l) + wL (popI (inL r l) r) < wL l + wL r := by
  obtain ⟨⟨ps, qs, a1, a2, a3⟩, a4, a5⟩ := h
  have key : ∀ (k x y : Int) (ps' qs' : List Part) (L R : List ItemT) (c d : Bool), (s', b) = stepV f (pairC k x y c d) s → btw (flatP ps) (flatP qs) = pairC k x y c d ++ btw (flatP ps') (flatP qs') → StkR S ps' L → StkR S qs' R → wL L + wL R < wL l + wL r →
      (b = false → s' = fin) ∧ (b = true → PIn S f fin sz W Z L R s' m) ∧ wL L + wL R < wL l + wL r := by
    intro k x y ps' qs' L R c d hv e b1 b2 b3
    rw [e, goV_step f (pairC_len _ _ _ _ _), ← hv] at a3
    have hs : sz s' ≤ sz s + 1 := by
      have hl := pairC_len k x y c d
      have e1 : s' = (stepV f (pairC k x y c d) s).1 := by rw [← hv]
      rw [e1]
      unfold stepV
      split
      · exact Nat.le_succ _
      · exact hsz _ _
    refine ⟨fun hb => ?_, fun hb => ⟨⟨ps', qs', b1, b2, ?_⟩, by omega, by omega⟩, b3⟩
    · rw [hb] at a3; simpa using a3
    · rw [hb] at a3; simpa using a3
  have w1 : l ≠ [] → wL l = wL l.dropLast + 1 := fun c => by rw [wL_last c]; simp [wI, h1 c]
  have w2 : r ≠ [] → wL r = wL r.dropLast + 1 := fun c => by rw [wL_last c]; simp [wI, h2 c]
  by_cases cl : l = []
  · have cr : r ≠ [] := fun c => hne ⟨cl, c⟩
    obtain ⟨q, qs', rfl, c1, c2⟩ := a2.cons cr
    have eq := c1.ent (h2 cr)
    subst cl
    have ep := a1.empty
    subst ep eq
    have i1 : inL [] r = false := by simp [inL]
    have i2 : inL r [] = true := by simp [inL, cr]
    rw [i1, i2] at hv ⊢
    refine key _ _ _ [] qs' _ _ _ _ hv ?_ a1 c2 ?_
    · exact btw_right _ _
    · have := w2 cr; simp [popI]; omega
  · obtain ⟨p, ps', rfl, b1, b2⟩ := a1.cons cl
    have ep := b1.ent (h1 cl)
    subst ep
    by_cases cr : r = []
    · subst cr
      have eq := a2.empty
      subst eq
      have i1 : inL l [] = true := by simp [inL, cl]
      have i2 : inL [] l = false := by simp [inL]
      rw [i1, i2] at hv ⊢
      refine key _ _ _ ps' [] _ _ _ _ hv ?_ b2 a2 ?_
      · exact btw_left _ _
      · have := w1 cl; simp [popI]; omega
    · obtain ⟨q, qs', rfl, c1, c2⟩ := a2.cons cr
      have eq := c1.ent (h2 cr)
      subst eq
      have v1 := w1 cl
      have v2 := w2 cr
      rcases Int.lt_trichotomy (lastI l).key (lastI r).key with hlt | heq | hgt
      · have i1 : inL l r = true := by simp [inL, cl, cr]; omega
        have i2 : inL r l = false := by simp [inL, cl, cr]; omega
        rw [i1, i2] at hv ⊢
        refine key _ _ _ ps' (_ :: qs') _ _ _ _ hv ?_ b2 a2 ?_
        · exact btw_lt hlt _ _
        · simp [popI]; omega
      · have i1 : inL l r = true := by simp [inL, cl, cr]; omega
        have i2 : inL r l = true := by simp [inL, cl, cr]; omega
        rw [i1, i2] at hv ⊢
        refine key _ _ _ ps' qs' _ _ _ _ hv ?_ b2 c2 ?_
        · exact btw_eq heq _ _
        · simp [popI]; omega
      · have i1 : inL l r = false := by simp [inL, cl, cr]; omega
        have i2 : inL r l = true := by simp [inL, cl, cr]; omega
        rw [i1, i2] at hv ⊢
        refine key _ _ _ (_ :: ps') qs' _ _ _ _ hv ?_ a1 c2 ?_
        · exact btw_gt hgt _ _
        · simp [popI]; omega
end
end Go.Proofs.Ytacdmmomkngpkaa.Sx
