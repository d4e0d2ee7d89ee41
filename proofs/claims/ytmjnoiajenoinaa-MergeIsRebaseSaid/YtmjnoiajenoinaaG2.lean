/- A part of the proof. -/
import Derived.Test.YtmjnoiajenoinaaG1
import Derived.WalkKit
import Derived.ProofKit
import Derived.OpenShut
import Derived.OrdersHeld
import Derived.Laws.AppendOwnNone
import Derived.Deep.Draws
import Derived.MapKept
import Derived.Carry
section
/- Plain laws of patches: what each function of the patch layer comes to, on lists. No program in sight. -/
namespace Go.Proofs.Ytmjnoiajenoinaa

structure Chg where
  kind : Int
  key : Int
  old : Int
  new : Int
  deriving DecidableEq

def Chg.before (c : Chg) : Option Int := if c.kind = 1 then none else some c.old
def Chg.after (c : Chg) : Option Int := if c.kind = 2 then none else some c.new

/-- The change of a key from one value to another one, if they differ. -/
def mkChg (k : Int) (x y : Option Int) : Option Chg :=
  if x = y then none else match x, y with
    | none, none => none
    | none, some v => some ⟨1, k, 0, v⟩
    | some u, none => some ⟨2, k, u, 0⟩
    | some u, some v => some ⟨3, k, u, v⟩

theorem mkChg_some {k : Int} {x y : Option Int} {c : Chg} (h : mkChg k x y = some c) : c.key = k ∧ c.before = x ∧ c.after = y ∧ x ≠ y ∧ (c.kind = 1 ∨ c.kind = 2 ∨ c.kind = 3) := by
  unfold mkChg at h
  split at h
  · cases h
  · rename_i hne
    cases x <;> cases y <;> simp at h <;> subst h <;> simp [Chg.before, Chg.after]
    simpa using hne

theorem mkChg_none {k : Int} {x y : Option Int} : mkChg k x y = none ↔ x = y := by
  unfold mkChg
  split
  · simp [*]
  · cases x <;> cases y <;> simp_all

/-- A change that is what its own values say. -/
def Chg.ok (c : Chg) : Prop := mkChg c.key c.before c.after = some c
instance (c : Chg) : Decidable c.ok := by unfold Chg.ok; infer_instance

theorem mkChg_ok {k : Int} {x y : Option Int} {c : Chg} (h : mkChg k x y = some c) : c.ok := by
  obtain ⟨h1, h2, h3, _, _⟩ := mkChg_some h
  unfold Chg.ok; rw [h1, h2, h3]; exact h

theorem Chg.ok_kind {c : Chg} (h : c.ok) : c.kind = 1 ∨ c.kind = 2 ∨ c.kind = 3 := (mkChg_some h).2.2.2.2
theorem Chg.ok_ext {c d : Chg} (hc : c.ok) (hd : d.ok) (hk : c.key = d.key) (hb : c.before = d.before) (ha : c.after = d.after) : c = d := by
  unfold Chg.ok at hc hd
  rw [hk, hb, ha, hd] at hc
  exact (Option.some.inj hc).symm

/-- A valid patch. -/
def Val (p : List Chg) : Prop := Srt Chg.key p ∧ ∀ c ∈ p, c.ok

def valGo : Option Int → List Chg → Bool
  | _, [] => true
  | prev, c :: t => (match prev with | none => true | some k => decide (k < c.key)) && decide c.ok && valGo (some c.key) t

theorem valGo_iff (p : List Chg) : ∀ prev, valGo prev p = true ↔ Val p ∧ (∀ k, prev = some k → ∀ c ∈ p, k < c.key) := by
  induction p with
  | nil => intro prev; simp [valGo, Val, Srt.nil]
  | cons c t ih =>
    intro prev
    simp only [valGo, Bool.and_eq_true, decide_eq_true_eq, ih]
    constructor
    · rintro ⟨⟨h1, h2⟩, ⟨h3, h4⟩, h5⟩
      have h6 := h5 c.key rfl
      refine ⟨⟨h3.cons h6, ?_⟩, ?_⟩
      · intro d hd
        rcases List.mem_cons.1 hd with rfl | hd
        · exact h2
        · exact h4 d hd
      · intro k hk d hd
        subst hk
        simp at h1
        rcases List.mem_cons.1 hd with rfl | hd
        · exact h1
        · have := h6 d hd; omega
    · rintro ⟨⟨h1, h2⟩, h3⟩
      refine ⟨⟨?_, h2 c List.mem_cons_self⟩, ⟨h1.tail, fun d hd => h2 d (List.mem_cons_of_mem _ hd)⟩, ?_⟩
      · cases prev with
        | none => rfl
        | some k => simpa using h3 k rfl c List.mem_cons_self
      · intro k hk d hd
        cases hk
        exact h1.head d hd

def valB (p : List Chg) : Bool := valGo none p
theorem valB_iff {p : List Chg} : valB p = true ↔ Val p := by
  unfold valB; rw [valGo_iff]; simp

/-! ### The patch between two lists -/
abbrev pE := pairs (Prod.fst : Ent → Int) (Prod.fst : Ent → Int)
abbrev pC := pairs Chg.key Chg.key
abbrev pEC := pairs (Prod.fst : Ent → Int) Chg.key

def btw1 (z : Option Ent × Option Ent) : List Chg := (mkChg (pkey Prod.fst Prod.fst z) (z.1.map Prod.snd) (z.2.map Prod.snd)).toList
def btw (l m : List Ent) : List Chg := (pE l m).flatMap btw1

/-- An ascending list of what is made of each element of an ascending list, at most one each, under its key. -/
theorem flatOpt_srt {α β : Type} {ka : α → Int} {kb : β → Int} (f : α → Option β) (hf : ∀ x y, f x = some y → kb y = ka x) {l : List α} (h : Srt ka l) :
    Srt kb (l.flatMap fun x => (f x).toList) := by
  induction l with
  | nil => exact Srt.nil
  | cons x t ih =>
    rw [List.flatMap_cons]
    cases hx : f x with
    | none => simpa [hx] using ih h.tail
    | some y =>
      show Srt kb (y :: t.flatMap fun x => (f x).toList)
      refine Srt.cons (ih h.tail) fun z hz => ?_
      rw [List.mem_flatMap] at hz
      obtain ⟨u, hu, hz⟩ := hz
      rw [hf x y hx, hf u z (by simpa using hz)]
      exact h.head u hu

theorem flatOpt_fnd {α β : Type} {ka : α → Int} {kb : β → Int} (f : α → Option β) (hf : ∀ x y, f x = some y → kb y = ka x) {l : List α} (h : Srt ka l) (k : Int) :
    fnd kb (l.flatMap fun x => (f x).toList) k = (fnd ka l k).bind f := by
  induction l with
  | nil => rfl
  | cons x t ih =>
    rw [List.flatMap_cons, fnd_append, fnd_cons, ih h.tail]
    by_cases e : ka x = k
    · rw [if_pos e]
      cases hx : f x with
      | none =>
        have : fnd ka t k = none := fnd_of_lt fun z hz => by have := h.head z hz; omega
        simp [hx, this, fnd_nil]
      | some y => simp [hx, fnd_cons, hf x y hx, e]
    · rw [if_neg e]
      cases hx : f x with
      | none => simp [fnd_nil]
      | some y => simp [fnd_cons, hf x y hx, e, fnd_nil]

theorem btw_srt {l m : List Ent} (hl : Asc l) (hm : Asc m) : Srt Chg.key (btw l m) :=
  flatOpt_srt (ka := pkey Prod.fst Prod.fst) (fun z => mkChg (pkey Prod.fst Prod.fst z) (z.1.map Prod.snd) (z.2.map Prod.snd)) (fun _ _ h => (mkChg_some h).1) (pairs_srt l m hl hm)

theorem btw_fnd {l m : List Ent} (hl : Asc l) (hm : Asc m) (k : Int) : fnd Chg.key (btw l m) k = mkChg k (getE l k) (getE m k) := by
  have h := flatOpt_fnd (ka := pkey Prod.fst Prod.fst) (kb := Chg.key) (fun z : Option Ent × Option Ent => mkChg (pkey Prod.fst Prod.fst z) (z.1.map Prod.snd) (z.2.map Prod.snd)) (fun _ _ h => (mkChg_some h).1) (pairs_srt l m hl hm) k
  refine h.trans ?_
  cases hz : fnd (pkey Prod.fst Prod.fst) (pE l m) k with
  | none =>
    rw [pairs_fnd l m hl hm] at hz
    unfold both2 at hz
    split at hz
    · cases hz
    · rename_i hn
      simp at hn
      rw [getE_fnd, getE_fnd, hn.1, hn.2]
      simp [mkChg_none.2 rfl]
  | some z =>
    have hk := fnd_key hz
    rw [pairs_fnd l m hl hm] at hz
    unfold both2 at hz
    split at hz
    · cases hz
      simp only [Option.bind_some, hk, getE_fnd]
    · cases hz

theorem btw_val {l m : List Ent} (hl : Asc l) (hm : Asc m) : Val (btw l m) := by
  refine ⟨btw_srt hl hm, fun c hc => ?_⟩
  have := (btw_srt hl hm).fnd_self hc
  rw [btw_fnd hl hm] at this
  exact mkChg_ok this

/-- A valid patch is known by its changes' values, key by key. -/
theorem Val.ext {p q : List Chg} (hp : Val p) (hq : Val q) (h : ∀ k, (fnd Chg.key p k).map (fun c => (c.before, c.after)) = (fnd Chg.key q k).map (fun c => (c.before, c.after))) : p = q := by
  refine Srt.ext (key := Chg.key) hp.1 hq.1 fun k => ?_
  have := h k
  cases h1 : fnd Chg.key p k with
  | none => rw [h1] at this; cases h2 : fnd Chg.key q k with
    | none => rfl
    | some d => rw [h2] at this; cases this
  | some c =>
    cases h2 : fnd Chg.key q k with
    | none => rw [h1, h2] at this; cases this
    | some d =>
      rw [h1, h2] at this
      simp at this
      rw [Chg.ok_ext (hp.2 c (fnd_mem h1)) (hq.2 d (fnd_mem h2)) ((fnd_key h1).trans (fnd_key h2).symm) this.1 this.2]

end Go.Proofs.Ytmjnoiajenoinaa
end
section
/- Plain laws of patches: what is carried through the loop of a check. No program in sight. -/
namespace Go.Proofs.Ytmjnoiajenoinaa.Sx
open Go

def cA (p : List Chg) (n : Nat) : Chg := p.getD n ⟨0, 0, 0, 0⟩
def eA (p : List Ent) (n : Nat) : Ent := p.getD n (0, 0)
theorem cA_get {p : List Chg} {n : Nat} (h : n < p.length) : p[n]? = some (cA p n) := by simp [cA, List.getD_eq_getElem?_getD, List.getElem?_eq_getElem h]
theorem eA_get {p : List Ent} {n : Nat} (h : n < p.length) : p[n]? = some (eA p n) := by simp [eA, List.getD_eq_getElem?_getD, List.getElem?_eq_getElem h]
theorem drop_cons {α : Type} {l : List α} {n : Nat} {x : α} (h : l[n]? = some x) : l.drop n = x :: l.drop (n + 1) := by
  obtain ⟨h1, h2⟩ := List.getElem?_eq_some_iff.1 h
  rw [List.drop_eq_getElem_cons h1, h2]
theorem take_snoc {α : Type} {l : List α} {n : Nat} {x : α} (h : l[n]? = some x) : l.take (n + 1) = l.take n ++ [x] := by
  rw [List.take_add_one, h]; rfl

def prevK (p : List Chg) : Nat → Option Int
  | 0 => none
  | k + 1 => (p[k]?).map Chg.key
/-- The key is not greater than the one before. -/
def lowB (p : List Chg) (k : Nat) (ky : Int) : Bool := match prevK p k with
  | none => false
  | some q => decide (ky ≤ q)
theorem lowB_succ {p : List Chg} {k : Nat} {x : Chg} (h : p[k]? = some x) (ky : Int) : lowB p (k + 1) ky = decide (ky ≤ x.key) := by simp [lowB, prevK, h]
theorem valGo_step {p : List Chg} {k : Nat} {c : Chg} (hx : p[k]? = some c) :
    valGo (prevK p k) (p.drop k) = (!lowB p k c.key && decide c.ok && valGo (prevK p (k + 1)) (p.drop (k + 1))) := by
  rw [drop_cons hx, show prevK p (k + 1) = some c.key by simp [prevK, hx]]
  simp only [valGo, lowB]
  congr 2
  cases prevK p k with
  | none => rfl
  | some q => by_cases h : q < c.key
              · simp [h, show ¬ c.key ≤ q by omega]
              · simp [h, show c.key ≤ q by omega]

/-- What 'change' answers of a change's own values. -/
def CmpR (c d : Chg) (ok : Bool) : Prop := ok = (mkChg c.key c.before c.after).isSome ∧ ∀ e, mkChg c.key c.before c.after = some e → d = e
theorem CmpR.ok {c d : Chg} {ok : Bool} (h : CmpR c d ok) : decide c.ok = (ok && decide (d = c)) := by
  obtain ⟨h1, h2⟩ := h
  cases hm : mkChg c.key c.before c.after with
  | none => rw [hm] at h1; subst h1; simp [Chg.ok, hm]
  | some e => rw [hm] at h1; subst h1; simp [Chg.ok, hm, h2 e hm]
theorem chg_eqB (c d : Chg) : (d.kind == c.kind && (d.key == c.key && (d.old == c.old && (d.new == c.new && true)))) = decide (d = c) := by
  cases c; cases d; simp [Bool.decide_and]; rfl
end Go.Proofs.Ytmjnoiajenoinaa.Sx
end
section
/- Set operations on lists, as the reference makes them, answer as SetR says. No program in sight. -/
namespace Go.Proofs.Ytmjnoiajenoinaa
open Go Sx

def intE (l m : List Ent) (p : Int) : List Ent := l.flatMap fun x => match getE m x.1 with
  | some w => [(x.1, chooseP p x.2 w)]
  | none => []
def subE (l m : List Ent) : List Ent := l.flatMap fun x => match getE m x.1 with
  | some _ => []
  | none => [x]
def excE (l m : List Ent) : List Ent := uniE (subE l m) (subE m l) 1
end Go.Proofs.Ytmjnoiajenoinaa
end
section
/- Plain laws of patches: apply, compose, rebase, invert. No program in sight. -/
namespace Go.Proofs.Ytmjnoiajenoinaa

/-! ### Apply -/
def optE (k : Int) (v : Option Int) : List Ent := (v.map fun v => (k, v)).toList

def appGo : List (Option Ent × Option Chg) → Option (List Ent)
  | [] => some []
  | (x, none) :: t => (appGo t).map (x.toList ++ ·)
  | (x, some c) :: t => if x.map Prod.snd = c.before then (appGo t).map (optE c.key c.after ++ ·) else none

/-- What applying comes to: the list, if the patch fits. -/
def app (l : List Ent) (p : List Chg) : Option (List Ent) := appGo (pEC l p)

/-- What is still to be made, behind what has been made. -/
def AppAt (l : List Ent) (p : List Chg) (i k : Nat) (acc : List Ent) : Prop := app l p = (appGo (pEC (l.drop i) (p.drop k))).map (acc ++ ·)
theorem AppAt.start (l : List Ent) (p : List Chg) : AppAt l p 0 0 [] := by
  unfold AppAt app; rw [List.drop_zero, List.drop_zero]; cases appGo (pEC l p) <;> rfl
theorem appGo_keep {l' : List Ent} {p' : List Chg} {x : Ent} {c : Chg} (h : x.1 < c.key) : appGo (pEC (x :: l') (c :: p')) = (appGo (pEC l' (c :: p'))).map (x :: ·) := by
  show appGo (pairs Prod.fst Chg.key (x :: l') (c :: p')) = _
  rw [pairs, if_pos h]; rfl
theorem AppAt.keep {l : List Ent} {p : List Chg} {i k : Nat} {acc : List Ent} {x : Ent} {c : Chg} (h : AppAt l p i k acc) (hl : l.drop i = x :: l.drop (i + 1)) (hp : p.drop k = c :: p.drop (k + 1)) (hlt : x.1 < c.key) : AppAt l p (i + 1) k (acc ++ [x]) := by
  unfold AppAt at *
  rw [h, hl, hp, appGo_keep hlt, ← hp, Option.map_map]
  congr 1
  funext t; simp
/-- The element at i, if it has the key of the change. -/
def at1 (l : List Ent) (i : Nat) (q : Int) : Option Ent := match l[i]? with
  | some x => if x.1 = q then some x else none
  | none => none
theorem AppAt.take {l : List Ent} {p : List Chg} {i k : Nat} {acc : List Ent} {x : Ent} {c : Chg} (h : AppAt l p i k acc) (hl : l.drop i = x :: l.drop (i + 1)) (hp : p.drop k = c :: p.drop (k + 1)) (he : x.1 = c.key) :
    if some x.2 = c.before then AppAt l p (i + 1) (k + 1) (acc ++ optE c.key c.after) else app l p = none := by
  have e : pEC (x :: l.drop (i + 1)) (c :: p.drop (k + 1)) = (some x, some c) :: pEC (l.drop (i + 1)) (p.drop (k + 1)) := by
    show pairs Prod.fst Chg.key _ _ = _
    rw [pairs, if_neg (by omega), if_neg (by omega)]
  split
  · rename_i hb
    unfold AppAt at *
    rw [h, hl, hp, e]
    simp only [appGo, Option.map_some, hb, if_true, Option.map_map]
    congr 1
    funext t; simp
  · rename_i hb
    unfold AppAt at h
    rw [h, hl, hp, e]
    simp only [appGo, Option.map_some, hb, if_false, Option.map_none]
theorem AppAt.new {l : List Ent} {p : List Chg} {i k : Nat} {acc : List Ent} {c : Chg} (h : AppAt l p i k acc) (hl : l.drop i = [] ∨ ∃ x t, l.drop i = x :: t ∧ c.key < x.1) (hp : p.drop k = c :: p.drop (k + 1)) :
    if none = c.before then AppAt l p i (k + 1) (acc ++ optE c.key c.after) else app l p = none := by
  have e : pEC (l.drop i) (c :: p.drop (k + 1)) = (none, some c) :: pEC (l.drop i) (p.drop (k + 1)) := by
    show pairs Prod.fst Chg.key _ _ = _ :: pairs Prod.fst Chg.key _ _
    rcases hl with hl | ⟨x, t, hl, hlt⟩
    · rw [hl, pairs]
    · rw [hl, pairs, if_neg (by omega), if_pos hlt]
  split
  · rename_i hb
    unfold AppAt at *
    rw [h, hp, e]
    simp only [appGo, Option.map_none, hb, if_true, Option.map_map]
    congr 1
    funext t; simp
  · rename_i hb
    unfold AppAt at h
    rw [h, hp, e]
    simp only [appGo, Option.map_none, hb, if_false]
theorem AppAt.fin {l : List Ent} {p : List Chg} {i k : Nat} {acc : List Ent} (h : AppAt l p i k acc) (hk : p.length ≤ k) : app l p = some (acc ++ l.drop i) := by
  unfold AppAt at h
  rw [h, List.drop_eq_nil_of_le hk]
  have : ∀ m : List Ent, appGo (pEC m []) = some m := by
    intro m
    induction m with
    | nil => simp [pairs, appGo]
    | cons x t ih => simp [pairs, appGo, ih]
  rw [this]; rfl

/-- The value of a key behind a patch. -/
def put (x : Option Int) (c : Option Chg) : Option Int := match c with
  | none => x
  | some c => c.after

theorem pEC_srt {l : List Ent} {p : List Chg} (hl : Asc l) (hp : Srt Chg.key p) : Srt (pkey Prod.fst Chg.key) (pEC l p) := pairs_srt l p hl hp
theorem pEC_fnd {l : List Ent} {p : List Chg} (hl : Asc l) (hp : Srt Chg.key p) (k : Int) : fnd (pkey Prod.fst Chg.key) (pEC l p) k = both2 (fnd Prod.fst l k) (fnd Chg.key p k) := pairs_fnd l p hl hp k

/-- The pairs that a merge makes: keys agree, and no pair is empty. -/
theorem pairs_good {α β : Type} {ka : α → Int} {kb : β → Int} (l : List α) (m : List β) : ∀ z ∈ pairs ka kb l m, (z.1.isSome = true ∨ z.2.isSome = true) ∧ (∀ x y, z = (some x, some y) → ka x = kb y) := by
  fun_induction pairs ka kb l m with
  | case1 => intro z hz; cases hz
  | case2 y m ih => intro z hz; rcases List.mem_cons.1 hz with rfl | hz; · exact ⟨.inr rfl, by simp⟩
                    · exact ih z hz
  | case3 x l ih => intro z hz; rcases List.mem_cons.1 hz with rfl | hz; · exact ⟨.inl rfl, by simp⟩
                    · exact ih z hz
  | case4 x l y m h ih => intro z hz; rcases List.mem_cons.1 hz with rfl | hz; · exact ⟨.inl rfl, by simp⟩
                          · exact ih z hz
  | case5 x l y m h1 h2 ih => intro z hz; rcases List.mem_cons.1 hz with rfl | hz; · exact ⟨.inr rfl, by simp⟩
                              · exact ih z hz
  | case6 x l y m h1 h2 ih => intro z hz; rcases List.mem_cons.1 hz with rfl | hz; · exact ⟨.inl rfl, by intro a b e; simp at e; obtain ⟨rfl, rfl⟩ := e; omega⟩
                              · exact ih z hz

def emit1 (z : Option Ent × Option Chg) : Option Ent := (put (z.1.map Prod.snd) z.2).map fun v => (pkey Prod.fst Chg.key z, v)

theorem appGo_some {L : List (Option Ent × Option Chg)} (hg : ∀ z ∈ L, (z.1.isSome = true ∨ z.2.isSome = true) ∧ (∀ x y, z = (some x, some y) → x.1 = y.key)) :
    appGo L = if (∀ z ∈ L, ∀ c, z.2 = some c → z.1.map Prod.snd = c.before) then some (L.flatMap fun z => (emit1 z).toList) else none := by
  induction L with
  | nil => simp [appGo]
  | cons z t ih =>
    have ih := ih fun u hu => hg u (List.mem_cons_of_mem _ hu)
    have hz := hg z List.mem_cons_self
    obtain ⟨x, d⟩ := z
    cases d with
    | none =>
      cases x with
      | none => simp at hz
      | some x =>
        simp only [appGo, ih]
        have e1 : (∀ z ∈ (some x, (none : Option Chg)) :: t, ∀ c, z.2 = some c → z.1.map Prod.snd = c.before) ↔ (∀ z ∈ t, ∀ c, z.2 = some c → z.1.map Prod.snd = c.before) := by
          constructor
          · intro h u hu; exact h u (List.mem_cons_of_mem _ hu)
          · intro h u hu
            rcases List.mem_cons.1 hu with rfl | hu
            · intro c hc; cases hc
            · exact h u hu
        by_cases h : (∀ z ∈ t, ∀ c, z.2 = some c → z.1.map Prod.snd = c.before)
        · rw [if_pos h, if_pos (e1.2 h)]; simp [emit1, put, pkey]
        · rw [if_neg h, if_neg (fun hh => h (e1.1 hh))]; rfl
    | some c =>
      simp only [appGo, ih]
      by_cases hb : x.map Prod.snd = c.before
      · rw [if_pos hb]
        have e1 : (∀ z ∈ (x, some c) :: t, ∀ c, z.2 = some c → z.1.map Prod.snd = c.before) ↔ (∀ z ∈ t, ∀ c, z.2 = some c → z.1.map Prod.snd = c.before) := by
          constructor
          · intro h u hu; exact h u (List.mem_cons_of_mem _ hu)
          · intro h u hu
            rcases List.mem_cons.1 hu with rfl | hu
            · intro c' hc; cases hc; exact hb
            · exact h u hu
        have hk : pkey Prod.fst Chg.key (x, some c) = c.key := by
          cases x with
          | none => rfl
          | some x => exact hz.2 x c rfl
        by_cases h : (∀ z ∈ t, ∀ c, z.2 = some c → z.1.map Prod.snd = c.before)
        · rw [if_pos h, if_pos (e1.2 h)]; simp [emit1, put, hk, optE]
        · rw [if_neg h, if_neg (fun hh => h (e1.1 hh))]; rfl
      · rw [if_neg hb, if_neg (fun hh => hb (hh _ List.mem_cons_self c rfl))]

/-- The patch fits the list: each change finds the value that it says. -/
def Fits (l : List Ent) (p : List Chg) : Prop := ∀ c ∈ p, getE l c.key = c.before
instance (l : List Ent) (p : List Chg) : Decidable (Fits l p) := by unfold Fits; infer_instance

theorem emit_key (z : Option Ent × Option Chg) (x : Ent) (h : emit1 z = some x) : x.1 = pkey Prod.fst Chg.key z := by
  unfold emit1 at h
  cases hp : put (z.1.map Prod.snd) z.2 with
  | none => rw [hp] at h; cases h
  | some v => rw [hp] at h; simp at h; rw [← h]

theorem app_none {l : List Ent} {p : List Chg} (hl : Asc l) (hp : Srt Chg.key p) : app l p = none ↔ ¬ Fits l p := by
  unfold app
  rw [appGo_some (pairs_good (ka := Prod.fst) (kb := Chg.key) l p)]
  have : (∀ z ∈ pEC l p, ∀ c, z.2 = some c → z.1.map Prod.snd = c.before) ↔ Fits l p := by
    constructor
    · intro h c hc
      have hf := hp.fnd_self hc
      have h1 := pEC_fnd hl hp c.key
      rw [hf] at h1
      simp [both2] at h1
      have := h _ (fnd_mem h1) c rfl
      rw [getE_fnd]; exact this
    · intro h z hz c hc
      have h1 := (pEC_srt hl hp).fnd_self hz
      rw [pEC_fnd hl hp] at h1
      unfold both2 at h1
      split at h1
      · have h2 := Option.some.inj h1
        have hcp : fnd Chg.key p (pkey Prod.fst Chg.key z) = some c := (congrArg Prod.snd h2).trans hc
        have hlp : fnd Prod.fst l (pkey Prod.fst Chg.key z) = z.1 := congrArg Prod.fst h2
        have := h c (fnd_mem hcp)
        rw [getE_fnd, fnd_key hcp] at this
        rw [← this, hlp]
      · cases h1
  by_cases h : Fits l p
  · rw [if_pos (this.2 h)]; simp [h]
  · rw [if_neg (fun hh => h (this.1 hh))]; simp [h]

theorem app_some {l r : List Ent} {p : List Chg} (hl : Asc l) (hp : Srt Chg.key p) (h : app l p = some r) : Asc r ∧ ∀ k, getE r k = put (getE l k) (fnd Chg.key p k) := by
  unfold app at h
  rw [appGo_some (pairs_good (ka := Prod.fst) (kb := Chg.key) l p)] at h
  split at h
  · have h := Option.some.inj h
    subst h
    refine ⟨flatOpt_srt (ka := pkey Prod.fst Chg.key) emit1 emit_key (pEC_srt hl hp), fun k => ?_⟩
    rw [getE_fnd, flatOpt_fnd (ka := pkey Prod.fst Chg.key) (kb := Prod.fst) emit1 emit_key (pEC_srt hl hp), pEC_fnd hl hp]
    rw [getE_fnd]
    unfold both2
    cases h1 : fnd Prod.fst l k with
    | none =>
      cases h2 : fnd Chg.key p k with
      | none => simp [put]
      | some c => simp [emit1, put]; cases c.after <;> rfl
    | some x =>
      cases h2 : fnd Chg.key p k with
      | none => simp [emit1, put]
      | some c => simp [emit1, put]; cases c.after <;> rfl
  · cases h

/-! ### Invert -/
def inv1 (c : Chg) : Chg := (mkChg c.key c.after c.before).getD ⟨0, 0, 0, 0⟩
def inv (p : List Chg) : List Chg := p.map inv1

end Go.Proofs.Ytmjnoiajenoinaa
end
section
/- What the laws of the diffs say, on lists. No program in sight. -/
namespace Go.Proofs.Ytmjnoiajenoinaa
open Go Sx

/-- A change seen from the other side. -/
def swapC (c : Chg) : Chg := ⟨if c.kind = 1 ∨ c.kind = 2 then 3 - c.kind else c.kind, c.key, c.new, c.old⟩
/-- How many of the changes have a key. -/
def cntK (c : List Chg) (k : Int) : Nat := c.countP fun x => decide (x.key = k)
end Go.Proofs.Ytmjnoiajenoinaa
end
section
/- Plain laws of patches: compose and rebase. No program in sight. -/
namespace Go.Proofs.Ytmjnoiajenoinaa

/-! ### Compose -/
def comp1 : Option Chg × Option Chg → List Chg
  | (some c, none) => [c]
  | (none, some d) => [d]
  | (some c, some d) => (mkChg c.key c.before d.after).toList
  | (none, none) => []
def meet1 : Option Chg × Option Chg → Bool
  | (some c, some d) => decide (c.after = d.before)
  | _ => true

def compGo : List (Option Chg × Option Chg) → Option (List Chg)
  | [] => some []
  | z :: t => if meet1 z then (compGo t).map (comp1 z ++ ·) else none

/-- What composing two valid patches comes to. -/
def comp (p q : List Chg) : Option (List Chg) := compGo (pC p q)

/-! ### Rebase -/
def keep1 : Option Chg × Option Chg → List Chg
  | (some c, none) => [c]
  | _ => []
def conf1 : Option Chg × Option Chg → List Int
  | (some c, some d) => if c.after = d.after then [] else [c.key]
  | _ => []
def base1 : Option Chg × Option Chg → Bool
  | (some c, some d) => decide (c.before = d.before)
  | _ => true

def rebGo : List (Option Chg × Option Chg) → Option (List Chg × List Int)
  | [] => some ([], [])
  | z :: t => if base1 z then (rebGo t).map (fun r => (keep1 z ++ r.1, conf1 z ++ r.2)) else none

theorem rebGo_eq (L : List (Option Chg × Option Chg)) : rebGo L = if L.all base1 then some (L.flatMap keep1, L.flatMap conf1) else none := by
  induction L with
  | nil => rfl
  | cons z t ih =>
    simp only [rebGo, ih, List.all_cons, Bool.and_eq_true, List.flatMap_cons]
    by_cases h1 : base1 z = true
    · by_cases h2 : t.all base1 = true
      · simp only [h1, h2, if_true, and_self, Option.map_some]
      · rw [if_pos h1, if_neg h2, if_neg (fun h => h2 h.2)]; rfl
    · rw [if_neg h1, if_neg (fun h => h1 h.1)]

def reb (p q : List Chg) : Option (List Chg × List Int) := rebGo (pC p q)

/-- The same, along the first patch alone. -/
def rebP : List (Chg × Option Chg) → Option (List Chg × List Int)
  | [] => some ([], [])
  | (c, d) :: t => if base1 (some c, d) then (rebP t).map (fun r => (keep1 (some c, d) ++ r.1, conf1 (some c, d) ++ r.2)) else none

theorem fnd_id (L : List Int) (k : Int) : fnd id L k = if k ∈ L then some k else none := by
  induction L with
  | nil => simp [fnd_nil]
  | cons x t ih =>
    rw [fnd_cons, ih]
    by_cases h : x = k
    · subst h; simp
    · have : ¬ k = x := fun e => h e.symm
      simp [h, this]

theorem keys_ext {a b : List Int} (ha : Srt id a) (hb : Srt id b) (h : ∀ k, k ∈ a ↔ k ∈ b) : a = b := by
  refine Srt.ext (key := id) ha hb fun k => ?_
  rw [fnd_id, fnd_id]
  by_cases hk : k ∈ a
  · rw [if_pos hk, if_pos ((h k).1 hk)]
  · rw [if_neg hk, if_neg (fun hh => hk ((h k).2 hh))]

/-- A key that both sides changed, differently. -/
def Cf (l m n : List Ent) (k : Int) : Prop := getE m k ≠ getE n k ∧ getE l k ≠ getE m k ∧ getE l k ≠ getE n k
instance (l m n : List Ent) (k : Int) : Decidable (Cf l m n k) := by unfold Cf; infer_instance

def confO (z : Option Chg × Option Chg) : Option Int := match z with
  | (some c, some d) => if c.after = d.after then none else some c.key
  | _ => none
def keepO (z : Option Chg × Option Chg) : Option Chg := match z with
  | (some c, none) => some c
  | _ => none

theorem conf1_o (z : Option Chg × Option Chg) : conf1 z = (confO z).toList := by
  obtain ⟨c, d⟩ := z
  cases c <;> cases d <;> simp [conf1, confO]
  split <;> simp
theorem keep1_o (z : Option Chg × Option Chg) : keep1 z = (keepO z).toList := by
  obtain ⟨c, d⟩ := z
  cases c <;> cases d <;> simp [keep1, keepO]

theorem confO_key (z : Option Chg × Option Chg) (k : Int) (h : confO z = some k) : id k = pkey Chg.key Chg.key z := by
  obtain ⟨c, d⟩ := z
  cases c <;> cases d <;> simp [confO] at h
  exact h.2.symm
theorem keepO_key (z : Option Chg × Option Chg) (c : Chg) (h : keepO z = some c) : c.key = pkey Chg.key Chg.key z := by
  obtain ⟨c, d⟩ := z
  cases c <;> cases d <;> simp [keepO] at h
  rw [← h]; rfl

theorem btw_pair {l m n : List Ent} (hl : Asc l) (hm : Asc m) (hn : Asc n) (k : Int) :
    fnd (pkey Chg.key Chg.key) (pC (btw l m) (btw l n)) k = both2 (mkChg k (getE l k) (getE m k)) (mkChg k (getE l k) (getE n k)) := by
  have h := pairs_fnd (ka := Chg.key) (kb := Chg.key) (btw l m) (btw l n) (btw_srt hl hm) (btw_srt hl hn) k
  rw [btw_fnd hl hm, btw_fnd hl hn] at h
  exact h

theorem reb_btw {l m n : List Ent} (hl : Asc l) (hm : Asc m) (hn : Asc n) : ∃ a c, reb (btw l m) (btw l n) = some (a, c) ∧
    Srt Chg.key a ∧ (∀ k, fnd Chg.key a k = if getE l k = getE n k then mkChg k (getE l k) (getE m k) else none) ∧ Srt id c ∧ ∀ k, k ∈ c ↔ Cf l m n k := by
  have hs := pairs_srt (ka := Chg.key) (kb := Chg.key) (btw l m) (btw l n) (btw_srt hl hm) (btw_srt hl hn)
  refine ⟨(pC (btw l m) (btw l n)).flatMap fun z => (keepO z).toList, (pC (btw l m) (btw l n)).flatMap fun z => (confO z).toList, ?_, ?_, ?_, ?_, ?_⟩
  · unfold reb
    rw [rebGo_eq, if_pos]
    · congr 2
      · exact congrArg (fun f => List.flatMap f _) (funext keep1_o)
      · exact congrArg (fun f => List.flatMap f _) (funext conf1_o)
    · rw [List.all_eq_true]
      intro z hz
      have h1 := hs.fnd_self hz
      rw [btw_pair hl hm hn] at h1
      unfold both2 at h1
      split at h1
      · have h1 := Option.some.inj h1
        generalize pkey Chg.key Chg.key z = k at h1
        subst h1
        cases h1 : mkChg k (getE l k) (getE m k) with
        | none => rfl
        | some c =>
          cases h2 : mkChg k (getE l k) (getE n k) with
          | none => rfl
          | some d =>
            obtain ⟨_, b1, _, _, _⟩ := mkChg_some h1
            obtain ⟨_, b2, _, _, _⟩ := mkChg_some h2
            simp [base1, b1, b2]
      · cases h1
  · exact flatOpt_srt (ka := pkey Chg.key Chg.key) keepO keepO_key hs
  · intro k
    rw [flatOpt_fnd (ka := pkey Chg.key Chg.key) (kb := Chg.key) keepO keepO_key hs, btw_pair hl hm hn]
    cases h2 : mkChg k (getE l k) (getE n k) with
    | none =>
      rw [mkChg_none] at h2
      rw [if_pos h2]
      cases h1 : mkChg k (getE l k) (getE m k) <;> simp [both2, keepO]
    | some d =>
      obtain ⟨_, _, _, hne, _⟩ := mkChg_some h2
      rw [if_neg hne]
      cases h1 : mkChg k (getE l k) (getE m k) <;> simp [both2, keepO]
  · exact flatOpt_srt (ka := pkey Chg.key Chg.key) (kb := id) confO confO_key hs
  · intro k
    have h := flatOpt_fnd (ka := pkey Chg.key Chg.key) (kb := id) confO confO_key hs k
    rw [fnd_id, btw_pair hl hm hn] at h
    have h3 : k ∈ ((pC (btw l m) (btw l n)).flatMap fun z => (confO z).toList) ↔ ((both2 (mkChg k (getE l k) (getE m k)) (mkChg k (getE l k) (getE n k))).bind confO).isSome = true := by
      rw [← h]; split <;> simp [*]
    rw [h3]
    unfold Cf
    cases h1 : mkChg k (getE l k) (getE m k) with
    | none =>
      rw [mkChg_none] at h1
      cases h2 : mkChg k (getE l k) (getE n k) <;> simp [both2, confO, h1]
    | some c =>
      obtain ⟨_, _, a1, n1, _⟩ := mkChg_some h1
      cases h2 : mkChg k (getE l k) (getE n k) with
      | none =>
        rw [mkChg_none] at h2
        simp [both2, confO, h2]
      | some d =>
        obtain ⟨_, _, a2, n2, _⟩ := mkChg_some h2
        by_cases e : getE m k = getE n k
        · simp [both2, confO, a1, a2, e]
        · simp [both2, confO, a1, a2, e, n1, n2]

/-- What a rebased patch makes of the other side's list. -/
theorem reb_app {l m n : List Ent} (hl : Asc l) (hm : Asc m) (hn : Asc n) {a : List Chg} {c : List Int} (h : reb (btw l m) (btw l n) = some (a, c)) :
    ∃ u, app n a = some u ∧ Asc u ∧ ∀ k, getE u k = if getE l k = getE n k then getE m k else getE n k := by
  obtain ⟨a', c', h', ha, hf, _, _⟩ := reb_btw hl hm hn
  rw [h] at h'
  simp only [Option.some.injEq, Prod.mk.injEq] at h'
  obtain ⟨rfl, rfl⟩ := h'
  have hfit : Fits n a := by
    intro d hd
    have h1 := ha.fnd_self hd
    rw [hf] at h1
    split at h1
    · rename_i e
      rw [← e]; exact (mkChg_some h1).2.1.symm
    · cases h1
  cases hu : app n a with
  | none => exact absurd hfit ((app_none hn ha).1 hu)
  | some u =>
    obtain ⟨h1, h2⟩ := app_some hn ha hu
    refine ⟨u, rfl, h1, fun k => ?_⟩
    rw [h2, hf]
    by_cases e : getE l k = getE n k
    · rw [if_pos e, if_pos e]
      cases h3 : mkChg k (getE l k) (getE m k) with
      | none => rw [mkChg_none] at h3; rw [put, ← e, h3]
      | some d => exact (mkChg_some h3).2.2.1
    · rw [if_neg e, if_neg e]; rfl

end Go.Proofs.Ytmjnoiajenoinaa
end
section
/- Merges on lists: what a plan holds, what performing it makes, and that it is what the reference computes. No program in sight. -/
namespace Go.Proofs.Ytmjnoiajenoinaa
open Go Sx

def stepP (l : List Ent) (c : Chg) : List Ent := if c.kind = 2 then flt (neK c.key) l else insE l (c.key, c.new)
def perfE (l : List Ent) (p : List Chg) : List Ent := p.foldl stepP l
theorem stepP_asc {l : List Ent} (h : Asc l) (c : Chg) : Asc (stepP l c) := by
  unfold stepP; split
  · exact flt_asc h
  · exact insE_asc _ h
theorem stepP_get {l : List Ent} (h : Asc l) (c : Chg) (q : Int) : getE (stepP l c) q = if c.key = q then c.after else getE l q := by
  unfold stepP Chg.after; split
  · rename_i k
    rw [getE_flt]
    unfold neK
    by_cases e : c.key = q
    · rw [if_pos e, if_neg (by simp [e])]
    · rw [if_neg e, if_pos (by simp; exact fun d => e d.symm)]
  · exact insE_get _ h q
theorem stepP_len (l : List Ent) (c : Chg) : (stepP l c).length ≤ l.length + 1 := by
  unfold stepP; split
  · have := flt_len (p := neK c.key) (l := l); omega
  · exact insE_len _ _
theorem perf_spec {p : List Chg} (hp : Srt Chg.key p) : ∀ {l : List Ent}, Asc l → Asc (perfE l p) ∧ (perfE l p).length ≤ l.length + p.length ∧ ∀ k, getE (perfE l p) k = put (getE l k) (fnd Chg.key p k) := by
  induction p with
  | nil => exact fun h => ⟨h, Nat.le_refl _, fun _ => rfl⟩
  | cons c p ih =>
    intro l h
    obtain ⟨a, b, d⟩ := ih hp.tail (stepP_asc h c)
    have e : perfE l (c :: p) = perfE (stepP l c) p := rfl
    rw [e]
    refine ⟨a, ?_, fun k => ?_⟩
    · have := stepP_len l c
      rw [List.length_cons]; omega
    · rw [d, fnd_cons, stepP_get h]
      by_cases f : c.key = k
      · rw [if_pos f, if_pos f, fnd_of_lt fun x hx => by have := hp.head x hx; omega]; rfl
      · rw [if_neg f, if_neg f]
theorem perf_snoc {l : List Ent} {p : List Chg} {i : Nat} (h : i < p.length) : perfE l (p.take (i + 1)) = stepP (perfE l (p.take i)) (cA p i) := by
  unfold perfE
  rw [take_snoc (cA_get h)]
  simp
theorem hasK_get {l : List Ent} {k : Int} : hasK l k ↔ (getE l k).isSome = true := by
  constructor
  · rintro ⟨v, hv⟩
    have := getE_in hv
    cases e : getE l k with
    | none => exact absurd e this
    | some _ => rfl
  · intro h
    cases e : getE l k with
    | none => rw [e] at h; cases h
    | some v => exact ⟨v, getE_some e⟩
/-- What is to be deleted is there. -/
def Del (l : List Ent) (p : List Chg) : Prop := ∀ c ∈ p, c.kind = 2 → hasK l c.key
theorem Del.at {l : List Ent} {p : List Chg} (hp : Srt Chg.key p) (hl : Asc l) (h : Del l p) {i : Nat} (hi : i < p.length) (hk : (cA p i).kind = 2) : hasK (perfE l (p.take i)) (cA p i).key := by
  have hm : cA p i ∈ p := List.mem_of_getElem? (cA_get hi)
  rw [hasK_get, (perf_spec (hp.take i) hl).2.2, fnd_none.2]
  · exact hasK_get.1 (h _ hm hk)
  · intro x hx e
    rw [← List.take_append_drop i p, drop_cons (cA_get hi)] at hp
    have h1 := (List.pairwise_append.1 hp).2.2 x hx (cA p i) (List.mem_cons_self ..)
    have h1 : x.key < (cA p i).key := h1
    omega
/-- A plan. -/
def sumO (o t : Chg) : Option Chg := if t.kind = 2 then none else if o.kind = 2 then some t else some { t with new := RowKit.wrap64 (RowKit.wrap64 (o.new + t.new) - t.old) }
def outO (pol : Int) (o : Option Chg) (t : Chg) : Option Chg := match o with
  | none => some t
  | some o => if o = t then none else if pol = 2 then some t else if pol = 4 then sumO o t else none
def cfO (o : Option Chg) (t : Chg) : Option Int := match o with
  | none => none
  | some o => if o = t then none else some t.key
def planC (p q : List Chg) (pol : Int) : List Chg := q.flatMap fun t => (outO pol (fnd Chg.key p t.key) t).toList
def planK (p q : List Chg) : List Int := q.flatMap fun t => (cfO (fnd Chg.key p t.key) t).toList
theorem outO_key {pol : Int} {o : Option Chg} {t c : Chg} (h : outO pol o t = some c) : c.key = t.key := by
  unfold outO sumO at h
  repeat' split at h
  all_goals first | (cases h; rfl) | cases h
theorem planC_srt {p q : List Chg} (hq : Srt Chg.key q) (pol : Int) : Srt Chg.key (planC p q pol) := flatOpt_srt (ka := Chg.key) (kb := Chg.key) _ (fun _ _ h => outO_key h) hq
theorem planC_fnd {p q : List Chg} (hq : Srt Chg.key q) (pol : Int) (k : Int) : fnd Chg.key (planC p q pol) k = (fnd Chg.key q k).bind fun t => outO pol (fnd Chg.key p t.key) t := by
  unfold planC
  rw [flatOpt_fnd (ka := Chg.key) (kb := Chg.key) _ (fun _ _ h => outO_key h) hq]
theorem cfO_key {o : Option Chg} {t : Chg} {k : Int} (h : cfO o t = some k) : id k = t.key := by
  unfold cfO at h
  repeat' split at h
  all_goals first | (cases h; rfl) | cases h
theorem planK_srt {p q : List Chg} (hq : Srt Chg.key q) : Srt id (planK p q) := flatOpt_srt (ka := Chg.key) (kb := id) _ (fun _ _ h => cfO_key h) hq
theorem planC_len (p q : List Chg) (pol : Int) : (planC p q pol).length ≤ q.length := by
  unfold planC
  induction q with
  | nil => exact Nat.le_refl _
  | cons t q ih =>
    rw [List.flatMap_cons, List.length_append, List.length_cons]
    have : (outO pol (fnd Chg.key p t.key) t).toList.length ≤ 1 := by cases outO pol (fnd Chg.key p t.key) t <;> simp
    omega
theorem planK_len (p q : List Chg) : (planK p q).length ≤ q.length := by
  unfold planK
  induction q with
  | nil => exact Nat.le_refl _
  | cons t q ih =>
    rw [List.flatMap_cons, List.length_append, List.length_cons]
    have : (cfO (fnd Chg.key p t.key) t).toList.length ≤ 1 := by cases cfO (fnd Chg.key p t.key) t <;> simp
    omega
/-- The reference. -/
def mergedO (pol : Int) (x y z : Option Int) : Option Int := if y = z ∨ x = z then y else if x = y then z else if pol = 2 then z else if pol = 4 then (match z with
    | none => y
    | some w => match y with
      | none => some w
      | some v => some (RowKit.wrap64 (RowKit.wrap64 (v + w) - x.getD 0))) else y
def mergeE (b o t : List Ent) (pol : Int) : List Ent := (keys3 b o t).flatMap fun k => (mergedO pol (getE b k) (getE o k) (getE t k)).toList.map fun v => (k, v)
instance (l m n : List Ent) (k : Int) : Decidable (Cf l m n k) := inferInstanceAs (Decidable (_ ∧ _ ∧ _))
def confE (b o t : List Ent) : List Int := (keys3 b o t).filter fun k => decide (Cf b o t k)
theorem mergeE_flat (b o t : List Ent) (pol : Int) : mergeE b o t pol = (keys3 b o t).flatMap fun k => ((mergedO pol (getE b k) (getE o k) (getE t k)).map fun v => ((k, v) : Ent)).toList := by
  unfold mergeE
  congr 1
  funext k
  cases mergedO pol (getE b k) (getE o k) (getE t k) <;> rfl
theorem mergeE_asc (b o t : List Ent) (pol : Int) : Asc (mergeE b o t pol) := by
  rw [mergeE_flat]
  refine flatOpt_srt (ka := id) (kb := Prod.fst) _ (fun k y h => ?_) (keys3_srt b o t)
  cases e : mergedO pol (getE b k) (getE o k) (getE t k) with
  | none => rw [e] at h; cases h
  | some v => rw [e] at h; cases h; rfl
theorem mergeE_get (b o t : List Ent) (pol : Int) (k : Int) : getE (mergeE b o t pol) k = mergedO pol (getE b k) (getE o k) (getE t k) := by
  rw [getE_fnd, mergeE_flat, flatOpt_fnd (ka := id) (kb := Prod.fst) _ (fun k y h => ?_) (keys3_srt b o t), fnd_id]
  · split
    · cases e : mergedO pol (getE b k) (getE o k) (getE t k) <;> simp [e]
    · rename_i hn
      rw [keys3_mem] at hn
      have h1 : getE b k = none := by cases h : getE b k <;> simp_all
      have h2 : getE o k = none := by cases h : getE o k <;> simp_all
      have h3 : getE t k = none := by cases h : getE t k <;> simp_all
      rw [h1, h2, h3]
      simp [mergedO]
  · cases e : mergedO pol (getE b k) (getE o k) (getE t k) with
    | none => rw [e] at h; cases h
    | some v => rw [e] at h; cases h; rfl
theorem mkChg_parts {k : Int} {x y : Option Int} {c : Chg} (h : mkChg k x y = some c) : c.key = k ∧ (c.kind = 2 ↔ y = none) ∧ (∀ v, y = some v → c.new = v) ∧ c.old = x.getD 0 := by
  unfold mkChg at h
  repeat' split at h
  all_goals first | cases h | skip
  all_goals simp_all
theorem plan_key {b o t : List Ent} (hb : Asc b) (ho : Asc o) (ht : Asc t) (pol : Int) (k : Int) :
    put (getE o k) ((fnd Chg.key (btw b t) k).bind fun c => outO pol (fnd Chg.key (btw b o) c.key) c) = mergedO pol (getE b k) (getE o k) (getE t k) := by
  rw [btw_fnd hb ht]
  cases e : mkChg k (getE b k) (getE t k) with
  | none =>
    have e := mkChg_none.1 e
    show getE o k = _
    unfold mergedO
    rw [if_pos (.inr e)]
  | some c =>
    obtain ⟨kc, bc, ac, ne, _⟩ := mkChg_some e
    obtain ⟨_, c2, cn, co⟩ := mkChg_parts e
    show put _ (outO pol (fnd Chg.key (btw b o) c.key) c) = _
    rw [kc, btw_fnd hb ho]
    unfold mergedO
    cases f : mkChg k (getE b k) (getE o k) with
    | none =>
      have f := mkChg_none.1 f
      show c.after = _
      rw [ac, if_neg (by rintro (h | h); exact ne (f.trans h); exact ne h), if_pos f]
    | some d =>
      obtain ⟨kd, bd, ad, nd, _⟩ := mkChg_some f
      obtain ⟨_, d2, dn, _⟩ := mkChg_parts f
      have q : d = c ↔ getE o k = getE t k := by
        constructor
        · intro h; rw [← ad, ← ac, h]
        · intro h; rw [h] at f; rw [f] at e; exact Option.some.inj e
      unfold outO
      dsimp only
      by_cases g : d = c
      · rw [if_pos g, if_pos (.inl (q.1 g))]; rfl
      · have n1 : ¬ (getE o k = getE t k ∨ getE b k = getE t k) := fun h => h.elim (fun h => g (q.2 h)) ne
        rw [if_neg g, if_neg n1, if_neg nd]
        by_cases p2 : pol = 2
        · rw [if_pos p2, if_pos p2]; exact ac
        · rw [if_neg p2, if_neg p2]
          by_cases p4 : pol = 4
          · rw [if_pos p4, if_pos p4]
            unfold sumO
            cases ez : getE t k with
            | none => rw [if_pos (c2.2 ez)]; rfl
            | some w =>
              have nk : ¬ c.kind = 2 := fun h => by rw [c2.1 h] at ez; cases ez
              rw [if_neg nk]
              cases ey : getE o k with
              | none => rw [if_pos (d2.2 ey)]; show c.after = _; rw [ac, ez]
              | some v =>
                rw [if_neg fun h => by rw [d2.1 h] at ey; cases ey]
                show (if c.kind = 2 then none else some _) = _
                rw [if_neg nk, dn v ey, cn w ez, co]
          · rw [if_neg p4, if_neg p4]; rfl
theorem plan_merge {b o t : List Ent} (hb : Asc b) (ho : Asc o) (ht : Asc t) (pol : Int) : perfE o (planC (btw b o) (btw b t) pol) = mergeE b o t pol := by
  have s := perf_spec (planC_srt (p := btw b o) (btw_srt hb ht) pol) ho
  refine Asc.ext s.1 (mergeE_asc ..) fun k => ?_
  rw [s.2.2, mergeE_get, planC_fnd (btw_srt hb ht), plan_key hb ho ht]
theorem plan_del {b o t : List Ent} (hb : Asc b) (ho : Asc o) (ht : Asc t) (pol : Int) : Del o (planC (btw b o) (btw b t) pol) := fun c hc hk => by
  have f := (planC_srt (p := btw b o) (btw_srt hb ht) pol).fnd_self hc
  rw [planC_fnd (btw_srt hb ht), btw_fnd hb ht] at f
  rw [hasK_get]
  cases e : mkChg c.key (getE b c.key) (getE t c.key) with
  | none => rw [e] at f; cases f
  | some d =>
    rw [e] at f
    obtain ⟨kd, bd, ad, ne, _⟩ := mkChg_some e
    obtain ⟨_, d2, _⟩ := mkChg_parts e
    have f : outO pol (fnd Chg.key (btw b o) d.key) d = some c := f
    rw [kd, btw_fnd hb ho] at f
    cases g : mkChg c.key (getE b c.key) (getE o c.key) with
    | none =>
      rw [g] at f
      have f : some d = some c := f
      cases f
      have g := mkChg_none.1 g
      have z := d2.1 hk
      rw [← g]
      cases x : getE b c.key with
      | some _ => rfl
      | none => rw [x, z] at ne; exact absurd rfl ne
    | some u =>
      rw [g] at f
      obtain ⟨_, u2, _⟩ := mkChg_parts g
      obtain ⟨_, _, au, nu, _⟩ := mkChg_some g
      have key : d = c → u ≠ d → (getE o c.key).isSome = true := fun h n => by
        cases y : getE o c.key with
        | some _ => rfl
        | none =>
          rw [h] at d2
          have z := d2.1 hk
          exfalso
          apply n
          rw [y] at g
          rw [z] at e
          rw [g] at e
          exact Option.some.inj e
      unfold outO sumO at f
      dsimp only at f
      repeat' split at f
      all_goals first | cases f | skip
      · exact key rfl ‹_›
      · exact absurd hk ‹_›
      · exact absurd hk ‹¬ d.kind = 2›
theorem plan_conf {b o t : List Ent} (hb : Asc b) (ho : Asc o) (ht : Asc t) : planK (btw b o) (btw b t) = confE b o t := by
  refine Srt.ext (key := id) (m := confE b o t) (planK_srt (btw_srt hb ht)) ((keys3_srt b o t).filter _) fun k => ?_
  unfold planK
  rw [flatOpt_fnd (ka := Chg.key) (kb := id) _ (fun _ _ h => cfO_key h) (btw_srt hb ht), fnd_id, btw_fnd hb ht]
  have hm : k ∈ confE b o t ↔ Cf b o t k := by
    unfold confE
    rw [List.mem_filter, keys3_mem]
    constructor
    · exact fun h => of_decide_eq_true h.2
    · intro h
      refine ⟨?_, decide_eq_true h⟩
      obtain ⟨h1, h2, h3⟩ := h
      cases x : getE b k with
      | some _ => exact .inl rfl
      | none =>
        cases y : getE o k with
        | some _ => exact .inr (.inl rfl)
        | none => rw [x, y] at h2; exact absurd rfl h2
  cases e : mkChg k (getE b k) (getE t k) with
  | none =>
    have e := mkChg_none.1 e
    rw [if_neg fun h => (hm.1 h).2.2 e]; rfl
  | some c =>
    obtain ⟨kc, bc, ac, ne, _⟩ := mkChg_some e
    show cfO (fnd Chg.key (btw b o) c.key) c = _
    rw [kc, btw_fnd hb ho]
    cases f : mkChg k (getE b k) (getE o k) with
    | none =>
      have f := mkChg_none.1 f
      rw [if_neg fun h => (hm.1 h).2.1 f]; rfl
    | some d =>
      obtain ⟨kd, bd, ad, nd, _⟩ := mkChg_some f
      show (if d = c then none else some c.key) = _
      by_cases g : d = c
      · rw [if_pos g, if_neg fun h => (hm.1 h).1 (by rw [← ad, ← ac, g])]
      · rw [if_neg g, if_pos (hm.2 ⟨fun h => g (by rw [h] at f; rw [f] at e; exact Option.some.inj e), nd, ne⟩), kc]
/-- The walk through two patches. -/
def Low (p : List Chg) (i : Nat) (q : List Chg) (j : Nat) : Prop := i ≤ p.length ∧ ∀ n m, n < i → j ≤ m → m < q.length → (cA p n).key < (cA q m).key
theorem srt_at {p : List Chg} (hp : Srt Chg.key p) {i j : Nat} (h : i < j) (hj : j < p.length) : (cA p i).key < (cA p j).key := by
  have h1 := List.pairwise_iff_getElem.1 hp i j (by omega) hj h
  unfold cA
  rw [List.getD_eq_getElem?_getD, List.getD_eq_getElem?_getD, List.getElem?_eq_getElem (by omega), List.getElem?_eq_getElem hj]
  exact h1
theorem low_fnd {p q : List Chg} (hp : Srt Chg.key p) {i j : Nat} (h : ∀ n, n < i → (cA p n).key < (cA q j).key) (hi : i ≤ p.length) (hx : i < p.length → ¬ (cA p i).key < (cA q j).key) :
    fnd Chg.key p (cA q j).key = if i < p.length ∧ (cA p i).key = (cA q j).key then some (cA p i) else none := by
  split
  · rename_i c
    have hm : cA p i ∈ p := List.mem_of_getElem? (cA_get c.1)
    have := hp.fnd_self hm
    rw [c.2] at this
    exact this
  · rename_i c
    refine fnd_none.2 fun x hx' e => ?_
    obtain ⟨n, hn, rfl⟩ := List.getElem_of_mem hx'
    have en : p[n] = cA p n := by unfold cA; rw [List.getD_eq_getElem?_getD, List.getElem?_eq_getElem hn]; rfl
    rw [en] at e
    rcases Nat.lt_trichotomy n i with d | d | d
    · have := h n d; omega
    · subst d; exact c ⟨hn, e⟩
    · have h1 := srt_at hp d hn
      have h2 := hx (by omega)
      omega
theorem planC_snoc {p q : List Chg} {pol : Int} {j : Nat} (h : j < q.length) : planC p (q.take (j + 1)) pol = planC p (q.take j) pol ++ (outO pol (fnd Chg.key p (cA q j).key) (cA q j)).toList := by
  unfold planC
  rw [take_snoc (cA_get h)]
  simp
theorem planK_snoc {p q : List Chg} {j : Nat} (h : j < q.length) : planK p (q.take (j + 1)) = planK p (q.take j) ++ (cfO (fnd Chg.key p (cA q j).key) (cA q j)).toList := by
  unfold planK
  rw [take_snoc (cA_get h)]
  simp
end Go.Proofs.Ytmjnoiajenoinaa
end
section
/- How many slots can be reached: the bound for what set operations need. No program in sight. -/
namespace Go.Proofs.Ytmjnoiajenoinaa
open Go

variable {S S' S1 S2 : Arn} {hs h1 h2 hs1 hs2 : List Int}

theorem countP_or {α : Type} (p q : α → Bool) : ∀ l : List α, l.countP (fun x => p x || q x) ≤ l.countP p + l.countP q
  | [] => by simp
  | a :: l => by
    have ih := countP_or p q l
    simp only [List.countP_cons]
    cases p a <;> cases q a <;> simp <;> omega
theorem countP_imp {α : Type} (p q : α → Bool) : ∀ l : List α, (∀ x ∈ l, p x = true → q x = true) → l.countP p ≤ l.countP q
  | [], _ => by simp
  | a :: l, h => by
    have ih := countP_imp p q l fun x hx => h x (List.mem_cons_of_mem _ hx)
    have h0 := h a (List.mem_cons_self ..)
    simp only [List.countP_cons]
    cases e : p a <;> cases f : q a <;> simp_all <;> omega
theorem countP_eqr (n : Nat) (a : Int) : (List.range n).countP (fun i : Nat => decide ((i : Int) = a)) ≤ 1 := by
  have h := List.nodup_iff_count.1 (List.nodup_range (n := n)) a.toNat
  refine Nat.le_trans (countP_imp _ (fun i => i == a.toNat) _ fun x _ hx => ?_) h
  have : (x : Int) = a := of_decide_eq_true hx
  simp; omega
theorem countP_mem (n : Nat) : ∀ L : List Int, (List.range n).countP (fun i : Nat => decide ((i : Int) ∈ L)) ≤ L.length
  | [] => by simp
  | a :: L => by
    have ih := countP_mem n L
    have h1 := countP_eqr n a
    have h2 := countP_or (fun i : Nat => decide ((i : Int) = a)) (fun i : Nat => decide ((i : Int) ∈ L)) (List.range n)
    refine Nat.le_trans (countP_imp _ (fun i : Nat => decide ((i : Int) = a) || decide ((i : Int) ∈ L)) _ fun x _ hx => ?_) (Nat.le_trans h2 (by simp; omega))
    have hx := of_decide_eq_true hx
    rcases List.mem_cons.1 hx with e | e <;> simp [e]
theorem countP_range_getD : ∀ (l : List Bool), l.countP id = (List.range l.length).countP (fun i => l.getD i false) := by
  intro l
  conv => lhs; rw [show l = (List.range l.length).map (fun i => l.getD i false) from (List.ext_getElem (by simp) fun i h1 h2 => by simp [List.getD_eq_getElem?_getD, h1])]
  rw [List.countP_map]; rfl

open Classical in
/-- How many slots can be reached from hs. -/
noncomputable def nuR (S : Arn) (hs : List Int) : Nat := (List.range S.used.length).countP fun i : Nat => decide (Rch S hs (i : Int))
open Classical in
theorem nuR_le (h : ∀ i : Int, Rch S hs1 i → Rch S' hs2 i) (hl : S.used.length = S'.used.length) : nuR S hs1 ≤ nuR S' hs2 := by
  unfold nuR
  rw [hl]
  exact countP_imp _ _ _ fun x _ hx => decide_eq_true (h _ (of_decide_eq_true hx))
open Classical in
/-- All that is used can be reached from what is held. -/
theorem Wf.nuR (w : Wf S hs) : S.nu ≤ nuR S hs := by
  unfold Arn.nu Proofs.Ytmjnoiajenoinaa.nuR
  rw [countP_range_getD]
  refine countP_imp _ _ _ fun x _ hx => decide_eq_true (w.reached ?_)
  unfold Arn.us; simpa using hx
theorem Rch.back (w : Wf S hs1) (w' : Wf S' hs2) (hh : ∀ i ∈ hs, i ∈ hs1) (st : Stay S S' hs) {i : Int} (h : Rch S' hs i) : Rch S hs i := by
  have n0 : S'.us 0 = false := w'.us0 (Int.le_refl 0)
  induction h with
  | root a b => exact .root a ((w.held _ (hh _ a)).resolve_left fun e => by rw [e, n0] at b; cases b)
  | left a b ih =>
    have e := (st _ ih).2.1
    rw [e] at b ⊢
    exact .left ih ((w.kid _ ih.us).1.resolve_left fun e => by rw [e, n0] at b; cases b)
  | right a b ih =>
    have e := (st _ ih).2.1
    rw [e] at b ⊢
    exact .right ih ((w.kid _ ih.us).2.resolve_left fun e => by rw [e, n0] at b; cases b)
theorem Got.nuR {m r : Nat} (g : Got S hs m r S' hs2) (w : Wf S hs1) (hh : ∀ i ∈ hs, i ∈ hs1) : nuR S' hs ≤ nuR S hs := nuR_le (fun _ h => h.back w g.wf hh g.stay) g.len
/-- The slots of a tree. -/
def inT (S : Arn) : Tr → Int → List Int
  | .nil, _ => []
  | .node l _ _ r, i => i :: (inT S l (S.nd i).left ++ inT S r (S.nd i).right)
theorem inT_len : ∀ (t : Tr) (i : Int), (inT S t i).length = t.size
  | .nil, _ => rfl
  | .node l _ _ r, i => by simp [inT, Tr.size, inT_len l, inT_len r]; omega
theorem inT_root (h0 : S.us 0 = false) {t : Tr} {i : Int} (h : Rep S t i) (hu : S.us i = true) : i ∈ inT S t i := by
  cases t with
  | nil => have e : i = 0 := h; rw [e, h0] at hu; cases hu
  | node l k v r => simp [inT]
theorem inT_kid (h0 : S.us 0 = false) : ∀ {t : Tr} {i j : Int}, Rep S t i → j ∈ inT S t i → (S.us (S.nd j).left = true → (S.nd j).left ∈ inT S t i) ∧ (S.us (S.nd j).right = true → (S.nd j).right ∈ inT S t i)
  | .nil, _, _, _, hj => by simp [inT] at hj
  | .node l k v r, i, j, h, hj => by
    obtain ⟨_, _, _, h4, h5⟩ := h
    simp only [inT, List.mem_cons, List.mem_append] at hj ⊢
    rcases hj with rfl | hj | hj
    · exact ⟨fun hu => .inr (.inl (inT_root h0 h4 hu)), fun hu => .inr (.inr (inT_root h0 h5 hu))⟩
    · obtain ⟨a, b⟩ := inT_kid h0 h4 hj
      exact ⟨fun hu => .inr (.inl (a hu)), fun hu => .inr (.inl (b hu))⟩
    · obtain ⟨a, b⟩ := inT_kid h0 h5 hj
      exact ⟨fun hu => .inr (.inr (a hu)), fun hu => .inr (.inr (b hu))⟩
theorem rch_cons (h0 : S.us 0 = false) {t : Tr} {x i : Int} (h : Rep S t x) (hr : Rch S (x :: hs) i) : Rch S hs i ∨ i ∈ inT S t x := by
  induction hr with
  | root a b =>
    rcases List.mem_cons.1 a with rfl | a
    · exact .inr (inT_root h0 h b)
    · exact .inl (.root a b)
  | left a b ih => exact ih.imp (fun c => .left c b) fun c => (inT_kid h0 h c).1 b
  | right a b ih => exact ih.imp (fun c => .right c b) fun c => (inT_kid h0 h c).2 b
open Classical in
theorem nuR_cons (w : Wf S hs1) {t : Tr} {x : Int} (h : Rep S t x) : nuR S (x :: hs) ≤ nuR S hs + t.size := by
  unfold nuR
  have h0 : S.us 0 = false := w.us0 (Int.le_refl 0)
  have h1 := countP_mem S.used.length (inT S t x)
  rw [inT_len] at h1
  have h2 := countP_or (fun i : Nat => decide (Rch S hs (i : Int))) (fun i : Nat => decide ((i : Int) ∈ inT S t x)) (List.range S.used.length)
  refine Nat.le_trans (countP_imp _ (fun i : Nat => decide (Rch S hs (i : Int)) || decide ((i : Int) ∈ inT S t x)) _ fun i _ hi => ?_) (by omega)
  rcases rch_cons h0 h (of_decide_eq_true hi) with e | e <;> simp [e]
/-- What is free, when what is reached from elsewhere and the trees in hand are counted. -/
theorem free_one {x : Int} (w : Wf S (x :: hs)) {t : Tr} (h : Rep S t x) : S.cap ≤ S.free + nuR S hs + t.size := by
  have a := w.free_nonneg.2.2.2
  have b := w.nuR
  have c := nuR_cons (hs := hs) w h
  omega
theorem free_two {x y : Int} (w : Wf S (x :: y :: hs)) {t u : Tr} (h : Rep S t x) (h' : Rep S u y) : S.cap ≤ S.free + nuR S hs + t.size + u.size := by
  have a := w.free_nonneg.2.2.2
  have b := w.nuR
  have c := nuR_cons (hs := y :: hs) w h
  have d := nuR_cons (hs := hs) w h'
  omega
/-- Makes are not counted any more. -/
theorem Got.loose {m r : Nat} (g : Got S hs m r S' hs2) : Got S hs 65537 r S' hs2 := ⟨g.wf, g.stay, g.len, by have := g.wf.nu_le; omega, g.rd0, g.rd⟩
theorem TrR.loose {m r : Nat} {L : List Ent} {i : Int} (g : TrR S hs L m r S' i) : TrR S hs L 65537 r S' i := ⟨g.got.loose, g.tree⟩
end Go.Proofs.Ytmjnoiajenoinaa
end
section
/- The recursion of the set operations: what each call finds. No program in sight. -/
namespace Go.Proofs.Ytmjnoiajenoinaa
open Go

variable {S S' S1 S2 S3 : Arn} {hs : List Int} {a b tx ty tl tr u w : Tr} {k v x y xl yl xr yr i j : Int} {N : Nat}

def rdW (N s : Nat) : Nat := (60 * gN (N + 1) + 40) * s
theorem rdW_node (N a b : Nat) : rdW N (a + b + 1) = rdW N a + rdW N b + (60 * gN (N + 1) + 40) := by unfold rdW; rw [Nat.mul_add, Nat.mul_add, Nat.mul_one]
def dW (N : Nat) : Nat := 7 * gN (N + 1) + 4
/-- Two trees in hand, room for their nodes and for one split or join more. -/
structure StM (S : Arn) (hs : List Int) (tx ty : Tr) (x y : Int) (N : Nat) : Prop where
  wf : Wf S (x :: y :: hs)
  rx : Rep S tx x
  ry : Rep S ty y
  bx : tx.Bal
  bY : ty.Bal
  ax : Asc tx.list
  ay : Asc ty.list
  sz : tx.size + ty.size ≤ N
  big : N ≤ 140000
  room : nuR S hs + tx.size + ty.size + dW N ≤ S.cap
  hl : hs.length + 2 * tx.size ≤ 300000000
  rd : S.reads + rdW N tx.size ≤ 1200000000000000000
/-- The first tree opened, the second split at its root's key. -/
structure CutR (S : Arn) (hs : List Int) (a : Tr) (k : Int) (b ty : Tr) (S1 : Arn) (xl yl xr yr : Int) : Prop where
  got : Got S hs 65537 (35 * gN (ty.size + 1) + 6) S1 (xl :: yl :: xr :: yr :: hs)
  ra : Rep S1 a xl
  rb : Rep S1 b xr
  l : ∃ t, Rep S1 t yl ∧ t.list = flt (ltB k) ty.list ∧ t.Bal
  r : ∃ t, Rep S1 t yr ∧ t.list = flt (gtB k) ty.list ∧ t.Bal
theorem cap_len (h : S'.used.length = S.used.length) : S'.cap = S.cap := by unfold Arn.cap; rw [h]
/-- What the first tree's opening and the second tree's split want. -/
theorem StM.free (h : StM S hs tx ty x y N) : (dW N : Int) ≤ S.free := by
  have e := free_two h.wf h.rx h.ry
  have := h.room
  omega
/-- The middle of a step: the first result is being made. -/
structure Mid (S0 S1 : Arn) (hs : List Int) (a : Tr) (k v : Int) (b ty tl tr : Tr) (xl yl xr yr : Int) (N : Nat) : Prop where
  h0 : ∃ x y, StM S0 hs (.node a k v b) ty x y N
  first : StM S1 (xr :: yr :: hs) a tl xl yl N
  rb : Rep S1 b xr
  rr : Rep S1 tr yr
  el : tl.list = flt (ltB k) ty.list
  er : tr.list = flt (gtB k) ty.list
  br : tr.Bal
  got : Got S0 hs 65537 (35 * gN (N + 1) + 6) S1 (xl :: yl :: xr :: yr :: hs)
variable {f : Option Int → Option Int → Option Int} {L R : List Ent}
/-- The value at the root's key. -/
def cutV (p v : Int) : Option Int → Int
  | some u => chooseP p v u
  | none => v
/-- The end of a step: joined or put together. -/
theorem Mid.fin {S0 S4 : Arn} {q : Int} {M : List Ent} {mk rd : Nat} {hs3 : List Int} (g : Got S0 hs 65537 (35 * gN (N + 1) + 6 + rdW N a.size + rdW N b.size) S3 hs3) (t : TrR S3 hs M mk rd S4 q) (hrd : rd ≤ 20 * gN (N + 1) + 20) :
    TrR S0 hs M 65537 (rdW N (Tr.node a k v b).size) S4 q := by
  have zz : (Tr.node a k v b).size = a.size + b.size + 1 := by simp [Tr.size]; omega
  refine ⟨((g.seq t.got (h := hs) (fun _ h => h) (fun _ h => h)).mono (m' := 65537 + mk) (Nat.le_refl _) ?_).loose, t.tree⟩
  rw [zz, rdW_node]; omega
open Classical in
/-- What can be reached is used. -/
theorem nuR_nu : nuR S hs ≤ S.nu := by
  unfold Arn.nu nuR
  rw [countP_range_getD]
  refine countP_imp _ _ _ fun z _ hz => ?_
  have := (of_decide_eq_true hz : Rch S hs (z : Int)).us
  unfold Arn.us at this
  simpa using this
/-- Both trees are held once more, and the work starts. -/
theorem StM.start (w : Wf S hs) (rx : Rep S tx x) (ry : Rep S ty y) (bx : tx.Bal) (bY : ty.Bal) (ax : Asc tx.list) (ay : Asc ty.list) (sz : tx.size + ty.size ≤ 140000) (hl : hs.length ≤ 1000000) (rd : S.reads ≤ 1000000000000000000)
    (need : (tx.size : Int) + ty.size + 12 * (Hn ((tx.size + ty.size : Nat) : Int) + 2) ≤ S.free) :
    StM (retL (retL S x) y) hs tx ty x y (tx.size + ty.size) ∧ Got S hs 0 0 (retL (retL S x) y) (x :: y :: hs) := by
  have g1 : Got S hs 0 0 (retL S x) (x :: hs) := retL_got w rx.us (by omega)
  have g2 : Got (retL S x) hs 0 0 (retL (retL S x) y) (y :: x :: hs) := retL_got g1.wf (ry.retL (j := x)).us (by simp; omega)
  have g := ((g1.seq g2 (h := hs) (fun _ h => h) (fun _ h => h)).perm (List.Perm.swap x y hs))
  have n0 := g.nuR w (fun _ h => h)
  have n1 := nuR_nu (S := S) (hs := hs)
  have c := w.free_nonneg.2.2.2
  have ec := cap_len g.len
  have gs := gN_size (tx.size + ty.size)
  have g8 := gN_rng (tx.size + ty.size + 1)
  have rr := g.rd
  have lt : rdW (tx.size + ty.size) tx.size ≤ 4840 * 140000 := by
    unfold rdW
    exact Nat.mul_le_mul (by omega) (by omega)
  refine ⟨⟨g.wf, rx.retL.retL, ry.retL.retL, bx, bY, ax, ay, Nat.le_refl _, sz, ?_, by omega, by omega⟩, g.mono (Nat.le_refl _) (Nat.le_refl _)⟩
  unfold dW; omega
end Go.Proofs.Ytmjnoiajenoinaa
end
section
/- Performing a plan where there is room for it. No program in sight. -/
namespace Go.Proofs.Ytmjnoiajenoinaa
open Go Sx

variable {S S' : Arn} {hs : List Int} {t j : Int} {l L : List Ent} {M m r : Nat}
/-- A tree in hand; what is free beside what the others hold is enough for M entries and one step. -/
structure PfM (S : Arn) (hs : List Int) (t : Int) (l : List Ent) (M : Nat) : Prop where
  wf : Wf S (t :: hs)
  tree : ∃ tr, Rep S tr t ∧ tr.list = l ∧ tr.Bal
  asc : Asc l
  room : nuR S hs + M + 4 * gN (M + 1) + 4 ≤ S.cap
  sz : M ≤ 600000
  hl : hs.length ≤ 900000
theorem PfM.free (h : PfM S hs t l M) (hM : l.length ≤ M) : 4 * gN (l.length + 1) + 4 ≤ S.free := by
  obtain ⟨tr, rp, lt, _⟩ := h.tree
  have a := free_one h.wf rp
  have b : tr.size = l.length := by rw [← tr.list_len, lt]
  have c := gN_mono (v := l.length + 1) (w := M + 1) (by omega) (by omega)
  have d := h.room
  omega
theorem PfM.next (h : PfM S hs t l M) (a : TrR S hs L m r S' j) (ha : Asc L) : PfM S' hs j L M where
  wf := a.got.wf
  tree := a.tree
  asc := ha
  room := by
    have b := a.got.nuR h.wf fun i hi => List.mem_cons_of_mem _ hi
    have c := cap_len a.got.len
    have d := h.room
    omega
  sz := h.sz
  hl := h.hl
theorem PfM.start {tr : Tr} (w : Wf S hs) (rp : Rep S tr t) (bal : tr.Bal) (ha : Asc tr.list) (hl : hs.length ≤ 900000) (sz : M ≤ 600000) (need : (M : Int) + 4 * Hn M + 4 ≤ S.free) : PfM (retL S t) hs t tr.list M ∧ Got S hs 0 0 (retL S t) (t :: hs) := by
  have g : Got S hs 0 0 (retL S t) (t :: hs) := retL_got w rp.us (by omega)
  have n0 := g.nuR w (fun _ h => h)
  have n1 := nuR_nu (S := S) (hs := hs)
  have c := w.free_nonneg.2.2.2
  have ec := cap_len g.len
  have gs := gN_size M
  exact ⟨⟨g.wf, ⟨tr, rp.retL, rfl, bal⟩, ha, by omega, sz, hl⟩, g⟩
end Go.Proofs.Ytmjnoiajenoinaa
end
section
/- A logic of memory for walks: symbolic values, chunks of memory with names, and what keeps them. No program in sight. -/
namespace Go.Proofs.Ytmjnoiajenoinaa.Sx
open Go

/-- A symbolic value of one cell. -/
inductive At where
  | any
  | val (v : Value)
  | ptr (n off : Nat)
  | eptr (n i sz off : Nat)
  | slc (n : Nat)
  | fn (f : FuncId) (caps : List Nat)

inductive TV where
  | at (a : At)
  | agg (l : List At)

inductive SV where
  | one (x : TV)
  | tup (l : List TV)

/-- What the logic is told of a program: how the elements of its slices are written, and what an abstract object is. -/
structure Ctx where
  P : Program
  EC : Type
  deq : DecidableEq EC
  α : EC → Type
  enc : (e : EC) → α e → List Value
  dcd : (e : EC) → List Value → Option (α e)
  dft : (e : EC) → α e
  sz : EC → Nat
  tid : EC → TypeId
  byT : TypeId → Option EC
  lst : EC → Option EC := fun _ => none
  X : Type
  I : X → World → Value → (Nat → Prop) → Prop

structure Ctx.OK (C : Ctx) : Prop where
  len : ∀ e x, (C.enc e x).length = C.sz e
  one : ∀ e x, ∀ u ∈ C.enc e x, u.oneCell' = true
  dcd : ∀ e cs x, C.dcd e cs = some x → C.enc e x = cs
  pos : ∀ e, 0 < C.sz e
  info : ∀ e, ∃ i z, C.P.info? (C.tid e) = some i ∧ i.zero = some z ∧ i.size = C.sz e ∧ z.cells.toList = C.enc e (C.dft e) ∧ 0 < i.bytes
  byT : ∀ t e, C.byT t = some e → t = C.tid e
  lst : ∀ h e, C.lst h = some e → C.sz h = 1
  local_ : ∀ x w w' v f, C.I x w v f → w.heap.size ≤ w'.heap.size → (∀ b, f b → w'.heap[b]? = w.heap[b]?) → C.I x w' v f
  mixed : C.P.follows .mixedOrders = true

inductive Chunk (C : Ctx) where
  | gone
  | box (cells : List At)
  | row (own : Bool) (e : C.EC) (l : List (C.α e))
  | abs (x : C.X)
  | map (kk vk : IntKind) (l : List (Int × Int))
  | rows (h e : C.EC) (ll : List (List (C.α e)))

section
variable {C : Ctx}

def Rels {α β : Type} (R : α → β → Prop) (l : List α) (m : List β) : Prop := l.length = m.length ∧ ∀ (i : Nat) (a : α) (b : β), l[i]? = some a → m[i]? = some b → R a b

theorem Rels.nil {α β : Type} {R : α → β → Prop} : Rels R [] [] := ⟨rfl, fun i a b h => by simp at h⟩
theorem Rels.mono {α β : Type} {R S : α → β → Prop} {l : List α} {m : List β} (h : Rels R l m) (hi : ∀ a b, a ∈ l → R a b → S a b) : Rels S l m :=
  ⟨h.1, fun i a b ha hb => hi a b (List.mem_of_getElem? ha) (h.2 i a b ha hb)⟩
theorem Rels.get {α β : Type} {R : α → β → Prop} {l : List α} {m : List β} (h : Rels R l m) {i : Nat} {a : α} (ha : l[i]? = some a) : ∃ b, m[i]? = some b ∧ R a b := by
  have hi : i < l.length := (List.getElem?_eq_some_iff.1 ha).1
  have hm : i < m.length := h.1 ▸ hi
  exact ⟨m[i], List.getElem?_eq_getElem hm, h.2 i a _ ha (List.getElem?_eq_getElem hm)⟩
theorem Rels.cons {α β : Type} {R : α → β → Prop} {a : α} {b : β} {l : List α} {m : List β} (hab : R a b) (h : Rels R l m) : Rels R (a :: l) (b :: m) :=
  ⟨by simp [h.1], fun i x y hx hy => by
    cases i with
    | zero => simp at hx hy; subst hx hy; exact hab
    | succ i => simp at hx hy; exact h.2 i x y hx hy⟩
theorem Rels.append {α β : Type} {R : α → β → Prop} {l l' : List α} {m m' : List β} (h : Rels R l m) (h' : Rels R l' m') : Rels R (l ++ l') (m ++ m') :=
  ⟨by simp [h.1, h'.1], fun i x y hx hy => by
    rcases Nat.lt_or_ge i l.length with hi | hi
    · rw [List.getElem?_append_left hi] at hx
      rw [List.getElem?_append_left (h.1 ▸ hi)] at hy
      exact h.2 i x y hx hy
    · rw [List.getElem?_append_right hi] at hx
      rw [List.getElem?_append_right (h.1 ▸ hi), ← h.1] at hy
      exact h'.2 _ x y hx hy⟩
theorem Rels.drop {α β : Type} {R : α → β → Prop} {l : List α} {m : List β} (h : Rels R l m) (k : Nat) : Rels R (l.drop k) (m.drop k) :=
  ⟨by simp [h.1], fun i x y hx hy => by rw [List.getElem?_drop] at hx hy; exact h.2 _ x y hx hy⟩
theorem Rels.take {α β : Type} {R : α → β → Prop} {l : List α} {m : List β} (h : Rels R l m) (k : Nat) : Rels R (l.take k) (m.take k) :=
  ⟨by simp [h.1], fun i x y hx hy => by
    rw [List.getElem?_take] at hx hy
    split at hx
    · rename_i hk; rw [if_pos hk] at hy; exact h.2 _ x y hx hy
    · cases hx⟩
theorem Rels.set {α β : Type} {R : α → β → Prop} {l : List α} {m : List β} (h : Rels R l m) (k : Nat) {a : α} {b : β} (hab : R a b) : Rels R (l.set k a) (m.set k b) :=
  ⟨by simp [h.1], fun i x y hx hy => by
    rw [List.getElem?_set] at hx hy
    split at hx
    · rename_i hk
      rw [if_pos hk] at hy
      split at hx
      · rename_i hl
        rw [if_pos (h.1 ▸ hl)] at hy
        simp at hx hy; subst hx hy; exact hab
      · cases hx
    · rename_i hk; rw [if_neg hk] at hy; exact h.2 _ x y hx hy⟩

def At.rel (σ : Nat → Value) : At → Value → Prop
  | .any, _ => True
  | .val u, v => v = u
  | .ptr n off, v => ∃ b, σ n = .pointer (some ⟨b, 0, none⟩) ∧ v = .pointer (some ⟨b, off, none⟩)
  | .eptr n i sz off, v => ∃ b o len cap, σ n = .slice (some ⟨b, o, none⟩) len cap ∧ i < len ∧ v = .pointer (some ⟨b, o + i * sz + off, none⟩)
  | .slc n, v => v = σ n
  | .fn f caps, v => v = .func (.func f) #[] (caps.map σ).toArray ∧ ∀ c ∈ caps, ∃ b, σ c = .pointer (some ⟨b, 0, none⟩)

def TV.rel (σ : Nat → Value) : TV → Value → Prop
  | .at a, v => a.rel σ v
  | .agg l, v => ∃ cs, v = .agg cs.toArray ∧ Rels (At.rel σ) l cs

def SV.rel (σ : Nat → Value) : SV → Value → Prop
  | .one x, v => x.rel σ v
  | .tup l, v => ∃ vs, v = .tuple vs.toArray ∧ Rels (TV.rel σ) l vs

def At.names : At → List Nat
  | .any | .val _ => []
  | .ptr n _ | .eptr n _ _ _ | .slc n => [n]
  | .fn _ caps => caps
def TV.names : TV → List Nat
  | .at a => a.names
  | .agg l => l.flatMap At.names
def SV.names : SV → List Nat
  | .one x => x.names
  | .tup l => l.flatMap TV.names

theorem At.rel_of {σ σ' : Nat → Value} {a : At} {v : Value} (h : a.rel σ v) (hn : ∀ n ∈ a.names, σ' n = σ n) : a.rel σ' v := by
  cases a with
  | any => trivial
  | val u => exact h
  | ptr n off => obtain ⟨b, h1, h2⟩ := h; exact ⟨b, (hn n (by simp [At.names])).trans h1, h2⟩
  | eptr n i sz off => obtain ⟨b, o, len, cap, h1, h2⟩ := h; exact ⟨b, o, len, cap, (hn n (by simp [At.names])).trans h1, h2⟩
  | slc n => exact (show v = σ n from h).trans (hn n (by simp [At.names])).symm
  | fn f caps =>
    refine ⟨?_, fun c hc => by rw [hn c hc]; exact h.2 c hc⟩
    rw [h.1]
    congr 2
    exact (List.map_congr_left fun n hm => hn n hm).symm
theorem TV.rel_of {σ σ' : Nat → Value} {a : TV} {v : Value} (h : a.rel σ v) (hn : ∀ n ∈ a.names, σ' n = σ n) : a.rel σ' v := by
  cases a with
  | «at» a => exact At.rel_of h hn
  | agg l =>
    obtain ⟨cs, h1, h2⟩ := h
    exact ⟨cs, h1, h2.mono fun a b ha hr => At.rel_of hr fun n hm => hn n (List.mem_flatMap.2 ⟨a, ha, hm⟩)⟩
theorem SV.rel_of {σ σ' : Nat → Value} {a : SV} {v : Value} (h : a.rel σ v) (hn : ∀ n ∈ a.names, σ' n = σ n) : a.rel σ' v := by
  cases a with
  | one a => exact TV.rel_of h hn
  | tup l =>
    obtain ⟨cs, h1, h2⟩ := h
    exact ⟨cs, h1, h2.mono fun a b ha hr => TV.rel_of hr fun n hm => hn n (List.mem_flatMap.2 ⟨a, ha, hm⟩)⟩

def Chunk.names : Chunk C → List Nat
  | .box cells => cells.flatMap At.names
  | _ => []

/-- The cells of a list of elements. -/
def flat (C : Ctx) (e : C.EC) (l : List (C.α e)) : List Value := l.flatMap (C.enc e)

/-- The slice value of a row that is read alone. -/
def Imm (C : Ctx) (w : World) (v : Value) (e : C.EC) (l : List (C.α e)) : Prop := ∃ A c, v = .slice A l.length c ∧ Rd (C.enc e) (C.sz e) w A l.length c l

/-- The blocks that are read alone through a chunk. -/
def Ro (w : World) (v : Value) (b : Nat) : Chunk C → Prop
  | .row false _ l => 0 < l.length ∧ v.ownBlock = some b
  | .rows h e ll => ∃ vs, w.ownsRow 0 (C.tid h) 1 v ll.length vs ∧ ∃ (i : Nat) (u : Value) (l : List (C.α e)), vs[i]? = some u ∧ ll[i]? = some l ∧ 0 < l.length ∧ u.ownBlock = some b
  | _ => False

def Holds (w : World) (σ : Nat → Value) (v : Value) (f : Nat → Prop) : Chunk C → Prop
  | .gone => True
  | .box cells => ∃ b t cs, v = .pointer (some ⟨b, 0, none⟩) ∧ (∀ k, f k ↔ k = b) ∧ w.heap[b]? = some (.cells cs t (0, 0)) ∧ Rels (At.rel σ) cells cs.toList
  | .row true e l => w.ownsRow 0 (C.tid e) (C.sz e) v l.length (flat C e l) ∧ (∀ k, f k ↔ v.ownBlock = some k)
  | .row false e l => Imm C w v e l ∧ (∀ k, ¬ f k)
  | .abs x => C.I x w v f ∧ ∃ b, v = .pointer (some ⟨b, 0, none⟩)
  | .map kk vk l => ∃ b es ck, v = .map (some b) ∧ (∀ k, f k ↔ k = b) ∧ w.heap[b]? = some (.map es ck) ∧ es.toList.map (fun e => (e.key, e.val)) = l.map fun p => (Value.int kk p.1, Value.int vk p.2)
  | .rows h e ll => C.sz h = 1 ∧ (∃ vs, w.ownsRow 0 (C.tid h) 1 v ll.length vs ∧ Rels (fun l u => Imm C w u e l) ll vs) ∧ (∀ k, f k ↔ v.ownBlock = some k)

structure Sat (C : Ctx) (σ : Nat → Value) (φ : Nat → Nat → Prop) (w : World) (H : List (Chunk C)) : Prop where
  holds : ∀ (n : Nat) (c : Chunk C), H[n]? = some c → Holds w σ (σ n) (φ n) c
  dis : ∀ n m b, φ n b → φ m b → n = m
  bd : ∀ n b, φ n b → b < w.heap.size
  imm : ∀ (n : Nat) (c : Chunk C), H[n]? = some c → ∀ b, Ro w (σ n) b c → ∀ m, ¬ φ m b
  out : ∀ n, H.length ≤ n → ∀ b, ¬ φ n b
  cl : ∀ (n : Nat) (c : Chunk C), H[n]? = some c → ∀ m ∈ c.names, m < H.length

theorem Sat.immr {σ : Nat → Value} {φ : Nat → Nat → Prop} {w : World} {H : List (Chunk C)} (h : Sat C σ φ w H) (n : Nat) (e : C.EC) (l : List (C.α e)) (hl : H[n]? = some (.row false e l)) (hpos : 0 < l.length) (b : Nat) (hb : (σ n).ownBlock = some b) (m : Nat) : ¬ φ m b :=
  h.imm n _ hl b ⟨hpos, hb⟩ m

/-- The world went on: blocks outside the footprints φ are as they were, what is owned now was owned before or is new. -/
structure Adv (φ : Nat → Nat → Prop) (w : World) (φ' : Nat → Nat → Prop) (w' : World) : Prop where
  os : w'.os = w.os
  tape : w'.tape = w.tape
  output : w'.output = w.output
  size : w.heap.size ≤ w'.heap.size
  fr : ∀ k, k < w.heap.size → (∀ n, ¬ φ n k) → w'.heap[k]? = w.heap[k]?
  grow : ∀ n b, φ' n b → (∃ m, φ m b) ∨ w.heap.size ≤ b

theorem Adv.refl (φ : Nat → Nat → Prop) (w : World) : Adv φ w φ w := ⟨rfl, rfl, rfl, Nat.le_refl _, fun _ _ _ => rfl, fun n _ h => .inl ⟨n, h⟩⟩
theorem Adv.trans {φ φ' φ'' : Nat → Nat → Prop} {w w' w'' : World} (h : Adv φ w φ' w') (h' : Adv φ' w' φ'' w'') : Adv φ w φ'' w'' where
  os := h'.os.trans h.os
  tape := h'.tape.trans h.tape
  output := h'.output.trans h.output
  size := Nat.le_trans h.size h'.size
  fr k hk hn := (h'.fr k (Nat.lt_of_lt_of_le hk h.size) fun n hh => by
    rcases h.grow n k hh with ⟨m, hm⟩ | hle
    · exact hn m hm
    · omega).trans (h.fr k hk hn)
  grow n b hb := by
    rcases h'.grow n b hb with ⟨m, hm⟩ | hle
    · exact h.grow m b hm
    · exact .inr (Nat.le_trans h.size hle)

theorem Imm.keep {w w' : World} {v : Value} {e : C.EC} {l : List (C.α e)} (h : Imm C w v e l) (hs : w.heap.size ≤ w'.heap.size) (hb : 0 < l.length → ∀ b, v.ownBlock = some b → b < w.heap.size → w'.heap[b]? = w.heap[b]?) : Imm C w' v e l := by
  obtain ⟨A, c, rfl, hr⟩ := h
  refine ⟨A, c, rfl, ⟨hr.len, hr.cap, hr.max, hr.row, hr.nul, fun hn => ?_⟩⟩
  obtain ⟨b, o, rfl, hlt, hc⟩ := hr.get hn
  exact ⟨b, o, rfl, by omega, fun k x hx j u hu => (World.cell?_of_block (hb hn b rfl hlt)).trans (hc k x hx j u hu)⟩

theorem Imm.lt {w : World} {v : Value} {e : C.EC} {l : List (C.α e)} (h : Imm C w v e l) (hl : 0 < l.length) {b : Nat} (hb : v.ownBlock = some b) : b < w.heap.size := by
  obtain ⟨A, c, rfl, hr⟩ := h
  obtain ⟨b', o, rfl, hlt, _⟩ := hr.get hl
  simp [Value.ownBlock] at hb
  omega

theorem ownsRow_keep {w w' : World} {t : TypeId} {sz n : Nat} {v : Value} {xs : List Value} (h : w.ownsRow 0 t sz v n xs) (hb : ∀ b, v.ownBlock = some b → w'.heap[b]? = w.heap[b]?) : w'.ownsRow 0 t sz v n xs := by
  refine ⟨h.1, ?_⟩
  rcases h.2 with h2 | ⟨g, cap, cur, rfl, hg, hh, rest⟩
  · exact .inl h2
  · exact .inr ⟨g, cap, cur, rfl, hg, (hb g rfl).trans hh, rest⟩
theorem ownsRow_inj {w : World} {t : TypeId} {sz n : Nat} {v : Value} {xs ys : List Value} (h : w.ownsRow 0 t sz v n xs) (h' : w.ownsRow 0 t sz v n ys) : xs = ys := by
  obtain ⟨l1, h1⟩ := h
  obtain ⟨l2, h2⟩ := h'
  rcases h1 with ⟨rfl, rfl⟩ | ⟨g, cap, cur, rfl, _, hg, _, _, _, h6⟩
  · rw [Nat.zero_mul] at l1 l2
    rw [List.eq_nil_of_length_eq_zero l1, List.eq_nil_of_length_eq_zero l2]
  · rcases h2 with ⟨e, _⟩ | ⟨g', cap', cur', e, _, hg', _, _, _, h6'⟩
    · simp at e
    · simp only [Value.slice.injEq, Option.some.injEq, Addr.mk.injEq] at e
      obtain ⟨⟨rfl, _⟩, _, rfl⟩ := e
      rw [hg] at hg'
      simp only [Option.some.injEq, Obj.cells.injEq] at hg'
      obtain ⟨rfl, _⟩ := hg'
      rw [← h6, ← h6']
theorem Ro.back {w w' : World} {σ : Nat → Value} {v : Value} {f : Nat → Prop} {c : Chunk C} (h : Holds w σ v f c) (hf : ∀ b, f b → w'.heap[b]? = w.heap[b]?) {b : Nat} (hr : Ro w' v b c) : Ro w v b c := by
  match c with
  | .row false e l => exact hr
  | .rows hh e ll =>
    obtain ⟨vs, ho, rest⟩ := hr
    exact ⟨vs, ownsRow_keep ho fun b hb => (hf b ((h.2.2 b).2 hb)).symm, rest⟩
  | .gone | .box _ | .row true _ _ | .abs _ | .map _ _ _ => exact hr.elim
theorem Ro.lt {w : World} {σ : Nat → Value} {v : Value} {f : Nat → Prop} {c : Chunk C} (h : Holds w σ v f c) {b : Nat} (hr : Ro w v b c) : b < w.heap.size := by
  match c with
  | .row false e l => exact h.1.lt hr.1 hr.2
  | .rows hh e ll =>
    obtain ⟨vs, ho, i, u, l, h1, h2, h3, h4⟩ := hr
    obtain ⟨_, ⟨vs', ho', hi⟩, _⟩ := h
    obtain rfl := ownsRow_inj ho ho'
    exact (hi.2 i l u h2 h1).lt h3 h4
  | .gone | .box _ | .row true _ _ | .abs _ | .map _ _ _ => exact hr.elim

theorem Ro.box {w : World} {v : Value} {b : Nat} {cells : List At} (h : Ro w v b (.box cells : Chunk C)) : False := h
theorem Ro.own {w : World} {v : Value} {b : Nat} {e : C.EC} {l : List (C.α e)} (h : Ro w v b (.row true e l)) : False := h
theorem Ro.map {w : World} {v : Value} {b : Nat} {kk vk : IntKind} {l : List (Int × Int)} (h : Ro w v b (.map kk vk l : Chunk C)) : False := h

theorem Holds.keep (hC : C.OK) {w w' : World} {σ σ' : Nat → Value} {v : Value} {f : Nat → Prop} {c : Chunk C} (h : Holds w σ v f c) (hs : w.heap.size ≤ w'.heap.size) (hf : ∀ b, f b → w'.heap[b]? = w.heap[b]?)
    (hi : ∀ b, Ro w v b c → b < w.heap.size → w'.heap[b]? = w.heap[b]?) (hn : ∀ n ∈ c.names, σ' n = σ n) : Holds w' σ' v f c := by
  match c with
  | .gone => trivial
  | .box cells =>
    obtain ⟨b, t, cs, h1, h2, h3, h4⟩ := h
    exact ⟨b, t, cs, h1, h2, (hf b ((h2 b).2 rfl)).trans h3, h4.mono fun a u ha hr => At.rel_of hr fun n hm => hn n (List.mem_flatMap.2 ⟨a, ha, hm⟩)⟩
  | .row true e l =>
    obtain ⟨⟨h1, h2⟩, h3⟩ := h
    refine ⟨⟨h1, ?_⟩, h3⟩
    rcases h2 with h2 | ⟨g, cap, cur, rfl, hg, hh, rest⟩
    · exact .inl h2
    · exact .inr ⟨g, cap, cur, rfl, hg, (hf g ((h3 g).2 rfl)).trans hh, rest⟩
  | .row false e l => exact ⟨h.1.keep hs fun hl b hb hlt => hi b ⟨hl, hb⟩ hlt, h.2⟩
  | .abs x => exact ⟨hC.local_ _ _ _ _ _ h.1 hs hf, h.2⟩
  | .map kk vk l =>
    obtain ⟨b, es, ck, h1, h2, h3, h4⟩ := h
    exact ⟨b, es, ck, h1, h2, (hf b ((h2 b).2 rfl)).trans h3, h4⟩
  | .rows hh e ll =>
    obtain ⟨hz, ⟨vs, ho, hr⟩, h3⟩ := h
    exact ⟨hz, ⟨vs, ownsRow_keep ho fun b hb => hf b ((h3 b).2 hb), hr.1, fun i l u hl hu => (hr.2 i l u hl hu).keep hs fun hpos b hb hlt => hi b ⟨vs, ho, i, u, l, hu, hl, hpos, hb⟩ hlt⟩, h3⟩

/-- One step: the names S are touched, all others keep their chunk. -/
theorem Sat.step (hC : C.OK) {σ σ' : Nat → Value} {φ φ' : Nat → Nat → Prop} {w w' : World} {H H' : List (Chunk C)} (h : Sat C σ φ w H) (S : Nat → Prop)
    (hsz : w.heap.size ≤ w'.heap.size) (hfr : ∀ k, k < w.heap.size → (∀ n, S n → ¬ φ n k) → w'.heap[k]? = w.heap[k]?)
    (hold : ∀ n, ¬ S n → H'[n]? = H[n]? ∧ σ' n = σ n ∧ (∀ b, φ' n b ↔ φ n b))
    (hmen : ∀ (n : Nat) (c : Chunk C), ¬ S n → H[n]? = some c → ∀ m ∈ c.names, σ' m = σ m)
    (hnew : ∀ (n : Nat) (c : Chunk C), S n → H'[n]? = some c → Holds w' σ' (σ' n) (φ' n) c)
    (hgrow : ∀ n b, S n → φ' n b → (∃ m, S m ∧ φ m b) ∨ w.heap.size ≤ b)
    (hdis : ∀ n m b, S n → S m → φ' n b → φ' m b → n = m)
    (hbd : ∀ n b, S n → φ' n b → b < w'.heap.size)
    (himm : ∀ (n : Nat) (c : Chunk C), S n → H'[n]? = some c → ∀ b, Ro w' (σ' n) b c → ∀ m, ¬ φ' m b)
    (hout : ∀ n, H'.length ≤ n → ∀ b, ¬ φ' n b) (hlen : H.length ≤ H'.length) (hcl : ∀ (n : Nat) (c : Chunk C), S n → H'[n]? = some c → ∀ m ∈ c.names, m < H'.length) : Sat C σ' φ' w' H' where
  holds n c hc := by
    by_cases hS : S n
    · exact hnew n c hS hc
    · obtain ⟨h1, h2, h3⟩ := hold n hS
      rw [h1] at hc
      have hh := h.holds n c hc
      rw [h2]
      have hk : Holds w' σ' (σ n) (φ n) c := hh.keep hC hsz (fun b hb => hfr b (h.bd n b hb) fun m hm hb' => hS (by rw [h.dis n m b hb hb']; exact hm))
        (fun b hb hlt => hfr b hlt fun m _ hb' => h.imm n c hc b hb m hb') (hmen n c hS hc)
      have : φ' n = φ n := funext fun b => propext (h3 b)
      rw [this]; exact hk
  dis n m b h1 h2 := by
    by_cases hn : S n <;> by_cases hm : S m
    · exact hdis n m b hn hm h1 h2
    · have h2' := ((hold m hm).2.2 b).1 h2
      rcases hgrow n b hn h1 with ⟨k, hk, hb⟩ | hle
      · exact absurd (h.dis k m b hb h2') (fun e => hm (e ▸ hk))
      · exact absurd (h.bd m b h2') (by omega)
    · have h1' := ((hold n hn).2.2 b).1 h1
      rcases hgrow m b hm h2 with ⟨k, hk, hb⟩ | hle
      · exact absurd (h.dis k n b hb h1') (fun e => hn (e ▸ hk))
      · exact absurd (h.bd n b h1') (by omega)
    · exact h.dis n m b (((hold n hn).2.2 b).1 h1) (((hold m hm).2.2 b).1 h2)
  bd n b hb := by
    by_cases hn : S n
    · exact hbd n b hn hb
    · exact Nat.lt_of_lt_of_le (h.bd n b (((hold n hn).2.2 b).1 hb)) hsz
  imm n c hl b hb m hm := by
    by_cases hn : S n
    · exact himm n c hn hl b hb m hm
    · obtain ⟨h1, h2, _⟩ := hold n hn
      rw [h1] at hl
      rw [h2] at hb
      have hb0 := Ro.back (h.holds n _ hl) (fun b hb => hfr b (h.bd n b hb) fun m hm hb' => hn (by rw [h.dis n m b hb hb']; exact hm)) hb
      by_cases hmS : S m
      · rcases hgrow m b hmS hm with ⟨k, _, hb'⟩ | hle
        · exact h.imm n c hl b hb0 k hb'
        · have := Ro.lt (h.holds n _ hl) hb0; omega
      · exact h.imm n c hl b hb0 m (((hold m hmS).2.2 b).1 hm)
  out := hout
  cl n c hc m hm := by
    by_cases hS : S n
    · exact hcl n c hS hc m hm
    · rw [(hold n hS).1] at hc
      exact Nat.lt_of_lt_of_le (h.cl n c hc m hm) hlen

theorem Sat.drawn {σ : Nat → Value} {φ : Nat → Nat → Prop} {w : World} {H : List (Chunk C)} (hC : C.OK) (h : Sat C σ φ w H) (k : Nat) : Sat C σ φ { w with drawn := k } H :=
  h.step hC (fun _ => False) (Nat.le_refl _) (fun _ _ _ => rfl) (fun _ _ => ⟨rfl, rfl, fun _ => Iff.rfl⟩) (fun _ _ _ _ _ _ => rfl) (fun _ _ h => h.elim) (fun _ _ h => h.elim)
    (fun _ _ _ h => h.elim) (fun _ _ h => h.elim) (fun _ _ h => h.elim) h.out (Nat.le_refl _) (fun _ _ h => h.elim)

/-- A new name. -/
theorem Sat.new (hC : C.OK) {σ : Nat → Value} {φ : Nat → Nat → Prop} {w w' : World} {H : List (Chunk C)} (h : Sat C σ φ w H) (c : Chunk C) (v : Value) (f : Nat → Prop)
    (hsz : w.heap.size ≤ w'.heap.size) (hfr : ∀ k, k < w.heap.size → w'.heap[k]? = w.heap[k]?)
    (hc : ∀ n, n ∉ c.names → Holds w' (fun k => if k = n then v else σ k) v f c) (hnm : ∀ n ∈ c.names, n < H.length)
    (hf : ∀ b, f b → w.heap.size ≤ b ∧ b < w'.heap.size)
    (himm : ∀ b, Ro w' v b c → (∀ m, ¬ φ m b) ∧ ¬ f b) :
    Sat C (fun k => if k = H.length then v else σ k) (fun k => if k = H.length then f else φ k) w' (H ++ [c]) := by
  refine h.step hC (fun n => n = H.length) hsz (fun k hk _ => hfr k hk) (fun n hn => ?_) (fun n d hn hd m hm => ?_) (fun n d hn hd => ?_) (fun n b hn hb => ?_) (fun n m b hn hm _ _ => hn.trans hm.symm) (fun n b hn hb => ?_) (fun n d hn hl b hb m hm => ?_) (fun n hn b hb => ?_) (by simp) (fun n d hn hd m hm => ?_)
  · have hn' : ¬ n = H.length := hn
    refine ⟨?_, by simp [hn'], fun b => by simp [hn']⟩
    rcases Nat.lt_or_ge n H.length with hlt | hge
    · rw [List.getElem?_append_left hlt]
    · rw [List.getElem?_eq_none (by simp; omega), List.getElem?_eq_none hge]
  · have := h.cl n d hd m hm
    simp [Nat.ne_of_lt this]
  · have hn' : n = H.length := hn
    subst hn'
    simp at hd; subst hd
    simp only [if_true]
    exact hc _ fun hm => by have := hnm _ hm; omega
  · have hn' : n = H.length := hn
    subst hn'
    simp only [if_true] at hb
    exact .inr (hf b hb).1
  · have hn' : n = H.length := hn
    subst hn'
    simp only [if_true] at hb
    exact (hf b hb).2
  · have hn' : n = H.length := hn
    subst hn'
    simp at hl; subst hl
    simp only [if_true] at hb
    by_cases hm' : m = H.length
    · subst hm'; simp only [if_true] at hm; exact (himm b hb).2 hm
    · simp only [if_neg hm'] at hm; exact (himm b hb).1 m hm
  · rw [List.length_append, List.length_singleton] at hn
    rw [if_neg (by omega)] at hb
    exact h.out n (by omega) b hb
  · have hn' : n = H.length := hn
    subst hn'
    simp at hd; subst hd
    have := hnm m hm
    simp; omega
end
end Go.Proofs.Ytmjnoiajenoinaa.Sx
end
