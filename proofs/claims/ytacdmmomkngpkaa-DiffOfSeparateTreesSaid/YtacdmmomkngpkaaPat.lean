/- Plain laws of patches: what each function of the patch layer comes to, on lists. No program in sight. -/
import Derived.Test.YtacdmmomkngpkaaSrt
namespace Go.Proofs.Ytacdmmomkngpkaa

structure Chg where
  kind : Int
  key : Int
  old : Int
  new : Int
  deriving DecidableEq

def Chg.before (c : Chg) : Option Int := if c.kind = 1 then none else some c.old
def Chg.after (c : Chg) : Option Int := if c.kind = 2 then none else some c.new

/-- The change of a key from one value to another one, if they differ. -/
def mkChg (k : Int) (x y : Option Int) : Option Chg :=
  if x = y then none else match x, y with
    | none, none => none
    | none, some v => some ⟨1, k, 0, v⟩
    | some u, none => some ⟨2, k, u, 0⟩
    | some u, some v => some ⟨3, k, u, v⟩

theorem mkChg_some {k : Int} {x y : Option Int} {c : Chg} (h : mkChg k x y = some c) : c.key = k ∧ c.before = x ∧ c.after = y ∧ x ≠ y ∧ (c.kind = 1 ∨ c.kind = 2 ∨ c.kind = 3) := by
  unfold mkChg at h
  split at h
  · cases h
  · rename_i hne
    cases x <;> cases y <;> simp at h <;> subst h <;> simp [Chg.before, Chg.after]
    simpa using hne

theorem mkChg_none {k : Int} {x y : Option Int} : mkChg k x y = none ↔ x = y := by
  unfold mkChg
  split
  · simp [*]
  · cases x <;> cases y <;> simp_all

/-- A change that is what its own values say. -/
def Chg.ok (c : Chg) : Prop := mkChg c.key c.before c.after = some c
instance (c : Chg) : Decidable c.ok := by unfold Chg.ok; infer_instance

theorem mkChg_ok {k : Int} {x y : Option Int} {c : Chg} (h : mkChg k x y = some c) : c.ok := by
  obtain ⟨h1, h2, h3, _, _⟩ := mkChg_some h
  unfold Chg.ok; rw [h1, h2, h3]; exact h

theorem Chg.ok_kind {c : Chg} (h : c.ok) : c.kind = 1 ∨ c.kind = 2 ∨ c.kind = 3 := (mkChg_some h).2.2.2.2
theorem Chg.ok_ne {c : Chg} (h : c.ok) : c.before ≠ c.after := (mkChg_some h).2.2.2.1
theorem Chg.ok_ext {c d : Chg} (hc : c.ok) (hd : d.ok) (hk : c.key = d.key) (hb : c.before = d.before) (ha : c.after = d.after) : c = d := by
  unfold Chg.ok at hc hd
  rw [hk, hb, ha, hd] at hc
  exact (Option.some.inj hc).symm

/-- A valid patch. -/
def Val (p : List Chg) : Prop := Srt Chg.key p ∧ ∀ c ∈ p, c.ok

def valGo : Option Int → List Chg → Bool
  | _, [] => true
  | prev, c :: t => (match prev with | none => true | some k => decide (k < c.key)) && decide c.ok && valGo (some c.key) t

theorem valGo_iff (p : List Chg) : ∀ prev, valGo prev p = true ↔ Val p ∧ (∀ k, prev = some k → ∀ c ∈ p, k < c.key) := by
  induction p with
  | nil => intro prev; simp [valGo, Val, Srt.nil]
  | cons c t ih =>
    intro prev
    simp only [valGo, Bool.and_eq_true, decide_eq_true_eq, ih]
    constructor
    · rintro ⟨⟨h1, h2⟩, ⟨h3, h4⟩, h5⟩
      have h6 := h5 c.key rfl
      refine ⟨⟨h3.cons h6, ?_⟩, ?_⟩
      · intro d hd
        rcases List.mem_cons.1 hd with rfl | hd
        · exact h2
        · exact h4 d hd
      · intro k hk d hd
        subst hk
        simp at h1
        rcases List.mem_cons.1 hd with rfl | hd
        · exact h1
        · have := h6 d hd; omega
    · rintro ⟨⟨h1, h2⟩, h3⟩
      refine ⟨⟨?_, h2 c List.mem_cons_self⟩, ⟨h1.tail, fun d hd => h2 d (List.mem_cons_of_mem _ hd)⟩, ?_⟩
      · cases prev with
        | none => rfl
        | some k => simpa using h3 k rfl c List.mem_cons_self
      · intro k hk d hd
        cases hk
        exact h1.head d hd

def valB (p : List Chg) : Bool := valGo none p
theorem valB_iff {p : List Chg} : valB p = true ↔ Val p := by
  unfold valB; rw [valGo_iff]; simp

/-! ### The patch between two lists -/
abbrev pE := pairs (Prod.fst : Ent → Int) (Prod.fst : Ent → Int)
abbrev pC := pairs Chg.key Chg.key
abbrev pEC := pairs (Prod.fst : Ent → Int) Chg.key

def btw1 (z : Option Ent × Option Ent) : List Chg := (mkChg (pkey Prod.fst Prod.fst z) (z.1.map Prod.snd) (z.2.map Prod.snd)).toList
def btw (l m : List Ent) : List Chg := (pE l m).flatMap btw1

/-- An ascending list of what is made of each element of an ascending list, at most one each, under its key. -/
theorem flatOpt_srt {α β : Type} {ka : α → Int} {kb : β → Int} (f : α → Option β) (hf : ∀ x y, f x = some y → kb y = ka x) {l : List α} (h : Srt ka l) :
    Srt kb (l.flatMap fun x => (f x).toList) := by
  induction l with
  | nil => exact Srt.nil
  | cons x t ih =>
    rw [List.flatMap_cons]
    cases hx : f x with
    | none => simpa [hx] using ih h.tail
    | some y =>
      show Srt kb (y :: t.flatMap fun x => (f x).toList)
      refine Srt.cons (ih h.tail) fun z hz => ?_
      rw [List.mem_flatMap] at hz
      obtain ⟨u, hu, hz⟩ := hz
      rw [hf x y hx, hf u z (by simpa using hz)]
      exact h.head u hu

theorem flatOpt_fnd {α β : Type} {ka : α → Int} {kb : β → Int} (f : α → Option β) (hf : ∀ x y, f x = some y → kb y = ka x) {l : List α} (h : Srt ka l) (k : Int) :
    fnd kb (l.flatMap fun x => (f x).toList) k = (fnd ka l k).bind f := by
  induction l with
  | nil => rfl
  | cons x t ih =>
    rw [List.flatMap_cons, fnd_append, fnd_cons, ih h.tail]
    by_cases e : ka x = k
    · rw [if_pos e]
      cases hx : f x with
      | none =>
        have : fnd ka t k = none := fnd_of_lt fun z hz => by have := h.head z hz; omega
        simp [hx, this, fnd_nil]
      | some y => simp [hx, fnd_cons, hf x y hx, e]
    · rw [if_neg e]
      cases hx : f x with
      | none => simp [fnd_nil]
      | some y => simp [fnd_cons, hf x y hx, e, fnd_nil]

theorem btw_srt {l m : List Ent} (hl : Asc l) (hm : Asc m) : Srt Chg.key (btw l m) :=
  flatOpt_srt (ka := pkey Prod.fst Prod.fst) (fun z => mkChg (pkey Prod.fst Prod.fst z) (z.1.map Prod.snd) (z.2.map Prod.snd)) (fun _ _ h => (mkChg_some h).1) (pairs_srt l m hl hm)

theorem btw_fnd {l m : List Ent} (hl : Asc l) (hm : Asc m) (k : Int) : fnd Chg.key (btw l m) k = mkChg k (getE l k) (getE m k) := by
  have h := flatOpt_fnd (ka := pkey Prod.fst Prod.fst) (kb := Chg.key) (fun z : Option Ent × Option Ent => mkChg (pkey Prod.fst Prod.fst z) (z.1.map Prod.snd) (z.2.map Prod.snd)) (fun _ _ h => (mkChg_some h).1) (pairs_srt l m hl hm) k
  refine h.trans ?_
  cases hz : fnd (pkey Prod.fst Prod.fst) (pE l m) k with
  | none =>
    rw [pairs_fnd l m hl hm] at hz
    unfold both2 at hz
    split at hz
    · cases hz
    · rename_i hn
      simp at hn
      rw [getE_fnd, getE_fnd, hn.1, hn.2]
      simp [mkChg_none.2 rfl]
  | some z =>
    have hk := fnd_key hz
    rw [pairs_fnd l m hl hm] at hz
    unfold both2 at hz
    split at hz
    · cases hz
      simp only [Option.bind_some, hk, getE_fnd]
    · cases hz

theorem btw_val {l m : List Ent} (hl : Asc l) (hm : Asc m) : Val (btw l m) := by
  refine ⟨btw_srt hl hm, fun c hc => ?_⟩
  have := (btw_srt hl hm).fnd_self hc
  rw [btw_fnd hl hm] at this
  exact mkChg_ok this

/-- A valid patch is known by its changes' values, key by key. -/
theorem Val.ext {p q : List Chg} (hp : Val p) (hq : Val q) (h : ∀ k, (fnd Chg.key p k).map (fun c => (c.before, c.after)) = (fnd Chg.key q k).map (fun c => (c.before, c.after))) : p = q := by
  refine Srt.ext (key := Chg.key) hp.1 hq.1 fun k => ?_
  have := h k
  cases h1 : fnd Chg.key p k with
  | none => rw [h1] at this; cases h2 : fnd Chg.key q k with
    | none => rfl
    | some d => rw [h2] at this; cases this
  | some c =>
    cases h2 : fnd Chg.key q k with
    | none => rw [h1, h2] at this; cases this
    | some d =>
      rw [h1, h2] at this
      simp at this
      rw [Chg.ok_ext (hp.2 c (fnd_mem h1)) (hq.2 d (fnd_mem h2)) ((fnd_key h1).trans (fnd_key h2).symm) this.1 this.2]

end Go.Proofs.Ytacdmmomkngpkaa
