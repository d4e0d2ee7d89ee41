/- Plain laws of patches: apply, compose, rebase, invert. No program in sight. -/
import Derived.Test.YtacdmmomkngpkaaPat
namespace Go.Proofs.Ytacdmmomkngpkaa

/-! ### Apply -/
def optE (k : Int) (v : Option Int) : List Ent := (v.map fun v => (k, v)).toList

def appGo : List (Option Ent × Option Chg) → Option (List Ent)
  | [] => some []
  | (x, none) :: t => (appGo t).map (x.toList ++ ·)
  | (x, some c) :: t => if x.map Prod.snd = c.before then (appGo t).map (optE c.key c.after ++ ·) else none

/-- What applying comes to: the list, if the patch fits. -/
def app (l : List Ent) (p : List Chg) : Option (List Ent) := appGo (pEC l p)

/-- What is still to be made, behind what has been made. -/
def AppAt (l : List Ent) (p : List Chg) (i k : Nat) (acc : List Ent) : Prop := app l p = (appGo (pEC (l.drop i) (p.drop k))).map (acc ++ ·)
theorem AppAt.start (l : List Ent) (p : List Chg) : AppAt l p 0 0 [] := by
  unfold AppAt app; rw [List.drop_zero, List.drop_zero]; cases appGo (pEC l p) <;> rfl
theorem appGo_keep {l' : List Ent} {p' : List Chg} {x : Ent} {c : Chg} (h : x.1 < c.key) : appGo (pEC (x :: l') (c :: p')) = (appGo (pEC l' (c :: p'))).map (x :: ·) := by
  show appGo (pairs Prod.fst Chg.key (x :: l') (c :: p')) = _
  rw [pairs, if_pos h]; rfl
theorem AppAt.keep {l : List Ent} {p : List Chg} {i k : Nat} {acc : List Ent} {x : Ent} {c : Chg} (h : AppAt l p i k acc) (hl : l.drop i = x :: l.drop (i + 1)) (hp : p.drop k = c :: p.drop (k + 1)) (hlt : x.1 < c.key) : AppAt l p (i + 1) k (acc ++ [x]) := by
  unfold AppAt at *
  rw [h, hl, hp, appGo_keep hlt, ← hp, Option.map_map]
  congr 1
  funext t; simp
/-- The element at i, if it has the key of the change. -/
def at1 (l : List Ent) (i : Nat) (q : Int) : Option Ent := match l[i]? with
  | some x => if x.1 = q then some x else none
  | none => none
theorem AppAt.take {l : List Ent} {p : List Chg} {i k : Nat} {acc : List Ent} {x : Ent} {c : Chg} (h : AppAt l p i k acc) (hl : l.drop i = x :: l.drop (i + 1)) (hp : p.drop k = c :: p.drop (k + 1)) (he : x.1 = c.key) :
    if some x.2 = c.before then AppAt l p (i + 1) (k + 1) (acc ++ optE c.key c.after) else app l p = none := by
  have e : pEC (x :: l.drop (i + 1)) (c :: p.drop (k + 1)) = (some x, some c) :: pEC (l.drop (i + 1)) (p.drop (k + 1)) := by
    show pairs Prod.fst Chg.key _ _ = _
    rw [pairs, if_neg (by omega), if_neg (by omega)]
  split
  · rename_i hb
    unfold AppAt at *
    rw [h, hl, hp, e]
    simp only [appGo, Option.map_some, hb, if_true, Option.map_map]
    congr 1
    funext t; simp
  · rename_i hb
    unfold AppAt at h
    rw [h, hl, hp, e]
    simp only [appGo, Option.map_some, hb, if_false, Option.map_none]
theorem AppAt.new {l : List Ent} {p : List Chg} {i k : Nat} {acc : List Ent} {c : Chg} (h : AppAt l p i k acc) (hl : l.drop i = [] ∨ ∃ x t, l.drop i = x :: t ∧ c.key < x.1) (hp : p.drop k = c :: p.drop (k + 1)) :
    if none = c.before then AppAt l p i (k + 1) (acc ++ optE c.key c.after) else app l p = none := by
  have e : pEC (l.drop i) (c :: p.drop (k + 1)) = (none, some c) :: pEC (l.drop i) (p.drop (k + 1)) := by
    show pairs Prod.fst Chg.key _ _ = _ :: pairs Prod.fst Chg.key _ _
    rcases hl with hl | ⟨x, t, hl, hlt⟩
    · rw [hl, pairs]
    · rw [hl, pairs, if_neg (by omega), if_pos hlt]
  split
  · rename_i hb
    unfold AppAt at *
    rw [h, hp, e]
    simp only [appGo, Option.map_none, hb, if_true, Option.map_map]
    congr 1
    funext t; simp
  · rename_i hb
    unfold AppAt at h
    rw [h, hp, e]
    simp only [appGo, Option.map_none, hb, if_false]
theorem AppAt.fin {l : List Ent} {p : List Chg} {i k : Nat} {acc : List Ent} (h : AppAt l p i k acc) (hk : p.length ≤ k) : app l p = some (acc ++ l.drop i) := by
  unfold AppAt at h
  rw [h, List.drop_eq_nil_of_le hk]
  have : ∀ m : List Ent, appGo (pEC m []) = some m := by
    intro m
    induction m with
    | nil => simp [pairs, appGo]
    | cons x t ih => simp [pairs, appGo, ih]
  rw [this]; rfl

/-- The value of a key behind a patch. -/
def put (x : Option Int) (c : Option Chg) : Option Int := match c with
  | none => x
  | some c => c.after

theorem pEC_srt {l : List Ent} {p : List Chg} (hl : Asc l) (hp : Srt Chg.key p) : Srt (pkey Prod.fst Chg.key) (pEC l p) := pairs_srt l p hl hp
theorem pEC_fnd {l : List Ent} {p : List Chg} (hl : Asc l) (hp : Srt Chg.key p) (k : Int) : fnd (pkey Prod.fst Chg.key) (pEC l p) k = both2 (fnd Prod.fst l k) (fnd Chg.key p k) := pairs_fnd l p hl hp k

/-- The pairs that a merge makes: keys agree, and no pair is empty. -/
theorem pairs_good {α β : Type} {ka : α → Int} {kb : β → Int} (l : List α) (m : List β) : ∀ z ∈ pairs ka kb l m, (z.1.isSome = true ∨ z.2.isSome = true) ∧ (∀ x y, z = (some x, some y) → ka x = kb y) := by
  fun_induction pairs ka kb l m with
  | case1 => intro z hz; cases hz
  | case2 y m ih => intro z hz; rcases List.mem_cons.1 hz with rfl | hz; · exact ⟨.inr rfl, by simp⟩
                    · exact ih z hz
  | case3 x l ih => intro z hz; rcases List.mem_cons.1 hz with rfl | hz; · exact ⟨.inl rfl, by simp⟩
                    · exact ih z hz
  | case4 x l y m h ih => intro z hz; rcases List.mem_cons.1 hz with rfl | hz; · exact ⟨.inl rfl, by simp⟩
                          · exact ih z hz
  | case5 x l y m h1 h2 ih => intro z hz; rcases List.mem_cons.1 hz with rfl | hz; · exact ⟨.inr rfl, by simp⟩
                              · exact ih z hz
  | case6 x l y m h1 h2 ih => intro z hz; rcases List.mem_cons.1 hz with rfl | hz; · exact ⟨.inl rfl, by intro a b e; simp at e; obtain ⟨rfl, rfl⟩ := e; omega⟩
                              · exact ih z hz

def emit1 (z : Option Ent × Option Chg) : Option Ent := (put (z.1.map Prod.snd) z.2).map fun v => (pkey Prod.fst Chg.key z, v)

theorem appGo_some {L : List (Option Ent × Option Chg)} (hg : ∀ z ∈ L, (z.1.isSome = true ∨ z.2.isSome = true) ∧ (∀ x y, z = (some x, some y) → x.1 = y.key)) :
    appGo L = if (∀ z ∈ L, ∀ c, z.2 = some c → z.1.map Prod.snd = c.before) then some (L.flatMap fun z => (emit1 z).toList) else none := by
  induction L with
  | nil => simp [appGo]
  | cons z t ih =>
    have ih := ih fun u hu => hg u (List.mem_cons_of_mem _ hu)
    have hz := hg z List.mem_cons_self
    obtain ⟨x, d⟩ := z
    cases d with
    | none =>
      cases x with
      | none => simp at hz
      | some x =>
        simp only [appGo, ih]
        have e1 : (∀ z ∈ (some x, (none : Option Chg)) :: t, ∀ c, z.2 = some c → z.1.map Prod.snd = c.before) ↔ (∀ z ∈ t, ∀ c, z.2 = some c → z.1.map Prod.snd = c.before) := by
          constructor
          · intro h u hu; exact h u (List.mem_cons_of_mem _ hu)
          · intro h u hu
            rcases List.mem_cons.1 hu with rfl | hu
            · intro c hc; cases hc
            · exact h u hu
        by_cases h : (∀ z ∈ t, ∀ c, z.2 = some c → z.1.map Prod.snd = c.before)
        · rw [if_pos h, if_pos (e1.2 h)]; simp [emit1, put, pkey]
        · rw [if_neg h, if_neg (fun hh => h (e1.1 hh))]; rfl
    | some c =>
      simp only [appGo, ih]
      by_cases hb : x.map Prod.snd = c.before
      · rw [if_pos hb]
        have e1 : (∀ z ∈ (x, some c) :: t, ∀ c, z.2 = some c → z.1.map Prod.snd = c.before) ↔ (∀ z ∈ t, ∀ c, z.2 = some c → z.1.map Prod.snd = c.before) := by
          constructor
          · intro h u hu; exact h u (List.mem_cons_of_mem _ hu)
          · intro h u hu
            rcases List.mem_cons.1 hu with rfl | hu
            · intro c' hc; cases hc; exact hb
            · exact h u hu
        have hk : pkey Prod.fst Chg.key (x, some c) = c.key := by
          cases x with
          | none => rfl
          | some x => exact hz.2 x c rfl
        by_cases h : (∀ z ∈ t, ∀ c, z.2 = some c → z.1.map Prod.snd = c.before)
        · rw [if_pos h, if_pos (e1.2 h)]; simp [emit1, put, hk, optE]
        · rw [if_neg h, if_neg (fun hh => h (e1.1 hh))]; rfl
      · rw [if_neg hb, if_neg (fun hh => hb (hh _ List.mem_cons_self c rfl))]

/-- The patch fits the list: each change finds the value that it says. -/
def Fits (l : List Ent) (p : List Chg) : Prop := ∀ c ∈ p, getE l c.key = c.before
instance (l : List Ent) (p : List Chg) : Decidable (Fits l p) := by unfold Fits; infer_instance

theorem emit_key (z : Option Ent × Option Chg) (x : Ent) (h : emit1 z = some x) : x.1 = pkey Prod.fst Chg.key z := by
  unfold emit1 at h
  cases hp : put (z.1.map Prod.snd) z.2 with
  | none => rw [hp] at h; cases h
  | some v => rw [hp] at h; simp at h; rw [← h]

theorem app_none {l : List Ent} {p : List Chg} (hl : Asc l) (hp : Srt Chg.key p) : app l p = none ↔ ¬ Fits l p := by
  unfold app
  rw [appGo_some (pairs_good (ka := Prod.fst) (kb := Chg.key) l p)]
  have : (∀ z ∈ pEC l p, ∀ c, z.2 = some c → z.1.map Prod.snd = c.before) ↔ Fits l p := by
    constructor
    · intro h c hc
      have hf := hp.fnd_self hc
      have h1 := pEC_fnd hl hp c.key
      rw [hf] at h1
      simp [both2] at h1
      have := h _ (fnd_mem h1) c rfl
      rw [getE_fnd]; exact this
    · intro h z hz c hc
      have h1 := (pEC_srt hl hp).fnd_self hz
      rw [pEC_fnd hl hp] at h1
      unfold both2 at h1
      split at h1
      · have h2 := Option.some.inj h1
        have hcp : fnd Chg.key p (pkey Prod.fst Chg.key z) = some c := (congrArg Prod.snd h2).trans hc
        have hlp : fnd Prod.fst l (pkey Prod.fst Chg.key z) = z.1 := congrArg Prod.fst h2
        have := h c (fnd_mem hcp)
        rw [getE_fnd, fnd_key hcp] at this
        rw [← this, hlp]
      · cases h1
  by_cases h : Fits l p
  · rw [if_pos (this.2 h)]; simp [h]
  · rw [if_neg (fun hh => h (this.1 hh))]; simp [h]

theorem app_some {l r : List Ent} {p : List Chg} (hl : Asc l) (hp : Srt Chg.key p) (h : app l p = some r) : Asc r ∧ ∀ k, getE r k = put (getE l k) (fnd Chg.key p k) := by
  unfold app at h
  rw [appGo_some (pairs_good (ka := Prod.fst) (kb := Chg.key) l p)] at h
  split at h
  · have h := Option.some.inj h
    subst h
    refine ⟨flatOpt_srt (ka := pkey Prod.fst Chg.key) emit1 emit_key (pEC_srt hl hp), fun k => ?_⟩
    rw [getE_fnd, flatOpt_fnd (ka := pkey Prod.fst Chg.key) (kb := Prod.fst) emit1 emit_key (pEC_srt hl hp), pEC_fnd hl hp]
    rw [getE_fnd]
    unfold both2
    cases h1 : fnd Prod.fst l k with
    | none =>
      cases h2 : fnd Chg.key p k with
      | none => simp [put]
      | some c => simp [emit1, put]; cases c.after <;> rfl
    | some x =>
      cases h2 : fnd Chg.key p k with
      | none => simp [emit1, put]
      | some c => simp [emit1, put]; cases c.after <;> rfl
  · cases h

theorem app_of {l r : List Ent} {p : List Chg} (hl : Asc l) (hp : Srt Chg.key p) (hr : Asc r) (hf : Fits l p) (h : ∀ k, getE r k = put (getE l k) (fnd Chg.key p k)) : app l p = some r := by
  cases ha : app l p with
  | none => exact absurd hf ((app_none hl hp).1 ha)
  | some q =>
    obtain ⟨h1, h2⟩ := app_some hl hp ha
    rw [Asc.ext h1 hr fun k => by rw [h2, h]]

/-- The patch between two lists fits the first one and gives the second one. -/
theorem app_btw {l m : List Ent} (hl : Asc l) (hm : Asc m) : app l (btw l m) = some m := by
  refine app_of hl (btw_srt hl hm) hm ?_ fun k => ?_
  · intro c hc
    have := (btw_srt hl hm).fnd_self hc
    rw [btw_fnd hl hm] at this
    exact (mkChg_some this).2.1.symm
  · rw [btw_fnd hl hm]
    cases h : mkChg k (getE l k) (getE m k) with
    | none => exact (mkChg_none.1 h).symm
    | some c => exact (mkChg_some h).2.2.1.symm

theorem btw_nil {l m : List Ent} (hl : Asc l) (hm : Asc m) : btw l m = [] ↔ l = m := by
  constructor
  · intro h
    have := app_btw hl hm
    rw [h] at this
    have h2 := app_some hl Srt.nil this
    exact Asc.ext hl hm fun q => by rw [h2.2]; rfl
  · rintro rfl
    refine Srt.ext (key := Chg.key) (btw_srt hl hl) Srt.nil fun k => ?_
    rw [btw_fnd hl hl, mkChg_none.2 rfl]; rfl

/-! ### Invert -/
def inv1 (c : Chg) : Chg := (mkChg c.key c.after c.before).getD ⟨0, 0, 0, 0⟩
def inv (p : List Chg) : List Chg := p.map inv1

theorem inv1_ok {c : Chg} (h : c.ok) : mkChg c.key c.after c.before = some (inv1 c) := by
  unfold inv1
  cases hm : mkChg c.key c.after c.before with
  | none => exact absurd (mkChg_none.1 hm).symm (Chg.ok_ne h)
  | some d => rfl

theorem inv_inv {p : List Chg} (hp : Val p) : inv (inv p) = p := by
  unfold inv
  rw [List.map_map]
  refine (List.map_congr_left fun c hc => ?_).trans (List.map_id p)
  have h1 := inv1_ok (hp.2 c hc)
  obtain ⟨k1, b1, a1, _, _⟩ := mkChg_some h1
  have h2 := inv1_ok (mkChg_ok h1)
  rw [k1, b1, a1] at h2
  have h3 := hp.2 c hc
  unfold Chg.ok at h3
  rw [h3] at h2
  exact (Option.some.inj h2).symm

theorem inv_btw {l m : List Ent} (hl : Asc l) (hm : Asc m) : inv (btw l m) = btw m l := by
  have hp := btw_val hl hm
  have hkey : ∀ c ∈ btw l m, (inv1 c).key = c.key := fun c hc => (mkChg_some (inv1_ok (hp.2 c hc))).1
  have hs : Srt Chg.key (inv (btw l m)) := by
    unfold inv Srt
    rw [List.pairwise_map]
    refine List.Pairwise.imp_of_mem ?_ hp.1
    intro a b ha hb hab
    rw [hkey a ha, hkey b hb]; exact hab
  refine Srt.ext (key := Chg.key) hs (btw_srt hm hl) fun k => ?_
  rw [btw_fnd hm hl]
  have hsub : ∀ q : List Chg, (∀ c ∈ q, (inv1 c).key = c.key) → fnd Chg.key (inv q) k = (fnd Chg.key q k).map inv1 := by
    intro q
    induction q with
    | nil => intro _; rfl
    | cons c t ih =>
      intro h
      show fnd Chg.key (inv1 c :: inv t) k = _
      rw [fnd_cons, fnd_cons, h c List.mem_cons_self, ih fun d hd => h d (List.mem_cons_of_mem _ hd)]
      split <;> simp
  rw [hsub _ hkey, btw_fnd hl hm]
  cases h : mkChg k (getE l k) (getE m k) with
  | none =>
    rw [mkChg_none] at h
    rw [h, mkChg_none.2 rfl]; rfl
  | some c =>
    obtain ⟨k1, b1, a1, hne, _⟩ := mkChg_some h
    have h1 := inv1_ok (mkChg_ok h)
    rw [k1, b1, a1] at h1
    rw [h1]; rfl

end Go.Proofs.Ytacdmmomkngpkaa
