/- A part of the proof. -/
import Derived.Test.YtjbkckcjmmmooaaG3
import Derived.Test.YtjbkckcjmmmooaaG1
import Derived.Test.YtjbkckcjmmmooaaG4
section
/- Plain laws of patches: apply, compose, rebase, invert. No program in sight. -/
namespace Go.Proofs.Ytjbkckcjmmmooaa

/-! ### Apply -/
def optE (k : Int) (v : Option Int) : List Ent := (v.map fun v => (k, v)).toList

def appGo : List (Option Ent × Option Chg) → Option (List Ent)
  | [] => some []
  | (x, none) :: t => (appGo t).map (x.toList ++ ·)
  | (x, some c) :: t => if x.map Prod.snd = c.before then (appGo t).map (optE c.key c.after ++ ·) else none

/-- What applying comes to: the list, if the patch fits. -/
def app (l : List Ent) (p : List Chg) : Option (List Ent) := appGo (pEC l p)

/-- What is still to be made, behind what has been made. -/
def AppAt (l : List Ent) (p : List Chg) (i k : Nat) (acc : List Ent) : Prop := app l p = (appGo (pEC (l.drop i) (p.drop k))).map (acc ++ ·)
theorem AppAt.start (l : List Ent) (p : List Chg) : AppAt l p 0 0 [] := by
  unfold AppAt app; rw [List.drop_zero, List.drop_zero]; cases appGo (pEC l p) <;> rfl
theorem appGo_keep {l' : List Ent} {p' : List Chg} {x : Ent} {c : Chg} (h : x.1 < c.key) : appGo (pEC (x :: l') (c :: p')) = (appGo (pEC l' (c :: p'))).map (x :: ·) := by
  show appGo (pairs Prod.fst Chg.key (x :: l') (c :: p')) = _
  rw [pairs, if_pos h]; rfl
theorem AppAt.keep {l : List Ent} {p : List Chg} {i k : Nat} {acc : List Ent} {x : Ent} {c : Chg} (h : AppAt l p i k acc) (hl : l.drop i = x :: l.drop (i + 1)) (hp : p.drop k = c :: p.drop (k + 1)) (hlt : x.1 < c.key) : AppAt l p (i + 1) k (acc ++ [x]) := by
  unfold AppAt at *
  rw [h, hl, hp, appGo_keep hlt, ← hp, Option.map_map]
  congr 1
  funext t; simp
/-- The element at i, if it has the key of the change. -/
def at1 (l : List Ent) (i : Nat) (q : Int) : Option Ent := match l[i]? with
  | some x => if x.1 = q then some x else none
  | none => none
theorem AppAt.take {l : List Ent} {p : List Chg} {i k : Nat} {acc : List Ent} {x : Ent} {c : Chg} (h : AppAt l p i k acc) (hl : l.drop i = x :: l.drop (i + 1)) (hp : p.drop k = c :: p.drop (k + 1)) (he : x.1 = c.key) :
    if some x.2 = c.before then AppAt l p (i + 1) (k + 1) (acc ++ optE c.key c.after) else app l p = none := by
  have e : pEC (x :: l.drop (i + 1)) (c :: p.drop (k + 1)) = (some x, some c) :: pEC (l.drop (i + 1)) (p.drop (k + 1)) := by
    show pairs Prod.fst Chg.key _ _ = _
    rw [pairs, if_neg (by omega), if_neg (by omega)]
  split
  · rename_i hb
    unfold AppAt at *
    rw [h, hl, hp, e]
    simp only [appGo, Option.map_some, hb, if_true, Option.map_map]
    congr 1
    funext t; simp
  · rename_i hb
    unfold AppAt at h
    rw [h, hl, hp, e]
    simp only [appGo, Option.map_some, hb, if_false, Option.map_none]
theorem AppAt.new {l : List Ent} {p : List Chg} {i k : Nat} {acc : List Ent} {c : Chg} (h : AppAt l p i k acc) (hl : l.drop i = [] ∨ ∃ x t, l.drop i = x :: t ∧ c.key < x.1) (hp : p.drop k = c :: p.drop (k + 1)) :
    if none = c.before then AppAt l p i (k + 1) (acc ++ optE c.key c.after) else app l p = none := by
  have e : pEC (l.drop i) (c :: p.drop (k + 1)) = (none, some c) :: pEC (l.drop i) (p.drop (k + 1)) := by
    show pairs Prod.fst Chg.key _ _ = _ :: pairs Prod.fst Chg.key _ _
    rcases hl with hl | ⟨x, t, hl, hlt⟩
    · rw [hl, pairs]
    · rw [hl, pairs, if_neg (by omega), if_pos hlt]
  split
  · rename_i hb
    unfold AppAt at *
    rw [h, hp, e]
    simp only [appGo, Option.map_none, hb, if_true, Option.map_map]
    congr 1
    funext t; simp
  · rename_i hb
    unfold AppAt at h
    rw [h, hp, e]
    simp only [appGo, Option.map_none, hb, if_false]
theorem AppAt.fin {l : List Ent} {p : List Chg} {i k : Nat} {acc : List Ent} (h : AppAt l p i k acc) (hk : p.length ≤ k) : app l p = some (acc ++ l.drop i) := by
  unfold AppAt at h
  rw [h, List.drop_eq_nil_of_le hk]
  have : ∀ m : List Ent, appGo (pEC m []) = some m := by
    intro m
    induction m with
    | nil => simp [pairs, appGo]
    | cons x t ih => simp [pairs, appGo, ih]
  rw [this]; rfl

/-- The value of a key behind a patch. -/
def put (x : Option Int) (c : Option Chg) : Option Int := match c with
  | none => x
  | some c => c.after

theorem pEC_srt {l : List Ent} {p : List Chg} (hl : Asc l) (hp : Srt Chg.key p) : Srt (pkey Prod.fst Chg.key) (pEC l p) := pairs_srt l p hl hp
theorem pEC_fnd {l : List Ent} {p : List Chg} (hl : Asc l) (hp : Srt Chg.key p) (k : Int) : fnd (pkey Prod.fst Chg.key) (pEC l p) k = both2 (fnd Prod.fst l k) (fnd Chg.key p k) := pairs_fnd l p hl hp k

/-- The pairs that a merge makes: keys agree, and no pair is empty. -/
theorem pairs_good {α β : Type} {ka : α → Int} {kb : β → Int} (l : List α) (m : List β) : ∀ z ∈ pairs ka kb l m, (z.1.isSome = true ∨ z.2.isSome = true) ∧ (∀ x y, z = (some x, some y) → ka x = kb y) := by
  fun_induction pairs ka kb l m with
  | case1 => intro z hz; cases hz
  | case2 y m ih => intro z hz; rcases List.mem_cons.1 hz with rfl | hz; · exact ⟨.inr rfl, by simp⟩
                    · exact ih z hz
  | case3 x l ih => intro z hz; rcases List.mem_cons.1 hz with rfl | hz; · exact ⟨.inl rfl, by simp⟩
                    · exact ih z hz
  | case4 x l y m h ih => intro z hz; rcases List.mem_cons.1 hz with rfl | hz; · exact ⟨.inl rfl, by simp⟩
                          · exact ih z hz
  | case5 x l y m h1 h2 ih => intro z hz; rcases List.mem_cons.1 hz with rfl | hz; · exact ⟨.inr rfl, by simp⟩
                              · exact ih z hz
  | case6 x l y m h1 h2 ih => intro z hz; rcases List.mem_cons.1 hz with rfl | hz; · exact ⟨.inl rfl, by intro a b e; simp at e; obtain ⟨rfl, rfl⟩ := e; omega⟩
                              · exact ih z hz

def emit1 (z : Option Ent × Option Chg) : Option Ent := (put (z.1.map Prod.snd) z.2).map fun v => (pkey Prod.fst Chg.key z, v)

theorem appGo_some {L : List (Option Ent × Option Chg)} (hg : ∀ z ∈ L, (z.1.isSome = true ∨ z.2.isSome = true) ∧ (∀ x y, z = (some x, some y) → x.1 = y.key)) :
    appGo L = if (∀ z ∈ L, ∀ c, z.2 = some c → z.1.map Prod.snd = c.before) then some (L.flatMap fun z => (emit1 z).toList) else none := by
  induction L with
  | nil => simp [appGo]
  | cons z t ih =>
    have ih := ih fun u hu => hg u (List.mem_cons_of_mem _ hu)
    have hz := hg z List.mem_cons_self
    obtain ⟨x, d⟩ := z
    cases d with
    | none =>
      cases x with
      | none => simp at hz
      | some x =>
        simp only [appGo, ih]
        have e1 : (∀ z ∈ (some x, (none : Option Chg)) :: t, ∀ c, z.2 = some c → z.1.map Prod.snd = c.before) ↔ (∀ z ∈ t, ∀ c, z.2 = some c → z.1.map Prod.snd = c.before) := by
          constructor
          · intro h u hu; exact h u (List.mem_cons_of_mem _ hu)
          · intro h u hu
            rcases List.mem_cons.1 hu with rfl | hu
            · intro c hc; cases hc
            · exact h u hu
        by_cases h : (∀ z ∈ t, ∀ c, z.2 = some c → z.1.map Prod.snd = c.before)
        · rw [if_pos h, if_pos (e1.2 h)]; simp [emit1, put, pkey]
        · rw [if_neg h, if_neg (fun hh => h (e1.1 hh))]; rfl
    | some c =>
      simp only [appGo, ih]
      by_cases hb : x.map Prod.snd = c.before
      · rw [if_pos hb]
        have e1 : (∀ z ∈ (x, some c) :: t, ∀ c, z.2 = some c → z.1.map Prod.snd = c.before) ↔ (∀ z ∈ t, ∀ c, z.2 = some c → z.1.map Prod.snd = c.before) := by
          constructor
          · intro h u hu; exact h u (List.mem_cons_of_mem _ hu)
          · intro h u hu
            rcases List.mem_cons.1 hu with rfl | hu
            · intro c' hc; cases hc; exact hb
            · exact h u hu
        have hk : pkey Prod.fst Chg.key (x, some c) = c.key := by
          cases x with
          | none => rfl
          | some x => exact hz.2 x c rfl
        by_cases h : (∀ z ∈ t, ∀ c, z.2 = some c → z.1.map Prod.snd = c.before)
        · rw [if_pos h, if_pos (e1.2 h)]; simp [emit1, put, hk, optE]
        · rw [if_neg h, if_neg (fun hh => h (e1.1 hh))]; rfl
      · rw [if_neg hb, if_neg (fun hh => hb (hh _ List.mem_cons_self c rfl))]

/-- The patch fits the list: each change finds the value that it says. -/
def Fits (l : List Ent) (p : List Chg) : Prop := ∀ c ∈ p, getE l c.key = c.before
instance (l : List Ent) (p : List Chg) : Decidable (Fits l p) := by unfold Fits; infer_instance

theorem emit_key (z : Option Ent × Option Chg) (x : Ent) (h : emit1 z = some x) : x.1 = pkey Prod.fst Chg.key z := by
  unfold emit1 at h
  cases hp : put (z.1.map Prod.snd) z.2 with
  | none => rw [hp] at h; cases h
  | some v => rw [hp] at h; simp at h; rw [← h]

theorem app_none {l : List Ent} {p : List Chg} (hl : Asc l) (hp : Srt Chg.key p) : app l p = none ↔ ¬ Fits l p := by
  unfold app
  rw [appGo_some (pairs_good (ka := Prod.fst) (kb := Chg.key) l p)]
  have : (∀ z ∈ pEC l p, ∀ c, z.2 = some c → z.1.map Prod.snd = c.before) ↔ Fits l p := by
    constructor
    · intro h c hc
      have hf := hp.fnd_self hc
      have h1 := pEC_fnd hl hp c.key
      rw [hf] at h1
      simp [both2] at h1
      have := h _ (fnd_mem h1) c rfl
      rw [getE_fnd]; exact this
    · intro h z hz c hc
      have h1 := (pEC_srt hl hp).fnd_self hz
      rw [pEC_fnd hl hp] at h1
      unfold both2 at h1
      split at h1
      · have h2 := Option.some.inj h1
        have hcp : fnd Chg.key p (pkey Prod.fst Chg.key z) = some c := (congrArg Prod.snd h2).trans hc
        have hlp : fnd Prod.fst l (pkey Prod.fst Chg.key z) = z.1 := congrArg Prod.fst h2
        have := h c (fnd_mem hcp)
        rw [getE_fnd, fnd_key hcp] at this
        rw [← this, hlp]
      · cases h1
  by_cases h : Fits l p
  · rw [if_pos (this.2 h)]; simp [h]
  · rw [if_neg (fun hh => h (this.1 hh))]; simp [h]

theorem app_some {l r : List Ent} {p : List Chg} (hl : Asc l) (hp : Srt Chg.key p) (h : app l p = some r) : Asc r ∧ ∀ k, getE r k = put (getE l k) (fnd Chg.key p k) := by
  unfold app at h
  rw [appGo_some (pairs_good (ka := Prod.fst) (kb := Chg.key) l p)] at h
  split at h
  · have h := Option.some.inj h
    subst h
    refine ⟨flatOpt_srt (ka := pkey Prod.fst Chg.key) emit1 emit_key (pEC_srt hl hp), fun k => ?_⟩
    rw [getE_fnd, flatOpt_fnd (ka := pkey Prod.fst Chg.key) (kb := Prod.fst) emit1 emit_key (pEC_srt hl hp), pEC_fnd hl hp]
    rw [getE_fnd]
    unfold both2
    cases h1 : fnd Prod.fst l k with
    | none =>
      cases h2 : fnd Chg.key p k with
      | none => simp [put]
      | some c => simp [emit1, put]; cases c.after <;> rfl
    | some x =>
      cases h2 : fnd Chg.key p k with
      | none => simp [emit1, put]
      | some c => simp [emit1, put]; cases c.after <;> rfl
  · cases h

theorem app_of {l r : List Ent} {p : List Chg} (hl : Asc l) (hp : Srt Chg.key p) (hr : Asc r) (hf : Fits l p) (h : ∀ k, getE r k = put (getE l k) (fnd Chg.key p k)) : app l p = some r := by
  cases ha : app l p with
  | none => exact absurd hf ((app_none hl hp).1 ha)
  | some q =>
    obtain ⟨h1, h2⟩ := app_some hl hp ha
    rw [Asc.ext h1 hr fun k => by rw [h2, h]]

/-- The patch between two lists fits the first one and gives the second one. -/
theorem app_btw {l m : List Ent} (hl : Asc l) (hm : Asc m) : app l (btw l m) = some m := by
  refine app_of hl (btw_srt hl hm) hm ?_ fun k => ?_
  · intro c hc
    have := (btw_srt hl hm).fnd_self hc
    rw [btw_fnd hl hm] at this
    exact (mkChg_some this).2.1.symm
  · rw [btw_fnd hl hm]
    cases h : mkChg k (getE l k) (getE m k) with
    | none => exact (mkChg_none.1 h).symm
    | some c => exact (mkChg_some h).2.2.1.symm

theorem btw_nil {l m : List Ent} (hl : Asc l) (hm : Asc m) : btw l m = [] ↔ l = m := by
  constructor
  · intro h
    have := app_btw hl hm
    rw [h] at this
    have h2 := app_some hl Srt.nil this
    exact Asc.ext hl hm fun q => by rw [h2.2]; rfl
  · rintro rfl
    refine Srt.ext (key := Chg.key) (btw_srt hl hl) Srt.nil fun k => ?_
    rw [btw_fnd hl hl, mkChg_none.2 rfl]; rfl

/-! ### Invert -/
def inv1 (c : Chg) : Chg := (mkChg c.key c.after c.before).getD ⟨0, 0, 0, 0⟩
def inv (p : List Chg) : List Chg := p.map inv1

theorem inv1_ok {c : Chg} (h : c.ok) : mkChg c.key c.after c.before = some (inv1 c) := by
  unfold inv1
  cases hm : mkChg c.key c.after c.before with
  | none => exact absurd (mkChg_none.1 hm).symm (Chg.ok_ne h)
  | some d => rfl

theorem inv_inv {p : List Chg} (hp : Val p) : inv (inv p) = p := by
  unfold inv
  rw [List.map_map]
  refine (List.map_congr_left fun c hc => ?_).trans (List.map_id p)
  have h1 := inv1_ok (hp.2 c hc)
  obtain ⟨k1, b1, a1, _, _⟩ := mkChg_some h1
  have h2 := inv1_ok (mkChg_ok h1)
  rw [k1, b1, a1] at h2
  have h3 := hp.2 c hc
  unfold Chg.ok at h3
  rw [h3] at h2
  exact (Option.some.inj h2).symm

theorem inv_btw {l m : List Ent} (hl : Asc l) (hm : Asc m) : inv (btw l m) = btw m l := by
  have hp := btw_val hl hm
  have hkey : ∀ c ∈ btw l m, (inv1 c).key = c.key := fun c hc => (mkChg_some (inv1_ok (hp.2 c hc))).1
  have hs : Srt Chg.key (inv (btw l m)) := by
    unfold inv Srt
    rw [List.pairwise_map]
    refine List.Pairwise.imp_of_mem ?_ hp.1
    intro a b ha hb hab
    rw [hkey a ha, hkey b hb]; exact hab
  refine Srt.ext (key := Chg.key) hs (btw_srt hm hl) fun k => ?_
  rw [btw_fnd hm hl]
  have hsub : ∀ q : List Chg, (∀ c ∈ q, (inv1 c).key = c.key) → fnd Chg.key (inv q) k = (fnd Chg.key q k).map inv1 := by
    intro q
    induction q with
    | nil => intro _; rfl
    | cons c t ih =>
      intro h
      show fnd Chg.key (inv1 c :: inv t) k = _
      rw [fnd_cons, fnd_cons, h c List.mem_cons_self, ih fun d hd => h d (List.mem_cons_of_mem _ hd)]
      split <;> simp
  rw [hsub _ hkey, btw_fnd hl hm]
  cases h : mkChg k (getE l k) (getE m k) with
  | none =>
    rw [mkChg_none] at h
    rw [h, mkChg_none.2 rfl]; rfl
  | some c =>
    obtain ⟨k1, b1, a1, hne, _⟩ := mkChg_some h
    have h1 := inv1_ok (mkChg_ok h)
    rw [k1, b1, a1] at h1
    rw [h1]; rfl

end Go.Proofs.Ytjbkckcjmmmooaa
end
section
/- Plain laws of patches: compose and rebase. No program in sight. -/
namespace Go.Proofs.Ytjbkckcjmmmooaa

/-! ### Compose -/
def comp1 : Option Chg × Option Chg → List Chg
  | (some c, none) => [c]
  | (none, some d) => [d]
  | (some c, some d) => (mkChg c.key c.before d.after).toList
  | (none, none) => []
def meet1 : Option Chg × Option Chg → Bool
  | (some c, some d) => decide (c.after = d.before)
  | _ => true

def compGo : List (Option Chg × Option Chg) → Option (List Chg)
  | [] => some []
  | z :: t => if meet1 z then (compGo t).map (comp1 z ++ ·) else none

theorem compGo_eq (L : List (Option Chg × Option Chg)) : compGo L = if L.all meet1 then some (L.flatMap comp1) else none := by
  induction L with
  | nil => rfl
  | cons z t ih =>
    simp only [compGo, ih, List.all_cons, Bool.and_eq_true, List.flatMap_cons]
    by_cases h1 : meet1 z = true
    · by_cases h2 : t.all meet1 = true
      · simp only [h1, h2, if_true, and_self, Option.map_some]
      · rw [if_pos h1, if_neg h2, if_neg (fun h => h2 h.2)]; rfl
    · rw [if_neg h1, if_neg (fun h => h1 h.1)]

/-- What composing two valid patches comes to. -/
def comp (p q : List Chg) : Option (List Chg) := compGo (pC p q)

/-- Two patches along three lists. -/
theorem comp_btw {l m n : List Ent} (hl : Asc l) (hm : Asc m) (hn : Asc n) : comp (btw l m) (btw m n) = some (btw l n) := by
  have hp := btw_val hl hm
  have hq := btw_val hm hn
  have hz : ∀ z ∈ pC (btw l m) (btw m n), z = (mkChg (pkey Chg.key Chg.key z) (getE l (pkey Chg.key Chg.key z)) (getE m (pkey Chg.key Chg.key z)), mkChg (pkey Chg.key Chg.key z) (getE m (pkey Chg.key Chg.key z)) (getE n (pkey Chg.key Chg.key z))) := by
    intro z hz
    have h1 := (pairs_srt _ _ hp.1 hq.1).fnd_self hz
    rw [pairs_fnd _ _ hp.1 hq.1] at h1
    unfold both2 at h1
    split at h1
    · have h2 := Option.some.inj h1
      rw [btw_fnd hl hm, btw_fnd hm hn] at h2
      exact h2.symm
    · cases h1
  unfold comp
  rw [compGo_eq, if_pos]
  · congr 1
    have hf : ∀ z ∈ pC (btw l m) (btw m n), comp1 z = (mkChg (pkey Chg.key Chg.key z) (getE l (pkey Chg.key Chg.key z)) (getE n (pkey Chg.key Chg.key z))).toList := by
      intro z hz'
      have h1 := hz z hz'
      have hg := (pairs_good _ _ z hz').1
      generalize pkey Chg.key Chg.key z = k at h1 ⊢
      subst h1
      cases h1 : mkChg k (getE l k) (getE m k) with
      | none =>
        rw [mkChg_none] at h1
        cases h2 : mkChg k (getE m k) (getE n k) with
        | none => rw [mkChg_none.2 h1, h2] at hg; simp at hg
        | some d => rw [h1, h2]; rfl
      | some c =>
        cases h2 : mkChg k (getE m k) (getE n k) with
        | none => rw [mkChg_none] at h2; rw [← h2, h1]; rfl
        | some d =>
          obtain ⟨k1, b1, _, _, _⟩ := mkChg_some h1
          obtain ⟨_, _, a2, _, _⟩ := mkChg_some h2
          simp only [comp1, k1, b1, a2]
    have hg : (pC (btw l m) (btw m n)).flatMap comp1 = (pC (btw l m) (btw m n)).flatMap fun z => (mkChg (pkey Chg.key Chg.key z) (getE l (pkey Chg.key Chg.key z)) (getE n (pkey Chg.key Chg.key z))).toList := by
      rw [List.flatMap_def, List.flatMap_def, List.map_congr_left hf]
    rw [hg]
    refine Srt.ext (key := Chg.key) (flatOpt_srt (ka := pkey Chg.key Chg.key) (fun z => mkChg (pkey Chg.key Chg.key z) (getE l (pkey Chg.key Chg.key z)) (getE n (pkey Chg.key Chg.key z))) (fun _ _ h => (mkChg_some h).1) (pairs_srt _ _ hp.1 hq.1)) (btw_srt hl hn) fun k => ?_
    rw [flatOpt_fnd (ka := pkey Chg.key Chg.key) (kb := Chg.key) (fun z => mkChg (pkey Chg.key Chg.key z) (getE l (pkey Chg.key Chg.key z)) (getE n (pkey Chg.key Chg.key z))) (fun _ _ h => (mkChg_some h).1) (pairs_srt _ _ hp.1 hq.1)]
    rw [btw_fnd hl hn]
    cases h1 : fnd (pkey Chg.key Chg.key) (pC (btw l m) (btw m n)) k with
    | some z => simp only [Option.bind_some, fnd_key h1]
    | none =>
      rw [pairs_fnd _ _ hp.1 hq.1, btw_fnd hl hm, btw_fnd hm hn] at h1
      unfold both2 at h1
      split at h1
      · cases h1
      · rename_i hn'
        simp [mkChg_none] at hn'
        rw [hn'.1, hn'.2, mkChg_none.2 rfl]; rfl
  · rw [List.all_eq_true]
    intro z hz'
    have h1 := hz z hz'
    generalize pkey Chg.key Chg.key z = k at h1
    subst h1
    cases h1 : mkChg k (getE l k) (getE m k) with
    | none => rfl
    | some c =>
      cases h2 : mkChg k (getE m k) (getE n k) with
      | none => rfl
      | some d =>
        obtain ⟨_, _, a1, _, _⟩ := mkChg_some h1
        obtain ⟨_, b2, _, _, _⟩ := mkChg_some h2
        simp [meet1, a1, b2]

theorem pairs_nil_right {α β : Type} {ka : α → Int} {kb : β → Int} (l : List α) : pairs ka kb l [] = l.map fun x => (some x, none) := by
  induction l with
  | nil => simp [pairs]
  | cons x t ih => simp [pairs, ih]
theorem pairs_nil_left {α β : Type} {ka : α → Int} {kb : β → Int} (m : List β) : pairs ka kb [] m = m.map fun y => (none, some y) := by
  induction m with
  | nil => simp [pairs]
  | cons x t ih => simp [pairs, ih]

theorem comp_nil_right (p : List Chg) : comp p [] = some p := by
  show compGo (pairs Chg.key Chg.key p []) = _
  rw [pairs_nil_right]
  induction p with
  | nil => rfl
  | cons c t ih => simp only [List.map_cons, compGo, meet1, if_true, ih]; rfl
theorem comp_nil_left (p : List Chg) : comp [] p = some p := by
  show compGo (pairs Chg.key Chg.key [] p) = _
  rw [pairs_nil_left]
  induction p with
  | nil => rfl
  | cons c t ih => simp only [List.map_cons, compGo, meet1, if_true, ih]; rfl

/-! ### Rebase -/
def keep1 : Option Chg × Option Chg → List Chg
  | (some c, none) => [c]
  | _ => []
def conf1 : Option Chg × Option Chg → List Int
  | (some c, some d) => if c.after = d.after then [] else [c.key]
  | _ => []
def base1 : Option Chg × Option Chg → Bool
  | (some c, some d) => decide (c.before = d.before)
  | _ => true

def rebGo : List (Option Chg × Option Chg) → Option (List Chg × List Int)
  | [] => some ([], [])
  | z :: t => if base1 z then (rebGo t).map (fun r => (keep1 z ++ r.1, conf1 z ++ r.2)) else none

theorem rebGo_eq (L : List (Option Chg × Option Chg)) : rebGo L = if L.all base1 then some (L.flatMap keep1, L.flatMap conf1) else none := by
  induction L with
  | nil => rfl
  | cons z t ih =>
    simp only [rebGo, ih, List.all_cons, Bool.and_eq_true, List.flatMap_cons]
    by_cases h1 : base1 z = true
    · by_cases h2 : t.all base1 = true
      · simp only [h1, h2, if_true, and_self, Option.map_some]
      · rw [if_pos h1, if_neg h2, if_neg (fun h => h2 h.2)]; rfl
    · rw [if_neg h1, if_neg (fun h => h1 h.1)]

def reb (p q : List Chg) : Option (List Chg × List Int) := rebGo (pC p q)

/-- The pairs, seen from the first list: each of its elements with what the second has at that key. -/
theorem pairs_left {α β : Type} {ka : α → Int} {kb : β → Int} (l : List α) (m : List β) (hl : Srt ka l) (hm : Srt kb m) :
    (pairs ka kb l m).filterMap (fun z => z.1.map fun x => (x, z.2)) = l.map fun x => (x, fnd kb m (ka x)) := by
  fun_induction pairs ka kb l m with
  | case1 => rfl
  | case2 y m ih => simpa using ih Srt.nil hm.tail
  | case3 x l ih => simpa [fnd_nil] using ih hl.tail Srt.nil
  | case4 x l y m h ih =>
    have h2 : fnd kb (y :: m) (ka x) = none := fnd_of_lt fun z hz => by
      rcases List.mem_cons.1 hz with rfl | hz
      · exact h
      · have := hm.head z hz; omega
    simpa [h2] using ih hl.tail hm
  | case5 x l y m h1 h2 ih =>
    have e := ih hl hm.tail
    have hx : ∀ u ∈ x :: l, fnd kb (y :: m) (ka u) = fnd kb m (ka u) := fun u hu => by
      rw [fnd_cons, if_neg]
      rcases List.mem_cons.1 hu with rfl | hu
      · omega
      · have := hl.head u hu; omega
    simp only [List.filterMap_cons_none, Option.map_none, e]
    exact List.map_congr_left fun u hu => by rw [hx u hu]
  | case6 x l y m h1 h2 ih =>
    have e := ih hl.tail hm.tail
    have hxy : kb y = ka x := by omega
    have hx : ∀ u ∈ l, fnd kb (y :: m) (ka u) = fnd kb m (ka u) := fun u hu => by
      rw [fnd_cons, if_neg]
      have := hl.head u hu; omega
    simp only [List.filterMap_cons, Option.map_some, e, List.map_cons, fnd_cons, hxy, if_true]
    congr 1
    refine List.map_congr_left fun u hu => ?_
    have := hx u hu
    rw [fnd_cons, hxy] at this
    rw [this]


/-- The same, along the first patch alone. -/
def rebP : List (Chg × Option Chg) → Option (List Chg × List Int)
  | [] => some ([], [])
  | (c, d) :: t => if base1 (some c, d) then (rebP t).map (fun r => (keep1 (some c, d) ++ r.1, conf1 (some c, d) ++ r.2)) else none

theorem rebGo_left (L : List (Option Chg × Option Chg)) : rebGo L = rebP (L.filterMap (fun z => z.1.map fun x => (x, z.2))) := by
  induction L with
  | nil => rfl
  | cons z t ih =>
    obtain ⟨c, d⟩ := z
    cases c with
    | none =>
      simp only [rebGo, base1, if_true, keep1, conf1, List.nil_append, ih]
      cases h : rebP (t.filterMap fun z => z.1.map fun x => (x, z.2)) <;> simp [h]
    | some c => simp only [rebGo, List.filterMap_cons, Option.map_some, rebP, ih]

theorem reb_left {p q : List Chg} (hp : Srt Chg.key p) (hq : Srt Chg.key q) : reb p q = rebP (p.map fun c => (c, fnd Chg.key q c.key)) := by
  unfold reb; rw [rebGo_left]; congr 1; exact pairs_left p q hp hq

theorem fnd_id (L : List Int) (k : Int) : fnd id L k = if k ∈ L then some k else none := by
  induction L with
  | nil => simp [fnd_nil]
  | cons x t ih =>
    rw [fnd_cons, ih]
    by_cases h : x = k
    · subst h; simp
    · have : ¬ k = x := fun e => h e.symm
      simp [h, this]

theorem keys_ext {a b : List Int} (ha : Srt id a) (hb : Srt id b) (h : ∀ k, k ∈ a ↔ k ∈ b) : a = b := by
  refine Srt.ext (key := id) ha hb fun k => ?_
  rw [fnd_id, fnd_id]
  by_cases hk : k ∈ a
  · rw [if_pos hk, if_pos ((h k).1 hk)]
  · rw [if_neg hk, if_neg (fun hh => hk ((h k).2 hh))]

/-- A key that both sides changed, differently. -/
def Cf (l m n : List Ent) (k : Int) : Prop := getE m k ≠ getE n k ∧ getE l k ≠ getE m k ∧ getE l k ≠ getE n k
instance (l m n : List Ent) (k : Int) : Decidable (Cf l m n k) := by unfold Cf; infer_instance

def confO (z : Option Chg × Option Chg) : Option Int := match z with
  | (some c, some d) => if c.after = d.after then none else some c.key
  | _ => none
def keepO (z : Option Chg × Option Chg) : Option Chg := match z with
  | (some c, none) => some c
  | _ => none

theorem conf1_o (z : Option Chg × Option Chg) : conf1 z = (confO z).toList := by
  obtain ⟨c, d⟩ := z
  cases c <;> cases d <;> simp [conf1, confO]
  split <;> simp
theorem keep1_o (z : Option Chg × Option Chg) : keep1 z = (keepO z).toList := by
  obtain ⟨c, d⟩ := z
  cases c <;> cases d <;> simp [keep1, keepO]

theorem confO_key (z : Option Chg × Option Chg) (k : Int) (h : confO z = some k) : id k = pkey Chg.key Chg.key z := by
  obtain ⟨c, d⟩ := z
  cases c <;> cases d <;> simp [confO] at h
  exact h.2.symm
theorem keepO_key (z : Option Chg × Option Chg) (c : Chg) (h : keepO z = some c) : c.key = pkey Chg.key Chg.key z := by
  obtain ⟨c, d⟩ := z
  cases c <;> cases d <;> simp [keepO] at h
  rw [← h]; rfl

theorem btw_pair {l m n : List Ent} (hl : Asc l) (hm : Asc m) (hn : Asc n) (k : Int) :
    fnd (pkey Chg.key Chg.key) (pC (btw l m) (btw l n)) k = both2 (mkChg k (getE l k) (getE m k)) (mkChg k (getE l k) (getE n k)) := by
  have h := pairs_fnd (ka := Chg.key) (kb := Chg.key) (btw l m) (btw l n) (btw_srt hl hm) (btw_srt hl hn) k
  rw [btw_fnd hl hm, btw_fnd hl hn] at h
  exact h

theorem reb_btw {l m n : List Ent} (hl : Asc l) (hm : Asc m) (hn : Asc n) : ∃ a c, reb (btw l m) (btw l n) = some (a, c) ∧
    Srt Chg.key a ∧ (∀ k, fnd Chg.key a k = if getE l k = getE n k then mkChg k (getE l k) (getE m k) else none) ∧ Srt id c ∧ ∀ k, k ∈ c ↔ Cf l m n k := by
  have hs := pairs_srt (ka := Chg.key) (kb := Chg.key) (btw l m) (btw l n) (btw_srt hl hm) (btw_srt hl hn)
  refine ⟨(pC (btw l m) (btw l n)).flatMap fun z => (keepO z).toList, (pC (btw l m) (btw l n)).flatMap fun z => (confO z).toList, ?_, ?_, ?_, ?_, ?_⟩
  · unfold reb
    rw [rebGo_eq, if_pos]
    · congr 2
      · exact congrArg (fun f => List.flatMap f _) (funext keep1_o)
      · exact congrArg (fun f => List.flatMap f _) (funext conf1_o)
    · rw [List.all_eq_true]
      intro z hz
      have h1 := hs.fnd_self hz
      rw [btw_pair hl hm hn] at h1
      unfold both2 at h1
      split at h1
      · have h1 := Option.some.inj h1
        generalize pkey Chg.key Chg.key z = k at h1
        subst h1
        cases h1 : mkChg k (getE l k) (getE m k) with
        | none => rfl
        | some c =>
          cases h2 : mkChg k (getE l k) (getE n k) with
          | none => rfl
          | some d =>
            obtain ⟨_, b1, _, _, _⟩ := mkChg_some h1
            obtain ⟨_, b2, _, _, _⟩ := mkChg_some h2
            simp [base1, b1, b2]
      · cases h1
  · exact flatOpt_srt (ka := pkey Chg.key Chg.key) keepO keepO_key hs
  · intro k
    rw [flatOpt_fnd (ka := pkey Chg.key Chg.key) (kb := Chg.key) keepO keepO_key hs, btw_pair hl hm hn]
    cases h2 : mkChg k (getE l k) (getE n k) with
    | none =>
      rw [mkChg_none] at h2
      rw [if_pos h2]
      cases h1 : mkChg k (getE l k) (getE m k) <;> simp [both2, keepO]
    | some d =>
      obtain ⟨_, _, _, hne, _⟩ := mkChg_some h2
      rw [if_neg hne]
      cases h1 : mkChg k (getE l k) (getE m k) <;> simp [both2, keepO]
  · exact flatOpt_srt (ka := pkey Chg.key Chg.key) (kb := id) confO confO_key hs
  · intro k
    have h := flatOpt_fnd (ka := pkey Chg.key Chg.key) (kb := id) confO confO_key hs k
    rw [fnd_id, btw_pair hl hm hn] at h
    have h3 : k ∈ ((pC (btw l m) (btw l n)).flatMap fun z => (confO z).toList) ↔ ((both2 (mkChg k (getE l k) (getE m k)) (mkChg k (getE l k) (getE n k))).bind confO).isSome = true := by
      rw [← h]; split <;> simp [*]
    rw [h3]
    unfold Cf
    cases h1 : mkChg k (getE l k) (getE m k) with
    | none =>
      rw [mkChg_none] at h1
      cases h2 : mkChg k (getE l k) (getE n k) <;> simp [both2, confO, h1]
    | some c =>
      obtain ⟨_, _, a1, n1, _⟩ := mkChg_some h1
      cases h2 : mkChg k (getE l k) (getE n k) with
      | none =>
        rw [mkChg_none] at h2
        simp [both2, confO, h2]
      | some d =>
        obtain ⟨_, _, a2, n2, _⟩ := mkChg_some h2
        by_cases e : getE m k = getE n k
        · simp [both2, confO, a1, a2, e]
        · simp [both2, confO, a1, a2, e, n1, n2]

/-- What a rebased patch makes of the other side's list. -/
theorem reb_app {l m n : List Ent} (hl : Asc l) (hm : Asc m) (hn : Asc n) {a : List Chg} {c : List Int} (h : reb (btw l m) (btw l n) = some (a, c)) :
    ∃ u, app n a = some u ∧ Asc u ∧ ∀ k, getE u k = if getE l k = getE n k then getE m k else getE n k := by
  obtain ⟨a', c', h', ha, hf, _, _⟩ := reb_btw hl hm hn
  rw [h] at h'
  simp only [Option.some.injEq, Prod.mk.injEq] at h'
  obtain ⟨rfl, rfl⟩ := h'
  have hfit : Fits n a := by
    intro d hd
    have h1 := ha.fnd_self hd
    rw [hf] at h1
    split at h1
    · rename_i e
      rw [← e]; exact (mkChg_some h1).2.1.symm
    · cases h1
  cases hu : app n a with
  | none => exact absurd hfit ((app_none hn ha).1 hu)
  | some u =>
    obtain ⟨h1, h2⟩ := app_some hn ha hu
    refine ⟨u, rfl, h1, fun k => ?_⟩
    rw [h2, hf]
    by_cases e : getE l k = getE n k
    · rw [if_pos e, if_pos e]
      cases h3 : mkChg k (getE l k) (getE m k) with
      | none => rw [mkChg_none] at h3; rw [put, ← e, h3]
      | some d => exact (mkChg_some h3).2.2.1
    · rw [if_neg e, if_neg e]; rfl

theorem reb_meet {l m n : List Ent} {u v : List Ent} (hu : Asc u) (hv : Asc v) (h1 : ∀ k, getE u k = if getE l k = getE n k then getE m k else getE n k) (h2 : ∀ k, getE v k = if getE l k = getE m k then getE n k else getE m k)
    (hc : ∀ k, ¬ Cf l m n k) : u = v := by
  refine Asc.ext hu hv fun k => ?_
  have := hc k
  unfold Cf at this
  rw [h1, h2]
  by_cases a : getE l k = getE n k <;> by_cases b : getE l k = getE m k
  · rw [if_pos a, if_pos b, ← a, ← b]
  · rw [if_pos a, if_neg b]
  · rw [if_neg a, if_pos b]
  · rw [if_neg a, if_neg b]
    by_cases e : getE m k = getE n k
    · exact e.symm
    · exact absurd ⟨e, b, a⟩ this

end Go.Proofs.Ytjbkckcjmmmooaa
end
section
/- Plain laws of insertion into ascending lists, of key lists, of unions. No program in sight. -/
namespace Go.Proofs.Ytjbkckcjmmmooaa

def insGo (e : Ent) : Bool → List Ent → List Ent
  | put, [] => if put then [] else [e]
  | put, x :: t => (if !put && decide (e.1 ≤ x.1) then [e] else []) ++ ((if x.1 = e.1 then [] else [x]) ++ insGo e (put || decide (e.1 ≤ x.1)) t)

theorem insGo_len (e : Ent) : ∀ (l : List Ent) (put : Bool), (insGo e put l).length ≤ l.length + (if put then 0 else 1) := by
  intro l
  induction l with
  | nil => intro put; cases put <;> simp [insGo]
  | cons x t ih =>
    intro put
    simp only [insGo, List.length_append, List.length_cons]
    have h1 := ih (put || decide (e.1 ≤ x.1))
    have h2 : (if x.1 = e.1 then ([] : List Ent) else [x]).length ≤ 1 := by split <;> simp
    cases put
    · by_cases h : e.1 ≤ x.1
      · simp [h] at h1 ⊢; omega
      · simp [h] at h1 ⊢; omega
    · simp at h1 ⊢; omega

/-- The list with an entry put in. -/
abbrev insE (l : List Ent) (e : Ent) : List Ent := insGo e false l

theorem insE_len (l : List Ent) (e : Ent) : (insE l e).length ≤ l.length + 1 := by simpa using insGo_len e l false

theorem insGo_true {e : Ent} : ∀ {l : List Ent}, (∀ x ∈ l, e.1 < x.1) → insGo e true l = l := by
  intro l
  induction l with
  | nil => intro _; simp [insGo]
  | cons x t ih =>
    intro h
    have hx := h x List.mem_cons_self
    have : ¬ x.1 = e.1 := by omega
    simp [insGo, this, ih fun y hy => h y (List.mem_cons_of_mem _ hy)]

theorem insE_cons {e x : Ent} {t : List Ent} (h : Asc (x :: t)) : insE (x :: t) e = if e.1 < x.1 then e :: x :: t else if x.1 = e.1 then e :: t else x :: insE t e := by
  have hh := h.head
  rcases Int.lt_trichotomy e.1 x.1 with c | c | c
  · have h1 : e.1 ≤ x.1 := by omega
    have h2 : ¬ x.1 = e.1 := by omega
    simp [insE, insGo, h1, h2, c, insGo_true (e := e) (l := t) fun y hy => by have := hh y hy; omega]
  · have h1 : e.1 ≤ x.1 := by omega
    have h2 : ¬ e.1 < x.1 := by omega
    simp [insE, insGo, c, insGo_true (e := e) (l := t) fun y hy => by have := hh y hy; omega]
  · have h1 : ¬ e.1 ≤ x.1 := by omega
    have h2 : ¬ x.1 = e.1 := by omega
    have h3 : ¬ e.1 < x.1 := by omega
    simp [insE, insGo, h1, h2, h3]

theorem insE_mem {l : List Ent} {e z : Ent} (h : Asc l) (hz : z ∈ insE l e) : z = e ∨ z ∈ l := by
  induction l with
  | nil => simp [insE, insGo] at hz; exact .inl hz
  | cons x t ih =>
    rw [insE_cons h] at hz
    split at hz
    · rcases List.mem_cons.1 hz with rfl | hz
      · exact .inl rfl
      · exact .inr hz
    · split at hz
      · rcases List.mem_cons.1 hz with rfl | hz
        · exact .inl rfl
        · exact .inr (List.mem_cons_of_mem _ hz)
      · rcases List.mem_cons.1 hz with rfl | hz
        · exact .inr List.mem_cons_self
        · rcases ih h.tail hz with rfl | hz
          · exact .inl rfl
          · exact .inr (List.mem_cons_of_mem _ hz)

theorem insE_asc {l : List Ent} (e : Ent) (h : Asc l) : Asc (insE l e) := by
  induction l with
  | nil => simp [insE, insGo, Srt]
  | cons x t ih =>
    rw [insE_cons h]
    split
    · rename_i c
      exact Srt.cons h fun y hy => by
        rcases List.mem_cons.1 hy with rfl | hy
        · exact c
        · have := h.head y hy; omega
    · split
      · rename_i c
        exact Srt.cons h.tail fun y hy => by have := h.head y hy; omega
      · rename_i c1 c2
        refine Srt.cons (ih h.tail) fun y hy => ?_
        rcases insE_mem h.tail hy with rfl | hy
        · omega
        · exact h.head y hy

theorem insE_get {l : List Ent} (e : Ent) (h : Asc l) (q : Int) : getE (insE l e) q = if e.1 = q then some e.2 else getE l q := by
  obtain ⟨k, v⟩ := e
  induction l with
  | nil => simp [insE, insGo, getE]
  | cons x t ih =>
    obtain ⟨a, b⟩ := x
    rw [insE_cons h]
    by_cases c1 : k < a
    · simp only [if_pos c1, getE]
    · rw [if_neg c1]
      by_cases c2 : a = k
      · subst c2; simp [getE]
        split <;> simp_all
      · rw [if_neg c2]
        simp only [getE, ih h.tail]
        by_cases c3 : a = q
        · simp [c3, show ¬ k = q by omega]
        · simp [c3]

theorem asc_not_mem {l : List Ent} {k : Int} (h : ∀ x ∈ l, k < x.1) : getE l k = none := by
  rw [getE_fnd, fnd_of_lt h]; rfl

/-- The keys of a list of entries, put together. -/
def keysOf (xs : List Int) : List Ent := xs.foldl (fun acc k => insE acc (k, 0)) []

theorem foldl_snoc {α β : Type} (f : β → α → β) (b : β) (l : List α) (x : α) : (l ++ [x]).foldl f b = f (l.foldl f b) x := by simp

theorem keysOf_snoc (xs : List Int) (k : Int) : keysOf (xs ++ [k]) = insE (keysOf xs) (k, 0) := foldl_snoc _ _ _ _

theorem snoc_ind {α : Type} {P : List α → Prop} (h0 : P []) (h1 : ∀ l x, P l → P (l ++ [x])) (l : List α) : P l := by
  have : ∀ n (l : List α), l.length = n → P l := by
    intro n
    induction n with
    | zero => intro l hl; rw [List.eq_nil_of_length_eq_zero hl]; exact h0
    | succ n ih =>
      intro l hl
      rcases List.eq_nil_or_concat l with rfl | ⟨L, b, rfl⟩
      · exact h0
      · rw [List.concat_eq_append]; exact h1 L b (ih L (by simpa using hl))
  exact this _ l rfl

theorem keysOf_spec (xs : List Int) : Asc (keysOf xs) ∧ (keysOf xs).length ≤ xs.length ∧ ∀ q, (getE (keysOf xs) q).isSome = true ↔ q ∈ xs := by
  induction xs using snoc_ind with
  | h0 => exact ⟨Srt.nil, Nat.le_refl _, fun q => by simp [keysOf, getE]⟩
  | h1 xs k ih =>
    obtain ⟨h1, h2, h3⟩ := ih
    rw [keysOf_snoc]
    refine ⟨insE_asc _ h1, ?_, fun q => ?_⟩
    · have := insE_len (keysOf xs) (k, 0); simp; omega
    · rw [insE_get _ h1]
      by_cases e : k = q
      · subst e; simp
      · have : ¬ q = k := fun h => e h.symm
        simp [e, h3, this]

/-- All keys of three lists, ascending. -/
def keys3 (l m n : List Ent) : List Int := (keysOf ((l ++ m ++ n).map Prod.fst)).map Prod.fst

theorem mem_keys {l : List Ent} {q : Int} : (getE l q).isSome = true ↔ q ∈ l.map Prod.fst := by
  induction l with
  | nil => simp [getE]
  | cons x t ih =>
    obtain ⟨a, b⟩ := x
    simp only [getE, List.map_cons, List.mem_cons]
    by_cases e : a = q
    · subst e; simp
    · have : ¬ q = a := fun h => e h.symm
      simp [e, ih, this]

theorem keys3_srt (l m n : List Ent) : Srt id (keys3 l m n) := by
  have h := (keysOf_spec ((l ++ m ++ n).map Prod.fst)).1
  unfold keys3 Srt
  rw [List.pairwise_map]
  exact h
theorem keys3_mem (l m n : List Ent) (q : Int) : q ∈ keys3 l m n ↔ (getE l q).isSome = true ∨ (getE m q).isSome = true ∨ (getE n q).isSome = true := by
  unfold keys3
  rw [← mem_keys, (keysOf_spec _).2.2, mem_keys, mem_keys, mem_keys]
  simp only [List.map_append, List.mem_append, or_assoc]
theorem keys3_len (l m n : List Ent) : (keys3 l m n).length ≤ l.length + m.length + n.length := by
  have := (keysOf_spec ((l ++ m ++ n).map Prod.fst)).2.1
  unfold keys3
  simp at this ⊢; omega

/-- The value that a policy chooses. -/
def chooseP (p v w : Int) : Int := if p = 1 then v else if p = 2 then w else if p = 3 then RowKit.wrap64 (v + w) else if p = 4 then (if w < v then w else v) else (if v < w then w else v)

def uniStep (l : List Ent) (p : Int) (out : List Ent) (e : Ent) : List Ent := insE out (e.1, match getE l e.1 with | some v => chooseP p v e.2 | none => e.2)
/-- The union of two lists, by a policy. -/
def uniE (l m : List Ent) (p : Int) : List Ent := m.foldl (uniStep l p) l

theorem uniE_asc {l : List Ent} (hl : Asc l) (m : List Ent) (p : Int) : Asc (uniE l m p) := by
  unfold uniE
  have : ∀ (m out : List Ent), Asc out → Asc (m.foldl (uniStep l p) out) := by
    intro m
    induction m with
    | nil => intro out h; exact h
    | cons x t ih => intro out h; exact ih _ (insE_asc _ h)
  exact this m l hl

theorem uniE_len (l m : List Ent) (p : Int) : (uniE l m p).length ≤ l.length + m.length := by
  unfold uniE
  have : ∀ (m out : List Ent), (m.foldl (uniStep l p) out).length ≤ out.length + m.length := by
    intro m
    induction m with
    | nil => intro out; simp
    | cons x t ih => intro out; have := ih (uniStep l p out x); have := insE_len out (x.1, match getE l x.1 with | some v => chooseP p v x.2 | none => x.2); simp only [List.foldl_cons, List.length_cons]; unfold uniStep at *; omega
  exact this m l

/-- A valid list out of the first entries of a raw one. -/
def listE (raw : List Ent) (most : Nat) : List Ent := (raw.take most).foldl insE []

theorem listE_spec (raw : List Ent) (most : Nat) : Asc (listE raw most) ∧ (listE raw most).length ≤ most := by
  unfold listE
  have h1 : (raw.take most).length ≤ most := List.length_take_le _ _
  generalize raw.take most = xs at h1
  have : ∀ (xs acc : List Ent), Asc acc → Asc (xs.foldl insE acc) ∧ (xs.foldl insE acc).length ≤ acc.length + xs.length := by
    intro xs
    induction xs with
    | nil => intro acc h; exact ⟨h, by simp⟩
    | cons x t ih =>
      intro acc h
      have := ih _ (insE_asc x h)
      have h2 := insE_len acc x
      exact ⟨this.1, by simp only [List.foldl_cons, List.length_cons]; omega⟩
  have := this xs [] Srt.nil
  exact ⟨this.1, by simp at this; omega⟩

end Go.Proofs.Ytjbkckcjmmmooaa
end
section
/- The reference's lists: what their functions answer. -/
namespace Go.Proofs.Ytjbkckcjmmmooaa.Sx
open Go

theorem fold_C (p : List Chg) (n : Nat) : p.getD (n : Int).toNat ⟨0, 0, 0, 0⟩ = cA p n := rfl
theorem fold_E (p : List Ent) (n : Nat) : p.getD (n : Int).toNat (0, 0) = eA p n := rfl
theorem wrap_in {x : Int} (h0 : -9223372036854775808 ≤ x) (h1 : x ≤ 9223372036854775807) : IntKind.i64.wrap x = x := by
  rw [IntKind.wrap_i64]; omega
def iA (p : List Int) (n : Nat) : Int := p.getD n 0
theorem iA_get {p : List Int} {n : Nat} (h : n < p.length) : p[n]? = some (iA p n) := by simp [iA, List.getD_eq_getElem?_getD, List.getElem?_eq_getElem h]
theorem fold_I (p : List Int) (n : Nat) : p.getD (n : Int).toNat (0 : Int) = iA p n := rfl
theorem drop_eq_iff {α : Type} {l m : List α} {k : Nat} {x y : α} (hl : l[k]? = some x) (hm : m[k]? = some y) : (l.drop k = m.drop k) ↔ x = y ∧ l.drop (k + 1) = m.drop (k + 1) := by
  rw [drop_cons hl, drop_cons hm, List.cons.injEq]
theorem ent_eqB (x y : Ent) : (x.1 == y.1 && (x.2 == y.2 && true)) = decide (x = y) := by
  cases x; cases y; simp [Bool.decide_and, Prod.mk.injEq]; rfl
theorem int_neB (x y : Int) : (x != y) = !decide (x = y) := rfl
def sameB {α : Type} [DecidableEq α] (l m : List α) : Bool := decide (l = m)
structure XS {α : Type} [DecidableEq α] (l m : List α) where
  i : Nat
  h : i ≤ l.length ∧ l.length = m.length ∧ sameB l m = decide (l.drop i = m.drop i)
theorem XS.stop {α : Type} [DecidableEq α] {l m : List α} (z : XS l m) {x y : α} (hx : l[z.i]? = some x) (hy : m[z.i]? = some y) (hne : x ≠ y) : sameB l m = false := by
  rw [z.h.2.2]; apply decide_eq_false; rw [drop_eq_iff hx hy]; exact fun h => hne h.1
theorem XS.next {α : Type} [DecidableEq α] {l m : List α} (z : XS l m) {x y : α} (hx : l[z.i]? = some x) (hy : m[z.i]? = some y) (he : x = y) : ∃ z' : XS l m, z'.i = z.i + 1 := by
  have h1 := (List.getElem?_eq_some_iff.1 hx).1
  refine ⟨⟨z.i + 1, by omega, z.h.2.1, ?_⟩, rfl⟩
  rw [z.h.2.2]
  apply decide_eq_decide.2
  rw [drop_eq_iff hx hy]
  exact ⟨fun h => h.2, fun h => ⟨he, h⟩⟩
theorem XS.fin {α : Type} [DecidableEq α] {l m : List α} (z : XS l m) (h : z.i = l.length) : sameB l m = true := by
  rw [z.h.2.2, h, List.drop_length, z.h.2.1, List.drop_length]; rfl
noncomputable def aSame (e : EC) {α : Type} [DecidableEq α] (l m : List α) (L M : List (C0.α e)) : Ann C0 := { Γ := [], inv := fun n => match n with
  | 4 => some { X := XS l m, sl := [5], tf := fun x => [vi .i64 x.i], hf := fun _ => [.row false e L, .row false e M], μ := fun x => l.length - x.i }
  | _ => none }
def tSame_ent : Tfm C0 := fun args H K => match args, H with
  | [.at (.slc 0), .at (.slc 1)], [.row false .ent l, .row false .ent m] => K (.one (.at (vB (sameB (α := Ent) l m)))) [.row false EC.ent l, .row false EC.ent m] []
  | _, _ => False
theorem vc_same9 (l m : List Ent) (K : KT) (hmax : l.length ≤ 9223372036854775807) (h : K (.one (.at (vB (sameB l m)))) [.row false EC.ent l, .row false EC.ent m] []) :
    vc C0 (aSame EC.ent l m l m) Try.f35 [.at (.slc 0), .at (.slc 1)] [.row false EC.ent l, .row false EC.ent m] (normK 2 K) := by
  refine Eq.mp (show (brS ((↑l.length : Int) != (↑m.length : Int)) ((K (SV.one (TV.at (At.val (Value.bool false)))) [(Chunk.row false (EC.ent) (l)), (Chunk.row false (EC.ent) (m))] [])) (((∃ x : XS l m, (True ∧ (True ∧ True ∧ ((Value.int IntKind.i64 0) = (Value.int IntKind.i64 ((↑x.i : Int)))) ∧ True) ∧ ((l) = (l)) ∧ ((m) = (m)) ∧ True)) ∧ (∀ x : XS l m, (True → (brS (decide ((↑x.i : Int) < (↑l.length : Int))) (((0 ≤ (↑x.i : Int)) ∧ ((↑x.i : Int) < (↑l.length : Int)) ∧ (0 ≤ (↑x.i : Int)) ∧ ((↑x.i : Int) < (↑m.length : Int)) ∧ (brS (!((eA l x.i).fst == (eA m x.i).fst && ((eA l x.i).snd == (eA m x.i).snd && true))) ((K (SV.one (TV.at (At.val (Value.bool false)))) [(Chunk.row false (EC.ent) (l)), (Chunk.row false (EC.ent) (m))] [])) ((∃ x' : XS l m, (True ∧ ((True ∧ True ∧ ((Value.int IntKind.i64 (IntKind.i64.wrap ((↑x.i : Int) + 1))) = (Value.int IntKind.i64 ((↑x'.i : Int)))) ∧ True) ∧ ((l) = (l)) ∧ ((m) = (m)) ∧ True) ∧ (l.length - x'.i < l.length - x.i))))))) ((K (SV.one (TV.at (At.val (Value.bool true)))) [(Chunk.row false (EC.ent) (l)), (Chunk.row false (EC.ent) (m))] [])))))))) = _ by kernel_rfl) ?_
  refine brS_of (fun hl => ?_) fun hl => ⟨⟨⟨0, Nat.zero_le _, by simp at hl; omega, rfl⟩, by simp⟩, fun x _ => brS_of (fun hi => ?_) fun hi => ?_⟩
  · have e : sameB l m = false := by
      apply decide_eq_false
      intro e
      subst e
      simp at hl
    rw [e] at h; exact h
  · have hi : x.i < l.length := by simpa using hi
    have hl := x.h.2.1
    have h1 := eA_get hi
    have h2 := eA_get (p := m) (n := x.i) (by omega)
    simp only [ent_eqB]
    refine ⟨by omega, by omega, by omega, by omega, brS_of (fun hd => ?_) fun hd => ?_⟩
    · have e := x.stop h1 h2 (by simpa using hd)
      rw [e] at h; exact h
    · obtain ⟨z, hz⟩ := x.next h1 h2 (by simpa using hd)
      refine ⟨z, trivial, ?_, ?_⟩
      · rw [wrap_in (by omega) (by omega), hz]; simp
      · show l.length - z.i < l.length - x.i
        omega
  · have hi : x.i = l.length := by have := x.h.1; simp at hi; omega
    have e := x.fin hi
    rw [e] at h; exact h
theorem s_same9 : SoundT C0 35 tSame_ent := by
  refine .of Try.func35 (by decide) rfl fun args H K h hB => ?_
  unfold tSame_ent at h
  split at h <;> try exact h.elim
  rename_i l m
  exact ⟨aSame EC.ent (α := Ent) l m l m, trivial, vc_same9 l m K (hB 0 _ _ _ rfl) h⟩
def tSame_i64 : Tfm C0 := fun args H K => match args, H with
  | [.at (.slc 0), .at (.slc 1)], [.row false .i64 l, .row false .i64 m] => K (.one (.at (vB (sameB (α := Int) l m)))) [.row false EC.i64 l, .row false EC.i64 m] []
  | _, _ => False
theorem asc_step {l : List Ent} {k : Nat} {x y : Ent} (hx : l[k]? = some x) (hy : l[k + 1]? = some y) : Asc (l.drop k) ↔ x.1 < y.1 ∧ Asc (l.drop (k + 1)) := by
  rw [drop_cons hx, drop_cons hy]
  constructor
  · intro h; exact ⟨h.head _ (by simp), h.tail⟩
  · rintro ⟨h1, h2⟩
    refine h2.cons fun z hz => ?_
    rcases List.mem_cons.1 hz with rfl | hz
    · exact h1
    · have := h2.head z hz; omega
structure XA (l : List Ent) where
  i : Nat
  h : 1 ≤ i ∧ (i ≤ l.length ∨ i = 1) ∧ (Asc l ↔ Asc (l.drop (i - 1)))
theorem XA.split {l : List Ent} (z : XA l) (hi : z.i < l.length) : (ascB l = true ↔ (eA l (z.i - 1)).1 < (eA l z.i).1 ∧ Asc (l.drop z.i)) := by
  obtain ⟨k, hk⟩ : ∃ k, z.i = k + 1 := ⟨z.i - 1, by have := z.h.1; omega⟩
  have h1 := eA_get (p := l) (n := k) (by omega)
  have h2 := eA_get (p := l) (n := k + 1) (by omega)
  have h3 := asc_step h1 h2
  have h4 := z.h.2.2
  rw [hk] at h4 ⊢
  simp only [Nat.add_sub_cancel] at h4 ⊢
  rw [ascB, decide_eq_true_eq, h4, h3]
theorem XA.fin {l : List Ent} (z : XA l) (hi : l.length ≤ z.i) : ascB l = true := by
  rw [ascB, decide_eq_true_eq, z.h.2.2]
  have : (l.drop (z.i - 1)).length ≤ 1 := by simp; omega
  match l.drop (z.i - 1), this with
  | [], _ => exact Srt.nil
  | [x], _ => exact Srt.nil.cons (by simp)
def tAsc : Tfm C0 := fun args H K => match args, H with
  | [.at (.slc 0)], [.row false .ent l] => K (.one (.at (vB (ascB l)))) [.row false EC.ent l] []
  | _, _ => False
noncomputable def aAsc (l : List Ent) : Ann C0 := { Γ := [], inv := fun n => match n with
  | 2 => some { X := XA l, sl := [3], tf := fun x => [vi .i64 x.i], hf := fun _ => [.row false EC.ent l], μ := fun x => l.length - x.i }
  | _ => none }
theorem getE_drop {l : List Ent} {i : Nat} {x : Ent} (h : l[i]? = some x) (q : Int) : getE (l.drop i) q = if x.1 = q then some x.2 else getE (l.drop (i + 1)) q := by
  rw [drop_cons h]; rfl
structure XGet (l : List Ent) (q : Int) where
  i : Nat
  h : i ≤ l.length ∧ getE l q = getE (l.drop i) q
noncomputable def aGet (l : List Ent) (q : Int) : Ann C0 := { Γ := [], inv := fun n => match n with
  | 2 => some { X := XGet l q, sl := [6], tf := fun x => [vi .i64 x.i], hf := fun _ => [.row false EC.ent l], μ := fun x => l.length - x.i }
  | _ => none }
def tGet : Tfm C0 := fun args H K => match args, H with
  | [.at (.slc 0), .at (.val (.int .i64 q))], [.row false .ent l] => ∀ x : Option Int, x = getE l q → K (.tup [.at (vI (x.getD 0)), .at (vB x.isSome)]) [.row false EC.ent l] []
  | _, _ => False
theorem vc_get (l : List Ent) (q : Int) (K : KT) (hmax : l.length ≤ 9223372036854775807) (h : ∀ x : Option Int, x = getE l q → K (.tup [.at (vI (x.getD 0)), .at (vB x.isSome)]) [.row false EC.ent l] []) :
    vc C0 (aGet l q) Try.f27 [.at (.slc 0), .at (.val (.int .i64 q))] [.row false EC.ent l] (normK 1 K) := by
  refine Eq.mp (show ((∃ x : XGet l q, (True ∧ (True ∧ ((Value.int IntKind.i64 (q)) = (Value.int IntKind.i64 (q))) ∧ ((Value.int IntKind.i64 0) = (Value.int IntKind.i64 ((↑x.i : Int)))) ∧ True) ∧ ((l) = (l)) ∧ True)) ∧
(∀ x : XGet l q, (True → (brS (decide ((↑x.i : Int) < (↑l.length : Int))) (((0 ≤ (↑x.i : Int)) ∧ ((↑x.i : Int) < (↑l.length : Int)) ∧ (brS ((eA l x.i).fst == q) (((0 ≤ (↑x.i : Int)) ∧ ((↑x.i : Int) < (↑l.length : Int)) ∧ (K (SV.tup [(TV.at (At.val (Value.int IntKind.i64 ((eA l x.i).snd)))), (TV.at (At.val (Value.bool true)))]) [(Chunk.row false (EC.ent) (l))] []))) ((∃ x' : XGet l q, (True ∧ ((True ∧ ((Value.int IntKind.i64 (q)) = (Value.int IntKind.i64 (q))) ∧ ((Value.int IntKind.i64 (IntKind.i64.wrap ((↑x.i : Int) + 1))) = (Value.int IntKind.i64 ((↑x'.i : Int)))) ∧ True) ∧ ((l) = (l)) ∧ True) ∧ (l.length - x'.i < l.length - x.i))))))) ((K (SV.tup [(TV.at (At.val (Value.int IntKind.i64 0))), (TV.at (At.val (Value.bool false)))]) [(Chunk.row false (EC.ent) (l))] [])))))) = _ by kernel_rfl) ?_
  refine ⟨⟨⟨0, Nat.zero_le _, rfl⟩, by simp⟩, fun x _ => brS_of (fun hi => ?_) fun hi => ?_⟩
  · have hi : x.i < l.length := by simpa using hi
    have hs := getE_drop (eA_get hi) q
    refine ⟨by omega, by omega, brS_of (fun hd => ⟨by omega, by omega, ?_⟩) fun hd => ?_⟩
    · have e : getE l q = some (eA l x.i).2 := by
        rw [x.h.2, hs, if_pos (by simpa using hd)]
      exact h (some _) e.symm
    · refine ⟨⟨x.i + 1, by omega, ?_⟩, trivial, ?_, ?_⟩
      · rw [x.h.2, hs, if_neg (by simpa using hd)]
      · rw [wrap_in (by omega) (by omega)]; simp
      · show l.length - (x.i + 1) < l.length - x.i
        omega
  · have hi : x.i = l.length := by have := x.h.1; simp at hi; omega
    have e : getE l q = none := by rw [x.h.2, hi, List.drop_length]; rfl
    exact h none e.symm
theorem s_get : SoundT C0 27 tGet := by
  refine .of Try.func27 (by decide) rfl fun args H K h hB => ?_
  unfold tGet at h
  split at h <;> try exact h.elim
  rename_i q l
  exact ⟨aGet l q, trivial, vc_get l q K (hB 0 _ _ _ rfl) h⟩
def outE (l : List Ent) (lo hi : Int) : List Ent := l.filter fun x => decide (x.1 < lo) || decide (hi < x.1)
structure XOut (l : List Ent) (lo hi : Int) where
  i : Nat
  h : i ≤ l.length
noncomputable def aOut (l : List Ent) (lo hi : Int) : Ann C0 := { Γ := [], inv := fun n => match n with
  | 3 => some { X := XOut l lo hi, sl := [8, 7], tf := fun x => [vi .i64 x.i, .one (.at (.slc 1))], hf := fun x => [.row false EC.ent l, .row true EC.ent (outE (l.take x.i) lo hi)], μ := fun x => l.length - x.i }
  | _ => none }
def tOut : Tfm C0 := fun args H K => match args, H with
  | [.at (.slc 0), .at (.val (.int .i64 lo)), .at (.val (.int .i64 hi))], [.row false .ent l] => l.length ≤ 1000000 ∧ K (.one (.at (.slc 1))) [.row false EC.ent l, .row true EC.ent (outE l lo hi)] []
  | _, _ => False
theorem outE_snoc {l : List Ent} {lo hi : Int} {i : Nat} {x : Ent} (h : l[i]? = some x) : outE (l.take (i + 1)) lo hi = outE (l.take i) lo hi ++ (if (decide (x.1 < lo) || decide (hi < x.1)) = true then [x] else []) := by
  rw [take_snoc h]
  unfold outE
  rw [List.filter_append]
  simp only [List.filter_cons, List.filter_nil]
theorem outE_len (l : List Ent) (lo hi : Int) (i : Nat) : (outE (l.take i) lo hi).length ≤ i := by
  unfold outE
  exact Nat.le_trans (List.length_filter_le _ _) (List.length_take_le _ _)
theorem vc_out (l : List Ent) (lo hi : Int) (K : KT) (hsm : l.length ≤ 1000000) (h : K (.one (.at (.slc 1))) [.row false EC.ent l, .row true EC.ent (outE l lo hi)] []) :
    vc C0 (aOut l lo hi) Try.f53 [.at (.slc 0), .at (.val (.int .i64 lo)), .at (.val (.int .i64 hi))] [.row false EC.ent l] (normK 1 K) := by
  refine Eq.mp (show ((∃ x : XOut l lo hi, (True ∧ (True ∧ ((Value.int IntKind.i64 (lo)) = (Value.int IntKind.i64 (lo))) ∧ ((Value.int IntKind.i64 (hi)) = (Value.int IntKind.i64 (hi))) ∧ True ∧ ((Value.int IntKind.i64 0) = (Value.int IntKind.i64 ((↑x.i : Int)))) ∧ True) ∧ ((l) = (l)) ∧ ([] = (outE (List.take x.i l) lo hi)) ∧ True)) ∧
(∀ x : XOut l lo hi, (True → (brS (decide ((↑x.i : Int) < (↑l.length : Int))) (((0 ≤ (↑x.i : Int)) ∧ ((↑x.i : Int) < (↑l.length : Int)) ∧ (brS (decide ((eA l x.i).fst < lo)) (((0 ≤ (↑x.i : Int)) ∧ ((↑x.i : Int) < (↑l.length : Int)) ∧ (((outE (List.take x.i l) lo hi).length + [((eA l x.i).fst, (eA l x.i).snd)].length) * bytesOf C0 EC.ent ≤ 140737488355328) ∧ (∃ x' : XOut l lo hi, (True ∧ ((True ∧ ((Value.int IntKind.i64 (lo)) = (Value.int IntKind.i64 (lo))) ∧ ((Value.int IntKind.i64 (hi)) = (Value.int IntKind.i64 (hi))) ∧ True ∧ ((Value.int IntKind.i64 (IntKind.i64.wrap ((↑x.i : Int) + 1))) = (Value.int IntKind.i64 ((↑x'.i : Int)))) ∧ True) ∧ ((l) = (l)) ∧ ((outE (List.take x.i l) lo hi ++ [((eA l x.i).fst, (eA l x.i).snd)]) = (outE (List.take x'.i l) lo hi)) ∧ True) ∧ (l.length - x'.i < l.length - x.i))))) (((0 ≤ (↑x.i : Int)) ∧ ((↑x.i : Int) < (↑l.length : Int)) ∧ (brS (decide ((eA l x.i).fst > hi)) (((0 ≤ (↑x.i : Int)) ∧ ((↑x.i : Int) < (↑l.length : Int)) ∧ (((outE (List.take x.i l) lo hi).length + [((eA l x.i).fst, (eA l x.i).snd)].length) * bytesOf C0 EC.ent ≤ 140737488355328) ∧ (∃ x' : XOut l lo hi, (True ∧ ((True ∧
    ((Value.int IntKind.i64 (lo)) = (Value.int IntKind.i64 (lo))) ∧ ((Value.int IntKind.i64 (hi)) = (Value.int IntKind.i64 (hi))) ∧ True ∧ ((Value.int IntKind.i64 (IntKind.i64.wrap ((↑x.i : Int) + 1))) = (Value.int IntKind.i64 ((↑x'.i : Int)))) ∧ True) ∧ ((l) = (l)) ∧ ((outE (List.take x.i l) lo hi ++ [((eA l x.i).fst, (eA l x.i).snd)]) = (outE (List.take x'.i l) lo hi)) ∧ True) ∧ (l.length - x'.i < l.length - x.i))))) ((∃ x' : XOut l lo hi, (True ∧ ((True ∧ ((Value.int IntKind.i64 (lo)) = (Value.int IntKind.i64 (lo))) ∧ ((Value.int IntKind.i64 (hi)) = (Value.int IntKind.i64 (hi))) ∧ True ∧ ((Value.int IntKind.i64 (IntKind.i64.wrap ((↑x.i : Int) + 1))) = (Value.int IntKind.i64 ((↑x'.i : Int)))) ∧ True) ∧ ((l) = (l)) ∧ ((outE (List.take x.i l) lo hi) = (outE (List.take x'.i l) lo hi)) ∧ True) ∧ (l.length - x'.i < l.length - x.i)))))))))) ((K (SV.one (TV.at (At.slc 1))) [(Chunk.row false (EC.ent) (l)), (Chunk.row true (EC.ent) (outE (List.take x.i l) lo hi))] [])))))) = _ by kernel_rfl) ?_
  refine ⟨⟨⟨0, Nat.zero_le _⟩, by simp [outE]⟩, fun x _ => brS_of (fun hi' => ?_) fun hi' => ?_⟩
  · have hi' : x.i < l.length := by simpa using hi'
    have hx := eA_get hi'
    have hs := outE_snoc (lo := lo) (hi := hi) hx
    have hlen := outE_len l lo hi x.i
    have nx : XOut l lo hi := ⟨x.i + 1, by omega⟩
    have w1 : IntKind.i64.wrap ((x.i : Int) + 1) = ((x.i + 1 : Nat) : Int) := by rw [wrap_in (by omega) (by omega)]; simp
    simp only [w1, bytes_ent]
    refine ⟨by omega, by omega, brS_of (fun h1 => ⟨by omega, by omega, ?_, ⟨⟨x.i + 1, by omega⟩, ?_⟩⟩) fun h1 => ⟨by omega, by omega, brS_of (fun h2 => ⟨by omega, by omega, ?_, ⟨⟨x.i + 1, by omega⟩, ?_⟩⟩) fun h2 => ⟨⟨x.i + 1, by omega⟩, ?_⟩⟩⟩
    · simp; omega
    · rw [if_pos (by simp only [decide_eq_true_eq] at h1; simp [h1])] at hs
      simp [hs]; omega
    · simp; omega
    · rw [if_pos (by simp only [decide_eq_true_eq] at h2; simp; omega)] at hs
      simp [hs]; omega
    · rw [if_neg (by simp only [decide_eq_false_iff_not] at h1 h2; simp; omega)] at hs
      simp [hs]; omega
  · have hi' : x.i = l.length := by have := x.h; simp at hi'; omega
    rw [hi', List.take_length]
    exact h
theorem s_out : SoundT C0 53 tOut := by
  refine .of Try.func53 (by decide) rfl fun args H K h hB => ?_
  unfold tOut at h
  split at h <;> try exact h.elim
  rename_i lo hi l
  exact ⟨aOut l lo hi, trivial, vc_out l lo hi K h.1 h.2⟩
structure XIns (l : List Ent) (e : Ent) where
  i : Nat
  acc : List Ent
  put : Bool
  h : i ≤ l.length ∧ acc.length ≤ i + put.toNat ∧ insE l e = acc ++ insGo e put (l.drop i)
noncomputable def aIns (l : List Ent) (e : Ent) : Ann C0 := { Γ := [], inv := fun n => match n with
  | 4 => some { X := XIns l e, sl := [7, 6, 5, 3], tf := fun x => [vi .i64 x.i, vb x.put, .one (.at (.slc 2)), .one (.at (.ptr 1 0))], hf := fun x => [.row false EC.ent l, .box [vI e.1, vI e.2], .row true EC.ent x.acc], μ := fun x => l.length - x.i }
  | _ => none }
def tIns : Tfm C0 := fun args H K => match args, H with
  | [.at (.slc 0), .agg [.val (.int .i64 k), .val (.int .i64 v)]], [.row false .ent l] => l.length ≤ 1000000 ∧ K (.one (.at (.slc 1))) [.row false EC.ent l, .row true EC.ent (insE l (k, v))] []
  | _, _ => False
theorem insGo_step {e x : Ent} {put : Bool} {l : List Ent} {i : Nat} (h : l[i]? = some x) : insGo e put (l.drop i) = (if !put && decide (e.1 ≤ x.1) then [e] else []) ++ ((if x.1 = e.1 then [] else [x]) ++ insGo e (put || decide (e.1 ≤ x.1)) (l.drop (i + 1))) := by
  rw [drop_cons h, insGo]
theorem XIns.next {l : List Ent} {e : Ent} (z : XIns l e) {x : Ent} (hx : l[z.i]? = some x) {put' : Bool} {acc' : List Ent} (hp : put' = (z.put || decide (e.1 ≤ x.1)))
    (ha : acc' = z.acc ++ ((if !z.put && decide (e.1 ≤ x.1) then [e] else []) ++ (if x.1 = e.1 then [] else [x]))) : ∃ z' : XIns l e, z'.i = z.i + 1 ∧ z'.put = put' ∧ z'.acc = acc' := by
  have h1 := (List.getElem?_eq_some_iff.1 hx).1
  obtain ⟨hi, hl, he⟩ := z.h
  rw [insGo_step hx] at he
  refine ⟨⟨z.i + 1, acc', put', by omega, ?_, ?_⟩, rfl, rfl, rfl⟩
  · subst hp ha
    have h2 : (if x.1 = e.1 then ([] : List Ent) else [x]).length ≤ 1 := by split <;> simp
    cases hz : z.put <;> rw [hz] at hl <;> by_cases hc : e.1 ≤ x.1 <;> simp [hc] at hl ⊢ <;> omega
  · subst hp ha
    rw [he]; simp only [List.append_assoc]
theorem XIns.fin {l : List Ent} {e : Ent} (z : XIns l e) (h : z.i = l.length) : insE l e = z.acc ++ (if z.put then [] else [e]) := by
  rw [z.h.2.2, h, List.drop_length]; rfl
theorem vc_ins (l : List Ent) (k v : Int) (K : KT) (hsm : l.length ≤ 1000000) (h : K (.one (.at (.slc 1))) [.row false EC.ent l, .row true EC.ent (insE l (k, v))] []) :
    vc C0 (aIns l (k, v)) Try.f28 [.at (.slc 0), .agg [.val (.int .i64 k), .val (.int .i64 v)]] [.row false EC.ent l] (normK 1 K) := by
  refine Eq.mp (show ((∃ x : XIns l (k, v), (True ∧ (True ∧ True ∧ True ∧ ((Value.bool false) = (Value.bool (x.put))) ∧ ((Value.int IntKind.i64 0) = (Value.int IntKind.i64 ((↑x.i : Int)))) ∧ True) ∧ ((l) = (l)) ∧ (((Value.int IntKind.i64 (k)) = (Value.int IntKind.i64 (k))) ∧ ((Value.int IntKind.i64 (v)) = (Value.int IntKind.i64 (v))) ∧ True) ∧ ([] = (x.acc)) ∧ True)) ∧
(∀ x : XIns l (k, v), (True → (brS (decide ((↑x.i : Int) < (↑l.length : Int))) ((brS (!x.put) (((0 ≤ (↑x.i : Int)) ∧ ((↑x.i : Int) < (↑l.length : Int)) ∧ (brS (decide ((eA l x.i).fst ≥ k)) ((((x.acc.length + [(k, v)].length) * bytesOf C0 EC.ent ≤ 140737488355328) ∧ (0 ≤ (↑x.i : Int)) ∧ ((↑x.i : Int) < (↑l.length : Int)) ∧ (brS ((eA l x.i).fst != k) (((0 ≤ (↑x.i : Int)) ∧ ((↑x.i : Int) < (↑l.length : Int)) ∧ (((x.acc ++ [(k, v)]).length + [((eA l x.i).fst, (eA l x.i).snd)].length) * bytesOf C0 EC.ent ≤ 140737488355328) ∧ (∃ x' : XIns l (k, v), (True ∧ ((True ∧ True ∧ True ∧ ((Value.bool true) = (Value.bool (x'.put))) ∧ ((Value.int IntKind.i64 (IntKind.i64.wrap ((↑x.i : Int) + 1))) = (Value.int IntKind.i64 ((↑x'.i : Int)))) ∧ True) ∧ ((l) = (l)) ∧ (((Value.int IntKind.i64 (k)) = (Value.int IntKind.i64 (k))) ∧ ((Value.int IntKind.i64 (v)) = (Value.int IntKind.i64 (v))) ∧ True) ∧ ((x.acc ++ [(k, v)] ++ [((eA l x.i).fst, (eA l x.i).snd)]) = (x'.acc)) ∧ True) ∧ (l.length - x'.i < l.length - x.i))))) ((∃ x' : XIns l (k, v), (True ∧ ((True ∧ True ∧ True ∧ ((Value.bool true) = (Value.bool (x'.put))) ∧
    ((Value.int IntKind.i64 (IntKind.i64.wrap ((↑x.i : Int) + 1))) = (Value.int IntKind.i64 ((↑x'.i : Int)))) ∧ True) ∧ ((l) = (l)) ∧ (((Value.int IntKind.i64 (k)) = (Value.int IntKind.i64 (k))) ∧ ((Value.int IntKind.i64 (v)) = (Value.int IntKind.i64 (v))) ∧ True) ∧ ((x.acc ++ [(k, v)]) = (x'.acc)) ∧ True) ∧ (l.length - x'.i < l.length - x.i))))))) (((0 ≤ (↑x.i : Int)) ∧ ((↑x.i : Int) < (↑l.length : Int)) ∧ (brS ((eA l x.i).fst != k) (((0 ≤ (↑x.i : Int)) ∧ ((↑x.i : Int) < (↑l.length : Int)) ∧ ((x.acc.length + [((eA l x.i).fst, (eA l x.i).snd)].length) * bytesOf C0 EC.ent ≤ 140737488355328) ∧ (∃ x' : XIns l (k, v), (True ∧ ((True ∧ True ∧ True ∧ ((Value.bool (x.put)) = (Value.bool (x'.put))) ∧ ((Value.int IntKind.i64 (IntKind.i64.wrap ((↑x.i : Int) + 1))) = (Value.int IntKind.i64 ((↑x'.i : Int)))) ∧ True) ∧ ((l) = (l)) ∧ (((Value.int IntKind.i64 (k)) = (Value.int IntKind.i64 (k))) ∧ ((Value.int IntKind.i64 (v)) = (Value.int IntKind.i64 (v))) ∧ True) ∧ ((x.acc ++ [((eA l x.i).fst, (eA l x.i).snd)]) = (x'.acc)) ∧ True) ∧ (l.length - x'.i < l.length - x.i))))) ((∃ x' : XIns l (k, v), (True ∧ ((True ∧ True ∧ True ∧ ((Value.bool (x.put)) = (Value.bool (x'.put))) ∧ ((Value.int IntKind.i64 (IntKind.i64.wrap ((↑x.i : Int) + 1))) = (Value.int IntKind.i64 ((↑x'.i : Int)))) ∧ True) ∧ ((l) = (l)) ∧ (((Value.int IntKind.i64 (k)) = (Value.int IntKind.i64 (k))) ∧ ((Value.int IntKind.i64 (v)) = (Value.int IntKind.i64 (v))) ∧ True) ∧ ((x.acc) = (x'.acc)) ∧ True) ∧
    (l.length - x'.i < l.length - x.i)))))))))) (((0 ≤ (↑x.i : Int)) ∧ ((↑x.i : Int) < (↑l.length : Int)) ∧ (brS ((eA l x.i).fst != k) (((0 ≤ (↑x.i : Int)) ∧ ((↑x.i : Int) < (↑l.length : Int)) ∧ ((x.acc.length + [((eA l x.i).fst, (eA l x.i).snd)].length) * bytesOf C0 EC.ent ≤ 140737488355328) ∧ (∃ x' : XIns l (k, v), (True ∧ ((True ∧ True ∧ True ∧ ((Value.bool (x.put)) = (Value.bool (x'.put))) ∧ ((Value.int IntKind.i64 (IntKind.i64.wrap ((↑x.i : Int) + 1))) = (Value.int IntKind.i64 ((↑x'.i : Int)))) ∧ True) ∧ ((l) = (l)) ∧ (((Value.int IntKind.i64 (k)) = (Value.int IntKind.i64 (k))) ∧ ((Value.int IntKind.i64 (v)) = (Value.int IntKind.i64 (v))) ∧ True) ∧ ((x.acc ++ [((eA l x.i).fst, (eA l x.i).snd)]) = (x'.acc)) ∧ True) ∧ (l.length - x'.i < l.length - x.i))))) ((∃ x' : XIns l (k, v), (True ∧ ((True ∧ True ∧ True ∧ ((Value.bool (x.put)) = (Value.bool (x'.put))) ∧ ((Value.int IntKind.i64 (IntKind.i64.wrap ((↑x.i : Int) + 1))) = (Value.int IntKind.i64 ((↑x'.i : Int)))) ∧ True) ∧ ((l) = (l)) ∧ (((Value.int IntKind.i64 (k)) = (Value.int IntKind.i64 (k))) ∧ ((Value.int IntKind.i64 (v)) = (Value.int IntKind.i64 (v))) ∧ True) ∧ ((x.acc) = (x'.acc)) ∧ True) ∧ (l.length - x'.i < l.length - x.i))))))))) ((brS (!x.put) ((((x.acc.length + [(k, v)].length) * bytesOf C0 EC.ent ≤ 140737488355328) ∧ (K (SV.one (TV.at (At.slc 1))) [(Chunk.row false (EC.ent) (l)), (Chunk.row true (EC.ent) (x.acc ++ [(k, v)]))] [])))
    ((K (SV.one (TV.at (At.slc 1))) [(Chunk.row false (EC.ent) (l)), (Chunk.row true (EC.ent) (x.acc))] [])))))))) = _ by kernel_rfl) ?_
  refine ⟨⟨⟨0, [], false, Nat.zero_le _, by simp, by simp⟩, by simp⟩, fun x _ => brS_of (fun hi => ?_) fun hi => ?_⟩
  · have hi : x.i < l.length := by simpa using hi
    have hx := eA_get hi
    have hlen := x.h.2.1
    have hpt : x.put.toNat ≤ 1 := by cases x.put <;> decide
    have w1 : IntKind.i64.wrap ((x.i : Int) + 1) = ((x.i + 1 : Nat) : Int) := by rw [wrap_in (by omega) (by omega)]; simp
    simp only [w1, bytes_ent]
    have go : ∀ (put' : Bool) (acc' : List Ent), put' = (x.put || decide (k ≤ (eA l x.i).1)) → acc' = x.acc ++ ((if !x.put && decide (k ≤ (eA l x.i).1) then [(k, v)] else []) ++ (if (eA l x.i).1 = k then [] else [eA l x.i])) →
        ∃ z' : XIns l (k, v), z'.i = x.i + 1 ∧ z'.put = put' ∧ z'.acc = acc' := fun put' acc' hp ha => x.next hx hp ha
    refine brS_of (fun hp => ⟨by omega, by omega, brS_of (fun hc => ⟨?_, by omega, by omega, brS_of (fun hn => ⟨by omega, by omega, ?_, ?_⟩) fun hn => ?_⟩) fun hc => ⟨by omega, by omega, brS_of (fun hn => ⟨by omega, by omega, ?_, ?_⟩) fun hn => ?_⟩⟩) fun hp => ⟨by omega, by omega, brS_of (fun hn => ⟨by omega, by omega, ?_, ?_⟩) fun hn => ?_⟩
    all_goals try simp only [decide_eq_true_eq, decide_eq_false_iff_not, bne_iff_ne, ne_eq, Bool.not_eq_true', Bool.not_eq_false', bne_eq_false_iff_eq, ge_iff_le] at *
    all_goals first
      | (simp; omega)
      | (obtain ⟨z', e1, e2, e3⟩ := go _ _ rfl rfl
         refine ⟨z', ?_⟩
         simp [*]
         omega)
  · have hi : x.i = l.length := by have := x.h.1; simp at hi; omega
    have hf := x.fin hi
    have hlen := x.h.2.1
    have hpt : x.put.toNat ≤ 1 := by cases x.put <;> decide
    refine brS_of (fun hp => ⟨?_, ?_⟩) fun hp => ?_
    · simp [bytes_ent]; omega
    · simp at hp; rw [hp] at hf; simp at hf; rw [hf] at h; exact h
    · simp at hp; rw [hp] at hf; simp at hf; rw [hf] at h; exact h
theorem s_ins : SoundT C0 28 tIns := by
  refine .of Try.func28 (by decide) rfl fun args H K h hB => ?_
  unfold tIns at h
  split at h <;> try exact h.elim
  rename_i k v l
  exact ⟨aIns l (k, v), trivial, vc_ins l k v K h.1 h.2⟩
noncomputable def aDel : Ann C0 := { Γ := [(53, frameT [] tOut)] }
def tDel : Tfm C0 := fun args H K => match args, H with
  | [.at (.slc 0), .at (.val (.int .i64 q))], [.row false .ent l] => l.length ≤ 1000000 ∧ K (.one (.at (.slc 1))) [.row false EC.ent l, .row true EC.ent (outE l q q)] []
  | _, _ => False
theorem vc_del (l : List Ent) (q : Int) (K : KT) (h1 : l.length ≤ 1000000) (h2 : K (.one (.at (.slc 1))) [.row false EC.ent l, .row true EC.ent (outE l q q)] []) :
    vc C0 aDel Try.f26 [.at (.slc 0), .at (.val (.int .i64 q))] [.row false EC.ent l] (normK 1 K) := by
  have e : ((l.length ≤ 1000000) ∧
(K (SV.one (TV.at (At.slc 1))) [(Chunk.row false (EC.ent) (l)), (Chunk.row true (EC.ent) (outE l q q))] [])) = vc C0 aDel Try.f26 [.at (.slc 0), .at (.val (.int .i64 q))] [.row false EC.ent l] (normK 1 K) := by kernel_rfl
  rw [← e]
  exact ⟨h1, h2⟩
theorem s_del : SoundT C0 26 tDel := by
  refine .of Try.func26 (by decide) rfl fun args H K h hB => ?_
  unfold tDel at h
  split at h <;> try exact h.elim
  rename_i q l
  have hG : GOK C0 aDel.Γ := ⟨frame C0.ok s_out _, trivial⟩
  exact ⟨aDel, hG, vc_del l q K h.1 h.2⟩
structure XLst (l : List Ent) (most : Int) where
  i : Nat
  h : i ≤ l.length ∧ (i : Int) ≤ most
noncomputable def aLst (l : List Ent) (most : Int) : Ann C0 := { Γ := [(28, frameT [] tIns)], inv := fun n => match n with
  | 3 => some { X := XLst l most, sl := [6, 5], tf := fun x => [vi .i64 x.i, .one (.at (.slc 1))], hf := fun x => [.row false EC.ent l, .row true EC.ent (listE l x.i)], μ := fun x => l.length - x.i }
  | _ => none }
def tLst : Tfm C0 := fun args H K => match args, H with
  | [.at (.slc 0), .at (.val (.int .i64 most))], [.row false .ent l] => 0 ≤ most ∧ most ≤ 1000000 ∧ K (.one (.at (.slc 1))) [.row false EC.ent l, .row true EC.ent (listE l most.toNat)] []
  | _, _ => False
theorem listE_snoc {l : List Ent} {i : Nat} {x : Ent} (h : l[i]? = some x) : listE l (i + 1) = insE (listE l i) x := by
  unfold listE
  rw [take_snoc h]
  simp
theorem listE_full {l : List Ent} {n : Nat} (h : l.length ≤ n) : listE l n = listE l l.length := by
  unfold listE
  rw [List.take_of_length_le h, List.take_of_length_le (Nat.le_refl _)]
theorem vc_lst (l : List Ent) (most : Int) (K : KT) (hmax : l.length ≤ 9223372036854775807) (h0 : 0 ≤ most) (h1 : most ≤ 1000000) (h : K (.one (.at (.slc 1))) [.row false EC.ent l, .row true EC.ent (listE l most.toNat)] []) :
    vc C0 (aLst l most) Try.f34 [.at (.slc 0), .at (.val (.int .i64 most))] [.row false EC.ent l] (normK 1 K) := by
  refine Eq.mp (show ((∃ x : XLst l most, (True ∧ (True ∧ ((Value.int IntKind.i64 (most)) = (Value.int IntKind.i64 (most))) ∧ True ∧ ((Value.int IntKind.i64 0) = (Value.int IntKind.i64 ((↑x.i : Int)))) ∧ True) ∧ ((l) = (l)) ∧ ([] = (listE l x.i)) ∧ True)) ∧
(∀ x : XLst l most, (True → (brS (decide ((↑x.i : Int) < (↑l.length : Int))) ((brS (decide ((↑x.i : Int) < most)) (((0 ≤ (↑x.i : Int)) ∧ ((↑x.i : Int) < (↑l.length : Int)) ∧ ((listE l x.i).length ≤ 1000000) ∧ (∃ x' : XLst l most, (True ∧ ((True ∧ ((Value.int IntKind.i64 (most)) = (Value.int IntKind.i64 (most))) ∧ True ∧ ((Value.int IntKind.i64 (IntKind.i64.wrap ((↑x.i : Int) + 1))) = (Value.int IntKind.i64 ((↑x'.i : Int)))) ∧ True) ∧ ((l) = (l)) ∧ ((insE (listE l x.i) ((eA l x.i).fst, (eA l x.i).snd)) = (listE l x'.i)) ∧ True) ∧ (l.length - x'.i < l.length - x.i))))) ((K (SV.one (TV.at (At.slc 1))) [(Chunk.row false (EC.ent) (l)), (Chunk.row true (EC.ent) (listE l x.i))] [])))) ((K (SV.one (TV.at (At.slc 1))) [(Chunk.row false (EC.ent) (l)), (Chunk.row true (EC.ent) (listE l x.i))] [])))))) = _ by kernel_rfl) ?_
  refine ⟨⟨⟨0, Nat.zero_le _, h0⟩, by simp [listE]⟩, fun x _ => brS_of (fun hi => brS_of (fun hm => ?_) fun hm => ?_) fun hi => ?_⟩
  · have hi : x.i < l.length := by simpa using hi
    have hm : (x.i : Int) < most := by simpa using hm
    have hs := listE_snoc (eA_get hi)
    have hlen := (listE_spec l x.i).2
    have w1 : IntKind.i64.wrap ((x.i : Int) + 1) = ((x.i + 1 : Nat) : Int) := by rw [wrap_in (by omega) (by omega)]; simp
    simp only [w1]
    refine ⟨by omega, by omega, by omega, ⟨x.i + 1, by omega, by omega⟩, ?_⟩
    simp [hs]; omega
  · have e : most.toNat = x.i := by have := x.h.2; simp at hm; omega
    rw [e] at h; exact h
  · have hi : x.i = l.length := by have := x.h.1; simp at hi; omega
    have := x.h.2
    rw [listE_full (n := most.toNat) (by omega), ← hi] at h; exact h
theorem s_lst : SoundT C0 34 tLst := by
  refine .of Try.func34 (by decide) rfl fun args H K h hB => ?_
  unfold tLst at h
  split at h <;> try exact h.elim
  rename_i most l
  exact ⟨aLst l most, ⟨frame C0.ok s_ins _, trivial⟩, vc_lst l most K (hB 0 _ _ _ rfl) h.1 h.2.1 h.2.2⟩
def tChoose : Tfm C0 := fun args H K => match args, H with
  | [.at (.val (.int .i64 p)), .at (.val (.int .i64 v)), .at (.val (.int .i64 w))], [] => ∀ x, x = chooseP p v w → K (.one (.at (vI x))) [] []
  | _, _ => False
def tMod : Tfm C0 := fun args H K => match args, H with
  | [.at (.val (.int .i64 k)), .at (.val (.int .i64 n))], [] => 0 < n ∧ n ≤ 9223372036854775807 ∧ ∀ x, x = k % n → K (.one (.at (vI x))) [] []
  | _, _ => False
theorem s_mod : SoundT C0 15 tMod := by
  refine .of Try.func15 (by decide) rfl fun args H K h hB => ⟨A0, trivial, ?_⟩
  unfold tMod at h
  split at h <;> try exact h.elim
  rename_i k n
  obtain ⟨h0, h1, h⟩ := h
  have h := h _ rfl
  refine Eq.mp (show ((n ≠ 0) ∧
(brS (decide (k.tmod n < 0)) ((K (SV.one (TV.at (At.val (Value.int IntKind.i64 (IntKind.i64.wrap (k.tmod n + n)))))) [] [])) ((K (SV.one (TV.at (At.val (Value.int IntKind.i64 (k.tmod n))))) [] [])))) = _ by kernel_rfl) ⟨by omega, brS_of (fun e => ?_) fun e => ?_⟩
  all_goals simp only [decide_eq_true_eq, decide_eq_false_iff_not] at e
  · have e1 : k.tmod n + n = k % n := by
      rw [Int.tmod_eq_emod] at e ⊢
      split at e <;> rename_i hc
      · have := Int.emod_nonneg k (show n ≠ 0 by omega); omega
      · rw [if_neg hc]
        have : (n.natAbs : Int) = n := by omega
        omega
    have h2 := Int.emod_nonneg k (show n ≠ 0 by omega)
    have h3 := Int.emod_lt_of_pos k h0
    rw [e1, wrap_in (by omega) (by omega)]; exact h
  · have e1 : k.tmod n = k % n := by
      rw [Int.tmod_eq_emod] at e ⊢
      split at e <;> rename_i hc
      · rw [if_pos hc]; omega
      · have h3 := Int.emod_lt_of_pos k h0
        have : (n.natAbs : Int) = n := by omega
        omega
    rw [e1]; exact h
structure XN (n : Nat) where
  i : Nat
  h : i ≤ n
def kF (xs : List Int) (l : List Ent) (i : Nat) : List Ent := keysOf (xs ++ (l.take i).map Prod.fst)
theorem kF_snoc {xs : List Int} {l : List Ent} {i : Nat} {x : Ent} (h : l[i]? = some x) : kF xs l (i + 1) = insE (kF xs l i) (x.1, 0) := by
  unfold kF
  rw [take_snoc h, List.map_append, ← List.append_assoc]
  exact keysOf_snoc _ _
theorem kF_len (xs : List Int) (l : List Ent) (i : Nat) : (kF xs l i).length ≤ xs.length + l.length := by
  have := (keysOf_spec (xs ++ (l.take i).map Prod.fst)).2.1
  unfold kF
  simp at this ⊢
  omega
theorem kF_zero (xs : List Int) (l : List Ent) : kF xs l 0 = keysOf xs := by simp [kF]
theorem kF_full (xs : List Int) (l : List Ent) : kF xs l l.length = keysOf (xs ++ l.map Prod.fst) := by simp [kF]
def tKeys : Tfm C0 := fun args H K => match args, H with
  | [.at (.slc 0), .at (.slc 1), .at (.slc 2)], [.row false .ent l, .row false .ent m, .row false .ent n] => l.length + m.length + n.length ≤ 1000000 ∧ K (.one (.at (.slc 3))) [.row false EC.ent l, .row false EC.ent m, .row false EC.ent n, .row true EC.i64 (keys3 l m n)] []
  | _, _ => False
theorem keys3_eq (l m n : List Ent) : keys3 l m n = (kF (l.map Prod.fst ++ m.map Prod.fst) n n.length).map Prod.fst := by
  rw [kF_full]; simp [keys3]
set_option maxHeartbeats 1000000 in
structure XU (l m : List Ent) (p : Int) where
  i : Nat
  h : i ≤ m.length
def tUni : Tfm C0 := fun args H K => match args, H with
  | [.at (.slc 0), .at (.slc 1), .at (.val (.int .i64 p))], [.row false .ent l, .row false .ent m] => l.length + m.length ≤ 1000000 ∧ (m.length = 0 → K (.one (.at (.slc 0))) [.row false EC.ent l, .row false EC.ent m] []) ∧ K (.one (.at (.slc 2))) [.row false EC.ent l, .row false EC.ent m, .row true EC.ent (uniE l m p)] []
  | _, _ => False
theorem uni_snoc (l : List Ent) {m : List Ent} (p : Int) {i : Nat} {x : Ent} (h : m[i]? = some x) : uniE l (m.take (i + 1)) p = uniStep l p (uniE l (m.take i) p) x := by
  unfold uniE
  rw [take_snoc h]
  simp
theorem uni_step {l m : List Ent} {p : Int} {i : Nat} (hi : i < m.length) {x : Option Int} (hx : x = getE l (eA m i).1) {v : Int} (hv : ∀ w, x = some w → v = chooseP p w (eA m i).2) (hn : x = none → v = (eA m i).2) :
    insE (uniE l (m.take i) p) ((eA m i).1, v) = uniE l (m.take (i + 1)) p := by
  rw [uni_snoc l p (eA_get hi)]
  unfold uniStep
  rw [← hx]
  cases x with
  | none => rw [hn rfl]
  | some w => rw [hv w rfl]
def difD (k : Int) (a b : Option Int) : List Chg := match a with
  | none => [⟨1, k, 0, b.getD 0⟩]
  | some v => match b with
    | none => [⟨2, k, v, 0⟩]
    | some w => if v = w then [] else [⟨3, k, v, w⟩]
def dif1 (l m : List Ent) (k : Int) : List Chg := difD k (getE l k) (getE m k)
theorem difD_1 {k : Int} {a b : Option Int} (h : (!a.isSome) = true) : [⟨1, k, 0, b.getD 0⟩] = difD k a b := by cases a <;> simp_all [difD]
theorem difD_2 {k : Int} {a b : Option Int} (h : (!a.isSome) = false) (h2 : (!b.isSome) = true) : [⟨2, k, a.getD 0, 0⟩] = difD k a b := by cases a <;> cases b <;> simp_all [difD]
theorem difD_3 {k : Int} {a b : Option Int} (h : (!a.isSome) = false) (h2 : (!b.isSome) = false) (h3 : (a.getD 0 != b.getD 0) = true) : [⟨3, k, a.getD 0, b.getD 0⟩] = difD k a b := by cases a <;> cases b <;> simp_all [difD]
theorem difD_4 {k : Int} {a b : Option Int} (h : (!a.isSome) = false) (h2 : (!b.isSome) = false) (h3 : (a.getD 0 != b.getD 0) = false) : [] = difD k a b := by cases a <;> cases b <;> simp_all [difD]
def difE (l m : List Ent) : List Chg := (keys3 l m []).flatMap (dif1 l m)
theorem dif1_len (l m : List Ent) (k : Int) : (dif1 l m k).length ≤ 1 := by
  unfold dif1 difD; repeat' split
  all_goals simp
theorem flatMap1_len {α β : Type} {f : α → List β} (h : ∀ x, (f x).length ≤ 1) (l : List α) : (l.flatMap f).length ≤ l.length := by
  induction l with
  | nil => simp
  | cons x l ih => have := h x; rw [List.flatMap_cons, List.length_append, List.length_cons]; omega
theorem difE_len (l m : List Ent) : (difE l m).length ≤ l.length + m.length := by
  have h1 := flatMap1_len (dif1_len l m) (keys3 l m [])
  have h2 := keys3_len l m []
  unfold difE
  rw [List.length_nil] at h2
  omega
theorem dif1_mk {l m : List Ent} {k : Int} (h : (getE l k).isSome = true ∨ (getE m k).isSome = true) : dif1 l m k = (mkChg k (getE l k) (getE m k)).toList := by
  unfold dif1 difD
  cases h1 : getE l k <;> cases h2 : getE m k <;> simp_all [mkChg]
  split <;> simp_all
theorem flatMap_congr' {α β : Type} {f g : α → List β} {l : List α} (h : ∀ x ∈ l, f x = g x) : l.flatMap f = l.flatMap g := by
  induction l with
  | nil => rfl
  | cons x l ih => rw [List.flatMap_cons, List.flatMap_cons, h x (by simp), ih fun y hy => h y (by simp [hy])]
theorem difE_btw {l m : List Ent} (hl : Asc l) (hm : Asc m) : difE l m = btw l m := by
  have hk := keys3_srt l m []
  have e : difE l m = (keys3 l m []).flatMap fun k => (mkChg k (getE l k) (getE m k)).toList := by
    unfold difE
    refine flatMap_congr' fun k hk => ?_
    rcases (keys3_mem l m [] k).1 hk with h | h | h
    · exact dif1_mk (.inl h)
    · exact dif1_mk (.inr h)
    · simp [getE] at h
  have hf : ∀ (x : Int) (y : Chg), mkChg x (getE l x) (getE m x) = some y → y.key = id x := fun x y h => (mkChg_some h).1
  refine Srt.ext (key := Chg.key) ?_ (btw_srt hl hm) fun k => ?_
  · rw [e]; exact flatOpt_srt (ka := id) (kb := Chg.key) _ hf hk
  · rw [e, flatOpt_fnd (ka := id) (kb := Chg.key) _ hf hk, btw_fnd hl hm, fnd_id]
    split
    · rfl
    · rename_i hn
      rw [keys3_mem] at hn
      have h1 : getE l k = none := by cases h : getE l k <;> simp_all
      have h2 : getE m k = none := by cases h : getE m k <;> simp_all
      rw [h1, h2]; rfl
structure XDif (l m : List Ent) where
  i : Nat
  h : i ≤ (keys3 l m []).length
theorem wrap_next {i n : Nat} (h1 : i < n) (h2 : n ≤ 1000000) : IntKind.i64.wrap ((i : Int) + 1) = ((i + 1 : Nat) : Int) := by rw [wrap_in (by omega) (by omega)]; simp
theorem flat_snoc {α β : Type} (f : α → List β) {l : List α} {i : Nat} {x : α} (h : l[i]? = some x) : (l.take (i + 1)).flatMap f = (l.take i).flatMap f ++ f x := by
  rw [take_snoc h]; simp
theorem flat_len1 {α β : Type} {f : α → List β} (h : ∀ x, (f x).length ≤ 1) (l : List α) (i : Nat) : ((l.take i).flatMap f).length ≤ i :=
  Nat.le_trans (flatMap1_len h _) (List.length_take_le _ _)
end Go.Proofs.Ytjbkckcjmmmooaa.Sx
end
section
/- Planting trees: the statements' helpers. -/
namespace Go.Proofs.Ytjbkckcjmmmooaa.Sx
open Go

/-KEEP Wf Kept makeS relA nxt decS NodeR exW inU live Arn.cap Arn.free balN PlantR maxSize mkNode-/
def tLeast : Tfm C0 := fun args H K => match args, H with
  | [.at (.val (.int .i64 n))], [] => 0 ≤ n ∧ n ≤ 1000000 ∧ ∀ x, x = n / 4 → K (.one (.at (vI x))) [] []
  | _, _ => False
def balB (l r : Int) : Bool := decide (balN l r)
def tBal : Tfm C0 := fun args H K => match args, H with
  | [.at (.val (.int .i64 l)), .at (.val (.int .i64 r))], [] => 0 ≤ l ∧ l ≤ 1000000 ∧ 0 ≤ r ∧ r ≤ 1000000 ∧ ∀ b, b = balB l r → K (.one (.at (vB b))) [] []
  | _, _ => False
structure XPv (n : Int) where
  lo : Int
  h : 0 ≤ lo ∧ lo < n ∧ balN lo (n - 1 - lo)
noncomputable def aPivot (n : Int) : Ann C0 := { Γ := [(125, frameT [] tLeast), (48, frameT [] tBal)], inv := fun k => match k with
  | 2 => some { X := XPv n, sl := [5], tf := fun x => [vi .i64 x.lo], hf := fun _ => [], μ := fun x => x.lo.toNat }
  | 4 => some { X := XPv n, sl := [5], tf := fun x => [vi .i64 x.lo], hf := fun _ => [], μ := fun x => (n - x.lo).toNat }
  | _ => none }
def tPivot : Tfm C0 := fun args H K => match args, H with
  | [.at (.val (.int .i64 n)), .at (.val (.int .u64 t))], [] => 1 ≤ n ∧ n ≤ 100000 ∧ 0 ≤ t ∧ ∀ p, 0 ≤ p → p < n → balN p (n - 1 - p) → K (.one (.at (vI p))) [] []
  | _, _ => False
def tPlant (n : Nat) : Tfm C0 := fun args H K => match args with
  | [.at (.ptr 0 0), .at (.slc 7), .at (.val (.int .u64 t))] => arMr H fun S rest => match rest with
    | [.row false .ent l] => ∃ hs, Wf S hs ∧ l.length < n ∧ l.length ≤ 100000 ∧ (l.length : Int) ≤ S.free ∧ hs.length + l.length ≤ 900000000 ∧ 0 ≤ t ∧ ∀ S' i, PlantR S hs l S' i → K (.tup [.at (vU i), .at (vB true)]) (chS S' ++ [.row false EC.ent l]) W7
    | _ => False
  | _ => False
noncomputable def aPlant (n : Nat) : Ann C0 := { Γ := [(100, frameT [] tPivot), (64, frameT [] (tPlant n)), (101, frameT [] tMakeOk), (29, frameT [] tGive)] }
theorem vc_least (n : Int) (K : KT) (h1 : 0 ≤ n) (h2 : n ≤ 1000000) (h : ∀ x, x = n / 4 → K (.one (.at (vI x))) [] []) : vc C0 A0 Try.f125 [.at (vI n)] [] (normK 0 K) := by
  refine Eq.mp (show (K (SV.one (TV.at (At.val (Value.int IntKind.i64 (IntKind.i64.wrap ((if n > 0 then n else 0).tdiv 4)))))) [] []) = _ by kernel_rfl) ?_
  have e : (if n > 0 then n else 0) = n := by split <;> omega
  rw [e, Int.tdiv_eq_ediv_of_nonneg h1, wrap_id (by omega) (by omega)]
  exact h _ rfl
theorem s_least : SoundT C0 125 tLeast := by
  refine .of Try.func125 (by decide) rfl fun args H K h hB => ?_
  unfold tLeast at h
  split at h <;> try exact h.elim
  rename_i n
  exact ⟨A0, trivial, vc_least n K h.1 h.2.1 h.2.2⟩
theorem vc_bal (l r : Int) (K : KT) (h1 : 0 ≤ l) (h2 : l ≤ 1000000) (h3 : 0 ≤ r) (h4 : r ≤ 1000000) (h : ∀ b, b = balB l r → K (.one (.at (vB b))) [] []) : vc C0 A0 Try.f48 [.at (vI l), .at (vI r)] [] (normK 0 K) := by
  refine Eq.mp (show (brS (decide (l < 0)) ((K (SV.one (TV.at (At.val (Value.bool false)))) [] [])) ((brS (decide (l > 2147483647)) ((K (SV.one (TV.at (At.val (Value.bool false)))) [] [])) ((brS (decide (r < 0)) ((K (SV.one (TV.at (At.val (Value.bool false)))) [] [])) ((brS (decide (r > 2147483647)) ((K (SV.one (TV.at (At.val (Value.bool false)))) [] [])) ((brS (decide (IntKind.i64.wrap (l + 1) ≤ IntKind.i64.wrap (3 * IntKind.i64.wrap (r + 1)))) ((K (SV.one (TV.at (At.val (Value.bool (decide (IntKind.i64.wrap (r + 1) ≤ IntKind.i64.wrap (3 * IntKind.i64.wrap (l + 1)))))))) [] [])) ((K (SV.one (TV.at (At.val (Value.bool false)))) [] []))))))))))) = _ by kernel_rfl) ?_
  rw [wrap_id (x := l + 1) (by omega) (by omega), wrap_id (x := r + 1) (by omega) (by omega), wrap_id (x := 3 * (l + 1)) (by omega) (by omega), wrap_id (x := 3 * (r + 1)) (by omega) (by omega)]
  refine brS_of (fun c => ?_) fun _ => brS_of (fun c => ?_) fun _ => brS_of (fun c => ?_) fun _ => brS_of (fun c => ?_) fun _ => brS_of (fun c => ?_) fun c => ?_
  · have := of_decide_eq_true c; omega
  · have : l > 2147483647 := of_decide_eq_true c; omega
  · have := of_decide_eq_true c; omega
  · have : r > 2147483647 := of_decide_eq_true c; omega
  · have c : l + 1 ≤ 3 * (r + 1) := of_decide_eq_true c
    exact h _ (by unfold balB balN; simp [c])
  · have c : ¬ l + 1 ≤ 3 * (r + 1) := of_decide_eq_false c
    exact h _ (by unfold balB balN; simp [c])
theorem s_bal : SoundT C0 48 tBal := by
  refine .of Try.func48 (by decide) rfl fun args H K h hB => ?_
  unfold tBal at h
  split at h <;> try exact h.elim
  rename_i l r
  exact ⟨A0, trivial, vc_bal l r K h.1 h.2.1 h.2.2.1 h.2.2.2.1 h.2.2.2.2⟩
theorem vc_pivot (n t : Int) (K : KT) (h1 : 1 ≤ n) (h2 : n ≤ 100000) (h3 : 0 ≤ t) (h : ∀ p, 0 ≤ p → p < n → balN p (n - 1 - p) → K (.one (.at (vI p))) [] []) :
    vc C0 (aPivot n) Try.f100 [.at (vI n), .at (vU64 t)] [] (normK 0 K) := by
  refine Eq.mp (show ((0 ≤ n) ∧
(n ≤ 1000000) ∧
(∀ x : Int, (((x) = (n / 4)) → ((∃ x1 : XPv n, (True ∧ (((Value.int IntKind.i64 (n)) = (Value.int IntKind.i64 (n))) ∧ ((Value.int IntKind.u64 (t)) = (Value.int IntKind.u64 (t))) ∧ ((Value.int IntKind.i64 (x)) = (Value.int IntKind.i64 (x1.lo))) ∧ True) ∧ True)) ∧ (∀ x1 : XPv n, (True → (brS (decide (x1.lo > 0)) (((0 ≤ IntKind.i64.wrap (x1.lo - 1)) ∧ (IntKind.i64.wrap (x1.lo - 1) ≤ 1000000) ∧ (0 ≤ IntKind.i64.wrap (n - x1.lo)) ∧ (IntKind.i64.wrap (n - x1.lo) ≤ 1000000) ∧ (∀ b : Bool, (((b) = (balB (IntKind.i64.wrap (x1.lo - 1)) (IntKind.i64.wrap (n - x1.lo)))) → (brS (b) ((∃ x' : XPv n, (True ∧ ((((Value.int IntKind.i64 (n)) = (Value.int IntKind.i64 (n))) ∧ ((Value.int IntKind.u64 (t)) = (Value.int IntKind.u64 (t))) ∧ ((Value.int IntKind.i64 (IntKind.i64.wrap (x1.lo - 1))) = (Value.int IntKind.i64 (x'.lo))) ∧ True) ∧ True) ∧ (x'.lo.toNat < x1.lo.toNat)))) (((∃ x2 : XPv n, (True ∧ (((Value.int IntKind.i64 (n)) = (Value.int IntKind.i64 (n))) ∧ ((Value.int IntKind.u64 (t)) = (Value.int IntKind.u64 (t))) ∧ ((Value.int IntKind.i64 (x1.lo)) = (Value.int IntKind.i64 (x2.lo))) ∧ True) ∧ True)) ∧ (∀ x2 : XPv n, (True → (brS (decide (x2.lo < IntKind.i64.wrap (n - 1))) (((0 ≤ x2.lo) ∧ (x2.lo ≤ 1000000) ∧ (0 ≤ IntKind.i64.wrap (IntKind.i64.wrap (n - 1) - x2.lo)) ∧ (IntKind.i64.wrap (IntKind.i64.wrap (n - 1) - x2.lo) ≤ 1000000) ∧ (∀ b1 : Bool, (((b1) = (balB x2.lo (IntKind.i64.wrap (IntKind.i64.wrap (n - 1) - x2.lo)))) → (brS (!b1) ((∃ x' : XPv n, (True ∧
    ((((Value.int IntKind.i64 (n)) = (Value.int IntKind.i64 (n))) ∧ ((Value.int IntKind.u64 (t)) = (Value.int IntKind.u64 (t))) ∧ ((Value.int IntKind.i64 (IntKind.i64.wrap (x2.lo + 1))) = (Value.int IntKind.i64 (x'.lo))) ∧ True) ∧ True) ∧ ((n - x'.lo).toNat < (n - x2.lo).toNat)))) ((brS (decide (IntKind.i64.wrap (IntKind.i64.wrap (n - 1) - x2.lo) < x2.lo)) ((K (SV.one (TV.at (At.val (Value.int IntKind.i64 (IntKind.i64.wrap (n.tdiv 2)))))) [] [])) (((IntKind.u64.wrap (IntKind.i64.wrap (IntKind.i64.wrap (IntKind.i64.wrap (IntKind.i64.wrap (n - 1) - x2.lo) - x2.lo) + 1)) ≠ 0) ∧ (K (SV.one (TV.at (At.val (Value.int IntKind.i64 (IntKind.i64.wrap (x2.lo + IntKind.i64.wrap (t.tmod (IntKind.u64.wrap (IntKind.i64.wrap (IntKind.i64.wrap (IntKind.i64.wrap (IntKind.i64.wrap (n - 1) - x2.lo) - x2.lo) + 1)))))))))) [] [])))))))))) ((brS (decide (IntKind.i64.wrap (IntKind.i64.wrap (n - 1) - x2.lo) < x2.lo)) ((K (SV.one (TV.at (At.val (Value.int IntKind.i64 (IntKind.i64.wrap (n.tdiv 2)))))) [] [])) (((IntKind.u64.wrap (IntKind.i64.wrap (IntKind.i64.wrap (IntKind.i64.wrap (IntKind.i64.wrap (n - 1) - x2.lo) - x2.lo) + 1)) ≠ 0) ∧ (K (SV.one (TV.at (At.val (Value.int IntKind.i64 (IntKind.i64.wrap (x2.lo + IntKind.i64.wrap (t.tmod (IntKind.u64.wrap (IntKind.i64.wrap (IntKind.i64.wrap (IntKind.i64.wrap (IntKind.i64.wrap (n - 1) - x2.lo) - x2.lo) + 1)))))))))) [] []))))))))))))))) (((∃ x2 : XPv n, (True ∧ (((Value.int IntKind.i64 (n)) = (Value.int IntKind.i64 (n))) ∧
    ((Value.int IntKind.u64 (t)) = (Value.int IntKind.u64 (t))) ∧ ((Value.int IntKind.i64 (x1.lo)) = (Value.int IntKind.i64 (x2.lo))) ∧ True) ∧ True)) ∧ (∀ x2 : XPv n, (True → (brS (decide (x2.lo < IntKind.i64.wrap (n - 1))) (((0 ≤ x2.lo) ∧ (x2.lo ≤ 1000000) ∧ (0 ≤ IntKind.i64.wrap (IntKind.i64.wrap (n - 1) - x2.lo)) ∧ (IntKind.i64.wrap (IntKind.i64.wrap (n - 1) - x2.lo) ≤ 1000000) ∧ (∀ b : Bool, (((b) = (balB x2.lo (IntKind.i64.wrap (IntKind.i64.wrap (n - 1) - x2.lo)))) → (brS (!b) ((∃ x' : XPv n, (True ∧ ((((Value.int IntKind.i64 (n)) = (Value.int IntKind.i64 (n))) ∧ ((Value.int IntKind.u64 (t)) = (Value.int IntKind.u64 (t))) ∧ ((Value.int IntKind.i64 (IntKind.i64.wrap (x2.lo + 1))) = (Value.int IntKind.i64 (x'.lo))) ∧ True) ∧ True) ∧ ((n - x'.lo).toNat < (n - x2.lo).toNat)))) ((brS (decide (IntKind.i64.wrap (IntKind.i64.wrap (n - 1) - x2.lo) < x2.lo)) ((K (SV.one (TV.at (At.val (Value.int IntKind.i64 (IntKind.i64.wrap (n.tdiv 2)))))) [] [])) (((IntKind.u64.wrap (IntKind.i64.wrap (IntKind.i64.wrap (IntKind.i64.wrap (IntKind.i64.wrap (n - 1) - x2.lo) - x2.lo) + 1)) ≠ 0) ∧ (K (SV.one (TV.at (At.val (Value.int IntKind.i64 (IntKind.i64.wrap (x2.lo + IntKind.i64.wrap (t.tmod (IntKind.u64.wrap (IntKind.i64.wrap (IntKind.i64.wrap (IntKind.i64.wrap (IntKind.i64.wrap (n - 1) - x2.lo) - x2.lo) + 1)))))))))) [] [])))))))))) ((brS (decide (IntKind.i64.wrap (IntKind.i64.wrap (n - 1) - x2.lo) < x2.lo)) ((K (SV.one (TV.at (At.val (Value.int IntKind.i64 (IntKind.i64.wrap (n.tdiv 2)))))) [] []))
    (((IntKind.u64.wrap (IntKind.i64.wrap (IntKind.i64.wrap (IntKind.i64.wrap (IntKind.i64.wrap (n - 1) - x2.lo) - x2.lo) + 1)) ≠ 0) ∧ (K (SV.one (TV.at (At.val (Value.int IntKind.i64 (IntKind.i64.wrap (x2.lo + IntKind.i64.wrap (t.tmod (IntKind.u64.wrap (IntKind.i64.wrap (IntKind.i64.wrap (IntKind.i64.wrap (IntKind.i64.wrap (n - 1) - x2.lo) - x2.lo) + 1)))))))))) [] []))))))))))))))))) = _ by kernel_rfl) ?_
  refine ⟨by omega, by omega, fun x hx => ⟨⟨⟨x, by omega, by omega, ⟨by omega, by omega⟩⟩, trivial, ⟨rfl, rfl, rfl, trivial⟩, trivial⟩, fun x1 _ => ?_⟩⟩
  obtain ⟨k1, k2, k3, k4⟩ := x1.h
  rw [wrap_id (x := x1.lo - 1) (by omega) (by omega), wrap_id (x := n - x1.lo) (by omega) (by omega)]
  refine brS_of (fun c => ?_) fun c => ?_
  · have c : x1.lo > 0 := of_decide_eq_true c
    refine ⟨by omega, by omega, by omega, by omega, fun b hb => brS_of (fun d => ?_) fun d => ?_⟩
    · rw [d] at hb
      have hb : balN (x1.lo - 1) (n - x1.lo) := of_decide_eq_true hb.symm
      refine ⟨⟨x1.lo - 1, by omega, by omega, by rw [show n - 1 - (x1.lo - 1) = n - x1.lo by omega]; exact hb⟩, trivial, ⟨⟨rfl, rfl, rfl, trivial⟩, trivial⟩, ?_⟩
      show (x1.lo - 1).toNat < x1.lo.toNat
      omega
    · skip
      refine ⟨⟨x1, trivial, ⟨rfl, rfl, rfl, trivial⟩, trivial⟩, fun x2 _ => ?_⟩
      obtain ⟨l1, l2, l3, l4⟩ := x2.h
      rw [wrap_id (x := n - 1) (by omega) (by omega), wrap_id (x := n - 1 - x2.lo) (by omega) (by omega)]
      refine brS_of (fun e => ⟨l1, by omega, by omega, by omega, fun b1 hb1 => brS_of (fun f => ?_) fun f => ?_⟩) fun e => ?_
      · have e : b1 = true := by rw [hb1]; exact decide_eq_true ⟨l3, l4⟩
        rw [e] at f; cases f
      · skip
        rw [wrap_id (x := n - 1 - x2.lo - x2.lo) (by omega) (by omega), wrap_id (x := n - 1 - x2.lo - x2.lo + 1) (by omega) (by omega)]
        refine brS_of (fun g => ?_) fun g => ?_
        · have g : n - 1 - x2.lo < x2.lo := of_decide_eq_true g
          rw [Int.tdiv_eq_ediv_of_nonneg (by omega), wrap_id (by omega) (by omega)]
          exact h _ (by omega) (by omega) ⟨by omega, by omega⟩
        · have g : ¬ n - 1 - x2.lo < x2.lo := of_decide_eq_false g
          have hm := Int.emod_nonneg t (show n - 1 - x2.lo - x2.lo + 1 ≠ 0 by omega)
          have hm2 := Int.emod_lt_of_pos t (show 0 < n - 1 - x2.lo - x2.lo + 1 by omega)
          rw [wrap_u64 (by omega) (by omega), Int.tmod_eq_emod_of_nonneg h3, wrap_id (x := t % _) (by omega) (by omega), wrap_id (by omega) (by omega)]
          exact ⟨by omega, h _ (by omega) (by omega) ⟨by omega, by omega⟩⟩
      · skip
        rw [wrap_id (x := n - 1 - x2.lo - x2.lo) (by omega) (by omega), wrap_id (x := n - 1 - x2.lo - x2.lo + 1) (by omega) (by omega)]
        refine brS_of (fun g => ?_) fun g => ?_
        · have g : n - 1 - x2.lo < x2.lo := of_decide_eq_true g
          rw [Int.tdiv_eq_ediv_of_nonneg (by omega), wrap_id (by omega) (by omega)]
          exact h _ (by omega) (by omega) ⟨by omega, by omega⟩
        · have g : ¬ n - 1 - x2.lo < x2.lo := of_decide_eq_false g
          have hm := Int.emod_nonneg t (show n - 1 - x2.lo - x2.lo + 1 ≠ 0 by omega)
          have hm2 := Int.emod_lt_of_pos t (show 0 < n - 1 - x2.lo - x2.lo + 1 by omega)
          rw [wrap_u64 (by omega) (by omega), Int.tmod_eq_emod_of_nonneg h3, wrap_id (x := t % _) (by omega) (by omega), wrap_id (by omega) (by omega)]
          exact ⟨by omega, h _ (by omega) (by omega) ⟨by omega, by omega⟩⟩
  · skip
    refine ⟨⟨x1, trivial, ⟨rfl, rfl, rfl, trivial⟩, trivial⟩, fun x2 _ => ?_⟩
    obtain ⟨l1, l2, l3, l4⟩ := x2.h
    rw [wrap_id (x := n - 1) (by omega) (by omega), wrap_id (x := n - 1 - x2.lo) (by omega) (by omega)]
    refine brS_of (fun e => ⟨l1, by omega, by omega, by omega, fun b1 hb1 => brS_of (fun f => ?_) fun f => ?_⟩) fun e => ?_
    · have e : b1 = true := by rw [hb1]; exact decide_eq_true ⟨l3, l4⟩
      rw [e] at f; cases f
    · skip
      rw [wrap_id (x := n - 1 - x2.lo - x2.lo) (by omega) (by omega), wrap_id (x := n - 1 - x2.lo - x2.lo + 1) (by omega) (by omega)]
      refine brS_of (fun g => ?_) fun g => ?_
      · have g : n - 1 - x2.lo < x2.lo := of_decide_eq_true g
        rw [Int.tdiv_eq_ediv_of_nonneg (by omega), wrap_id (by omega) (by omega)]
        exact h _ (by omega) (by omega) ⟨by omega, by omega⟩
      · have g : ¬ n - 1 - x2.lo < x2.lo := of_decide_eq_false g
        have hm := Int.emod_nonneg t (show n - 1 - x2.lo - x2.lo + 1 ≠ 0 by omega)
        have hm2 := Int.emod_lt_of_pos t (show 0 < n - 1 - x2.lo - x2.lo + 1 by omega)
        rw [wrap_u64 (by omega) (by omega), Int.tmod_eq_emod_of_nonneg h3, wrap_id (x := t % _) (by omega) (by omega), wrap_id (by omega) (by omega)]
        exact ⟨by omega, h _ (by omega) (by omega) ⟨by omega, by omega⟩⟩
    · skip
      rw [wrap_id (x := n - 1 - x2.lo - x2.lo) (by omega) (by omega), wrap_id (x := n - 1 - x2.lo - x2.lo + 1) (by omega) (by omega)]
      refine brS_of (fun g => ?_) fun g => ?_
      · have g : n - 1 - x2.lo < x2.lo := of_decide_eq_true g
        rw [Int.tdiv_eq_ediv_of_nonneg (by omega), wrap_id (by omega) (by omega)]
        exact h _ (by omega) (by omega) ⟨by omega, by omega⟩
      · have g : ¬ n - 1 - x2.lo < x2.lo := of_decide_eq_false g
        have hm := Int.emod_nonneg t (show n - 1 - x2.lo - x2.lo + 1 ≠ 0 by omega)
        have hm2 := Int.emod_lt_of_pos t (show 0 < n - 1 - x2.lo - x2.lo + 1 by omega)
        rw [wrap_u64 (by omega) (by omega), Int.tmod_eq_emod_of_nonneg h3, wrap_id (x := t % _) (by omega) (by omega), wrap_id (by omega) (by omega)]
        exact ⟨by omega, h _ (by omega) (by omega) ⟨by omega, by omega⟩⟩
theorem s_pivot : SoundT C0 100 tPivot := by
  refine .of Try.func100 (by decide) rfl fun args H K h hB => ?_
  unfold tPivot at h
  split at h <;> try exact h.elim
  rename_i n t
  exact ⟨aPivot n, ⟨frame C0.ok s_least _, frame C0.ok s_bal _, trivial⟩, vc_pivot n t K h.1 h.2.1 h.2.2.1 h.2.2.2⟩
theorem wrap_u64_nonneg (x : Int) : 0 ≤ IntKind.u64.wrap x := by
  unfold IntKind.wrap
  simp [IntKind.signed, IntKind.bits]
  omega
theorem split_at {l : List Ent} {p : Nat} (hp : p < l.length) : l.take p ++ l.getD p (0, 0) :: l.drop (p + 1) = l := by
  have h : l[p]? = some (l.getD p (0, 0)) := by simp [List.getD_eq_getElem?_getD, List.getElem?_eq_getElem hp]
  rw [← drop_cons h, List.take_append_drop]
theorem vc_plant (n : Nat) (S : Arn) (l : List Ent) (t : Int) (K : KT) (hs : List Int) (hw : Wf S hs) (h1 : l.length < n + 1) (h2 : l.length ≤ 100000) (h3 : (l.length : Int) ≤ S.free) (h4 : hs.length + l.length ≤ 900000000) (h5 : 0 ≤ t)
    (h : ∀ S' i, PlantR S hs l S' i → K (.tup [.at (vU i), .at (vB true)]) (chS S' ++ [.row false EC.ent l]) W7) :
    vc C0 (aPlant n) Try.f64 [.at (.ptr 0 0), .at (.slc 7), .at (vU64 t)] (chS S ++ [.row false EC.ent l]) (normK 8 (wideK W7 K)) := by
  refine Eq.mp (show (brS ((↑l.length : Int) == 0) ((K (SV.tup [(TV.at (At.val (Value.int IntKind.u32 0))), (TV.at (At.val (Value.bool true)))]) [(Chunk.box [(At.ptr 1 0), (At.slc 2), (At.slc 3), (At.val (Value.int IntKind.u64 (S.reads)))]), (Chunk.box [(At.slc 4), (At.slc 5), (At.slc 6), (At.val (Value.int IntKind.u32 (S.fresh)))]), (Chunk.row true (EC.node) (S.nodes)), (Chunk.row true (EC.int) (S.counts)), (Chunk.row true (EC.bool) (S.used)), (Chunk.row true (EC.u32) (S.gen)), (Chunk.row true (EC.u32) (S.rel)), (Chunk.row false (EC.ent) (l))] [0, 1, 2, 3, 4, 5, 6])) (((1 ≤ (↑l.length : Int)) ∧ ((↑l.length : Int) ≤ 100000) ∧ (0 ≤ t) ∧ (∀ p : Int, ((0 ≤ p) → ((p < (↑l.length : Int)) → ((balN p ((↑l.length : Int) - 1 - p)) → (((0 : Int) ≤ 0) ∧ (0 ≤ p) ∧ (p ≤ (↑l.length : Int)) ∧ (∃ hs : List Int, ((Wf S hs) ∧ ((List.drop (Int.toNat 0) (List.take p.toNat l)).length < n) ∧ ((List.drop (Int.toNat 0) (List.take p.toNat l)).length ≤ 100000) ∧ ((↑(List.drop (Int.toNat 0) (List.take p.toNat l)).length : Int) ≤ S.free) ∧ (hs.length + (List.drop (Int.toNat 0) (List.take p.toNat l)).length ≤ 900000000) ∧ (0 ≤ IntKind.u64.wrap (IntKind.u64.wrap (t.tdiv 5) + IntKind.u64.wrap (t * 3))) ∧ (∀ S' : Arn, (∀ i : Int, ((PlantR S hs (List.drop (Int.toNat 0) (List.take p.toNat l)) S' i) → ((0 ≤ IntKind.i64.wrap (p + 1)) ∧ (IntKind.i64.wrap (p + 1) ≤ (↑l.length : Int)) ∧ ((↑l.length : Int) ≤ (↑l.length : Int)) ∧ (∃ hs1 : List Int, ((Wf S' hs1) ∧
    ((List.drop (IntKind.i64.wrap (p + 1)).toNat (List.take (↑l.length : Int).toNat l)).length < n) ∧ ((List.drop (IntKind.i64.wrap (p + 1)).toNat (List.take (↑l.length : Int).toNat l)).length ≤ 100000) ∧ ((↑(List.drop (IntKind.i64.wrap (p + 1)).toNat (List.take (↑l.length : Int).toNat l)).length : Int) ≤ S'.free) ∧ (hs1.length + (List.drop (IntKind.i64.wrap (p + 1)).toNat (List.take (↑l.length : Int).toNat l)).length ≤ 900000000) ∧ (0 ≤ IntKind.u64.wrap (IntKind.u64.wrap (IntKind.u64.wrap (t.tdiv 7) + IntKind.u64.wrap (t * 5)) + 1)) ∧ (∀ S'1 : Arn, (∀ i1 : Int, ((PlantR S' hs1 (List.drop (IntKind.i64.wrap (p + 1)).toNat (List.take (↑l.length : Int).toNat l)) S'1 i1) → ((0 ≤ p) ∧ (p < (↑l.length : Int)) ∧ (0 ≤ p) ∧ (p < (↑l.length : Int)) ∧ (exW S'1) ∧ (live S'1 i) ∧ (live S'1 i1) ∧ ((mkNode S'1 (l.getD p.toNat (0, 0)).fst (l.getD p.toNat (0, 0)).snd i i1).size ≤ maxSize) ∧ (0 < S'1.free) ∧ (∀ S'2 : Arn, (∀ i2 : Int, (((S'2) = (makeS S'1 (l.getD p.toNat (0, 0)).fst (l.getD p.toNat (0, 0)).snd i i1)) → (((i2) = (nxt S'1)) → (∃ hs2 : List Int, ((Wf S'2 (i :: hs2)) ∧ (((S'2.us i) = true) → (1 ≤ S'2.indeg i)) ∧ (∀ S'3 : Arn, (((S'3) = (relA S'2 i)) → (∃ hs3 : List Int, ((Wf S'3 (i1 :: hs3)) ∧ (((S'3.us i1) = true) → (1 ≤ S'3.indeg i1)) ∧ (∀ S'4 : Arn, (((S'4) = (relA S'3 i1)) →
    (K (SV.tup [(TV.at (At.val (Value.int IntKind.u32 (i2)))), (TV.at (At.val (Value.bool (i2 != 0))))]) [(Chunk.box [(At.ptr 1 0), (At.slc 2), (At.slc 3), (At.val (Value.int IntKind.u64 (S'4.reads)))]), (Chunk.box [(At.slc 4), (At.slc 5), (At.slc 6), (At.val (Value.int IntKind.u32 (S'4.fresh)))]), (Chunk.row true (EC.node) (S'4.nodes)), (Chunk.row true (EC.int) (S'4.counts)), (Chunk.row true (EC.bool) (S'4.used)), (Chunk.row true (EC.u32) (S'4.gen)), (Chunk.row true (EC.u32) (S'4.rel)), (Chunk.row false (EC.ent) (l))] [0, 1, 2, 3, 4, 5, 6]))))))))))))))))))))))))))))))))) = _ by kernel_rfl) ?_
  refine brS_of (fun c => ?_) fun c => ⟨?_, by omega, h5, fun p p0 p1 hb => ?_⟩
  · have e : l = [] := List.length_eq_zero_iff.1 (by simpa using c)
    have hr : PlantR S hs l S 0 := by rw [e]; exact PlantR.nil hw (by omega)
    exact h S 0 hr
  · have c : ¬ (l.length : Int) = 0 := by simpa using c
    omega
  · have hp : p.toNat < l.length := by omega
    have ea : List.drop (Int.toNat 0) (List.take p.toNat l) = l.take p.toNat := rfl
    rw [wrap_id (x := p + 1) (by omega) (by omega), ea, show (l.length : Int).toNat = l.length by omega, List.take_length, show (p + 1).toNat = p.toNat + 1 by omega]
    have la : (l.take p.toNat).length = p.toNat := by simp; omega
    have lb : (l.drop (p.toNat + 1)).length = l.length - (p.toNat + 1) := by simp
    have hf := hw.free_nonneg
    refine ⟨by decide, p0, by omega, hs, hw, by omega, by omega, by omega, by omega, wrap_u64_nonneg _, fun S1 il r1 => ?_⟩
    have hf1 := r1.wf.free_nonneg
    have n1 := r1.nu
    have c1 : S1.cap = S.cap := by unfold Arn.cap; rw [r1.len]
    refine ⟨by omega, by omega, by omega, il :: hs, r1.wf, by omega, by omega, by omega, by simp; omega, wrap_u64_nonneg _, fun S2 ir r2 => ?_⟩
    have hf2 := r2.wf.free_nonneg
    have n2 := r2.nu
    have c2 : S2.cap = S1.cap := by unfold Arn.cap; rw [r2.len]
    have hw2 : Wf S2 (il :: ir :: hs) := r2.wf.perm (List.Perm.swap _ _ _)
    have hfr : 0 < S2.free := by omega
    obtain ⟨tl, q1, q2, _⟩ := r1.rep
    obtain ⟨tr, q3, q4, _⟩ := r2.rep
    have q1' : Rep S2 tl il := q1.held r1.wf r2.stay (.inr (by simp))
    have s1 : tl.size = p.toNat := by rw [← tl.list_len, q2, la]
    have s2 : tr.size = l.length - (p.toNat + 1) := by rw [← tr.list_len, q4, lb]
    have hz : ∀ k v, (mkNode S2 k v il ir).size ≤ maxSize := fun k v => by rw [mk_size hw2 q1' q3]; unfold maxSize; omega
    refine ⟨p0, p1, p0, p1, ⟨_, hw2⟩, hw2.held il (by simp), hw2.held ir (by simp), hz _ _, hfr, fun S3 i e1 e2 => ?_⟩
    obtain ⟨t1, t2, t3, t4⟩ := node_two (k := (l.getD p.toNat (0, 0)).1) (v := (l.getD p.toNat (0, 0)).2) hw2 hfr (hz _ _) (by omega)
    subst e1
    refine ⟨_, t1, t2, fun S4 e3 => ?_⟩
    subst e3
    refine ⟨_, t3, t4, fun S5 e4 => ?_⟩
    have hx := (hw2.nxt_spec hfr).1
    have hi0 : (i != 0) = true := by rw [e2]; simp; omega
    rw [hi0]
    refine h S5 i ?_
    have hr : PlantR S hs (l.take p.toNat ++ l.getD p.toNat (0, 0) :: l.drop (p.toNat + 1)) S5 i := r1.node r2 (by rw [la, lb]; have e : ((l.length - (p.toNat + 1) : Nat) : Int) = (l.length : Int) - 1 - p := (by omega); rw [e, show (p.toNat : Int) = p by omega]; exact hb) fun tl' tr' x1 x2 => by
      rw [e4, e2]; exact node_ok hw2 hfr (hz _ _) (by omega) x1 x2
    rw [split_at hp] at hr
    exact hr
theorem s_plant : ∀ n, SoundT C0 64 (tPlant n) := by
  intro n
  induction n with
  | zero =>
    refine .of Try.func64 (by decide) rfl fun args H K h hB => ?_
    exfalso
    unfold tPlant at h
    split at h <;> try exact h.elim
    unfold arMr at h
    split at h <;> try exact h.elim
    split at h <;> try exact h.elim
    obtain ⟨_, _, h1, _⟩ := h
    omega
  | succ n ih =>
    refine .ofW W7 Try.func64 (by decide) rfl fun args H K h hB => ?_
    unfold tPlant at h
    split at h <;> try exact h.elim
    unfold arMr at h
    split at h <;> try exact h.elim
    split at h <;> try exact h.elim
    rename_i t _ rd fr nd ct us gn rl _ l
    obtain ⟨hs, h1, h2, h3, h4, h5, h6, h7⟩ := h
    exact ⟨aPlant n, ⟨frame C0.ok s_pivot _, frame C0.ok ih _, frame C0.ok s_makeOk _, frame C0.ok s_give _, trivial⟩, vc_plant n ⟨us, gn, rl, fr, nd, ct, rd⟩ l t K hs h1 h2 h3 h4 h5 h6 h7⟩
def tPlantA : Tfm C0 := fun args H K => match args with
  | [.at (.ptr 0 0), .at (.slc 7), .at (.val (.int .u64 t))] => arMr H fun S rest => match rest with
    | [.row false .ent l] => ∃ hs, Wf S hs ∧ l.length ≤ 100000 ∧ (l.length : Int) ≤ S.free ∧ hs.length + l.length ≤ 900000000 ∧ 0 ≤ t ∧ ∀ S' i, PlantR S hs l S' i → K (.tup [.at (vU i), .at (vB true)]) (chS S' ++ [.row false EC.ent l]) W7
    | _ => False
  | _ => False
theorem s_plantA : SoundT C0 64 tPlantA := (s_plant 100001).weak fun args H K h => by
  unfold tPlantA at h
  unfold tPlant
  split at h <;> try exact h.elim
  unfold arMr at h ⊢
  split at h <;> try exact h.elim
  split at h <;> try exact h.elim
  obtain ⟨hs, h1, h2, h3, h4, h5, h6⟩ := h
  exact ⟨hs, h1, by omega, h2, h3, h4, h5, h6⟩
end Go.Proofs.Ytjbkckcjmmmooaa.Sx
end
section
/- Ranks and positions in a tree. No program in sight. -/
namespace Go.Proofs.Ytjbkckcjmmmooaa
open Go

def bf : Tr → Int → Bool → Nat × Nat
  | .nil, _, _ => (0, 0)
  | .node l k _ r, q, eq => if q < k ∨ (k = q ∧ eq = false) then ((bf l q eq).1, 1 + (bf l q eq).2) else (l.size + 1 + (bf r q eq).1, 1 + ne0 l + (bf r q eq).2)
theorem bf_le : ∀ (t : Tr) (q : Int) (eq : Bool), (bf t q eq).1 ≤ t.size ∧ (bf t q eq).2 ≤ 2 * t.size
  | .nil, q, eq => by simp [bf, Tr.size]
  | .node l k v r, q, eq => by
    have h1 := bf_le l q eq
    have h2 := bf_le r q eq
    have hm : ne0 l ≤ 1 := by unfold ne0; split <;> omega
    simp only [bf, Tr.size]
    split <;> simp only [] <;> omega
def sel : Tr → Int → Option Ent × Nat
  | .nil, _ => (none, 0)
  | .node l k v r, i => if i < (l.size : Int) then ((sel l i).1, 1 + ne0 l + (sel l i).2) else if (l.size : Int) < i then ((sel r (i - (l.size + 1))).1, 1 + ne0 l + (sel r (i - (l.size + 1))).2) else (some (k, v), 1 + ne0 l)
def selR (t : Tr) (i : Int) : Option Ent × Nat := if i < 0 then (none, 0) else if (t.size : Int) ≤ i then (none, ne0 t) else ((sel t i).1, ne0 t + (sel t i).2)
theorem sel_le : ∀ (t : Tr) (i : Int), (sel t i).2 ≤ 2 * t.size
  | .nil, i => by simp [sel, Tr.size]
  | .node l k v r, i => by
    have h1 := sel_le l i
    have h2 := sel_le r (i - (l.size + 1))
    have hm : ne0 l ≤ 1 := by unfold ne0; split <;> omega
    simp only [sel, Tr.size]
    split
    · simp only []; omega
    · split <;> simp only [] <;> omega
/-- The entry at a position. -/
theorem sel_get : ∀ (t : Tr) (i : Nat), (sel t i).1 = t.list[i]?
  | .nil, i => by simp [sel, Tr.list]
  | .node l k v r, i => by
    have h1 := sel_get l i
    have hl := l.list_len
    simp only [sel, Tr.list]
    by_cases a : (i : Int) < l.size
    · rw [if_pos a]; simp only []
      rw [h1, List.getElem?_append_left (by omega)]
    · rw [if_neg a, List.getElem?_append_right (by omega), hl]
      by_cases b : (l.size : Int) < i
      · rw [if_pos b]; simp only []
        have h2 := sel_get r (i - (l.size + 1))
        rw [show (i : Int) - (l.size + 1) = ((i - (l.size + 1) : Nat) : Int) by omega, h2, show i - l.size = (i - (l.size + 1)) + 1 by omega, List.getElem?_cons_succ]
      · rw [if_neg b]; simp only []
        rw [show i - l.size = 0 by omega]; rfl
theorem bf_count : ∀ (t : Tr) (q : Int) (eq : Bool), Asc t.list → (bf t q eq).1 = (t.list.filter fun x => decide (x.1 < q) || (eq && decide (x.1 = q))).length
  | .nil, q, eq, _ => by simp [bf, Tr.list]
  | .node l k v r, q, eq, h => by
    have hl : Asc l.list := Srt.left h
    have hr : Asc r.list := (Srt.right h).tail
    have hlk : ∀ x ∈ l.list, x.1 < k := fun x hx => (List.pairwise_append.1 h).2.2 x hx (k, v) (by simp)
    have hkr : ∀ x ∈ r.list, k < x.1 := fun x hx => (Srt.right h).head x hx
    have h1 := bf_count l q eq hl
    have h2 := bf_count r q eq hr
    simp only [bf, Tr.list]
    rw [List.filter_append, List.filter_cons]
    by_cases a : q < k ∨ (k = q ∧ eq = false)
    · rw [if_pos a]; simp only []
      have e1 : (decide (k < q) || (eq && decide (k = q))) = false := by rcases a with a | ⟨a, b⟩; simp; exact ⟨by omega, fun _ => by omega⟩; simp [a, b]
      have e2 : r.list.filter (fun x => decide (x.1 < q) || (eq && decide (x.1 = q))) = [] := by
        rw [List.filter_eq_nil_iff]
        intro x hx
        have := hkr x hx
        rcases a with a | ⟨a, _⟩ <;> simp <;> omega
      simp [e1, e2, h1]
    · rw [if_neg a]; simp only []
      have e1 : (decide (k < q) || (eq && decide (k = q))) = true := by
        rcases Int.lt_trichotomy k q with c | c | c
        · simp [c]
        · have : eq = true := by cases eq <;> simp_all
          simp [this, c]
        · exact absurd (.inl c) a
      have e2 : l.list.filter (fun x => decide (x.1 < q) || (eq && decide (x.1 = q))) = l.list := by
        rw [List.filter_eq_self]
        intro x hx
        have := hlk x hx
        have : k ≤ q := by rcases Int.lt_trichotomy k q with c | c | c; omega; omega; exact absurd (.inl c) a
        simp; left; omega
      simp [e1, e2, h2, l.list_len]; omega
end Go.Proofs.Ytjbkckcjmmmooaa
end
section
/- Listing a tree gives what the reference gives. No program in sight. -/
namespace Go.Proofs.Ytjbkckcjmmmooaa
open Go

/-- The entries with keys from lo to hi. -/
def betE (l : List Ent) (lo hi : Int) : List Ent := l.filter fun x => decide (lo ≤ x.1) && decide (x.1 ≤ hi)
theorem node_asc {l r : Tr} {k v : Int} (h : Asc (Tr.node l k v r).list) : Asc l.list ∧ Asc r.list ∧ (∀ x ∈ l.list, x.1 < k) ∧ (∀ x ∈ r.list, k < x.1) :=
  ⟨Srt.left h, (Srt.right h).tail, fun x hx => (List.pairwise_append.1 h).2.2 x hx (k, v) (by simp), fun x hx => (Srt.right h).head x hx⟩
theorem lk_spec : ∀ (t : Tr) (lo hi : Int) (rm : Nat), Asc t.list → (lk t lo hi rm).1 = (betE t.list lo hi).take rm
  | .nil, lo, hi, rm, _ => by simp [lk, Tr.list, betE]
  | .node l k v r, lo, hi, rm, h => by
    obtain ⟨hl, hr, hlk, hkr⟩ := node_asc h
    by_cases h0 : rm = 0
    · simp [lk, h0]
    have ea : (if lo < k then lk l lo hi rm else ([], 0)).1 = (betE l.list lo hi).take rm := by
      by_cases c : lo < k
      · rw [if_pos c]; exact lk_spec l lo hi rm hl
      · rw [if_neg c]
        have : betE l.list lo hi = [] := by
          unfold betE; rw [List.filter_eq_nil_iff]
          intro x hx; have := hlk x hx; simp; omega
        rw [this]; simp
    have ec : ∀ m, (if k < hi then lk r lo hi m else ([], 0)).1 = (betE r.list lo hi).take m := by
      intro m
      by_cases c : k < hi
      · rw [if_pos c]; exact lk_spec r lo hi m hr
      · rw [if_neg c]
        have : betE r.list lo hi = [] := by
          unfold betE; rw [List.filter_eq_nil_iff]
          intro x hx; have := hkr x hx; simp; omega
        rw [this]; simp
    have eb : betE (Tr.node l k v r).list lo hi = betE l.list lo hi ++ (if lo ≤ k ∧ k ≤ hi then (k, v) :: betE r.list lo hi else betE r.list lo hi) := by
      unfold betE
      simp only [Tr.list]
      rw [List.filter_append, List.filter_cons]
      congr 1
      by_cases c : lo ≤ k ∧ k ≤ hi
      · rw [if_pos c, if_pos (by simp; exact c)]
      · rw [if_neg c, if_neg (by simp; omega)]
    rw [eb]
    simp only [lk, if_neg h0, ec]
    rw [ea, List.take_append]
    congr 1
    generalize betE l.list lo hi = A
    generalize betE r.list lo hi = B
    by_cases c : rm ≤ A.length
    · have e1 : (A.take rm).length = rm := by simp; omega
      rw [e1, if_neg (by omega), show rm - A.length = 0 by omega]
      simp
    · have e1 : (A.take rm).length = A.length := by simp; omega
      rw [e1]
      obtain ⟨m, hm⟩ : ∃ m, rm - A.length = m + 1 := ⟨rm - A.length - 1, by omega⟩
      by_cases d : lo ≤ k ∧ k ≤ hi
      · rw [if_pos ⟨d.1, d.2, by omega⟩, if_pos d, hm]
        simp only [List.take_succ_cons, List.singleton_append, List.length_singleton]
        rw [show rm - (A.length + 1) = m by omega]
      · rw [if_neg (fun q => d ⟨q.1, q.2.1⟩), if_neg d]
        simp
theorem betE_all {l : List Ent} (h : ∀ x ∈ l, -9223372036854775808 ≤ x.1 ∧ x.1 ≤ 9223372036854775807) : betE l (-9223372036854775808) 9223372036854775807 = l := by
  unfold betE; rw [List.filter_eq_self]; intro x hx; simpa using h x hx
theorem pl_spec : ∀ (t : Tr) (x y : Nat), y ≤ t.size → (pl t x y).1 = (t.list.drop x).take (y - x)
  | .nil, x, y, _ => by simp [pl, Tr.list]
  | .node l k v r, x, y, h => by
    have hl := l.list_len
    have hr := r.list_len
    have hz : y ≤ 1 + l.size + r.size := h
    simp only [pl, Tr.list]
    by_cases c : (y : Int) ≤ x
    · rw [if_pos c, show y - x = 0 by omega]; simp
    rw [if_neg c, List.drop_append, List.take_append]
    simp only []
    have ea : (if (x : Int) < (l.size : Int) then pl l x (if (l.size : Int) < y then (l.size : Int) else y) else ([], 0)).1 = (l.list.drop x).take (y - x) := by
      by_cases d : (x : Int) < l.size
      · rw [if_pos d]
        by_cases e : (l.size : Int) < y
        · rw [if_pos e, pl_spec l x l.size (Nat.le_refl _), List.take_of_length_le (by simp; omega), List.take_of_length_le (by simp; omega)]
        · rw [if_neg e, pl_spec l x y (by omega)]
      · rw [if_neg d, List.drop_eq_nil_of_le (by omega)]; simp
    rw [ea]
    congr 1
    have el : (List.drop x l.list).length = l.size - x := by simp [hl]
    rw [el, hl]
    by_cases d : (x : Int) ≤ l.size
    · rw [show x - l.size = 0 by omega, List.drop_zero, show y - x - (l.size - x) = y - l.size by omega]
      by_cases e : (l.size : Int) < y
      · rw [if_pos ⟨d, e⟩]
        obtain ⟨m, hm⟩ : ∃ m, y - l.size = m + 1 := ⟨y - l.size - 1, by omega⟩
        rw [hm, List.take_succ_cons]
        by_cases f : (l.size : Int) + 1 < y
        · rw [if_pos f, if_neg (by omega)]
          have := pl_spec r 0 m (by omega)
          rw [show (y : Int) - l.size - 1 = ((m : Nat) : Int) by omega]
          have e0 : ((0 : Nat) : Int) = 0 := rfl
          rw [e0] at this
          rw [this]; simp
        · rw [if_neg f, show m = 0 by omega]; simp
      · rw [if_neg (fun q => e q.2), if_neg (by omega), show y - l.size = 0 by omega]; simp
    · rw [if_neg (fun q => d q.1), if_pos (by omega)]
      obtain ⟨m, hm⟩ : ∃ m, x - l.size = m + 1 := ⟨x - l.size - 1, by omega⟩
      rw [hm, List.drop_succ_cons, show (if 0 < (x : Int) - l.size - 1 then (x : Int) - l.size - 1 else 0) = ((m : Nat) : Int) by split <;> omega, show (y : Int) - l.size - 1 = ((y - l.size - 1 : Nat) : Int) by omega, pl_spec r m (y - l.size - 1) (by omega)]
      simp only [List.nil_append]
      rw [show y - l.size - 1 - m = y - x - (l.size - x) by omega]
theorem asc_lt {l : List Ent} (h : Asc l) (q : Int) : l.filter (fun x => decide (x.1 < q)) = l.take (l.filter fun x => decide (x.1 < q)).length ∧ l.filter (fun x => decide (q ≤ x.1)) = l.drop (l.filter fun x => decide (x.1 < q)).length := by
  induction l with
  | nil => simp
  | cons a t ih =>
    obtain ⟨i1, i2⟩ := ih h.tail
    have hh := h.head
    by_cases c : a.1 < q
    · rw [List.filter_cons, if_pos (by simpa using c), List.filter_cons, if_neg (by simp; omega)]
      simp only [List.length_cons, List.take_succ_cons, List.drop_succ_cons]
      exact ⟨by rw [← i1], i2⟩
    · have e : ∀ x ∈ a :: t, ¬ x.1 < q := by
        intro x hx
        rcases List.mem_cons.1 hx with rfl | hx
        · exact c
        · have : a.1 < x.1 := hh x hx; omega
      have e1 : (a :: t).filter (fun x => decide (x.1 < q)) = [] := by rw [List.filter_eq_nil_iff]; intro x hx; simpa using e x hx
      have e2 : (a :: t).filter (fun x => decide (q ≤ x.1)) = a :: t := by rw [List.filter_eq_self]; intro x hx; have := e x hx; simp; omega
      rw [e1, e2]; simp
theorem filt_len {α : Type} (p : α → Bool) (m : List α) : m.length = (m.filter p).length + (m.filter fun x => !p x).length := by
  induction m with
  | nil => rfl
  | cons a t ih => cases c : p a <;> simp [c] <;> omega
/-- A range is the slice between two ranks. -/
theorem betE_slice {l : List Ent} (h : Asc l) (lo hi : Int) (hb : lo ≤ hi) : betE l lo hi = (l.drop (l.filter fun x => decide (x.1 < lo)).length).take ((l.filter fun x => decide (x.1 < hi + 1)).length - (l.filter fun x => decide (x.1 < lo)).length) := by
  obtain ⟨_, a2⟩ := asc_lt h lo
  have hd : Asc (l.filter fun x => decide (lo ≤ x.1)) := h.filter _
  obtain ⟨b1, _⟩ := asc_lt hd (hi + 1)
  have e1 : betE l lo hi = (l.filter fun x => decide (lo ≤ x.1)).filter fun x => decide (x.1 < hi + 1) := by
    unfold betE
    rw [List.filter_filter]
    congr 1
    funext x
    rw [Bool.and_comm]
    congr 1
    apply decide_eq_decide.2
    omega
  have e2 : ((l.filter fun x => decide (lo ≤ x.1)).filter fun x => decide (x.1 < hi + 1)).length = (l.filter fun x => decide (x.1 < hi + 1)).length - (l.filter fun x => decide (x.1 < lo)).length := by
    have := filt_len (fun x : Ent => decide (x.1 < lo)) (l.filter fun x => decide (x.1 < hi + 1))
    rw [this, List.filter_filter, List.filter_filter, List.filter_filter]
    have f1 : (fun x : Ent => decide (x.1 < lo) && decide (x.1 < hi + 1)) = fun x => decide (x.1 < lo) := by
      funext x; by_cases c : x.1 < lo
      · simp [c]; omega
      · simp [c]
    have f2 : (fun x : Ent => decide (x.1 < hi + 1) && decide (lo ≤ x.1)) = fun x => !decide (x.1 < lo) && decide (x.1 < hi + 1) := by
      funext x; by_cases c : x.1 < lo
      · simp [c]
      · have : lo ≤ x.1 := by omega
        simp [c, this]
    rw [f1, f2]; omega
  rw [e1, b1, e2, a2]
end Go.Proofs.Ytjbkckcjmmmooaa
end
