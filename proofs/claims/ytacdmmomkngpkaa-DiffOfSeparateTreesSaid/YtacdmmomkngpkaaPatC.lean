/- Plain laws of patches: compose and rebase. No program in sight. -/
import Derived.Test.YtacdmmomkngpkaaPatB
namespace Go.Proofs.Ytacdmmomkngpkaa

/-! ### Compose -/
def comp1 : Option Chg × Option Chg → List Chg
  | (some c, none) => [c]
  | (none, some d) => [d]
  | (some c, some d) => (mkChg c.key c.before d.after).toList
  | (none, none) => []
def meet1 : Option Chg × Option Chg → Bool
  | (some c, some d) => decide (c.after = d.before)
  | _ => true

def compGo : List (Option Chg × Option Chg) → Option (List Chg)
  | [] => some []
  | z :: t => if meet1 z then (compGo t).map (comp1 z ++ ·) else none

theorem compGo_eq (L : List (Option Chg × Option Chg)) : compGo L = if L.all meet1 then some (L.flatMap comp1) else none := by
  induction L with
  | nil => rfl
  | cons z t ih =>
    simp only [compGo, ih, List.all_cons, Bool.and_eq_true, List.flatMap_cons]
    by_cases h1 : meet1 z = true
    · by_cases h2 : t.all meet1 = true
      · simp only [h1, h2, if_true, and_self, Option.map_some]
      · rw [if_pos h1, if_neg h2, if_neg (fun h => h2 h.2)]; rfl
    · rw [if_neg h1, if_neg (fun h => h1 h.1)]

/-- What composing two valid patches comes to. -/
def comp (p q : List Chg) : Option (List Chg) := compGo (pC p q)

/-- Two patches along three lists. -/
theorem comp_btw {l m n : List Ent} (hl : Asc l) (hm : Asc m) (hn : Asc n) : comp (btw l m) (btw m n) = some (btw l n) := by
  have hp := btw_val hl hm
  have hq := btw_val hm hn
  have hz : ∀ z ∈ pC (btw l m) (btw m n), z = (mkChg (pkey Chg.key Chg.key z) (getE l (pkey Chg.key Chg.key z)) (getE m (pkey Chg.key Chg.key z)), mkChg (pkey Chg.key Chg.key z) (getE m (pkey Chg.key Chg.key z)) (getE n (pkey Chg.key Chg.key z))) := by
    intro z hz
    have h1 := (pairs_srt _ _ hp.1 hq.1).fnd_self hz
    rw [pairs_fnd _ _ hp.1 hq.1] at h1
    unfold both2 at h1
    split at h1
    · have h2 := Option.some.inj h1
      rw [btw_fnd hl hm, btw_fnd hm hn] at h2
      exact h2.symm
    · cases h1
  unfold comp
  rw [compGo_eq, if_pos]
  · congr 1
    have hf : ∀ z ∈ pC (btw l m) (btw m n), comp1 z = (mkChg (pkey Chg.key Chg.key z) (getE l (pkey Chg.key Chg.key z)) (getE n (pkey Chg.key Chg.key z))).toList := by
      intro z hz'
      have h1 := hz z hz'
      have hg := (pairs_good _ _ z hz').1
      generalize pkey Chg.key Chg.key z = k at h1 ⊢
      subst h1
      cases h1 : mkChg k (getE l k) (getE m k) with
      | none =>
        rw [mkChg_none] at h1
        cases h2 : mkChg k (getE m k) (getE n k) with
        | none => rw [mkChg_none.2 h1, h2] at hg; simp at hg
        | some d => rw [h1, h2]; rfl
      | some c =>
        cases h2 : mkChg k (getE m k) (getE n k) with
        | none => rw [mkChg_none] at h2; rw [← h2, h1]; rfl
        | some d =>
          obtain ⟨k1, b1, _, _, _⟩ := mkChg_some h1
          obtain ⟨_, _, a2, _, _⟩ := mkChg_some h2
          simp only [comp1, k1, b1, a2]
    have hg : (pC (btw l m) (btw m n)).flatMap comp1 = (pC (btw l m) (btw m n)).flatMap fun z => (mkChg (pkey Chg.key Chg.key z) (getE l (pkey Chg.key Chg.key z)) (getE n (pkey Chg.key Chg.key z))).toList := by
      rw [List.flatMap_def, List.flatMap_def, List.map_congr_left hf]
    rw [hg]
    refine Srt.ext (key := Chg.key) (flatOpt_srt (ka := pkey Chg.key Chg.key) (fun z => mkChg (pkey Chg.key Chg.key z) (getE l (pkey Chg.key Chg.key z)) (getE n (pkey Chg.key Chg.key z))) (fun _ _ h => (mkChg_some h).1) (pairs_srt _ _ hp.1 hq.1)) (btw_srt hl hn) fun k => ?_
    rw [flatOpt_fnd (ka := pkey Chg.key Chg.key) (kb := Chg.key) (fun z => mkChg (pkey Chg.key Chg.key z) (getE l (pkey Chg.key Chg.key z)) (getE n (pkey Chg.key Chg.key z))) (fun _ _ h => (mkChg_some h).1) (pairs_srt _ _ hp.1 hq.1)]
    rw [btw_fnd hl hn]
    cases h1 : fnd (pkey Chg.key Chg.key) (pC (btw l m) (btw m n)) k with
    | some z => simp only [Option.bind_some, fnd_key h1]
    | none =>
      rw [pairs_fnd _ _ hp.1 hq.1, btw_fnd hl hm, btw_fnd hm hn] at h1
      unfold both2 at h1
      split at h1
      · cases h1
      · rename_i hn'
        simp [mkChg_none] at hn'
        rw [hn'.1, hn'.2, mkChg_none.2 rfl]; rfl
  · rw [List.all_eq_true]
    intro z hz'
    have h1 := hz z hz'
    generalize pkey Chg.key Chg.key z = k at h1
    subst h1
    cases h1 : mkChg k (getE l k) (getE m k) with
    | none => rfl
    | some c =>
      cases h2 : mkChg k (getE m k) (getE n k) with
      | none => rfl
      | some d =>
        obtain ⟨_, _, a1, _, _⟩ := mkChg_some h1
        obtain ⟨_, b2, _, _, _⟩ := mkChg_some h2
        simp [meet1, a1, b2]

theorem pairs_nil_right {α β : Type} {ka : α → Int} {kb : β → Int} (l : List α) : pairs ka kb l [] = l.map fun x => (some x, none) := by
  induction l with
  | nil => simp [pairs]
  | cons x t ih => simp [pairs, ih]
theorem pairs_nil_left {α β : Type} {ka : α → Int} {kb : β → Int} (m : List β) : pairs ka kb [] m = m.map fun y => (none, some y) := by
  induction m with
  | nil => simp [pairs]
  | cons x t ih => simp [pairs, ih]

theorem comp_nil_right (p : List Chg) : comp p [] = some p := by
  show compGo (pairs Chg.key Chg.key p []) = _
  rw [pairs_nil_right]
  induction p with
  | nil => rfl
  | cons c t ih => simp only [List.map_cons, compGo, meet1, if_true, ih]; rfl
theorem comp_nil_left (p : List Chg) : comp [] p = some p := by
  show compGo (pairs Chg.key Chg.key [] p) = _
  rw [pairs_nil_left]
  induction p with
  | nil => rfl
  | cons c t ih => simp only [List.map_cons, compGo, meet1, if_true, ih]; rfl

/-! ### Rebase -/
def keep1 : Option Chg × Option Chg → List Chg
  | (some c, none) => [c]
  | _ => []
def conf1 : Option Chg × Option Chg → List Int
  | (some c, some d) => if c.after = d.after then [] else [c.key]
  | _ => []
def base1 : Option Chg × Option Chg → Bool
  | (some c, some d) => decide (c.before = d.before)
  | _ => true

def rebGo : List (Option Chg × Option Chg) → Option (List Chg × List Int)
  | [] => some ([], [])
  | z :: t => if base1 z then (rebGo t).map (fun r => (keep1 z ++ r.1, conf1 z ++ r.2)) else none

theorem rebGo_eq (L : List (Option Chg × Option Chg)) : rebGo L = if L.all base1 then some (L.flatMap keep1, L.flatMap conf1) else none := by
  induction L with
  | nil => rfl
  | cons z t ih =>
    simp only [rebGo, ih, List.all_cons, Bool.and_eq_true, List.flatMap_cons]
    by_cases h1 : base1 z = true
    · by_cases h2 : t.all base1 = true
      · simp only [h1, h2, if_true, and_self, Option.map_some]
      · rw [if_pos h1, if_neg h2, if_neg (fun h => h2 h.2)]; rfl
    · rw [if_neg h1, if_neg (fun h => h1 h.1)]

def reb (p q : List Chg) : Option (List Chg × List Int) := rebGo (pC p q)

/-- The pairs, seen from the first list: each of its elements with what the second has at that key. -/
theorem pairs_left {α β : Type} {ka : α → Int} {kb : β → Int} (l : List α) (m : List β) (hl : Srt ka l) (hm : Srt kb m) :
    (pairs ka kb l m).filterMap (fun z => z.1.map fun x => (x, z.2)) = l.map fun x => (x, fnd kb m (ka x)) := by
  fun_induction pairs ka kb l m with
  | case1 => rfl
  | case2 y m ih => simpa using ih Srt.nil hm.tail
  | case3 x l ih => simpa [fnd_nil] using ih hl.tail Srt.nil
  | case4 x l y m h ih =>
    have h2 : fnd kb (y :: m) (ka x) = none := fnd_of_lt fun z hz => by
      rcases List.mem_cons.1 hz with rfl | hz
      · exact h
      · have := hm.head z hz; omega
    simpa [h2] using ih hl.tail hm
  | case5 x l y m h1 h2 ih =>
    have e := ih hl hm.tail
    have hx : ∀ u ∈ x :: l, fnd kb (y :: m) (ka u) = fnd kb m (ka u) := fun u hu => by
      rw [fnd_cons, if_neg]
      rcases List.mem_cons.1 hu with rfl | hu
      · omega
      · have := hl.head u hu; omega
    simp only [List.filterMap_cons_none, Option.map_none, e]
    exact List.map_congr_left fun u hu => by rw [hx u hu]
  | case6 x l y m h1 h2 ih =>
    have e := ih hl.tail hm.tail
    have hxy : kb y = ka x := by omega
    have hx : ∀ u ∈ l, fnd kb (y :: m) (ka u) = fnd kb m (ka u) := fun u hu => by
      rw [fnd_cons, if_neg]
      have := hl.head u hu; omega
    simp only [List.filterMap_cons, Option.map_some, e, List.map_cons, fnd_cons, hxy, if_true]
    congr 1
    refine List.map_congr_left fun u hu => ?_
    have := hx u hu
    rw [fnd_cons, hxy] at this
    rw [this]


/-- The same, along the first patch alone. -/
def rebP : List (Chg × Option Chg) → Option (List Chg × List Int)
  | [] => some ([], [])
  | (c, d) :: t => if base1 (some c, d) then (rebP t).map (fun r => (keep1 (some c, d) ++ r.1, conf1 (some c, d) ++ r.2)) else none

theorem rebGo_left (L : List (Option Chg × Option Chg)) : rebGo L = rebP (L.filterMap (fun z => z.1.map fun x => (x, z.2))) := by
  induction L with
  | nil => rfl
  | cons z t ih =>
    obtain ⟨c, d⟩ := z
    cases c with
    | none =>
      simp only [rebGo, base1, if_true, keep1, conf1, List.nil_append, ih]
      cases h : rebP (t.filterMap fun z => z.1.map fun x => (x, z.2)) <;> simp [h]
    | some c => simp only [rebGo, List.filterMap_cons, Option.map_some, rebP, ih]

theorem reb_left {p q : List Chg} (hp : Srt Chg.key p) (hq : Srt Chg.key q) : reb p q = rebP (p.map fun c => (c, fnd Chg.key q c.key)) := by
  unfold reb; rw [rebGo_left]; congr 1; exact pairs_left p q hp hq

theorem fnd_id (L : List Int) (k : Int) : fnd id L k = if k ∈ L then some k else none := by
  induction L with
  | nil => simp [fnd_nil]
  | cons x t ih =>
    rw [fnd_cons, ih]
    by_cases h : x = k
    · subst h; simp
    · have : ¬ k = x := fun e => h e.symm
      simp [h, this]

theorem keys_ext {a b : List Int} (ha : Srt id a) (hb : Srt id b) (h : ∀ k, k ∈ a ↔ k ∈ b) : a = b := by
  refine Srt.ext (key := id) ha hb fun k => ?_
  rw [fnd_id, fnd_id]
  by_cases hk : k ∈ a
  · rw [if_pos hk, if_pos ((h k).1 hk)]
  · rw [if_neg hk, if_neg (fun hh => hk ((h k).2 hh))]

/-- A key that both sides changed, differently. -/
def Cf (l m n : List Ent) (k : Int) : Prop := getE m k ≠ getE n k ∧ getE l k ≠ getE m k ∧ getE l k ≠ getE n k
instance (l m n : List Ent) (k : Int) : Decidable (Cf l m n k) := by unfold Cf; infer_instance

def confO (z : Option Chg × Option Chg) : Option Int := match z with
  | (some c, some d) => if c.after = d.after then none else some c.key
  | _ => none
def keepO (z : Option Chg × Option Chg) : Option Chg := match z with
  | (some c, none) => some c
  | _ => none

theorem conf1_o (z : Option Chg × Option Chg) : conf1 z = (confO z).toList := by
  obtain ⟨c, d⟩ := z
  cases c <;> cases d <;> simp [conf1, confO]
  split <;> simp
theorem keep1_o (z : Option Chg × Option Chg) : keep1 z = (keepO z).toList := by
  obtain ⟨c, d⟩ := z
  cases c <;> cases d <;> simp [keep1, keepO]

theorem confO_key (z : Option Chg × Option Chg) (k : Int) (h : confO z = some k) : id k = pkey Chg.key Chg.key z := by
  obtain ⟨c, d⟩ := z
  cases c <;> cases d <;> simp [confO] at h
  exact h.2.symm
theorem keepO_key (z : Option Chg × Option Chg) (c : Chg) (h : keepO z = some c) : c.key = pkey Chg.key Chg.key z := by
  obtain ⟨c, d⟩ := z
  cases c <;> cases d <;> simp [keepO] at h
  rw [← h]; rfl

theorem btw_pair {l m n : List Ent} (hl : Asc l) (hm : Asc m) (hn : Asc n) (k : Int) :
    fnd (pkey Chg.key Chg.key) (pC (btw l m) (btw l n)) k = both2 (mkChg k (getE l k) (getE m k)) (mkChg k (getE l k) (getE n k)) := by
  have h := pairs_fnd (ka := Chg.key) (kb := Chg.key) (btw l m) (btw l n) (btw_srt hl hm) (btw_srt hl hn) k
  rw [btw_fnd hl hm, btw_fnd hl hn] at h
  exact h

theorem reb_btw {l m n : List Ent} (hl : Asc l) (hm : Asc m) (hn : Asc n) : ∃ a c, reb (btw l m) (btw l n) = some (a, c) ∧
    Srt Chg.key a ∧ (∀ k, fnd Chg.key a k = if getE l k = getE n k then mkChg k (getE l k) (getE m k) else none) ∧ Srt id c ∧ ∀ k, k ∈ c ↔ Cf l m n k := by
  have hs := pairs_srt (ka := Chg.key) (kb := Chg.key) (btw l m) (btw l n) (btw_srt hl hm) (btw_srt hl hn)
  refine ⟨(pC (btw l m) (btw l n)).flatMap fun z => (keepO z).toList, (pC (btw l m) (btw l n)).flatMap fun z => (confO z).toList, ?_, ?_, ?_, ?_, ?_⟩
  · unfold reb
    rw [rebGo_eq, if_pos]
    · congr 2
      · exact congrArg (fun f => List.flatMap f _) (funext keep1_o)
      · exact congrArg (fun f => List.flatMap f _) (funext conf1_o)
    · rw [List.all_eq_true]
      intro z hz
      have h1 := hs.fnd_self hz
      rw [btw_pair hl hm hn] at h1
      unfold both2 at h1
      split at h1
      · have h1 := Option.some.inj h1
        generalize pkey Chg.key Chg.key z = k at h1
        subst h1
        cases h1 : mkChg k (getE l k) (getE m k) with
        | none => rfl
        | some c =>
          cases h2 : mkChg k (getE l k) (getE n k) with
          | none => rfl
          | some d =>
            obtain ⟨_, b1, _, _, _⟩ := mkChg_some h1
            obtain ⟨_, b2, _, _, _⟩ := mkChg_some h2
            simp [base1, b1, b2]
      · cases h1
  · exact flatOpt_srt (ka := pkey Chg.key Chg.key) keepO keepO_key hs
  · intro k
    rw [flatOpt_fnd (ka := pkey Chg.key Chg.key) (kb := Chg.key) keepO keepO_key hs, btw_pair hl hm hn]
    cases h2 : mkChg k (getE l k) (getE n k) with
    | none =>
      rw [mkChg_none] at h2
      rw [if_pos h2]
      cases h1 : mkChg k (getE l k) (getE m k) <;> simp [both2, keepO]
    | some d =>
      obtain ⟨_, _, _, hne, _⟩ := mkChg_some h2
      rw [if_neg hne]
      cases h1 : mkChg k (getE l k) (getE m k) <;> simp [both2, keepO]
  · exact flatOpt_srt (ka := pkey Chg.key Chg.key) (kb := id) confO confO_key hs
  · intro k
    have h := flatOpt_fnd (ka := pkey Chg.key Chg.key) (kb := id) confO confO_key hs k
    rw [fnd_id, btw_pair hl hm hn] at h
    have h3 : k ∈ ((pC (btw l m) (btw l n)).flatMap fun z => (confO z).toList) ↔ ((both2 (mkChg k (getE l k) (getE m k)) (mkChg k (getE l k) (getE n k))).bind confO).isSome = true := by
      rw [← h]; split <;> simp [*]
    rw [h3]
    unfold Cf
    cases h1 : mkChg k (getE l k) (getE m k) with
    | none =>
      rw [mkChg_none] at h1
      cases h2 : mkChg k (getE l k) (getE n k) <;> simp [both2, confO, h1]
    | some c =>
      obtain ⟨_, _, a1, n1, _⟩ := mkChg_some h1
      cases h2 : mkChg k (getE l k) (getE n k) with
      | none =>
        rw [mkChg_none] at h2
        simp [both2, confO, h2]
      | some d =>
        obtain ⟨_, _, a2, n2, _⟩ := mkChg_some h2
        by_cases e : getE m k = getE n k
        · simp [both2, confO, a1, a2, e]
        · simp [both2, confO, a1, a2, e, n1, n2]

/-- What a rebased patch makes of the other side's list. -/
theorem reb_app {l m n : List Ent} (hl : Asc l) (hm : Asc m) (hn : Asc n) {a : List Chg} {c : List Int} (h : reb (btw l m) (btw l n) = some (a, c)) :
    ∃ u, app n a = some u ∧ Asc u ∧ ∀ k, getE u k = if getE l k = getE n k then getE m k else getE n k := by
  obtain ⟨a', c', h', ha, hf, _, _⟩ := reb_btw hl hm hn
  rw [h] at h'
  simp only [Option.some.injEq, Prod.mk.injEq] at h'
  obtain ⟨rfl, rfl⟩ := h'
  have hfit : Fits n a := by
    intro d hd
    have h1 := ha.fnd_self hd
    rw [hf] at h1
    split at h1
    · rename_i e
      rw [← e]; exact (mkChg_some h1).2.1.symm
    · cases h1
  cases hu : app n a with
  | none => exact absurd hfit ((app_none hn ha).1 hu)
  | some u =>
    obtain ⟨h1, h2⟩ := app_some hn ha hu
    refine ⟨u, rfl, h1, fun k => ?_⟩
    rw [h2, hf]
    by_cases e : getE l k = getE n k
    · rw [if_pos e, if_pos e]
      cases h3 : mkChg k (getE l k) (getE m k) with
      | none => rw [mkChg_none] at h3; rw [put, ← e, h3]
      | some d => exact (mkChg_some h3).2.2.1
    · rw [if_neg e, if_neg e]; rfl

theorem reb_meet {l m n : List Ent} {u v : List Ent} (hu : Asc u) (hv : Asc v) (h1 : ∀ k, getE u k = if getE l k = getE n k then getE m k else getE n k) (h2 : ∀ k, getE v k = if getE l k = getE m k then getE n k else getE m k)
    (hc : ∀ k, ¬ Cf l m n k) : u = v := by
  refine Asc.ext hu hv fun k => ?_
  have := hc k
  unfold Cf at this
  rw [h1, h2]
  by_cases a : getE l k = getE n k <;> by_cases b : getE l k = getE m k
  · rw [if_pos a, if_pos b, ← a, ← b]
  · rw [if_pos a, if_neg b]
  · rw [if_neg a, if_pos b]
  · rw [if_neg a, if_neg b]
    by_cases e : getE m k = getE n k
    · exact e.symm
    · exact absurd ⟨e, b, a⟩ this

end Go.Proofs.Ytacdmmomkngpkaa
