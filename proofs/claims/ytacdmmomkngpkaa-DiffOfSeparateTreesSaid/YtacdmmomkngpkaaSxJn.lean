/- Names anew: what holds of values and chunks holds of them under other names. No program in sight. -/
import Derived.Test.YtacdmmomkngpkaaSxJ
namespace Go.Proofs.Ytacdmmomkngpkaa.Sx
open Go

section
variable {C : Ctx}
variable {H H' : List (Chunk C)} {σ : Nat → Value} {φ φ' : Nat → Nat → Prop} {w w' : World}

theorem idxOf_spec : ∀ {l : List Nat} {n k : Nat}, idxOf n l = some k → l[k]? = some n := by
  intro l
  induction l with
  | nil => intro n k h; simp [idxOf] at h
  | cons m l ih =>
    intro n k h
    simp only [idxOf] at h
    split at h
    · rename_i e; simp only [Option.some.injEq] at h; subst h e; rfl
    · simp only [Option.map_eq_some_iff] at h
      obtain ⟨j, h1, rfl⟩ := h
      simpa using ih h1
theorem idxOf_nodup : ∀ {l : List Nat}, l.Nodup → ∀ {n k : Nat}, l[k]? = some n → idxOf n l = some k := by
  intro l
  induction l with
  | nil => intro _ n k h; simp at h
  | cons m l ih =>
    intro hn n k h
    rw [List.nodup_cons] at hn
    cases k with
    | zero => simp at h; subst h; simp [idxOf]
    | succ k =>
      simp at h
      have hne : ¬ m = n := fun e => hn.1 (e ▸ List.mem_of_getElem? h)
      simp [idxOf, hne, ih hn.2 h]
theorem idxOf_none {l : List Nat} {n : Nat} (h : idxOf n l = none) : n ∉ l := by
  induction l with
  | nil => simp
  | cons m l ih =>
    simp only [idxOf] at h
    split at h
    · cases h
    · rename_i e
      simp only [Option.map_eq_none_iff] at h
      simp only [List.mem_cons, not_or]
      exact ⟨fun e' => e e'.symm, ih h⟩

variable {ρ : Nat → Option Nat} {σ' : Nat → Value}

theorem allIdx_spec : ∀ {l r : List Nat}, allIdx ρ l = some r → (∀ n m, ρ n = some m → σ' m = σ n) → r.map σ' = l.map σ ∧ (∀ m ∈ r, ∃ n ∈ l, ρ n = some m) := by
  intro l
  induction l with
  | nil => intro r h _; simp [allIdx] at h; subst h; exact ⟨rfl, by simp⟩
  | cons n l ih =>
    intro r h hρ
    simp only [allIdx] at h
    split at h <;> try (cases h; done)
    rename_i m r' h1 h2
    simp only [Option.some.injEq] at h
    subst h
    obtain ⟨e1, e2⟩ := ih h2 hρ
    refine ⟨by simp [e1, hρ n m h1], fun k hk => ?_⟩
    rcases List.mem_cons.1 hk with rfl | hk
    · exact ⟨n, by simp, h1⟩
    · obtain ⟨n', hn', e⟩ := e2 k hk
      exact ⟨n', by simp [hn'], e⟩

theorem At.ren_rel (hρ : ∀ n m, ρ n = some m → σ' m = σ n) {x : At} {v : Value} (h : x.rel σ v) : (x.ren ρ).rel σ' v := by
  cases x with
  | any => trivial
  | val u => exact h
  | ptr n off =>
    simp only [At.ren]
    split
    · rename_i m hm; obtain ⟨b, h1, h2⟩ := h; exact ⟨b, (hρ n m hm).trans h1, h2⟩
    · trivial
  | eptr n i sz off =>
    simp only [At.ren]
    split
    · rename_i m hm; obtain ⟨b, o, len, cap, h1, h2⟩ := h; exact ⟨b, o, len, cap, (hρ n m hm).trans h1, h2⟩
    · trivial
  | slc n =>
    simp only [At.ren]
    split
    · rename_i m hm; exact (show v = σ n from h).trans (hρ n m hm).symm
    · trivial
  | fn f cs =>
    simp only [At.ren]
    split
    · rename_i l hl
      obtain ⟨e1, e2⟩ := allIdx_spec hl hρ
      refine ⟨by rw [e1]; exact h.1, fun c hc => ?_⟩
      obtain ⟨n, hn, e⟩ := e2 c hc
      rw [hρ n c e]
      exact h.2 n hn
    · trivial
theorem At.ren_names {x : At} : ∀ m ∈ (x.ren ρ).names, ∃ n ∈ x.names, ρ n = some m := by
  cases x with
  | any => simp [At.ren, At.names]
  | val u => simp [At.ren, At.names]
  | ptr n off => simp only [At.ren]; split <;> simp_all [At.names]
  | eptr n i sz off => simp only [At.ren]; split <;> simp_all [At.names]
  | slc n => simp only [At.ren]; split <;> simp_all [At.names]
  | fn f cs =>
    simp only [At.ren]
    split
    · rename_i l hl
      intro m hm
      exact (allIdx_spec (σ := fun _ => undef) (σ' := fun _ => undef) hl (fun _ _ _ => rfl)).2 m hm
    · simp [At.names]
theorem rels_ren (hρ : ∀ n m, ρ n = some m → σ' m = σ n) {l : List At} {vs : List Value} (h : Rels (At.rel σ) l vs) : Rels (At.rel σ') (l.map (At.ren ρ)) vs :=
  ⟨by simp [h.1], fun i x v hx hv => by
    rw [List.getElem?_map] at hx
    cases hl : l[i]? with
    | none => rw [hl] at hx; cases hx
    | some y => rw [hl] at hx; simp at hx; subst hx; exact At.ren_rel hρ (h.2 i y v hl hv)⟩
theorem TV.ren_rel (hρ : ∀ n m, ρ n = some m → σ' m = σ n) {x : TV} {v : Value} (h : x.rel σ v) : (x.ren ρ).rel σ' v := by
  cases x with
  | «at» y => exact At.ren_rel hρ h
  | agg l => obtain ⟨cs, e, hr⟩ := h; exact ⟨cs, e, rels_ren hρ hr⟩
theorem TV.ren_names {x : TV} : ∀ m ∈ (x.ren ρ).names, ∃ n ∈ x.names, ρ n = some m := by
  cases x with
  | «at» y => exact At.ren_names
  | agg l =>
    intro m hm
    simp only [TV.ren, TV.names, List.mem_flatMap, List.mem_map] at hm
    obtain ⟨_, ⟨y, hy, rfl⟩, hm⟩ := hm
    obtain ⟨n, hn, e⟩ := At.ren_names m hm
    exact ⟨n, List.mem_flatMap.2 ⟨y, hy, hn⟩, e⟩
theorem SV.ren_rel (hρ : ∀ n m, ρ n = some m → σ' m = σ n) {x : SV} {v : Value} (h : x.rel σ v) : (x.ren ρ).rel σ' v := by
  cases x with
  | one y => exact TV.ren_rel hρ h
  | tup l =>
    obtain ⟨vs, e, hr⟩ := h
    refine ⟨vs, e, by simp [hr.1], fun i x v hx hv => ?_⟩
    rw [List.getElem?_map] at hx
    cases hl : l[i]? with
    | none => rw [hl] at hx; cases hx
    | some y => rw [hl] at hx; simp at hx; subst hx; exact TV.ren_rel hρ (hr.2 i y v hl hv)
theorem SV.ren_names {x : SV} : ∀ m ∈ (x.ren ρ).names, ∃ n ∈ x.names, ρ n = some m := by
  cases x with
  | one y => exact TV.ren_names
  | tup l =>
    intro m hm
    simp only [SV.ren, SV.names, List.mem_flatMap, List.mem_map] at hm
    obtain ⟨_, ⟨y, hy, rfl⟩, hm⟩ := hm
    obtain ⟨n, hn, e⟩ := TV.ren_names m hm
    exact ⟨n, List.mem_flatMap.2 ⟨y, hy, hn⟩, e⟩
theorem Chunk.ren_names {c : Chunk C} : ∀ m ∈ (c.ren ρ).names, ∃ n ∈ c.names, ρ n = some m := by
  cases c with
  | box l =>
    intro m hm
    simp only [Chunk.ren, Chunk.names, List.mem_flatMap, List.mem_map] at hm
    obtain ⟨_, ⟨y, hy, rfl⟩, hm⟩ := hm
    obtain ⟨n, hn, e⟩ := At.ren_names m hm
    exact ⟨n, List.mem_flatMap.2 ⟨y, hy, hn⟩, e⟩
  | _ => intro m hm; simp [Chunk.ren, Chunk.names] at hm
theorem Holds.ren (hρ : ∀ n m, ρ n = some m → σ' m = σ n) {v : Value} {f : Nat → Prop} {c : Chunk C} (h : Holds w σ v f c) : Holds w σ' v f (c.ren ρ) := by
  match c with
  | .gone => exact h
  | .box cells => obtain ⟨b, t, cs, h1, h2, h3, h4⟩ := h; exact ⟨b, t, cs, h1, h2, h3, rels_ren hρ h4⟩
  | .row true e l => exact h
  | .row false e l => exact h
  | .abs x => exact h
theorem pickH_get {τ : List Nat} {k : Nat} {c : Chunk C} (hlt : ∀ n ∈ τ, n < H.length) (h : (pickH τ H)[k]? = some c) : ∃ n c0, τ[k]? = some n ∧ H[n]? = some c0 ∧ c = c0.ren (fun n => idxOf n τ) := by
  unfold pickH at h
  rw [List.getElem?_map] at h
  cases hk : τ[k]? with
  | none => rw [hk] at h; cases h
  | some n =>
    rw [hk] at h
    simp only [Option.map_some, Option.some.injEq] at h
    refine ⟨n, H.getD n .gone, rfl, ?_, h.symm⟩
    exact getD_some (hlt n (List.mem_of_getElem? hk))

theorem Chunk.ren_row {ρ : Nat → Option Nat} {c : Chunk C} {own : Bool} {e : C.EC} {l : List (C.α e)} (h : c.ren ρ = .row own e l) : c = .row own e l := by
  cases c with
  | box _ => simp [Chunk.ren] at h
  | _ => exact h

/-- A choice of names. -/
theorem Sat.pick (h : Sat C σ φ w H) {τ : List Nat} (hnd : τ.Nodup) (hlt : ∀ n ∈ τ, n < H.length) :
    Sat C (fun k => σ (τ.getD k 0)) (fun k b => k < τ.length ∧ φ (τ.getD k 0) b) w (pickH τ H) := by
  have hgd : ∀ {k n : Nat}, τ[k]? = some n → τ.getD k 0 = n ∧ k < τ.length := fun {k n} hk => by
    refine ⟨by simp [List.getD_eq_getElem?_getD, hk], (List.getElem?_eq_some_iff.1 hk).1⟩
  have hρ : ∀ n m, idxOf n τ = some m → σ (τ.getD m 0) = σ n := fun n m hm => by rw [(hgd (idxOf_spec hm)).1]
  refine ⟨fun k c hc => ?_, fun k m b hk hm => ?_, fun k b hb => h.bd _ b hb.2, fun k e l hl hpos b hb m hm => ?_, fun k hk b hb => ?_, fun k c hc m hm => ?_⟩
  · obtain ⟨n, c0, h1, h2, rfl⟩ := pickH_get hlt hc
    have hh := (h.holds n c0 h2).ren (ρ := fun n => idxOf n τ) (σ' := fun k => σ (τ.getD k 0)) hρ
    have e1 := hgd h1
    have e2 : (fun b => k < τ.length ∧ φ (τ.getD k 0) b) = φ n := funext fun b => propext ⟨fun hh => by rw [e1.1] at hh; exact hh.2, fun hh => ⟨e1.2, by rw [e1.1]; exact hh⟩⟩
    rw [e2, e1.1]
    exact hh
  · have := h.dis _ _ b hk.2 hm.2
    have hk1 := getD_some (d := 0) hk.1
    have hm1 := getD_some (d := 0) hm.1
    rw [this] at hk1
    exact Option.some.inj ((idxOf_nodup hnd hk1).symm.trans (idxOf_nodup hnd hm1))
  · obtain ⟨n, c0, h1, h2, h3⟩ := pickH_get hlt hl
    have h3' := Chunk.ren_row h3.symm
    subst h3'
    have hb' : (σ n).ownBlock = some b := by have := (hgd h1).1; simp only [this] at hb; exact hb
    exact h.imm n e l h2 hpos b hb' _ hm.2
  · simp [pickH] at hk
    have := hb.1
    omega
  · obtain ⟨n, c0, h1, h2, rfl⟩ := pickH_get hlt hc
    obtain ⟨n', hn', e⟩ := Chunk.ren_names m hm
    have := (List.getElem?_eq_some_iff.1 (idxOf_spec e)).1
    simpa [pickH] using this

theorem isOwn_some {n : Nat} : isOwn H n = true ↔ ∃ e l, H[n]? = some (.row true e l) := by
  unfold isOwn
  split
  · rename_i e l hh; exact ⟨fun _ => ⟨e, l, hh⟩, fun _ => rfl⟩
  · rename_i hh; exact ⟨fun h => by simp at h, fun ⟨e, l, h⟩ => absurd h (hh e l)⟩

/-- The same kind of chunk under other names. -/
theorem Rdb.same {H1 H2 : List (Chunk C)} {σ1 σ2 : Nat → Value} {n m b : Nat} {ρ : Nat → Option Nat} (hσ : σ2 m = σ1 n) (hH : H2[m]? = (H1[n]?).map (Chunk.ren ρ)) : Rdb H2 σ2 m b ↔ Rdb H1 σ1 n b := by
  unfold Rdb
  rw [hσ, hH]
  cases H1[n]? with
  | none => simp
  | some c => cases c <;> simp [Chunk.ren]

theorem isOwn_ren {H2 : List (Chunk C)} {n m : Nat} {ρ : Nat → Option Nat} (h : H2[m]? = (H[n]?).map (Chunk.ren ρ)) : isOwn H2 m = isOwn H n := by
  unfold isOwn
  rw [h]
  cases H[n]? with
  | none => rfl
  | some c =>
    cases c with
    | row own e l => cases own <;> rfl
    | _ => rfl

end
end Go.Proofs.Ytacdmmomkngpkaa.Sx
