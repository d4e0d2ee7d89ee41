/- The symbolic run is sound: functions; what is left of a call's chunks. No program in sight. -/
import Derived.Test.YtacdmmomkngpkaaSxK
namespace Go.Proofs.Ytacdmmomkngpkaa.Sx
open Go

section
variable {C : Ctx}
variable {W : List Nat} {B : Base C} {T : List SV} {H : List (Chunk C)} {σ : Nat → Value} {φ : Nat → Nat → Prop} {a : Act} {w : World} {o : Oper} {A : Ann C}

def resRun (tmps : Array Value) : ResultVar → Sem Value
  | .tmp t => pure (tmps.getD t undef)
  | .cell x t => do loadVar t (← asAddr (tmps.getD x undef))
theorem results_eq (fn : Func) (tmps : Array Value) : results fn tmps = (do
    let vs ← fn.results.mapM (resRun tmps)
    pure (if h : vs.size = 1 then vs[0] else .tuple vs)) := by
  unfold results
  congr 1

theorem resS_sound (h : Pre C T H σ φ a w) : ∀ (rs : List ResultVar) {l : List SV}, resS C T H rs = some l → ∃ vs, Rels (SV.rel σ) l vs ∧ (∀ s ∈ l, ∀ m ∈ s.names, m < H.length) ∧
    (rs.mapM (m := Sem) (resRun a.tmps)).run C.P w = .ok vs w := by
  intro rs
  induction rs with
  | nil => intro l hl; simp [resS] at hl; subst hl; exact ⟨[], Rels.nil, by simp, by simp⟩
  | cons r rs ih =>
    intro l hl
    cases r with
    | tmp t =>
      simp only [resS, Option.map_eq_some_iff] at hl
      obtain ⟨l', h1, rfl⟩ := hl
      obtain ⟨vs, h2, h3, h4⟩ := ih h1
      have hr := h.rel (.tmp t)
      refine ⟨a.tmps.getD t undef :: vs, Rels.cons hr h2, fun s hs m hm => ?_, ?_⟩
      · rcases List.mem_cons.1 hs with rfl | hs
        · exact h.nm (.tmp t) m hm
        · exact h3 s hs m hm
      · rw [List.mapM_cons, Sem.run_bind]
        simp only [resRun, Sem.run_pure, Result.andThen_ok, Sem.run_bind, h4]
    | cell x t =>
      simp only [resS] at hl
      split at hl <;> try (cases hl; done)
      rename_i s l' hs h1
      simp only [Option.some.injEq] at hl
      subst hl
      obtain ⟨vs, h2, h3, h4⟩ := ih h1
      obtain ⟨u, n, b, ad, _, e2, _, e4, e5, _, e7⟩ := loadS_sound h.ok h.sat (h.rel (.tmp x)) hs
      have e2' : a.tmps.getD x undef = .pointer (some ad) := e2
      refine ⟨u :: vs, Rels.cons e4 h2, fun s' hs m hm => ?_, ?_⟩
      · rcases List.mem_cons.1 hs with rfl | hs
        · exact e5 m hm
        · exact h3 s' hs m hm
      · have e8 : (resRun a.tmps (.cell x t)).run C.P w = .ok u w := by
          have := e7 w rfl
          simp [resRun, e2', asAddr, this]
        rw [List.mapM_cons, Sem.run_bind, e8]
        simp only [Result.andThen_ok, Sem.run_bind, h4, Sem.run_pure]

theorem retS_sound (h : Pre C T H σ φ a w) {fn : Func} {r : SV} (hr : retS C T H fn.results.toList = some r) : ∃ v, r.rel σ v ∧ (∀ m ∈ r.names, m < H.length) ∧ (results fn a.tmps).run C.P w = .ok v w := by
  have key : ∀ {l : List SV}, resS C T H fn.results.toList = some l → ∃ vs, Rels (SV.rel σ) l vs ∧ (∀ s ∈ l, ∀ m ∈ s.names, m < H.length) ∧ (results fn a.tmps).run C.P w = .ok (if h : vs.toArray.size = 1 then vs.toArray[0] else .tuple vs.toArray) w := by
    intro l hl
    obtain ⟨vs, h1, h2, h3⟩ := resS_sound h _ hl
    refine ⟨vs, h1, h2, ?_⟩
    rw [results_eq, Array.mapM_eq_mapM_toList]
    simp only [Sem.run_bind, Sem.run_map, h3, Result.andThen_ok, Sem.run_pure]
  unfold retS at hr
  split at hr
  · rename_i s hs
    simp only [Option.some.injEq] at hr
    subst hr
    obtain ⟨vs, h1, h2, h3⟩ := key hs
    match vs, h1, h3 with
    | [v], h1, h3 => exact ⟨v, h1.2 0 _ _ rfl rfl, h2 s (by simp), by simpa using h3⟩
    | [], h1, _ => exact absurd h1.1 (by simp)
    | _ :: _ :: _, h1, _ => exact absurd h1.1 (by simp)
  · rename_i l hne hl
    simp only [Option.map_eq_some_iff] at hr
    obtain ⟨xs, hxs, rfl⟩ := hr
    obtain ⟨vs, h1, h2, h3⟩ := key hl
    obtain ⟨h4, h5⟩ := atsOf_rel hxs h1
    refine ⟨.tuple vs.toArray, ⟨vs, rfl, h4⟩, fun m hm => ?_, ?_⟩
    · obtain ⟨x, hx, hm⟩ := List.mem_flatMap.1 hm
      exact h2 _ (h5 x hx) m hm
    · have hlen : ¬ vs.toArray.size = 1 := fun e => by
        rw [List.size_toArray, ← h1.1] at e
        match l, e, hne with
        | [s], _, hne => exact hne s rfl
      rw [dif_neg hlen] at h3
      exact h3
  · cases hr

theorem initT_rel {args : List TV} {vs : List Value} {n : Nat} (h : Rels (TV.rel σ) args vs) : Rels (SV.rel σ) (initT args n) (vs.toArray ++ Array.replicate (n - vs.toArray.size) undef).toList := by
  simp only [Array.toList_append, initT]
  refine Rels.append ⟨by simpa using h.1, fun i x v hx hv => ?_⟩ ⟨by simp [h.1], fun i x v hx hv => ?_⟩
  · rw [List.getElem?_map] at hx
    cases hi : args[i]? with
    | none => rw [hi] at hx; cases hx
    | some y => rw [hi] at hx; simp at hx hv; subst hx; exact h.2 i y v hi hv
  · rw [List.getElem?_replicate] at hx
    split at hx
    · simp at hx; subst hx; trivial
    · cases hx

/-- A function does what its run says. -/
theorem call_of_vc (hC : C.OK) (hG : GOK C A.Γ) {f : FuncId} {fn : Func} (hf : C.P.funcs[f]? = some fn) {args : List TV} {Q : SV → List (Chunk C) → List Nat → Prop} (hv : vc C A fn args H Q) : CallOK C f args H Q := by
  intro σ φ w vs hs hr hn
  unfold vc at hv
  split at hv
  · exact hv.elim
  · rename_i c hc
    have hst : St C ⟨H, σ, φ, w⟩ [] (initT args fn.ntmps) H σ φ { tmps := vs.toArray ++ Array.replicate (fn.ntmps - vs.toArray.size) undef, defers := [] } w :=
      ⟨⟨hC, initT_rel hr, fun s hs m hm => by
        rcases List.mem_append.1 hs with hs | hs
        · obtain ⟨x, hx, rfl⟩ := List.mem_map.1 hs
          exact hn x hx m hm
        · rw [List.mem_replicate] at hs
          rw [hs.2] at hm
          simp [SV.names, TV.names, At.names] at hm, hs⟩, rfl, Adv.refl _ _, Nat.le_refl _, fun _ _ _ => rfl, fun _ _ h => h, fun _ _ _ => ⟨rfl, fun _ => Iff.rfl, fun _ _ _ => rfl⟩⟩
    have hrun := run_sound (A := { A with base := H.length }) (B := ⟨H, σ, φ, w⟩) hC hG rfl c _ _ hv hst
    refine calls_of_wp hf hc (wp_mono hrun fun e a' w' hd => ?_)
    have fin : ∀ {W : List Nat} {T' : List SV} {H' : List (Chunk C)} {σ' : Nat → Value} {φ' : Nat → Nat → Prop}, St C ⟨H, σ, φ, w⟩ W T' H' σ' φ' a' w' → (match retS C T' H' fn.results.toList with | some r => Q r H' W | none => False) →
        a'.defers = [] ∧ ∃ v, (results fn a'.tmps).run C.P w' = .ok v w' ∧ COk C H σ φ w Q (.returned v) w' := by
      intro W T' H' σ' φ' h hq
      refine ⟨h.dfs, ?_⟩
      split at hq
      · rename_i r hret
        obtain ⟨v, h1, h2, h3⟩ := retS_sound h.pre hret
        refine ⟨v, h3, r, H', W, σ', φ', ⟨h1, h2, h.pre.sat, h.adv, h.len, fun n hn ho => ?_, h.own, fun n hn ht => (h.stand n hn ht).2⟩, hq⟩
        rcases ho with ho | ho
        · exact h.agree n hn ho
        · exact (h.stand n hn ho).1
      · exact hq.elim
    cases e with
    | normal =>
      obtain ⟨W, T', H', σ', φ', h, hq⟩ := hd
      exact fin h hq
    | ret =>
      obtain ⟨W, T', H', σ', φ', h, hq⟩ := hd
      exact fin h hq
    | exit id =>
      obtain ⟨W, T', H', σ', φ', h, hq⟩ := hd
      exact hq.elim
    | goto l => exact hd.elim
    | panic ch => exact hd.elim
    | outgrown => exact hd.elim

end
end Go.Proofs.Ytacdmmomkngpkaa.Sx
