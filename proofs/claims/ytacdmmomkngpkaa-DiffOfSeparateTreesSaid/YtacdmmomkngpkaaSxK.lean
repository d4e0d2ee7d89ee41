/- The symbolic run is sound: bodies and functions. No program in sight. -/
import Derived.Test.YtacdmmomkngpkaaSxJn
import Derived.Deep.LoopGhost
import Derived.LoopN
namespace Go.Proofs.Ytacdmmomkngpkaa.Sx
open Go

/-- A loop seen from its inside. -/
def LW (P : Program) (c : Code) (Q : Exit → Act → World → Prop) (a : Act) (w : World) : Prop :=
  ∀ b k cs, ∃ e a' w', Q e a' w' ∧ Arrives P (lone (b.at a (.code c :: .inLoop c :: k)) cs w) b k cs e a' w'
theorem LW.loop {P : Program} {Q : Exit → Act → World → Prop} {a : Act} {w : World} {c : Code} (h : LW P c Q a w) : (Code.loop c).wp P Q a w := by
  intro b k cs
  obtain ⟨e, a', w', hq, harr⟩ := h b k cs
  exact ⟨e, a', w', hq, .of_steps (.one step_loop) harr⟩
theorem LW.step {P : Program} {Q : Exit → Act → World → Prop} {a : Act} {w : World} {c : Code} (h : c.wp P (Exit.then (LW P c Q) Q) a w) : LW P c Q a w := by
  intro b k cs
  obtain ⟨e, a₁, w₁, hq, harr⟩ := h b (.inLoop c :: k) cs
  cases e with
  | normal =>
    obtain ⟨e₂, a₂, w₂, hq₂, harr₂⟩ := hq b k cs
    exact ⟨e₂, a₂, w₂, hq₂, .of_steps (Steps.trans harr (.one step_inLoop)) harr₂⟩
  | exit id => exact ⟨_, a₁, w₁, hq, .pass (x := .inLoop c) rfl (fun _ _ => .inl (by simp)) harr⟩
  | goto l => exact ⟨_, a₁, w₁, hq, .pass (x := .inLoop c) rfl (fun _ _ => .inl (by simp)) harr⟩
  | ret => exact ⟨_, a₁, w₁, hq, .pass (x := .inLoop c) rfl (fun _ _ => .inl (by simp)) harr⟩
  | panic ch => exact ⟨_, a₁, w₁, hq, .pass (x := .inLoop c) rfl (fun _ _ => .inl (by simp)) harr⟩
  | outgrown => exact ⟨_, a₁, w₁, hq, .pass (x := .inLoop c) rfl (fun _ _ => .inl (by simp)) harr⟩
theorem LW.ghost {P : Program} {Q : Exit → Act → World → Prop} {c : Code} (I : Nat → Act → World → Prop)
    (round : ∀ n a w, I n a w → c.wp P (Exit.then (fun a' w' => ∃ n', n' < n ∧ I n' a' w') Q) a w) : ∀ n {a : Act} {w : World}, I n a w → LW P c Q a w := by
  intro n
  induction n using Nat.strongRecOn with
  | ind n ih =>
    intro a w h
    refine LW.step (wp_mono (round n a w h) fun e a' w' hd => ?_)
    cases e with
    | normal =>
      obtain ⟨n', hlt, hI⟩ := hd
      exact ih n' hlt hI
    | exit id => exact hd
    | ret => exact hd
    | goto l => exact hd
    | panic ch => exact hd
    | outgrown => exact hd

section
variable {C : Ctx}
variable {W : List Nat} {B : Base C} {T : List SV} {H : List (Chunk C)} {σ : Nat → Value} {φ : Nat → Nat → Prop} {a : Act} {w : World} {o : Oper}

theorem At.le_rel {x y : At} {v : Value} (h : At.le x y) (hr : x.rel σ v) : y.rel σ v := by
  unfold At.le at h
  split at h
  · trivial
  · split at h
    · split at h
      · rename_i hc; obtain ⟨rfl, rfl⟩ := hc; exact hr
      · exact h.elim
    · exact h.elim
  · split at h
    · split at h
      · rename_i hc; subst hc; exact hr
      · exact h.elim
    · exact h.elim
  · split at h
    · subst h; exact hr
    · exact h.elim
  · subst h; exact hr

theorem lesAt_rel : ∀ {l m : List At} {vs : List Value}, lesAt l m → Rels (At.rel σ) l vs → Rels (At.rel σ) m vs := by
  intro l
  induction l with
  | nil => intro m vs h hr; cases m with
    | nil => exact hr
    | cons _ _ => simp [lesAt] at h
  | cons x l ih =>
    intro m vs h hr
    cases m with
    | nil => simp [lesAt] at h
    | cons y m =>
      match vs, hr with
      | [], hr => exact absurd hr.1 (by simp)
      | v :: vs, hr =>
        have h0 : x.rel σ v := hr.2 0 _ _ rfl rfl
        have ht : Rels (At.rel σ) l vs := ⟨by simpa using hr.1, fun i a b ha hb => hr.2 (i + 1) a b (by simpa using ha) (by simpa using hb)⟩
        unfold lesAt at h
        split at h
        · exact Rels.cons trivial (ih h ht)
        · exact Rels.cons (At.le_rel h.1 h0) (ih h.2 ht)

theorem SV.le_rel {x y : SV} {v : Value} (h : SV.le x y) (hr : x.rel σ v) : y.rel σ v := by
  unfold SV.le at h
  split at h
  · split at h
    · trivial
    · split at h
      · exact At.le_rel h hr
      · exact h.elim
  · split at h
    · obtain ⟨cs, e, hr'⟩ := hr; exact ⟨cs, e, lesAt_rel h hr'⟩
    · exact h.elim
  · subst h; exact hr

theorem lesT_rel : ∀ {T T1 : List SV} {vs : List Value}, lesT T T1 → Rels (SV.rel σ) T vs → Rels (SV.rel σ) T1 vs := by
  intro T
  induction T with
  | nil => intro m vs h hr; cases m with
    | nil => exact hr
    | cons _ _ => simp [lesT] at h
  | cons x l ih =>
    intro m vs h hr
    cases m with
    | nil => simp [lesT] at h
    | cons y m =>
      match vs, hr with
      | [], hr => exact absurd hr.1 (by simp)
      | v :: vs, hr =>
        have h0 : x.rel σ v := hr.2 0 _ _ rfl rfl
        have ht : Rels (SV.rel σ) l vs := ⟨by simpa using hr.1, fun i a b ha hb => hr.2 (i + 1) a b (by simpa using ha) (by simpa using hb)⟩
        unfold lesT at h
        split at h
        · exact Rels.cons trivial (ih h ht)
        · exact Rels.cons (SV.le_rel h.1 h0) (ih h.2 ht)

theorem lesH_get : ∀ {H H1 : List (Chunk C)}, lesH H H1 → ∀ (n : Nat) (d : Chunk C), H1[n]? = some d → ∃ c, H[n]? = some c ∧ Chunk.le c d := by
  intro H
  induction H with
  | nil => intro H1 h n d hd; cases H1 with
    | nil => simp at hd
    | cons _ _ => simp [lesH] at h
  | cons x l ih =>
    intro H1 h n d hd
    cases H1 with
    | nil => simp at hd
    | cons y m =>
      cases n with
      | zero => simp at hd; subst hd; exact ⟨x, rfl, h.1⟩
      | succ n => simp at hd; simpa using ih h.2 n d hd

/-- Is the chunk's memory owned? -/
def Chunk.keeps : Chunk C → Bool
  | .gone => false
  | .row false _ _ => false
  | _ => true

theorem Chunk.le_holds (hC : C.OK) {c d : Chunk C} {v : Value} {f : Nat → Prop} (h : Chunk.le c d) (hh : Holds w σ v f c) : Holds w σ v (fun b => f b ∧ d.keeps = true) d := by
  unfold Chunk.le at h
  split at h
  · trivial
  · rename_i m
    split at h
    · obtain ⟨b, t, cs, h1, h2, h3, h4⟩ := hh
      exact ⟨b, t, cs, h1, fun k => by simp [h2 k, Chunk.keeps], h3, lesAt_rel h h4⟩
    · exact h.elim
  · rename_i o' e' l'
    split at h
    · rename_i o e l
      split at h
      · rename_i hoo
        split at h
        · rename_i he _
          subst he
          simp only at h
          subst h
          cases o' with
          | true =>
            have : o = true := by simpa using hoo
            subst this
            exact ⟨hh.1, fun k => by simp [hh.2 k, Chunk.keeps]⟩
          | false =>
            obtain ⟨A, c, h1, h2⟩ := hh.rd hC
            exact ⟨⟨A, c, h1, h2⟩, fun k hk => by simp [Chunk.keeps] at hk⟩
        · exact h.elim
      · exact h.elim
    · exact h.elim
  · rename_i y
    split at h
    · subst h
      exact ⟨by simpa [Chunk.keeps] using hh.1, hh.2⟩
    · exact h.elim

theorem Chunk.le_row {c : Chunk C} {o' : Bool} {e' : C.EC} {l' : List (C.α e')} (h : Chunk.le c (.row o' e' l')) : ∃ o, c = .row o e' l' ∧ (o' = true → o = true) := by
  unfold Chunk.le at h
  split at h
  · rename_i heq; cases heq
  · rename_i heq; cases heq
  · rename_i o2 e2 l2 heq
    injection heq with h1 h2 h3
    subst h1 h2
    have h3 := eq_of_heq h3
    subst h3
    split at h
    · rename_i o e l
      split at h
      · rename_i hoo
        split at h
        · rename_i he _
          subst he
          simp only at h
          subst h
          exact ⟨o, rfl, fun e => by subst e; simpa using hoo⟩
        · exact h.elim
      · exact h.elim
    · exact h.elim
  · rename_i heq; cases heq

/-- A weaker state. -/
theorem Sat.weaken (hC : C.OK) (h : Sat C σ φ w H) {H1 : List (Chunk C)} (hl : lesH H H1) (hcl : ∀ c ∈ H1, ∀ m ∈ c.names, m < H1.length) :
    Sat C σ (fun n b => φ n b ∧ ∃ d, H1[n]? = some d ∧ d.keeps = true) w H1 where
  holds n d hd := by
    obtain ⟨c, hc, hle⟩ := lesH_get hl n d hd
    have := Chunk.le_holds hC hle (h.holds n c hc)
    have e : (fun b => φ n b ∧ d.keeps = true) = (fun b => φ n b ∧ ∃ d, H1[n]? = some d ∧ d.keeps = true) := by
      funext b
      simp [hd]
    rw [e] at this
    exact this
  dis n m b h1 h2 := h.dis n m b h1.1 h2.1
  bd n b hb := h.bd n b hb.1
  imm n e l hd hpos b hb m hm := by
    obtain ⟨c, hc, hle⟩ := lesH_get hl n _ hd
    obtain ⟨o, rfl, _⟩ := Chunk.le_row hle
    cases o with
    | false => exact h.imm n e l hc hpos b hb m hm.1
    | true =>
      have hnm := h.dis m n b hm.1 (((h.holds n _ hc).2 b).2 hb)
      subst hnm
      obtain ⟨d, hd', hk⟩ := hm.2
      rw [hd] at hd'
      simp only [Option.some.injEq] at hd'
      subst hd'
      simp [Chunk.keeps] at hk
  out n hn b hb := by
    obtain ⟨d, hd, _⟩ := hb.2
    rw [List.getElem?_eq_none hn] at hd
    cases hd
  cl n c hc m hm := hcl c (List.mem_of_getElem? hc) m hm

theorem okNames_spec {base : Nat} {T : List SV} {H : List (Chunk C)} (h : okNames base T H = true) : base ≤ H.length ∧ (∀ s ∈ T, ∀ m ∈ s.names, m < H.length) ∧ ∀ c ∈ H, ∀ m ∈ c.names, m < H.length := by
  unfold okNames at h
  simp only [Bool.and_eq_true, decide_eq_true_eq, List.all_eq_true] at h
  exact ⟨h.1.1, h.1.2, h.2⟩

/-- What chunks of a state's beginning must still be: rows that were not touched keep their list. -/
theorem St.weaken (h : St C B W T H σ φ a w) {T1 : List SV} {H1 : List (Chunk C)} {W1 : List Nat} (hT : lesT T T1) (hl : lesH H H1) (hok : okNames B.H.length T1 H1 = true) (hW : ∀ n, n ∈ W → B.H.length ≤ n ∨ n ∈ W1)
    (hst : ∀ n, n < B.H.length → n ∉ W1 → ∀ b, Rdb H1 σ n b ↔ Rdb H σ n b) :
    St C B W1 T1 H1 σ (fun n b => φ n b ∧ ∃ d, H1[n]? = some d ∧ d.keeps = true) a w := by
  obtain ⟨h1, h2, h3⟩ := okNames_spec hok
  refine ⟨⟨h.pre.ok, lesT_rel hT h.pre.tm, h2, h.pre.sat.weaken h.pre.ok hl h3⟩, h.dfs, ?_, h1, h.agree, fun n hn ho => h.own n hn ?_, fun n hn hnW => ?_⟩
  · exact h.adv.trans ⟨rfl, rfl, rfl, Nat.le_refl _, fun _ _ _ => rfl, fun n b hb => .inl ⟨n, hb.1⟩⟩
  · unfold isOwn at ho
    split at ho
    · rename_i e l hH
      obtain ⟨c, hc, hle⟩ := lesH_get hl n _ hH
      obtain ⟨o, rfl, ho'⟩ := Chunk.le_row hle
      have := ho' rfl
      subst this
      simp [isOwn, hc]
    · cases ho
  · obtain ⟨h4, h5, h6⟩ := h.stand n hn fun e => (hW n e).elim (fun hle => by omega) hnW
    exact ⟨h4, fun b => (hst n hn hnW b).trans (h5 b), h6⟩

variable {A : Ann C}

theorem rdb_row {n : Nat} {own : Bool} {e : C.EC} {l : List (C.α e)} (hH : H[n]? = some (.row own e l)) (b : Nat) : Rdb H σ n b ↔ (σ n).ownBlock = some b ∧ 0 < l.length := by
  constructor
  · rintro (⟨_, cells, h⟩ | ⟨h, own', e', l', h2, hp⟩)
    · rw [hH] at h; cases h
    · rw [hH] at h2
      simp only [Option.some.injEq] at h2
      injection h2 with _ h3 h4
      subst h3
      have h4 := eq_of_heq h4
      subst h4
      exact ⟨h, hp⟩
  · rintro ⟨h1, h2⟩
    exact .inr ⟨h1, own, e, l, hH, h2⟩

theorem okBase_rdb {base : Nat} {wr : List Nat} {H1 : List (Chunk C)} (h : okBase base wr H1 = true) (hl : lesH H H1) {n : Nat} (hn : n < base) (hw : n ∉ wr) (b : Nat) : Rdb H1 σ n b ↔ Rdb H σ n b := by
  unfold okBase at h
  have h1 := List.all_eq_true.1 h n (List.mem_range.2 hn)
  simp only [Bool.or_eq_true] at h1
  rcases h1 with h1 | h1
  · exact absurd (by simpa using h1) hw
  · split at h1
    · cases h1
    · rename_i d hng hd
      obtain ⟨c, hc, hle⟩ := lesH_get hl n d hd
      cases d with
      | gone => exact (hng rfl).elim
      | box m =>
        unfold Chunk.le at hle
        unfold Rdb
        cases c <;> simp_all
      | row o e l =>
        obtain ⟨o', rfl, _⟩ := Chunk.le_row hle
        rw [rdb_row hd, rdb_row hc]
      | abs x =>
        unfold Chunk.le at hle
        unfold Rdb
        cases c <;> simp_all
    · cases h1

theorem nodupB_spec : ∀ {l : List Nat}, nodupB l = true → l.Nodup := by
  intro l
  induction l with
  | nil => intro _; exact List.nodup_nil
  | cons n l ih =>
    intro h
    simp only [nodupB, Bool.and_eq_true] at h
    exact List.nodup_cons.2 ⟨by simpa using h.1, ih h.2⟩

theorem St.rename (h : St C B W T H σ φ a w) {τ : List Nat} (hnd : τ.Nodup) (hlt : ∀ n ∈ τ, n < H.length) (hlow : ∀ n, n < B.H.length → τ[n]? = some n) (hlen : B.H.length ≤ τ.length) :
    St C B W (T.map (SV.ren fun n => idxOf n τ)) (pickH τ H) (fun k => σ (τ.getD k 0)) (fun k b => k < τ.length ∧ φ (τ.getD k 0) b) a w := by
  have hgd : ∀ {k n : Nat}, τ[k]? = some n → τ.getD k 0 = n := fun {k n} hk => by simp [List.getD_eq_getElem?_getD, hk]
  have hρ : ∀ n m, idxOf n τ = some m → σ (τ.getD m 0) = σ n := fun n m hm => by rw [hgd (idxOf_spec hm)]
  have hrow : ∀ n, n < B.H.length → (pickH τ H)[n]? = (H[n]?).map (Chunk.ren fun n => idxOf n τ) := fun n hn => by
    unfold pickH
    rw [List.getElem?_map, hlow n hn, getD_some (d := .gone) (Nat.lt_of_lt_of_le hn h.len)]
    rfl
  refine ⟨⟨h.pre.ok, ⟨by simp [h.pre.tm.1], fun i x v hx hv => ?_⟩, fun x hx m hm => ?_, h.pre.sat.pick hnd hlt⟩, h.dfs, ⟨h.adv.os, h.adv.tape, h.adv.output, h.adv.size, h.adv.fr, fun n b hb => h.adv.grow _ b hb.2⟩, by simpa [pickH] using hlen, fun n hn ho => ?_, fun n hn ho => ?_, fun n hn hnW => ?_⟩
  · rw [List.getElem?_map] at hx
    cases hi : T[i]? with
    | none => rw [hi] at hx; cases hx
    | some y => rw [hi] at hx; simp at hx; subst hx; exact SV.ren_rel hρ (h.pre.tm.2 i y v hi hv)
  · obtain ⟨y, hy, rfl⟩ := List.mem_map.1 hx
    obtain ⟨n, _, e⟩ := SV.ren_names m hm
    simpa [pickH] using (List.getElem?_eq_some_iff.1 (idxOf_spec e)).1
  · rw [hgd (hlow n hn)]
    exact h.agree n hn ho
  · refine h.own n hn ?_
    rw [isOwn_ren (hrow n hn)] at ho
    exact ho
  · obtain ⟨h4, h5, h6⟩ := h.stand n hn hnW
    refine ⟨by simp only [hgd (hlow n hn)]; exact h4, fun b => ?_, h6⟩
    rw [← h5 b]
    exact Rdb.same (by simp only [hgd (hlow n hn)]) (hrow n hn)

theorem meetS_sound (h : St C B W T H σ φ a w) (hb : A.base = B.H.length) {i : Inv C} {T1 : List SV} {x : i.X} (hm : meetS C A i W T T1 H x) : ∃ σ' φ', St C B i.wr T1 (i.hf x) σ' φ' a w := by
  unfold meetS at hm
  simp only at hm
  split at hm
  · rename_i hc
    simp only [Bool.and_eq_true] at hc
    obtain ⟨hc1, hc2, hc3, hc4, hc5⟩ := hc
    rw [hb] at hc1 hc2
    have hle : B.H.length ≤ (i.hf x).length := by
      simp only [okNames, Bool.and_eq_true, decide_eq_true_eq] at hc1
      exact hc1.1.1
    have hst := h.rename (nodupB_spec hc4) (fun n hn => by simpa using List.all_eq_true.1 hc5 n hn) (fun n hn => by
      unfold meetN
      simp only
      rw [List.getElem?_map, List.getElem?_range (by omega)]
      simp [hb, hn]) (by simpa [meetN] using hle)
    exact ⟨_, _, hst.weaken hm.1 hm.2 hc1 (fun n hn => by have := List.all_eq_true.1 hc3 n hn; rw [hb] at this; simpa using this) fun n hn hnw b => okBase_rdb hc2 hm.2 hn hnw b⟩
  · exact hm.elim

/-- What a body's run comes to, of the real thing. -/
def Den (C : Ctx) (B : Base C) (K : Ex → List Nat → List SV → List (Chunk C) → Prop) : Exit → Act → World → Prop
  | .normal, a, w => ∃ W T H σ φ, St C B W T H σ φ a w ∧ K .normal W T H
  | .exit id, a, w => ∃ W T H σ φ, St C B W T H σ φ a w ∧ K (.exit id) W T H
  | .ret, a, w => ∃ W T H σ φ, St C B W T H σ φ a w ∧ K .ret W T H
  | _, _, _ => False

theorem St.setBool (h : St C B W T H σ φ a w) {d : Nat} {b : Bool} (hT : T.getD d (.one (.at .any)) = .one (.at (.val (.bool b)))) : a.eval (.tmp d) = .bool b ∧ St C B W (T.set d (vb b)) H σ φ a w := by
  have hT' : T[d]? = some (.one (.at (.val (.bool b)))) := by
    rw [List.getD_eq_getElem?_getD] at hT
    cases hT' : T[d]? with
    | none => rw [hT'] at hT; simp at hT
    | some x => rw [hT'] at hT; simp at hT; rw [hT]
  obtain ⟨v, hv, hr⟩ := h.pre.tm.get hT'
  have hvb : v = .bool b := hr
  subst hvb
  have hv' : a.tmps[d]? = some (.bool b) := by rw [← Array.getElem?_toList]; exact hv
  refine ⟨by simp [Act.eval, Array.getD_eq_getD_getElem?, hv'], ?_⟩
  have e : T.set d (vb b) = T := by
    apply List.ext_getElem?
    intro k
    rw [List.getElem?_set]
    split
    · rename_i hk
      subst hk
      split
      · exact hT'.symm
      · rename_i hlt
        rw [List.getElem?_eq_none (by omega)] at hT'
        cases hT'
    · rfl
  rw [e]
  exact h

theorem run_sound (hC : C.OK) (hG : GOK C A.Γ) (hb : A.base = B.H.length) : ∀ (c : Code) (lv : Nat → Bool) (K : Ex → List Nat → List SV → List (Chunk C) → Prop) {W : List Nat} {T : List SV} {H : List (Chunk C)} {σ : Nat → Value} {φ : Nat → Nat → Prop} {a : Act} {w : World},
    run C A c lv K W T H → St C B W T H σ φ a w → c.wp C.P (Den C B K) a w := by
  intro c
  induction c with
  | skip => intro lv K W T H σ φ a w hr h; exact wp_skip ⟨W, T, H, σ, φ, h, hr⟩
  | region id ops d =>
    intro lv K W T H σ φ a w hr h
    simp only [run] at hr
    cases d with
    | true =>
      simp only [if_true] at hr
      split at hr
      · rename_i hsel
        refine wp_region_any hC.mixed (wpAnyL.any (S := Stand H σ (stayS A.quiet A.trunc T H ops) { w with drawn := w.drawn + 1 }) (late := lateS A.trunc ops) ?_)
        have hN : NoLate (lateS A.trunc ops) (Array.replicate ops.size false) := fun j hj => by
          have hlt : j < ops.size := by
            unfold lateS at hj
            split at hj
            · cases hj
            · rename_i p hp
              exact (Array.getElem?_eq_some_iff.1 hp).1
          simp [hlt]
        exact anyS_sound hG (fun hst hk => ⟨_, _, _, _, _, hst, hk⟩) (fun c a w hh => hh) hsel (Hs := H) (σs := σ) (fun n hn => by
          unfold stayS at hn
          exact List.mem_range.1 (List.mem_filter.1 hn).1) ops.size (h.drawn _) (Nat.le_refl _) (fun _ => ⟨fun _ _ _ _ => rfl, fun _ _ _ => Iff.rfl⟩) (fun _ _ _ _ _ => hN) hr
      · exact hr.elim
    | false =>
      simp only [Bool.false_eq_true, if_false] at hr
      exact wp_region_list (seqS_sound hG (fun hst hk => ⟨_, _, _, _, _, hst, hk⟩) ops.toList h hr)
  | seq x y ihx ihy =>
    intro lv K W T H σ φ a w hr h
    simp only [run] at hr
    split at hr
    · refine wp_seq (wp_mono (ihx _ _ hr h) fun e a' w' hd => ?_)
      cases e with
      | normal =>
        obtain ⟨W', T', H', σ', φ', hst, hk⟩ := hd
        exact ihy _ _ hk hst
      | exit id => exact hd
      | ret => exact hd
      | goto l => exact hd
      | panic ch => exact hd
      | outgrown => exact hd
    · rename_i i _
      refine wp_seq (wp_mono (ihx _ _ hr.1 h) fun e a' w' hd => ?_)
      cases e with
      | normal =>
        obtain ⟨W', T', H', σ', φ', hst, x, hrl, hm⟩ := hd
        obtain ⟨σ2, φ2, hst2⟩ := meetS_sound hst hb hm
        exact ihy _ _ (hr.2 x hrl) hst2
      | exit id => exact hd
      | ret => exact hd
      | goto l => exact hd
      | panic ch => exact hd
      | outgrown => exact hd
  | cond c x y ihx ihy =>
    intro lv K W T H σ φ a w hr h
    simp only [run] at hr
    split at hr <;> try (exact hr.elim)
    rename_i d
    split at hr <;> try (exact hr.elim)
    rename_i t ht
    obtain ⟨he, hst⟩ := h.setBool ht
    rw [brS_iff] at hr
    refine wp_cond_split he (fun e => ?_) (fun e => ?_)
    · subst e; exact ihx _ _ (hr.1 rfl) hst
    · subst e; exact ihy _ _ (hr.2 rfl) hst
  | block id b ih =>
    intro lv K W T H σ φ a w hr h
    simp only [run] at hr
    refine wp_block (wp_mono (ih _ _ hr h) fun e a' w' hd => ?_)
    cases e with
    | exit j =>
      obtain ⟨W', T', H', σ', φ', hst, hk⟩ := hd
      simp only at hk
      show if j = id then _ else _
      by_cases hj : j = id
      · rw [if_pos hj] at hk ⊢; exact ⟨W', T', H', σ', φ', hst, hk⟩
      · rw [if_neg hj] at hk ⊢; exact ⟨W', T', H', σ', φ', hst, hk⟩
    | normal => exact hd
    | ret => exact hd
    | goto l => exact hd
    | panic ch => exact hd
    | outgrown => exact hd
  | loop b ih =>
    intro lv K W T H σ φ a w hr h
    simp only [run] at hr
    refine LW.loop ?_
    generalize A.rounds (headId b) = n at hr
    induction n generalizing W T H σ φ a w with
    | zero =>
      simp only [unroll] at hr
      split at hr <;> try (exact hr.elim)
      rename_i i _
      obtain ⟨⟨x0, hrl0, hm0⟩, hround⟩ := hr
      obtain ⟨σ0, φ0, hst0⟩ := meetS_sound h hb hm0
      refine LW.ghost (fun n a w => ∃ x σ φ, i.μ x = n ∧ i.rel T H x ∧ St C B i.wr (invS C b (liveC b lv) T i x) (i.hf x) σ φ a w) ?_ (i.μ x0) ⟨x0, σ0, φ0, rfl, hrl0, hst0⟩
      rintro n a1 w1 ⟨x, σ1, φ1, hμ, hrl, hst⟩
      refine wp_mono (ih _ _ (hround x hrl) hst) fun e a' w' hd => ?_
      cases e with
      | normal =>
        obtain ⟨W', T', H', σ', φ', hst', x', hrl', hm, hlt⟩ := hd
        obtain ⟨σ2, φ2, hst2⟩ := meetS_sound hst' hb hm
        exact ⟨i.μ x', by omega, x', σ2, φ2, rfl, hrl', hst2⟩
      | exit id => exact hd
      | ret => exact hd
      | goto l => exact hd
      | panic ch => exact hd
      | outgrown => exact hd
    | succ n ihn =>
      refine LW.step (wp_mono (ih _ _ hr h) fun e a' w' hd => ?_)
      cases e with
      | normal =>
        obtain ⟨W', T', H', σ', φ', hst, hk⟩ := hd
        exact ihn hst hk
      | exit id => exact hd
      | ret => exact hd
      | goto l => exact hd
      | panic ch => exact hd
      | outgrown => exact hd
  | exit id => intro lv K W T H σ φ a w hr h; exact wp_exit ⟨W, T, H, σ, φ, h, hr⟩
  | ret => intro lv K W T H σ φ a w hr h; exact wp_ret ⟨W, T, H, σ, φ, h, hr⟩
  | _ => intro lv K W T H σ φ a w hr h; simp [run] at hr
end
end Go.Proofs.Ytacdmmomkngpkaa.Sx
