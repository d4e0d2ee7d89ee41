/- A part of the proof. -/
import Derived.Test.YtbonbaccmlomhaaG3
import Derived.Deep.LoopGhost
import Derived.LoopN
import Derived.Test.YtbonbaccmlomhaaG1
import Derived.Test.YtbonbaccmlomhaaProg
import Derived.Test.YtbonbaccmlomhaaChecked
import Derived.Conc.MuLone
section
/- The symbolic run is sound: bodies and functions. No program in sight. -/
namespace Go.Proofs.Ytbonbaccmlomhaa.Sx
open Go

/-- A loop seen from its inside. -/
def LW (P : Program) (c : Code) (Q : Exit → Act → World → Prop) (a : Act) (w : World) : Prop :=
  ∀ b k cs, ∃ e a' w', Q e a' w' ∧ Arrives P (lone (b.at a (.code c :: .inLoop c :: k)) cs w) b k cs e a' w'
theorem LW.loop {P : Program} {Q : Exit → Act → World → Prop} {a : Act} {w : World} {c : Code} (h : LW P c Q a w) : (Code.loop c).wp P Q a w := by
  intro b k cs
  obtain ⟨e, a', w', hq, harr⟩ := h b k cs
  exact ⟨e, a', w', hq, .of_steps (.one step_loop) harr⟩
theorem LW.step {P : Program} {Q : Exit → Act → World → Prop} {a : Act} {w : World} {c : Code} (h : c.wp P (Exit.then (LW P c Q) Q) a w) : LW P c Q a w := by
  intro b k cs
  obtain ⟨e, a₁, w₁, hq, harr⟩ := h b (.inLoop c :: k) cs
  cases e with
  | normal =>
    obtain ⟨e₂, a₂, w₂, hq₂, harr₂⟩ := hq b k cs
    exact ⟨e₂, a₂, w₂, hq₂, .of_steps (Steps.trans harr (.one step_inLoop)) harr₂⟩
  | exit id => exact ⟨_, a₁, w₁, hq, .pass (x := .inLoop c) rfl (fun _ _ => .inl (by simp)) harr⟩
  | goto l => exact ⟨_, a₁, w₁, hq, .pass (x := .inLoop c) rfl (fun _ _ => .inl (by simp)) harr⟩
  | ret => exact ⟨_, a₁, w₁, hq, .pass (x := .inLoop c) rfl (fun _ _ => .inl (by simp)) harr⟩
  | panic ch => exact ⟨_, a₁, w₁, hq, .pass (x := .inLoop c) rfl (fun _ _ => .inl (by simp)) harr⟩
  | outgrown => exact ⟨_, a₁, w₁, hq, .pass (x := .inLoop c) rfl (fun _ _ => .inl (by simp)) harr⟩
theorem LW.ghost {P : Program} {Q : Exit → Act → World → Prop} {c : Code} (I : Nat → Act → World → Prop)
    (round : ∀ n a w, I n a w → c.wp P (Exit.then (fun a' w' => ∃ n', n' < n ∧ I n' a' w') Q) a w) : ∀ n {a : Act} {w : World}, I n a w → LW P c Q a w := by
  intro n
  induction n using Nat.strongRecOn with
  | ind n ih =>
    intro a w h
    refine LW.step (wp_mono (round n a w h) fun e a' w' hd => ?_)
    cases e with
    | normal =>
      obtain ⟨n', hlt, hI⟩ := hd
      exact ih n' hlt hI
    | exit id => exact hd
    | ret => exact hd
    | goto l => exact hd
    | panic ch => exact hd
    | outgrown => exact hd

section
variable {C : Ctx}
variable {W : List Nat} {B : Base C} {T : List SV} {H : List (Chunk C)} {σ : Nat → Value} {φ : Nat → Nat → Prop} {a : Act} {w : World} {o : Oper}

theorem At.le_rel {x y : At} {v : Value} (h : At.le x y) (hr : x.rel σ v) : y.rel σ v := by
  unfold At.le at h
  split at h
  · trivial
  · split at h
    · split at h
      · rename_i hc; obtain ⟨rfl, rfl⟩ := hc; exact hr
      · exact h.elim
    · exact h.elim
  · split at h
    · split at h
      · rename_i hc; subst hc; exact hr
      · exact h.elim
    · exact h.elim
  · split at h
    · subst h; exact hr
    · exact h.elim
  · subst h; exact hr

theorem lesAt_rel : ∀ {l m : List At} {vs : List Value}, lesAt l m → Rels (At.rel σ) l vs → Rels (At.rel σ) m vs := by
  intro l
  induction l with
  | nil => intro m vs h hr; cases m with
    | nil => exact hr
    | cons _ _ => simp [lesAt] at h
  | cons x l ih =>
    intro m vs h hr
    cases m with
    | nil => simp [lesAt] at h
    | cons y m =>
      match vs, hr with
      | [], hr => exact absurd hr.1 (by simp)
      | v :: vs, hr =>
        have h0 : x.rel σ v := hr.2 0 _ _ rfl rfl
        have ht : Rels (At.rel σ) l vs := ⟨by simpa using hr.1, fun i a b ha hb => hr.2 (i + 1) a b (by simpa using ha) (by simpa using hb)⟩
        unfold lesAt at h
        split at h
        · exact Rels.cons trivial (ih h ht)
        · exact Rels.cons (At.le_rel h.1 h0) (ih h.2 ht)

theorem SV.le_rel {x y : SV} {v : Value} (h : SV.le x y) (hr : x.rel σ v) : y.rel σ v := by
  unfold SV.le at h
  split at h
  · split at h
    · trivial
    · split at h
      · exact At.le_rel h hr
      · exact h.elim
  · split at h
    · obtain ⟨cs, e, hr'⟩ := hr; exact ⟨cs, e, lesAt_rel h hr'⟩
    · exact h.elim
  · subst h; exact hr

theorem lesT_rel : ∀ {T T1 : List SV} {vs : List Value}, lesT T T1 → Rels (SV.rel σ) T vs → Rels (SV.rel σ) T1 vs := by
  intro T
  induction T with
  | nil => intro m vs h hr; cases m with
    | nil => exact hr
    | cons _ _ => simp [lesT] at h
  | cons x l ih =>
    intro m vs h hr
    cases m with
    | nil => simp [lesT] at h
    | cons y m =>
      match vs, hr with
      | [], hr => exact absurd hr.1 (by simp)
      | v :: vs, hr =>
        have h0 : x.rel σ v := hr.2 0 _ _ rfl rfl
        have ht : Rels (SV.rel σ) l vs := ⟨by simpa using hr.1, fun i a b ha hb => hr.2 (i + 1) a b (by simpa using ha) (by simpa using hb)⟩
        unfold lesT at h
        split at h
        · exact Rels.cons trivial (ih h ht)
        · exact Rels.cons (SV.le_rel h.1 h0) (ih h.2 ht)

theorem lesH_get : ∀ {H H1 : List (Chunk C)}, lesH H H1 → ∀ (n : Nat) (d : Chunk C), H1[n]? = some d → ∃ c, H[n]? = some c ∧ Chunk.le c d := by
  intro H
  induction H with
  | nil => intro H1 h n d hd; cases H1 with
    | nil => simp at hd
    | cons _ _ => simp [lesH] at h
  | cons x l ih =>
    intro H1 h n d hd
    cases H1 with
    | nil => simp at hd
    | cons y m =>
      cases n with
      | zero => simp at hd; subst hd; exact ⟨x, rfl, h.1⟩
      | succ n => simp at hd; simpa using ih h.2 n d hd

/-- Is the chunk's memory owned? -/
def Chunk.keeps : Chunk C → Bool
  | .gone => false
  | .row false _ _ => false
  | _ => true

theorem Chunk.le_holds (hC : C.OK) {c d : Chunk C} {v : Value} {f : Nat → Prop} (h : Chunk.le c d) (hh : Holds w σ v f c) : Holds w σ v (fun b => f b ∧ d.keeps = true) d := by
  unfold Chunk.le at h
  split at h
  · trivial
  · rename_i m
    split at h
    · obtain ⟨b, t, cs, h1, h2, h3, h4⟩ := hh
      exact ⟨b, t, cs, h1, fun k => by simp [h2 k, Chunk.keeps], h3, lesAt_rel h h4⟩
    · exact h.elim
  · rename_i o' e' l'
    split at h
    · rename_i o e l
      split at h
      · rename_i hoo
        split at h
        · rename_i he _
          subst he
          simp only at h
          subst h
          cases o' with
          | true =>
            have : o = true := by simpa using hoo
            subst this
            exact ⟨hh.1, fun k => by simp [hh.2 k, Chunk.keeps]⟩
          | false =>
            obtain ⟨A, c, h1, h2⟩ := hh.rd hC
            exact ⟨⟨A, c, h1, h2⟩, fun k hk => by simp [Chunk.keeps] at hk⟩
        · exact h.elim
      · exact h.elim
    · exact h.elim
  · rename_i y
    split at h
    · subst h
      exact ⟨by simpa [Chunk.keeps] using hh.1, hh.2⟩
    · exact h.elim

theorem Chunk.le_row {c : Chunk C} {o' : Bool} {e' : C.EC} {l' : List (C.α e')} (h : Chunk.le c (.row o' e' l')) : ∃ o, c = .row o e' l' ∧ (o' = true → o = true) := by
  unfold Chunk.le at h
  split at h
  · rename_i heq; cases heq
  · rename_i heq; cases heq
  · rename_i o2 e2 l2 heq
    injection heq with h1 h2 h3
    subst h1 h2
    have h3 := eq_of_heq h3
    subst h3
    split at h
    · rename_i o e l
      split at h
      · rename_i hoo
        split at h
        · rename_i he _
          subst he
          simp only at h
          subst h
          exact ⟨o, rfl, fun e => by subst e; simpa using hoo⟩
        · exact h.elim
      · exact h.elim
    · exact h.elim
  · rename_i heq; cases heq

/-- A weaker state. -/
theorem Sat.weaken (hC : C.OK) (h : Sat C σ φ w H) {H1 : List (Chunk C)} (hl : lesH H H1) (hcl : ∀ c ∈ H1, ∀ m ∈ c.names, m < H1.length) :
    Sat C σ (fun n b => φ n b ∧ ∃ d, H1[n]? = some d ∧ d.keeps = true) w H1 where
  holds n d hd := by
    obtain ⟨c, hc, hle⟩ := lesH_get hl n d hd
    have := Chunk.le_holds hC hle (h.holds n c hc)
    have e : (fun b => φ n b ∧ d.keeps = true) = (fun b => φ n b ∧ ∃ d, H1[n]? = some d ∧ d.keeps = true) := by
      funext b
      simp [hd]
    rw [e] at this
    exact this
  dis n m b h1 h2 := h.dis n m b h1.1 h2.1
  bd n b hb := h.bd n b hb.1
  imm n e l hd hpos b hb m hm := by
    obtain ⟨c, hc, hle⟩ := lesH_get hl n _ hd
    obtain ⟨o, rfl, _⟩ := Chunk.le_row hle
    cases o with
    | false => exact h.imm n e l hc hpos b hb m hm.1
    | true =>
      have hnm := h.dis m n b hm.1 (((h.holds n _ hc).2 b).2 hb)
      subst hnm
      obtain ⟨d, hd', hk⟩ := hm.2
      rw [hd] at hd'
      simp only [Option.some.injEq] at hd'
      subst hd'
      simp [Chunk.keeps] at hk
  out n hn b hb := by
    obtain ⟨d, hd, _⟩ := hb.2
    rw [List.getElem?_eq_none hn] at hd
    cases hd
  cl n c hc m hm := hcl c (List.mem_of_getElem? hc) m hm

theorem okNames_spec {base : Nat} {T : List SV} {H : List (Chunk C)} (h : okNames base T H = true) : base ≤ H.length ∧ (∀ s ∈ T, ∀ m ∈ s.names, m < H.length) ∧ ∀ c ∈ H, ∀ m ∈ c.names, m < H.length := by
  unfold okNames at h
  simp only [Bool.and_eq_true, decide_eq_true_eq, List.all_eq_true] at h
  exact ⟨h.1.1, h.1.2, h.2⟩

/-- What chunks of a state's beginning must still be: rows that were not touched keep their list. -/
theorem St.weaken (h : St C B W T H σ φ a w) {T1 : List SV} {H1 : List (Chunk C)} {W1 : List Nat} (hT : lesT T T1) (hl : lesH H H1) (hok : okNames B.H.length T1 H1 = true) (hW : ∀ n, n ∈ W → B.H.length ≤ n ∨ n ∈ W1)
    (hst : ∀ n, n < B.H.length → n ∉ W1 → ∀ b, Rdb H1 σ n b ↔ Rdb H σ n b) :
    St C B W1 T1 H1 σ (fun n b => φ n b ∧ ∃ d, H1[n]? = some d ∧ d.keeps = true) a w := by
  obtain ⟨h1, h2, h3⟩ := okNames_spec hok
  refine ⟨⟨h.pre.ok, lesT_rel hT h.pre.tm, h2, h.pre.sat.weaken h.pre.ok hl h3⟩, h.dfs, ?_, h1, h.agree, fun n hn ho => h.own n hn ?_, fun n hn hnW => ?_⟩
  · exact h.adv.trans ⟨rfl, rfl, rfl, Nat.le_refl _, fun _ _ _ => rfl, fun n b hb => .inl ⟨n, hb.1⟩⟩
  · unfold isOwn at ho
    split at ho
    · rename_i e l hH
      obtain ⟨c, hc, hle⟩ := lesH_get hl n _ hH
      obtain ⟨o, rfl, ho'⟩ := Chunk.le_row hle
      have := ho' rfl
      subst this
      simp [isOwn, hc]
    · cases ho
  · obtain ⟨h4, h5, h6⟩ := h.stand n hn fun e => (hW n e).elim (fun hle => by omega) hnW
    exact ⟨h4, fun b => (hst n hn hnW b).trans (h5 b), h6⟩

variable {A : Ann C}

theorem rdb_row {n : Nat} {own : Bool} {e : C.EC} {l : List (C.α e)} (hH : H[n]? = some (.row own e l)) (b : Nat) : Rdb H σ n b ↔ (σ n).ownBlock = some b ∧ 0 < l.length := by
  constructor
  · rintro (⟨_, cells, h⟩ | ⟨h, own', e', l', h2, hp⟩)
    · rw [hH] at h; cases h
    · rw [hH] at h2
      simp only [Option.some.injEq] at h2
      injection h2 with _ h3 h4
      subst h3
      have h4 := eq_of_heq h4
      subst h4
      exact ⟨h, hp⟩
  · rintro ⟨h1, h2⟩
    exact .inr ⟨h1, own, e, l, hH, h2⟩

theorem okBase_rdb {base : Nat} {wr : List Nat} {H1 : List (Chunk C)} (h : okBase base wr H1 = true) (hl : lesH H H1) {n : Nat} (hn : n < base) (hw : n ∉ wr) (b : Nat) : Rdb H1 σ n b ↔ Rdb H σ n b := by
  unfold okBase at h
  have h1 := List.all_eq_true.1 h n (List.mem_range.2 hn)
  simp only [Bool.or_eq_true] at h1
  rcases h1 with h1 | h1
  · exact absurd (by simpa using h1) hw
  · split at h1
    · cases h1
    · rename_i d hng hd
      obtain ⟨c, hc, hle⟩ := lesH_get hl n d hd
      cases d with
      | gone => exact (hng rfl).elim
      | box m =>
        unfold Chunk.le at hle
        unfold Rdb
        cases c <;> simp_all
      | row o e l =>
        obtain ⟨o', rfl, _⟩ := Chunk.le_row hle
        rw [rdb_row hd, rdb_row hc]
      | abs x =>
        unfold Chunk.le at hle
        unfold Rdb
        cases c <;> simp_all
    · cases h1

theorem nodupB_spec : ∀ {l : List Nat}, nodupB l = true → l.Nodup := by
  intro l
  induction l with
  | nil => intro _; exact List.nodup_nil
  | cons n l ih =>
    intro h
    simp only [nodupB, Bool.and_eq_true] at h
    exact List.nodup_cons.2 ⟨by simpa using h.1, ih h.2⟩

theorem St.rename (h : St C B W T H σ φ a w) {τ : List Nat} (hnd : τ.Nodup) (hlt : ∀ n ∈ τ, n < H.length) (hlow : ∀ n, n < B.H.length → τ[n]? = some n) (hlen : B.H.length ≤ τ.length) :
    St C B W (T.map (SV.ren fun n => idxOf n τ)) (pickH τ H) (fun k => σ (τ.getD k 0)) (fun k b => k < τ.length ∧ φ (τ.getD k 0) b) a w := by
  have hgd : ∀ {k n : Nat}, τ[k]? = some n → τ.getD k 0 = n := fun {k n} hk => by simp [List.getD_eq_getElem?_getD, hk]
  have hρ : ∀ n m, idxOf n τ = some m → σ (τ.getD m 0) = σ n := fun n m hm => by rw [hgd (idxOf_spec hm)]
  have hrow : ∀ n, n < B.H.length → (pickH τ H)[n]? = (H[n]?).map (Chunk.ren fun n => idxOf n τ) := fun n hn => by
    unfold pickH
    rw [List.getElem?_map, hlow n hn, getD_some (d := .gone) (Nat.lt_of_lt_of_le hn h.len)]
    rfl
  refine ⟨⟨h.pre.ok, ⟨by simp [h.pre.tm.1], fun i x v hx hv => ?_⟩, fun x hx m hm => ?_, h.pre.sat.pick hnd hlt⟩, h.dfs, ⟨h.adv.os, h.adv.tape, h.adv.output, h.adv.size, h.adv.fr, fun n b hb => h.adv.grow _ b hb.2⟩, by simpa [pickH] using hlen, fun n hn ho => ?_, fun n hn ho => ?_, fun n hn hnW => ?_⟩
  · rw [List.getElem?_map] at hx
    cases hi : T[i]? with
    | none => rw [hi] at hx; cases hx
    | some y => rw [hi] at hx; simp at hx; subst hx; exact SV.ren_rel hρ (h.pre.tm.2 i y v hi hv)
  · obtain ⟨y, hy, rfl⟩ := List.mem_map.1 hx
    obtain ⟨n, _, e⟩ := SV.ren_names m hm
    simpa [pickH] using (List.getElem?_eq_some_iff.1 (idxOf_spec e)).1
  · rw [hgd (hlow n hn)]
    exact h.agree n hn ho
  · refine h.own n hn ?_
    rw [isOwn_ren (hrow n hn)] at ho
    exact ho
  · obtain ⟨h4, h5, h6⟩ := h.stand n hn hnW
    refine ⟨by simp only [hgd (hlow n hn)]; exact h4, fun b => ?_, h6⟩
    rw [← h5 b]
    exact Rdb.same (by simp only [hgd (hlow n hn)]) (hrow n hn)

theorem meetS_sound (h : St C B W T H σ φ a w) (hb : A.base = B.H.length) {i : Inv C} {T1 : List SV} {x : i.X} (hm : meetS C A i W T T1 H x) : ∃ σ' φ', St C B i.wr T1 (i.hf x) σ' φ' a w := by
  unfold meetS at hm
  simp only at hm
  split at hm
  · rename_i hc
    simp only [Bool.and_eq_true] at hc
    obtain ⟨hc1, hc2, hc3, hc4, hc5⟩ := hc
    rw [hb] at hc1 hc2
    have hle : B.H.length ≤ (i.hf x).length := by
      simp only [okNames, Bool.and_eq_true, decide_eq_true_eq] at hc1
      exact hc1.1.1
    have hst := h.rename (nodupB_spec hc4) (fun n hn => by simpa using List.all_eq_true.1 hc5 n hn) (fun n hn => by
      unfold meetN
      simp only
      rw [List.getElem?_map, List.getElem?_range (by omega)]
      simp [hb, hn]) (by simpa [meetN] using hle)
    exact ⟨_, _, hst.weaken hm.1 hm.2 hc1 (fun n hn => by have := List.all_eq_true.1 hc3 n hn; rw [hb] at this; simpa using this) fun n hn hnw b => okBase_rdb hc2 hm.2 hn hnw b⟩
  · exact hm.elim

/-- What a body's run comes to, of the real thing. -/
def Den (C : Ctx) (B : Base C) (K : Ex → List Nat → List SV → List (Chunk C) → Prop) : Exit → Act → World → Prop
  | .normal, a, w => ∃ W T H σ φ, St C B W T H σ φ a w ∧ K .normal W T H
  | .exit id, a, w => ∃ W T H σ φ, St C B W T H σ φ a w ∧ K (.exit id) W T H
  | .ret, a, w => ∃ W T H σ φ, St C B W T H σ φ a w ∧ K .ret W T H
  | _, _, _ => False

theorem St.setBool (h : St C B W T H σ φ a w) {d : Nat} {b : Bool} (hT : T.getD d (.one (.at .any)) = .one (.at (.val (.bool b)))) : a.eval (.tmp d) = .bool b ∧ St C B W (T.set d (vb b)) H σ φ a w := by
  have hT' : T[d]? = some (.one (.at (.val (.bool b)))) := by
    rw [List.getD_eq_getElem?_getD] at hT
    cases hT' : T[d]? with
    | none => rw [hT'] at hT; simp at hT
    | some x => rw [hT'] at hT; simp at hT; rw [hT]
  obtain ⟨v, hv, hr⟩ := h.pre.tm.get hT'
  have hvb : v = .bool b := hr
  subst hvb
  have hv' : a.tmps[d]? = some (.bool b) := by rw [← Array.getElem?_toList]; exact hv
  refine ⟨by simp [Act.eval, Array.getD_eq_getD_getElem?, hv'], ?_⟩
  have e : T.set d (vb b) = T := by
    apply List.ext_getElem?
    intro k
    rw [List.getElem?_set]
    split
    · rename_i hk
      subst hk
      split
      · exact hT'.symm
      · rename_i hlt
        rw [List.getElem?_eq_none (by omega)] at hT'
        cases hT'
    · rfl
  rw [e]
  exact h

theorem run_sound (hC : C.OK) (hG : GOK C A.Γ) (hb : A.base = B.H.length) : ∀ (c : Code) (lv : Nat → Bool) (K : Ex → List Nat → List SV → List (Chunk C) → Prop) {W : List Nat} {T : List SV} {H : List (Chunk C)} {σ : Nat → Value} {φ : Nat → Nat → Prop} {a : Act} {w : World},
    run C A c lv K W T H → St C B W T H σ φ a w → c.wp C.P (Den C B K) a w := by
  intro c
  induction c with
  | skip => intro lv K W T H σ φ a w hr h; exact wp_skip ⟨W, T, H, σ, φ, h, hr⟩
  | region id ops d =>
    intro lv K W T H σ φ a w hr h
    simp only [run] at hr
    cases d with
    | true =>
      simp only [if_true] at hr
      split at hr
      · rename_i hsel
        refine wp_region_any hC.mixed (wpAnyL.any (S := Stand H σ (stayS A.quiet A.trunc T H ops) { w with drawn := w.drawn + 1 }) (late := lateS A.trunc ops) ?_)
        have hN : NoLate (lateS A.trunc ops) (Array.replicate ops.size false) := fun j hj => by
          have hlt : j < ops.size := by
            unfold lateS at hj
            split at hj
            · cases hj
            · rename_i p hp
              exact (Array.getElem?_eq_some_iff.1 hp).1
          simp [hlt]
        exact anyS_sound hG (fun hst hk => ⟨_, _, _, _, _, hst, hk⟩) (fun c a w hh => hh) hsel (Hs := H) (σs := σ) (fun n hn => by
          unfold stayS at hn
          exact List.mem_range.1 (List.mem_filter.1 hn).1) ops.size (h.drawn _) (Nat.le_refl _) (fun _ => ⟨fun _ _ _ _ => rfl, fun _ _ _ => Iff.rfl⟩) (fun _ _ _ _ _ => hN) hr
      · exact hr.elim
    | false =>
      simp only [Bool.false_eq_true, if_false] at hr
      exact wp_region_list (seqS_sound hG (fun hst hk => ⟨_, _, _, _, _, hst, hk⟩) ops.toList h hr)
  | seq x y ihx ihy =>
    intro lv K W T H σ φ a w hr h
    simp only [run] at hr
    split at hr
    · refine wp_seq (wp_mono (ihx _ _ hr h) fun e a' w' hd => ?_)
      cases e with
      | normal =>
        obtain ⟨W', T', H', σ', φ', hst, hk⟩ := hd
        exact ihy _ _ hk hst
      | exit id => exact hd
      | ret => exact hd
      | goto l => exact hd
      | panic ch => exact hd
      | outgrown => exact hd
    · rename_i i _
      refine wp_seq (wp_mono (ihx _ _ hr.1 h) fun e a' w' hd => ?_)
      cases e with
      | normal =>
        obtain ⟨W', T', H', σ', φ', hst, x, hrl, hm⟩ := hd
        obtain ⟨σ2, φ2, hst2⟩ := meetS_sound hst hb hm
        exact ihy _ _ (hr.2 x hrl) hst2
      | exit id => exact hd
      | ret => exact hd
      | goto l => exact hd
      | panic ch => exact hd
      | outgrown => exact hd
  | cond c x y ihx ihy =>
    intro lv K W T H σ φ a w hr h
    simp only [run] at hr
    split at hr <;> try (exact hr.elim)
    rename_i d
    split at hr <;> try (exact hr.elim)
    rename_i t ht
    obtain ⟨he, hst⟩ := h.setBool ht
    rw [brS_iff] at hr
    refine wp_cond_split he (fun e => ?_) (fun e => ?_)
    · subst e; exact ihx _ _ (hr.1 rfl) hst
    · subst e; exact ihy _ _ (hr.2 rfl) hst
  | block id b ih =>
    intro lv K W T H σ φ a w hr h
    simp only [run] at hr
    refine wp_block (wp_mono (ih _ _ hr h) fun e a' w' hd => ?_)
    cases e with
    | exit j =>
      obtain ⟨W', T', H', σ', φ', hst, hk⟩ := hd
      simp only at hk
      show if j = id then _ else _
      by_cases hj : j = id
      · rw [if_pos hj] at hk ⊢; exact ⟨W', T', H', σ', φ', hst, hk⟩
      · rw [if_neg hj] at hk ⊢; exact ⟨W', T', H', σ', φ', hst, hk⟩
    | normal => exact hd
    | ret => exact hd
    | goto l => exact hd
    | panic ch => exact hd
    | outgrown => exact hd
  | loop b ih =>
    intro lv K W T H σ φ a w hr h
    simp only [run] at hr
    refine LW.loop ?_
    generalize A.rounds (headId b) = n at hr
    induction n generalizing W T H σ φ a w with
    | zero =>
      simp only [unroll] at hr
      split at hr <;> try (exact hr.elim)
      rename_i i _
      obtain ⟨⟨x0, hrl0, hm0⟩, hround⟩ := hr
      obtain ⟨σ0, φ0, hst0⟩ := meetS_sound h hb hm0
      refine LW.ghost (fun n a w => ∃ x σ φ, i.μ x = n ∧ i.rel T H x ∧ St C B i.wr (invS C b (liveC b lv) T i x) (i.hf x) σ φ a w) ?_ (i.μ x0) ⟨x0, σ0, φ0, rfl, hrl0, hst0⟩
      rintro n a1 w1 ⟨x, σ1, φ1, hμ, hrl, hst⟩
      refine wp_mono (ih _ _ (hround x hrl) hst) fun e a' w' hd => ?_
      cases e with
      | normal =>
        obtain ⟨W', T', H', σ', φ', hst', x', hrl', hm, hlt⟩ := hd
        obtain ⟨σ2, φ2, hst2⟩ := meetS_sound hst' hb hm
        exact ⟨i.μ x', by omega, x', σ2, φ2, rfl, hrl', hst2⟩
      | exit id => exact hd
      | ret => exact hd
      | goto l => exact hd
      | panic ch => exact hd
      | outgrown => exact hd
    | succ n ihn =>
      refine LW.step (wp_mono (ih _ _ hr h) fun e a' w' hd => ?_)
      cases e with
      | normal =>
        obtain ⟨W', T', H', σ', φ', hst, hk⟩ := hd
        exact ihn hst hk
      | exit id => exact hd
      | ret => exact hd
      | goto l => exact hd
      | panic ch => exact hd
      | outgrown => exact hd
  | exit id => intro lv K W T H σ φ a w hr h; exact wp_exit ⟨W, T, H, σ, φ, h, hr⟩
  | ret => intro lv K W T H σ φ a w hr h; exact wp_ret ⟨W, T, H, σ, φ, h, hr⟩
  | _ => intro lv K W T H σ φ a w hr h; simp [run] at hr
end
end Go.Proofs.Ytbonbaccmlomhaa.Sx
end
section
/- The symbolic run is sound: functions; what is left of a call's chunks. No program in sight. -/
namespace Go.Proofs.Ytbonbaccmlomhaa.Sx
open Go

section
variable {C : Ctx}
variable {W : List Nat} {B : Base C} {T : List SV} {H : List (Chunk C)} {σ : Nat → Value} {φ : Nat → Nat → Prop} {a : Act} {w : World} {o : Oper} {A : Ann C}

def resRun (tmps : Array Value) : ResultVar → Sem Value
  | .tmp t => pure (tmps.getD t undef)
  | .cell x t => do loadVar t (← asAddr (tmps.getD x undef))
theorem results_eq (fn : Func) (tmps : Array Value) : results fn tmps = (do
    let vs ← fn.results.mapM (resRun tmps)
    pure (if h : vs.size = 1 then vs[0] else .tuple vs)) := by
  unfold results
  congr 1

theorem resS_sound (h : Pre C T H σ φ a w) : ∀ (rs : List ResultVar) {l : List SV}, resS C T H rs = some l → ∃ vs, Rels (SV.rel σ) l vs ∧ (∀ s ∈ l, ∀ m ∈ s.names, m < H.length) ∧
    (rs.mapM (m := Sem) (resRun a.tmps)).run C.P w = .ok vs w := by
  intro rs
  induction rs with
  | nil => intro l hl; simp [resS] at hl; subst hl; exact ⟨[], Rels.nil, by simp, by simp⟩
  | cons r rs ih =>
    intro l hl
    cases r with
    | tmp t =>
      simp only [resS, Option.map_eq_some_iff] at hl
      obtain ⟨l', h1, rfl⟩ := hl
      obtain ⟨vs, h2, h3, h4⟩ := ih h1
      have hr := h.rel (.tmp t)
      refine ⟨a.tmps.getD t undef :: vs, Rels.cons hr h2, fun s hs m hm => ?_, ?_⟩
      · rcases List.mem_cons.1 hs with rfl | hs
        · exact h.nm (.tmp t) m hm
        · exact h3 s hs m hm
      · rw [List.mapM_cons, Sem.run_bind]
        simp only [resRun, Sem.run_pure, Result.andThen_ok, Sem.run_bind, h4]
    | cell x t =>
      simp only [resS] at hl
      split at hl <;> try (cases hl; done)
      rename_i s l' hs h1
      simp only [Option.some.injEq] at hl
      subst hl
      obtain ⟨vs, h2, h3, h4⟩ := ih h1
      obtain ⟨u, n, b, ad, _, e2, _, e4, e5, _, e7⟩ := loadS_sound h.ok h.sat (h.rel (.tmp x)) hs
      have e2' : a.tmps.getD x undef = .pointer (some ad) := e2
      refine ⟨u :: vs, Rels.cons e4 h2, fun s' hs m hm => ?_, ?_⟩
      · rcases List.mem_cons.1 hs with rfl | hs
        · exact e5 m hm
        · exact h3 s' hs m hm
      · have e8 : (resRun a.tmps (.cell x t)).run C.P w = .ok u w := by
          have := e7 w rfl
          simp [resRun, e2', asAddr, this]
        rw [List.mapM_cons, Sem.run_bind, e8]
        simp only [Result.andThen_ok, Sem.run_bind, h4, Sem.run_pure]

theorem retS_sound (h : Pre C T H σ φ a w) {fn : Func} {r : SV} (hr : retS C T H fn.results.toList = some r) : ∃ v, r.rel σ v ∧ (∀ m ∈ r.names, m < H.length) ∧ (results fn a.tmps).run C.P w = .ok v w := by
  have key : ∀ {l : List SV}, resS C T H fn.results.toList = some l → ∃ vs, Rels (SV.rel σ) l vs ∧ (∀ s ∈ l, ∀ m ∈ s.names, m < H.length) ∧ (results fn a.tmps).run C.P w = .ok (if h : vs.toArray.size = 1 then vs.toArray[0] else .tuple vs.toArray) w := by
    intro l hl
    obtain ⟨vs, h1, h2, h3⟩ := resS_sound h _ hl
    refine ⟨vs, h1, h2, ?_⟩
    rw [results_eq, Array.mapM_eq_mapM_toList]
    simp only [Sem.run_bind, Sem.run_map, h3, Result.andThen_ok, Sem.run_pure]
  unfold retS at hr
  split at hr
  · rename_i s hs
    simp only [Option.some.injEq] at hr
    subst hr
    obtain ⟨vs, h1, h2, h3⟩ := key hs
    match vs, h1, h3 with
    | [v], h1, h3 => exact ⟨v, h1.2 0 _ _ rfl rfl, h2 s (by simp), by simpa using h3⟩
    | [], h1, _ => exact absurd h1.1 (by simp)
    | _ :: _ :: _, h1, _ => exact absurd h1.1 (by simp)
  · rename_i l hne hl
    simp only [Option.map_eq_some_iff] at hr
    obtain ⟨xs, hxs, rfl⟩ := hr
    obtain ⟨vs, h1, h2, h3⟩ := key hl
    obtain ⟨h4, h5⟩ := atsOf_rel hxs h1
    refine ⟨.tuple vs.toArray, ⟨vs, rfl, h4⟩, fun m hm => ?_, ?_⟩
    · obtain ⟨x, hx, hm⟩ := List.mem_flatMap.1 hm
      exact h2 _ (h5 x hx) m hm
    · have hlen : ¬ vs.toArray.size = 1 := fun e => by
        rw [List.size_toArray, ← h1.1] at e
        match l, e, hne with
        | [s], _, hne => exact hne s rfl
      rw [dif_neg hlen] at h3
      exact h3
  · cases hr

theorem initT_rel {args : List TV} {vs : List Value} {n : Nat} (h : Rels (TV.rel σ) args vs) : Rels (SV.rel σ) (initT args n) (vs.toArray ++ Array.replicate (n - vs.toArray.size) undef).toList := by
  simp only [Array.toList_append, initT]
  refine Rels.append ⟨by simpa using h.1, fun i x v hx hv => ?_⟩ ⟨by simp [h.1], fun i x v hx hv => ?_⟩
  · rw [List.getElem?_map] at hx
    cases hi : args[i]? with
    | none => rw [hi] at hx; cases hx
    | some y => rw [hi] at hx; simp at hx hv; subst hx; exact h.2 i y v hi hv
  · rw [List.getElem?_replicate] at hx
    split at hx
    · simp at hx; subst hx; trivial
    · cases hx

/-- A function does what its run says. -/
theorem call_of_vc (hC : C.OK) (hG : GOK C A.Γ) {f : FuncId} {fn : Func} (hf : C.P.funcs[f]? = some fn) {args : List TV} {Q : SV → List (Chunk C) → List Nat → Prop} (hv : vc C A fn args H Q) : CallOK C f args H Q := by
  intro σ φ w vs hs hr hn
  unfold vc at hv
  split at hv
  · exact hv.elim
  · rename_i c hc
    have hst : St C ⟨H, σ, φ, w⟩ [] (initT args fn.ntmps) H σ φ { tmps := vs.toArray ++ Array.replicate (fn.ntmps - vs.toArray.size) undef, defers := [] } w :=
      ⟨⟨hC, initT_rel hr, fun s hs m hm => by
        rcases List.mem_append.1 hs with hs | hs
        · obtain ⟨x, hx, rfl⟩ := List.mem_map.1 hs
          exact hn x hx m hm
        · rw [List.mem_replicate] at hs
          rw [hs.2] at hm
          simp [SV.names, TV.names, At.names] at hm, hs⟩, rfl, Adv.refl _ _, Nat.le_refl _, fun _ _ _ => rfl, fun _ _ h => h, fun _ _ _ => ⟨rfl, fun _ => Iff.rfl, fun _ _ _ => rfl⟩⟩
    have hrun := run_sound (A := { A with base := H.length }) (B := ⟨H, σ, φ, w⟩) hC hG rfl c _ _ hv hst
    refine calls_of_wp hf hc (wp_mono hrun fun e a' w' hd => ?_)
    have fin : ∀ {W : List Nat} {T' : List SV} {H' : List (Chunk C)} {σ' : Nat → Value} {φ' : Nat → Nat → Prop}, St C ⟨H, σ, φ, w⟩ W T' H' σ' φ' a' w' → (match retS C T' H' fn.results.toList with | some r => Q r H' W | none => False) →
        a'.defers = [] ∧ ∃ v, (results fn a'.tmps).run C.P w' = .ok v w' ∧ COk C H σ φ w Q (.returned v) w' := by
      intro W T' H' σ' φ' h hq
      refine ⟨h.dfs, ?_⟩
      split at hq
      · rename_i r hret
        obtain ⟨v, h1, h2, h3⟩ := retS_sound h.pre hret
        refine ⟨v, h3, r, H', W, σ', φ', ⟨h1, h2, h.pre.sat, h.adv, h.len, fun n hn ho => ?_, h.own, fun n hn ht => (h.stand n hn ht).2⟩, hq⟩
        rcases ho with ho | ho
        · exact h.agree n hn ho
        · exact (h.stand n hn ho).1
      · exact hq.elim
    cases e with
    | normal =>
      obtain ⟨W, T', H', σ', φ', h, hq⟩ := hd
      exact fin h hq
    | ret =>
      obtain ⟨W, T', H', σ', φ', h, hq⟩ := hd
      exact fin h hq
    | exit id =>
      obtain ⟨W, T', H', σ', φ', h, hq⟩ := hd
      exact hq.elim
    | goto l => exact hd.elim
    | panic ch => exact hd.elim
    | outgrown => exact hd.elim

end
end Go.Proofs.Ytbonbaccmlomhaa.Sx
end
section
/- What a call leaves, in a form of its own; the rule of the frame. No program in sight. -/
namespace Go.Proofs.Ytbonbaccmlomhaa.Sx
open Go

section
variable {C : Ctx}
variable {H H' : List (Chunk C)} {σ σ' : Nat → Value} {φ φ' : Nat → Nat → Prop} {w w' : World}

def dedup : List Nat → List Nat → List Nat
  | acc, [] => acc
  | acc, n :: l => if acc.contains n then dedup acc l else dedup (acc ++ [n]) l

theorem dedup_spec : ∀ (l acc : List Nat), acc.Nodup → (dedup acc l).Nodup ∧ (∃ x, dedup acc l = acc ++ x) ∧ ∀ n, n ∈ dedup acc l → n ∈ acc ∨ n ∈ l := by
  intro l
  induction l with
  | nil => intro acc h; exact ⟨h, ⟨[], by simp [dedup]⟩, fun n hn => .inl hn⟩
  | cons n l ih =>
    intro acc h
    simp only [dedup]
    split
    · obtain ⟨h1, h2, h3⟩ := ih acc h
      exact ⟨h1, h2, fun m hm => (h3 m hm).imp id fun h => by simp [h]⟩
    · rename_i hc
      have hc' : n ∉ acc := by simpa using hc
      obtain ⟨h1, ⟨x, h2⟩, h3⟩ := ih (acc ++ [n]) (by
        rw [List.nodup_append]
        exact ⟨h, by simp, fun a ha b hb => by simp at hb; subst hb; exact fun e => hc' (e ▸ ha)⟩)
      refine ⟨h1, ⟨n :: x, by simp [h2]⟩, fun m hm => ?_⟩
      rcases h3 m hm with h | h
      · rcases List.mem_append.1 h with h | h
        · exact .inl h
        · exact .inr (by simp at h; simp [h])
      · exact .inr (by simp [h])

def closeN (H : List (Chunk C)) : Nat → List Nat → List Nat
  | 0, l => l
  | d + 1, l => closeN H d (dedup l (l.flatMap (subNames H)))

theorem closeN_spec (hcl : ∀ (n : Nat) (c : Chunk C), H[n]? = some c → ∀ m ∈ c.names, m < H.length) : ∀ (d : Nat) (l : List Nat), l.Nodup → (∀ n ∈ l, n < H.length) →
    (closeN H d l).Nodup ∧ (∃ x, closeN H d l = l ++ x) ∧ ∀ n ∈ closeN H d l, n < H.length := by
  intro d
  induction d with
  | zero => intro l h h'; exact ⟨h, ⟨[], by simp [closeN]⟩, h'⟩
  | succ d ih =>
    intro l h h'
    obtain ⟨h1, ⟨x, h2⟩, h3⟩ := dedup_spec (l.flatMap (subNames H)) l h
    obtain ⟨h4, ⟨y, h5⟩, h6⟩ := ih _ h1 fun n hn => by
      rcases h3 n hn with hn | hn
      · exact h' n hn
      · obtain ⟨k, _, hk⟩ := List.mem_flatMap.1 hn
        unfold subNames at hk
        split at hk
        · rename_i c hc; exact hcl k c hc n hk
        · cases hk
    exact ⟨h4, ⟨x ++ y, by rw [closeN, h5, h2, List.append_assoc]⟩, h6⟩

def normN (n0 : Nat) (r : SV) (H : List (Chunk C)) : List Nat := closeN H 6 (dedup (List.range n0) r.names)
def normW (n0 : Nat) (ts : List Nat) : List Nat := (List.range n0).filter ts.contains
/-- What is said of a call's end, of the names that count alone. -/
def normK (n0 : Nat) (K : SV → List (Chunk C) → List Nat → Prop) : SV → List (Chunk C) → List Nat → Prop := fun r H ts =>
  K (r.ren (fun n => idxOf n (normN n0 r H))) (pickH (normN n0 r H) H) (normW n0 ts)

theorem normN_spec (hcl : ∀ (n : Nat) (c : Chunk C), H[n]? = some c → ∀ m ∈ c.names, m < H.length) {n0 : Nat} (h0 : n0 ≤ H.length) {r : SV} (hr : ∀ m ∈ r.names, m < H.length) :
    (normN n0 r H).Nodup ∧ (∃ x, normN n0 r H = List.range n0 ++ x) ∧ ∀ n ∈ normN n0 r H, n < H.length := by
  obtain ⟨h1, ⟨x, h2⟩, h3⟩ := dedup_spec r.names (List.range n0) List.nodup_range
  obtain ⟨h4, ⟨y, h5⟩, h6⟩ := closeN_spec hcl 6 _ h1 fun n hn => by
    rcases h3 n hn with hn | hn
    · have := List.mem_range.1 hn; omega
    · exact hr n hn
  exact ⟨h4, ⟨x ++ y, by rw [normN, h5, h2, List.append_assoc]⟩, h6⟩

theorem COut.norm {ts : List Nat} {r : SV} {v : Value} (h : COut C H σ φ w ts r v H' σ' φ' w') :
    COut C H σ φ w (normW H.length ts) (r.ren (fun n => idxOf n (normN H.length r H'))) v (pickH (normN H.length r H') H') (fun k => σ' ((normN H.length r H').getD k 0))
      (fun k b => k < (normN H.length r H').length ∧ φ' ((normN H.length r H').getD k 0) b) w' := by
  obtain ⟨h1, ⟨x, h2⟩, h3⟩ := normN_spec (H := H') h.sat.cl h.len h.rcl
  generalize normN H.length r H' = τ at h1 h2 h3
  have hgd : ∀ {k n : Nat}, τ[k]? = some n → τ.getD k 0 = n := fun {k n} hk => by simp [List.getD_eq_getElem?_getD, hk]
  have hρ : ∀ n m, idxOf n τ = some m → σ' (τ.getD m 0) = σ' n := fun n m hm => by rw [hgd (idxOf_spec hm)]
  have hlow : ∀ n, n < H.length → τ[n]? = some n := fun n hn => by rw [h2, List.getElem?_append_left (by simpa using hn), List.getElem?_range hn]
  have hrow : ∀ n, n < H.length → (pickH τ H')[n]? = (H'[n]?).map (Chunk.ren fun n => idxOf n τ) := fun n hn => by
    unfold pickH
    rw [List.getElem?_map, hlow n hn, getD_some (d := .gone) (Nat.lt_of_lt_of_le hn h.len)]
    rfl
  have hts : ∀ n, n < H.length → n ∉ normW H.length ts → n ∉ ts := fun n hn hnn hh => hnn (by simp [normW, hn, hh])
  refine ⟨SV.ren_rel hρ h.rel, fun m hm => ?_, h.sat.pick h1 h3, ⟨h.adv.os, h.adv.tape, h.adv.output, h.adv.size, h.adv.fr, fun n b hb => h.adv.grow _ b hb.2⟩, ?_, fun n hn ho => ?_, fun n hn ho => ?_, fun n hn hnt => ⟨fun b => ?_, (h.touch n hn (hts n hn hnt)).2⟩⟩
  · obtain ⟨n, hn, e⟩ := SV.ren_names m hm
    simpa [pickH] using (List.getElem?_eq_some_iff.1 (idxOf_spec e)).1
  · simp [pickH, h2]
  · rw [hgd (hlow n hn)]
    exact h.agree n hn (ho.imp id (hts n hn))
  · refine h.own n hn ?_
    obtain ⟨e, l, he⟩ := isOwn_some.1 ho
    rw [hrow n hn] at he
    simp only [Option.map_eq_some_iff] at he
    obtain ⟨c, hc, he⟩ := he
    have := Chunk.ren_row he
    subst this
    exact isOwn_some.2 ⟨e, l, hc⟩
  · rw [← (h.touch n hn (hts n hn hnt)).1 b]
    exact Rdb.same (by simp only [hgd (hlow n hn)]) (hrow n hn)

theorem CallOK.norm {f : FuncId} {args : List TV} {K : SV → List (Chunk C) → List Nat → Prop} (h : CallOK C f args H (normK H.length K)) : CallOK C f args H K := by
  intro σ φ w vs hs hr hn
  refine Calls.mono (h σ φ w vs hs hr hn) fun e w' hh => ?_
  cases e with
  | panicked ch => exact hh.elim
  | outgrown => exact hh.elim
  | returned v =>
    obtain ⟨r, H', ts, σ', φ', hout, hK⟩ := hh
    exact ⟨_, _, _, _, _, hout.norm, hK⟩
end
end Go.Proofs.Ytbonbaccmlomhaa.Sx
end
section
/- The rule of the frame: what a function does with the chunks that it is handed, it does beside others. No program in sight. -/
namespace Go.Proofs.Ytbonbaccmlomhaa.Sx
open Go

section
variable {C : Ctx}
variable {H H' H1 : List (Chunk C)} {σ σ' σ1 : Nat → Value} {φ φ' φ1 : Nat → Nat → Prop} {w w' : World}

def At.roots (own : Bool) : At → List Nat
  | .ptr n _ => [n]
  | .fn _ cs => cs
  | .slc n => match own with
    | true => [n]
    | false => []
  | _ => []
def TV.roots (own : Bool) : TV → List Nat
  | .at a => a.roots own
  | .agg l => l.flatMap (At.roots own)
def rootsA : List Bool → List TV → List Nat
  | _, [] => []
  | [], x :: l => x.roots false ++ rootsA [] l
  | m :: ms, x :: l => x.roots m ++ rootsA ms l

/-- An argument under the names of the callee; what is lent to it. -/
def At.loc (own : Bool) (Tn : List Nat) (a : At) (Ln : List Nat) : At × List Nat := match own, a with
  | false, .slc n => (.slc (Tn.length + Ln.length), Ln ++ [n])
  | false, .eptr n i sz off => (.eptr (Tn.length + Ln.length) i sz off, Ln ++ [n])
  | _, a => (a.ren (fun n => idxOf n Tn), Ln)
def locAts (own : Bool) (Tn : List Nat) : List At → List Nat → List At × List Nat
  | [], Ln => ([], Ln)
  | a :: l, Ln => let p := a.loc own Tn Ln; let q := locAts own Tn l p.2; (p.1 :: q.1, q.2)
def TV.loc (own : Bool) (Tn : List Nat) (x : TV) (Ln : List Nat) : TV × List Nat := match x with
  | .at a => let p := a.loc own Tn Ln; (.at p.1, p.2)
  | .agg l => let p := locAts own Tn l Ln; (.agg p.1, p.2)
def locTs (Tn : List Nat) : List Bool → List TV → List Nat → List TV × List Nat
  | _, [], Ln => ([], Ln)
  | [], x :: l, Ln => let p := x.loc false Tn Ln; let q := locTs Tn [] l p.2; (p.1 :: q.1, q.2)
  | m :: ms, x :: l, Ln => let p := x.loc m Tn Ln; let q := locTs Tn ms l p.2; (p.1 :: q.1, q.2)

def Chunk.lent {C : Ctx} : Chunk C → Chunk C
  | .row _ e l => .row false e l
  | _ => .gone
def locH (Tn Ln : List Nat) (H : List (Chunk C)) : List (Chunk C) := pickH Tn H ++ Ln.map fun n => (H.getD n .gone).lent

def okLent (Tn Ln : List Nat) (H : List (Chunk C)) : Bool := Ln.all fun n => !(isOwn H n) || !(Tn.contains n)
def isRow0 : Chunk C → Bool
  | .row false _ _ => true
  | _ => false
/-- No new row that is read alone. -/
def okOut (kt n0 : Nat) (Hl H1 : List (Chunk C)) (ts : List Nat) : Bool :=
  ((List.range kt).all fun k => !(isRow0 (H1.getD k .gone)) || (isRow0 (Hl.getD k .gone) || (isOwn Hl k && !(ts.contains k)))) && (H1.drop n0).all fun c => !(isRow0 c)

def backN (L : List Nat) (h0 : Nat) (j : Nat) : Option Nat := match L[j]? with
  | some n => some n
  | none => some (h0 + (j - L.length))
def killsH (ks : List Nat) (H : List (Chunk C)) : List (Chunk C) := ks.foldl (fun H n => H.map (Chunk.kill n)) H
def backH (Tn L ts : List Nat) (H H1 : List (Chunk C)) : List (Chunk C) :=
  ((List.range H.length).map fun n => match idxOf n Tn with
    | some k => (H1.getD k .gone).ren (backN L H.length)
    | none => (killsH (ts.filter (isOwn H)) H).getD n .gone) ++ (H1.drop L.length).map (Chunk.ren (backN L H.length))

/-- A function beside other chunks. ms: the arguments whose rows are handed over for good. -/
def frameT (ms : List Bool) (t : Tfm C) : Tfm C := fun args H K =>
  let Tn := closeN H 6 (dedup [] (rootsA ms args))
  let p := locTs Tn ms args []
  let L := Tn ++ p.2
  let Hl := locH Tn p.2 H
  if okLent Tn p.2 H then t p.1 Hl fun r H1 ts => if okOut Tn.length L.length Hl H1 ts then K (r.ren (backN L H.length)) (backH Tn L (ts.filterMap (Tn[·]?)) H H1) (ts.filterMap (Tn[·]?)) else False else False

theorem killsH_length : ∀ (ks : List Nat) {H : List (Chunk C)}, (killsH ks H).length = H.length := by
  intro ks
  induction ks with
  | nil => intro H; rfl
  | cons k ks ih => intro H; show (killsH ks (H.map (Chunk.kill k))).length = _; rw [ih]; simp
theorem Sat.kills : ∀ (ks : List Nat) {H : List (Chunk C)}, Sat C σ φ w H → Sat C σ φ w (killsH ks H) := by
  intro ks
  induction ks with
  | nil => intro H h; exact h
  | cons k ks ih => intro H h; exact ih (h.kill k)
theorem killsH_get : ∀ (ks : List Nat) {H : List (Chunk C)} {n : Nat} {c : Chunk C}, (killsH ks H)[n]? = some c → ∀ m ∈ c.names, m ∉ ks := by
  intro ks
  induction ks with
  | nil => intro H n c _ m _; simp
  | cons k ks ih =>
    intro H n c h m hm
    have h' : (killsH ks (H.map (Chunk.kill k)))[n]? = some c := h
    have h1 := ih h' m hm
    have aux : ∀ (ks : List Nat) {H : List (Chunk C)} {c : Chunk C}, (killsH ks H)[n]? = some c → ∃ d, H[n]? = some d ∧ ∀ m ∈ c.names, m ∈ d.names := by
      intro ks
      induction ks with
      | nil => intro H c h; exact ⟨c, h, fun m hm => hm⟩
      | cons k ks ih =>
        intro H c h
        have h' : (killsH ks (H.map (Chunk.kill k)))[n]? = some c := h
        obtain ⟨d, hd, hm⟩ := ih h'
        rw [List.getElem?_map, Option.map_eq_some_iff] at hd
        obtain ⟨d0, h0, rfl⟩ := hd
        exact ⟨d0, h0, fun m hmm => (Chunk.kill_names m (hm m hmm)).1⟩
    obtain ⟨d, hd, hmd⟩ := aux ks h'
    rw [List.getElem?_map, Option.map_eq_some_iff] at hd
    obtain ⟨d0, h0, rfl⟩ := hd
    simp only [List.mem_cons, not_or]
    exact ⟨(Chunk.kill_names m (hmd m hm)).2, h1⟩
theorem killsH_own : ∀ (ks : List Nat) {H : List (Chunk C)} {n : Nat}, isOwn (killsH ks H) n = isOwn H n := by
  intro ks
  induction ks with
  | nil => intro H n; rfl
  | cons k ks ih => intro H n; show isOwn (killsH ks (H.map (Chunk.kill k))) n = _; rw [ih, isOwn_kill]
theorem rdb_kill {n k b : Nat} : Rdb (H.map (Chunk.kill n)) σ k b ↔ Rdb H σ k b := by
  unfold Rdb
  rw [List.getElem?_map]
  cases H[k]? with
  | none => simp
  | some c => cases c <;> simp [Chunk.kill]
theorem killsH_rdb : ∀ (ks : List Nat) {H : List (Chunk C)} {n b : Nat}, Rdb (killsH ks H) σ n b ↔ Rdb H σ n b := by
  intro ks
  induction ks with
  | nil => intro H n b; exact Iff.rfl
  | cons k ks ih => intro H n b; show Rdb (killsH ks (H.map (Chunk.kill k))) σ n b ↔ _; rw [ih, rdb_kill]

theorem At.loc_spec {own : Bool} {Tn : List Nat} {a : At} {Ln : List Nat} : ∃ x, (a.loc own Tn Ln).2 = Ln ++ x ∧ (∀ n ∈ x, n ∈ a.names) ∧ (∀ m ∈ (a.loc own Tn Ln).1.names, m < (Tn ++ (a.loc own Tn Ln).2).length) ∧
    ∀ (σ σ' : Nat → Value) (y : List Nat), (∀ k n, (Tn ++ (Ln ++ x ++ y))[k]? = some n → σ' k = σ n) → ∀ v, a.rel σ v → (a.loc own Tn Ln).1.rel σ' v := by
  have gen : ∃ x, Ln = Ln ++ x ∧ (∀ n ∈ x, n ∈ a.names) ∧ (∀ m ∈ (a.ren (fun n => idxOf n Tn)).names, m < (Tn ++ Ln).length) ∧
      ∀ (σ σ' : Nat → Value) (y : List Nat), (∀ k n, (Tn ++ (Ln ++ x ++ y))[k]? = some n → σ' k = σ n) → ∀ v, a.rel σ v → (a.ren (fun n => idxOf n Tn)).rel σ' v := by
    refine ⟨[], by simp, by simp, fun m hm => ?_, fun σ σ' y hσ v hv => At.ren_rel (fun n m hm => hσ m n ?_) hv⟩
    · obtain ⟨n, _, e⟩ := At.ren_names m hm
      have := (List.getElem?_eq_some_iff.1 (idxOf_spec e)).1
      simp; omega
    · have := idxOf_spec hm
      rw [List.getElem?_append_left (List.getElem?_eq_some_iff.1 this).1]
      exact this
  have hlast : ∀ (n : Nat) (y : List Nat), (Tn ++ (Ln ++ [n] ++ y))[Tn.length + Ln.length]? = some n := fun n y => by
    rw [List.getElem?_append_right (by omega), List.append_assoc, List.getElem?_append_right (by omega)]
    simp
  cases own with
  | true => cases a <;> exact gen
  | false =>
    cases a with
    | slc n =>
      exact ⟨[n], rfl, fun m hm => hm, fun m hm => by simp [At.loc, At.names] at hm ⊢; omega, fun σ σ' y hσ v hv => by
        show v = σ' (Tn.length + Ln.length)
        rw [hσ _ _ (hlast n y)]; exact hv⟩
    | eptr n i sz off =>
      exact ⟨[n], rfl, fun m hm => hm, fun m hm => by simp [At.loc, At.names] at hm ⊢; omega, fun σ σ' y hσ v hv => by
        obtain ⟨b, o, len, cap, h1, h2⟩ := hv
        exact ⟨b, o, len, cap, (hσ _ _ (hlast n y)).trans h1, h2⟩⟩
    | _ => exact gen

theorem locAts_spec {own : Bool} {Tn : List Nat} : ∀ (l : List At) (Ln : List Nat), ∃ x, (locAts own Tn l Ln).2 = Ln ++ x ∧ (∀ n ∈ x, n ∈ l.flatMap At.names) ∧ (∀ m ∈ (locAts own Tn l Ln).1.flatMap At.names, m < (Tn ++ (locAts own Tn l Ln).2).length) ∧
    ∀ (σ σ' : Nat → Value) (y : List Nat), (∀ k n, (Tn ++ (Ln ++ x ++ y))[k]? = some n → σ' k = σ n) → ∀ vs, Rels (At.rel σ) l vs → Rels (At.rel σ') (locAts own Tn l Ln).1 vs := by
  intro l
  induction l with
  | nil => intro Ln; exact ⟨[], by simp [locAts], by simp, by simp [locAts], fun σ σ' y _ vs h => ⟨h.1, fun i a b ha => by simp [locAts] at ha⟩⟩
  | cons a l ih =>
    intro Ln
    obtain ⟨x, h1, h2, h3, h4⟩ := At.loc_spec (own := own) (Tn := Tn) (a := a) (Ln := Ln)
    obtain ⟨x', h1', h2', h3', h4'⟩ := ih (a.loc own Tn Ln).2
    refine ⟨x ++ x', h1'.trans (by rw [h1, List.append_assoc]), fun n hn => ?_, fun m hm => ?_, fun σ σ' y hσ vs hr => ?_⟩
    · rw [List.flatMap_cons]
      rcases List.mem_append.1 hn with hn | hn
      · exact List.mem_append_left _ (h2 n hn)
      · exact List.mem_append_right _ (h2' n hn)
    · simp only [locAts, List.flatMap_cons] at hm ⊢
      rcases List.mem_append.1 hm with hm | hm
      · have := h3 m hm
        rw [h1']
        simp only [List.length_append] at this ⊢
        omega
      · exact h3' m hm
    · match vs, hr with
      | [], hr => exact absurd hr.1 (by simp)
      | v :: vs, hr =>
        refine Rels.cons (h4 σ σ' (x' ++ y) (fun k n hk => hσ k n (by simpa [List.append_assoc] using hk)) v (hr.2 0 a v rfl rfl)) ?_
        exact h4' σ σ' y (fun k n hk => hσ k n (by rw [h1] at hk; simpa [List.append_assoc] using hk)) vs ⟨by simpa using hr.1, fun i b u hb hu => hr.2 (i + 1) b u (by simpa using hb) (by simpa using hu)⟩

theorem TV.loc_spec {own : Bool} {Tn : List Nat} (x : TV) (Ln : List Nat) : ∃ z, (x.loc own Tn Ln).2 = Ln ++ z ∧ (∀ n ∈ z, n ∈ x.names) ∧ (∀ m ∈ (x.loc own Tn Ln).1.names, m < (Tn ++ (x.loc own Tn Ln).2).length) ∧
    ∀ (σ σ' : Nat → Value) (y : List Nat), (∀ k n, (Tn ++ (Ln ++ z ++ y))[k]? = some n → σ' k = σ n) → ∀ v, x.rel σ v → (x.loc own Tn Ln).1.rel σ' v := by
  cases x with
  | «at» a => exact At.loc_spec
  | agg l =>
    obtain ⟨z, h1, h2, h3, h4⟩ := locAts_spec (own := own) (Tn := Tn) l Ln
    exact ⟨z, h1, h2, h3, fun σ σ' y hσ v ⟨cs, e, hr⟩ => ⟨cs, e, h4 σ σ' y hσ cs hr⟩⟩

theorem locTs_cons {Tn : List Nat} (ms : List Bool) (x : TV) (l : List TV) (Ln : List Nat) : ∃ m ms', locTs Tn ms (x :: l) Ln = ((x.loc m Tn Ln).1 :: (locTs Tn ms' l (x.loc m Tn Ln).2).1, (locTs Tn ms' l (x.loc m Tn Ln).2).2) := by
  cases ms with
  | nil => exact ⟨false, [], rfl⟩
  | cons m ms => exact ⟨m, ms, rfl⟩

theorem locTs_spec {Tn : List Nat} : ∀ (l : List TV) (ms : List Bool) (Ln : List Nat), ∃ x, (locTs Tn ms l Ln).2 = Ln ++ x ∧ (∀ n ∈ x, ∃ a ∈ l, n ∈ a.names) ∧ (∀ a ∈ (locTs Tn ms l Ln).1, ∀ m ∈ a.names, m < (Tn ++ (locTs Tn ms l Ln).2).length) ∧
    ∀ (σ σ' : Nat → Value) (y : List Nat), (∀ k n, (Tn ++ (Ln ++ x ++ y))[k]? = some n → σ' k = σ n) → ∀ vs, Rels (TV.rel σ) l vs → Rels (TV.rel σ') (locTs Tn ms l Ln).1 vs := by
  intro l
  induction l with
  | nil => intro ms Ln; exact ⟨[], by cases ms <;> simp [locTs], by simp, by cases ms <;> simp [locTs], fun σ σ' y _ vs h => ⟨by cases ms <;> simpa [locTs] using h.1, fun i a b ha => by cases ms <;> simp [locTs] at ha⟩⟩
  | cons a l ih =>
    intro ms Ln
    obtain ⟨m, ms', e⟩ := locTs_cons (Tn := Tn) ms a l Ln
    rw [e]
    obtain ⟨x, h1, h2, h3, h4⟩ := TV.loc_spec (own := m) (Tn := Tn) a Ln
    obtain ⟨x', h1', h2', h3', h4'⟩ := ih ms' (a.loc m Tn Ln).2
    refine ⟨x ++ x', h1'.trans (by rw [h1, List.append_assoc]), fun n hn => ?_, fun b hb k hk => ?_, fun σ σ' y hσ vs hr => ?_⟩
    · rcases List.mem_append.1 hn with hn | hn
      · exact ⟨a, by simp, h2 n hn⟩
      · obtain ⟨b, hb, hbn⟩ := h2' n hn
        exact ⟨b, by simp [hb], hbn⟩
    · rcases List.mem_cons.1 hb with rfl | hb
      · have := h3 k hk
        simp only [h1']
        simp only [List.length_append] at this ⊢
        omega
      · exact h3' b hb k hk
    · match vs, hr with
      | [], hr => exact absurd hr.1 (by simp)
      | v :: vs, hr =>
        refine Rels.cons (h4 σ σ' (x' ++ y) (fun k n hk => hσ k n (by simpa [List.append_assoc] using hk)) v (hr.2 0 a v rfl rfl)) ?_
        exact h4' σ σ' y (fun k n hk => hσ k n (by rw [h1] at hk; simpa [List.append_assoc] using hk)) vs ⟨by simpa using hr.1, fun i b u hb hu => hr.2 (i + 1) b u (by simpa using hb) (by simpa using hu)⟩

theorem At.roots_names {own : Bool} {a : At} : ∀ n ∈ a.roots own, n ∈ a.names := by
  cases a <;> cases own <;> simp [At.roots, At.names]
theorem TV.roots_names {own : Bool} {x : TV} : ∀ n ∈ x.roots own, n ∈ x.names := by
  cases x with
  | «at» a => exact At.roots_names
  | agg l =>
    intro n hn
    obtain ⟨a, ha, h⟩ := List.mem_flatMap.1 hn
    exact List.mem_flatMap.2 ⟨a, ha, At.roots_names n h⟩
theorem rootsA_names : ∀ (l : List TV) (ms : List Bool), ∀ n ∈ rootsA ms l, ∃ x ∈ l, n ∈ x.names := by
  intro l
  induction l with
  | nil => intro ms n hn; cases ms <;> simp [rootsA] at hn
  | cons x l ih =>
    intro ms n hn
    cases ms with
    | nil =>
      rcases List.mem_append.1 hn with hn | hn
      · exact ⟨x, by simp, TV.roots_names n hn⟩
      · obtain ⟨y, hy, h⟩ := ih _ n hn; exact ⟨y, by simp [hy], h⟩
    | cons m ms =>
      rcases List.mem_append.1 hn with hn | hn
      · exact ⟨x, by simp, TV.roots_names n hn⟩
      · obtain ⟨y, hy, h⟩ := ih _ n hn; exact ⟨y, by simp [hy], h⟩

/-- The chunks that the callee sees. -/
theorem Sat.loc (hC : C.OK) (h : Sat C σ φ w H) {Tn Ln : List Nat} (hnd : Tn.Nodup) (hT : ∀ n ∈ Tn, n < H.length) (hL : ∀ n ∈ Ln, n < H.length) (hok : okLent Tn Ln H = true) :
    Sat C (fun k => σ ((Tn ++ Ln).getD k 0)) (fun k b => k < Tn.length ∧ φ ((Tn ++ Ln).getD k 0) b) w (locH Tn Ln H) := by
  have hp := h.pick hnd hT
  have hlen : (pickH Tn H).length = Tn.length := by simp [pickH]
  have hgl : ∀ k, k < Tn.length → (Tn ++ Ln).getD k 0 = Tn.getD k 0 := fun k hk => by simp [List.getD_eq_getElem?_getD, List.getElem?_append_left hk]
  have hgr : ∀ {k n : Nat}, Tn.length ≤ k → Ln[k - Tn.length]? = some n → (Tn ++ Ln).getD k 0 = n := fun {k n} hk hn => by simp [List.getD_eq_getElem?_getD, List.getElem?_append_right hk, hn]
  have hφ : ∀ k, (fun b => k < Tn.length ∧ φ ((Tn ++ Ln).getD k 0) b) = fun b => k < Tn.length ∧ φ (Tn.getD k 0) b := fun k => funext fun b => propext ⟨fun hh => ⟨hh.1, by rw [← hgl k hh.1]; exact hh.2⟩, fun hh => ⟨hh.1, by rw [hgl k hh.1]; exact hh.2⟩⟩
  have hget : ∀ {k : Nat} {c : Chunk C}, Tn.length ≤ k → (locH Tn Ln H)[k]? = some c → ∃ n c0, Ln[k - Tn.length]? = some n ∧ H[n]? = some c0 ∧ c = c0.lent := fun {k c} hk hc => by
    unfold locH at hc
    rw [List.getElem?_append_right (by rw [hlen]; exact hk), hlen, List.getElem?_map, Option.map_eq_some_iff] at hc
    obtain ⟨n, hn, e⟩ := hc
    exact ⟨n, _, hn, getD_some (hL n (List.mem_of_getElem? hn)), e.symm⟩
  have hgetl : ∀ {k : Nat}, k < Tn.length → (locH Tn Ln H)[k]? = (pickH Tn H)[k]? := fun {k} hk => by
    unfold locH
    rw [List.getElem?_append_left (by rw [hlen]; exact hk)]
  refine ⟨fun k c hc => ?_, fun k m b hk hm => ?_, fun k b hb => h.bd _ b hb.2, fun k e l hl hpos b hb m hm => ?_, fun k hk b hb => ?_, fun k c hc m hm => ?_⟩
  · rw [hφ k]
    rcases Nat.lt_or_ge k Tn.length with hk | hk
    · rw [hgetl hk] at hc
      have hh := hp.holds k c hc
      rw [hgl k hk]
      match c with
      | .gone => trivial
      | .box cells =>
        obtain ⟨b, t, cs, h1, h2, h3, h4⟩ := hh
        refine ⟨b, t, cs, h1, h2, h3, h4.mono fun a v ha hr => At.rel_of hr fun m hm => ?_⟩
        have := hp.cl k _ hc m (List.mem_flatMap.2 ⟨a, ha, hm⟩)
        exact congrArg σ (hgl m (by rw [← hlen]; exact this))
      | .row true e l => exact hh
      | .row false e l => exact hh
      | .abs x => exact hh
    · obtain ⟨n, c0, h1, h2, rfl⟩ := hget hk hc
      have hh := h.holds n c0 h2
      rw [hgr hk h1]
      have hno : ∀ b, ¬ (k < Tn.length ∧ φ (Tn.getD k 0) b) := fun b hb => by omega
      match c0 with
      | .gone => trivial
      | .box cells => trivial
      | .row own e l => exact ⟨hh.rd hC, hno⟩
      | .abs x => trivial
  · rw [hgl k hk.1] at hk
    rw [hgl m hm.1] at hm
    exact hp.dis k m b hk hm
  · rw [hgl m hm.1] at hm
    rcases Nat.lt_or_ge k Tn.length with hk | hk
    · rw [hgetl hk] at hl
      rw [hgl k hk] at hb
      exact hp.imm k e l hl hpos b hb m hm
    · obtain ⟨n, c0, h1, h2, h3⟩ := hget hk hl
      rw [hgr hk h1] at hb
      match c0, h3 with
      | .row own e' l', h3 =>
        simp only [Chunk.lent, Chunk.row.injEq] at h3
        obtain ⟨_, rfl, h3⟩ := h3
        obtain rfl := eq_of_heq h3
        cases own with
        | false => exact h.imm n _ _ h2 hpos b hb _ hm.2
        | true =>
          have hh := h.holds n _ h2
          have hn : φ n b := (hh.2 b).2 hb
          have := h.dis _ _ b hm.2 hn
          have hmem : n ∈ Tn := by
            rw [← this]
            exact List.mem_of_getElem? (getD_some (d := 0) hm.1)
          have hok' := List.all_eq_true.1 hok n (List.mem_of_getElem? h1)
          simp [isOwn, h2, hmem] at hok'
  · simp [locH, pickH] at hk
    have := hb.1
    omega
  · have hle : (locH Tn Ln H).length = Tn.length + Ln.length := by simp [locH, pickH]
    rcases Nat.lt_or_ge k Tn.length with hk | hk
    · rw [hgetl hk] at hc
      have := hp.cl k c hc m hm
      rw [hlen] at this
      omega
    · obtain ⟨n, c0, h1, h2, rfl⟩ := hget hk hc
      cases c0 <;> simp [Chunk.lent, Chunk.names] at hm
end
end Go.Proofs.Ytbonbaccmlomhaa.Sx
end
section
/- The rule of the frame, end. No program in sight. -/
namespace Go.Proofs.Ytbonbaccmlomhaa.Sx
open Go

section
variable {C : Ctx}
variable {H H' H1 : List (Chunk C)} {σ σ' σ1 : Nat → Value} {φ φ' φ1 : Nat → Nat → Prop} {w w' : World}

def backσ (Tn L : List Nat) (h0 : Nat) (σ σ1 : Nat → Value) (n : Nat) : Value := if n < h0 then (match idxOf n Tn with | some k => σ1 k | none => σ n) else σ1 (n - h0 + L.length)
def backφ (Tn L : List Nat) (h0 : Nat) (φ φ1 : Nat → Nat → Prop) (n b : Nat) : Prop := if n < h0 then (match idxOf n Tn with | some k => φ1 k b | none => φ n b) else φ1 (n - h0 + L.length) b

theorem locH_get {Tn Ln : List Nat} {k n : Nat} (hT : ∀ n ∈ Tn, n < H.length) (h : Tn[k]? = some n) : (locH Tn Ln H)[k]? = (H[n]?).map (Chunk.ren fun n => idxOf n Tn) := by
  have hk := (List.getElem?_eq_some_iff.1 h).1
  unfold locH
  rw [List.getElem?_append_left (by simpa [pickH] using hk)]
  unfold pickH
  rw [List.getElem?_map, h, getD_some (d := .gone) (hT n (List.mem_of_getElem? h))]
  rfl
theorem frame_out (hC : C.OK) (h : Sat C σ φ w H) {Tn Ln : List Nat} (hnd : Tn.Nodup) (hT : ∀ n ∈ Tn, n < H.length) (hL : ∀ n ∈ Ln, n < H.length) (hok : okLent Tn Ln H = true) {ts : List Nat} {r : SV} {v : Value}
    (g : COut C (locH Tn Ln H) (fun k => σ ((Tn ++ Ln).getD k 0)) (fun k b => k < Tn.length ∧ φ ((Tn ++ Ln).getD k 0) b) w ts r v H1 σ1 φ1 w')
    (hoo : okOut Tn.length (Tn ++ Ln).length (locH Tn Ln H) H1 ts = true) :
    COut C H σ φ w (ts.filterMap (Tn[·]?)) (r.ren (backN (Tn ++ Ln) H.length)) v (backH Tn (Tn ++ Ln) (ts.filterMap (Tn[·]?)) H H1) (backσ Tn (Tn ++ Ln) H.length σ σ1) (backφ Tn (Tn ++ Ln) H.length φ φ1) w' := by
  have hl0 : (locH Tn Ln H).length = (Tn ++ Ln).length := by simp [locH, pickH]
  have hn0 : (Tn ++ Ln).length ≤ H1.length := hl0 ▸ g.len
  have htl : Tn.length ≤ (Tn ++ Ln).length := by simp
  have hgl : ∀ {k n : Nat}, Tn[k]? = some n → (Tn ++ Ln).getD k 0 = n := fun {k n} hk => by
    simp [List.getD_eq_getElem?_getD, List.getElem?_append_left (List.getElem?_eq_some_iff.1 hk).1, hk]
  have hts : ∀ {k n : Nat}, Tn[k]? = some n → n ∉ ts.filterMap (Tn[·]?) → k ∉ ts := fun {k n} hk hn hh => hn (List.mem_filterMap.2 ⟨k, hh, hk⟩)
  have hown : ∀ {k n : Nat}, Tn[k]? = some n → isOwn (locH Tn Ln H) k = isOwn H n := fun {k n} hk => isOwn_ren (locH_get hT hk)
  have hks : ∀ {k n : Nat}, Tn[k]? = some n → k < (locH Tn Ln H).length := fun {k n} hk => by
    have := (List.getElem?_eq_some_iff.1 hk).1; omega
  have hsame : ∀ {k n : Nat}, Tn[k]? = some n → isOwn H n = false ∨ n ∉ ts.filterMap (Tn[·]?) → σ1 k = σ n := fun {k n} hk ho => by
    have := g.agree k (hks hk) (ho.imp (fun e => (hown hk).trans e) (hts hk))
    rw [this, hgl hk]
  have hblen : (backH Tn (Tn ++ Ln) (ts.filterMap (Tn[·]?)) H H1).length = H.length + (H1.length - (Tn ++ Ln).length) := by simp [backH]
  have hbin : ∀ {n k : Nat}, idxOf n Tn = some k → (backH Tn (Tn ++ Ln) (ts.filterMap (Tn[·]?)) H H1)[n]? = (H1[k]?).map (Chunk.ren (backN (Tn ++ Ln) H.length)) := fun {n k} hk => by
    have hn := hT n (List.mem_of_getElem? (idxOf_spec hk))
    have := hks (idxOf_spec hk)
    unfold backH
    rw [List.getElem?_append_left (by simpa using hn), List.getElem?_map, List.getElem?_range hn]
    simp only [Option.map_some, hk]
    rw [getD_some (d := .gone) (l := H1) (i := k) (by omega)]
    rfl
  have hbno : ∀ {n : Nat}, n < H.length → idxOf n Tn = none → (backH Tn (Tn ++ Ln) (ts.filterMap (Tn[·]?)) H H1)[n]? = (killsH ((ts.filterMap (Tn[·]?)).filter (isOwn H)) H)[n]? := fun {n} hn hk => by
    unfold backH
    rw [List.getElem?_append_left (by simpa using hn), List.getElem?_map, List.getElem?_range hn]
    simp only [Option.map_some, hk]
    rw [← getD_some (by rw [killsH_length]; exact hn)]
  have hbnew : ∀ {n : Nat}, H.length ≤ n → (backH Tn (Tn ++ Ln) (ts.filterMap (Tn[·]?)) H H1)[n]? = (H1[n - H.length + (Tn ++ Ln).length]?).map (Chunk.ren (backN (Tn ++ Ln) H.length)) := fun {n} hn => by
    unfold backH
    rw [List.getElem?_append_right (by simpa using hn), List.getElem?_map, List.getElem?_drop]
    simp only [List.length_map, List.length_range, Nat.add_comm]
  -- the source of a name that was handed over or is new
  have src : ∀ n, (n ∈ Tn ∨ H.length ≤ n) → ∃ k, backσ Tn (Tn ++ Ln) H.length σ σ1 n = σ1 k ∧ (∀ b, backφ Tn (Tn ++ Ln) H.length φ φ1 n b ↔ φ1 k b) ∧
      (backH Tn (Tn ++ Ln) (ts.filterMap (Tn[·]?)) H H1)[n]? = (H1[k]?).map (Chunk.ren (backN (Tn ++ Ln) H.length)) ∧ ((Tn[k]? = some n ∧ n < H.length) ∨ ((Tn ++ Ln).length ≤ k ∧ n = H.length + (k - (Tn ++ Ln).length))) := by
    intro n hn
    by_cases hlt : n < H.length
    · have hmem : n ∈ Tn := hn.resolve_right (by omega)
      cases hi : idxOf n Tn with
      | none => exact absurd hmem (idxOf_none hi)
      | some k => exact ⟨k, by simp [backσ, hlt, hi], fun b => by simp [backφ, hlt, hi], hbin hi, .inl ⟨idxOf_spec hi, hlt⟩⟩
    · exact ⟨n - H.length + (Tn ++ Ln).length, by simp only [backσ, if_neg hlt], fun b => by simp only [backφ, if_neg hlt], hbnew (by omega), .inr ⟨by omega, by omega⟩⟩
  have hno : ∀ n, ¬ (n ∈ Tn ∨ H.length ≤ n) → n < H.length ∧ idxOf n Tn = none := fun n hn => by
    have h1 : n ∉ Tn := fun e => hn (.inl e)
    refine ⟨by have : ¬ H.length ≤ n := fun e => hn (.inr e); omega, ?_⟩
    cases hi : idxOf n Tn with
    | none => rfl
    | some k => exact absurd (List.mem_of_getElem? (idxOf_spec hi)) h1
  have hρ : ∀ j m, backN (Tn ++ Ln) H.length j = some m → backσ Tn (Tn ++ Ln) H.length σ σ1 m = σ1 j := by
    intro j m hjm
    unfold backN at hjm
    split at hjm
    · rename_i n hn
      simp only [Option.some.injEq] at hjm
      subst hjm
      rcases Nat.lt_or_ge j Tn.length with hj | hj
      · rw [List.getElem?_append_left hj] at hn
        simp [backσ, hT n (List.mem_of_getElem? hn), idxOf_nodup hnd hn]
      · have hjl := (List.getElem?_eq_some_iff.1 hn).1
        have hn' := hn
        rw [List.getElem?_append_right hj] at hn
        have hnl := hL n (List.mem_of_getElem? hn)
        have hlent : isOwn (locH Tn Ln H) j = false := by
          unfold isOwn locH
          rw [List.getElem?_append_right (by simpa [pickH] using hj)]
          simp only [pickH, List.length_map, List.getElem?_map, hn, Option.map_some]
          cases H.getD n .gone <;> rfl
        have hj1 : σ1 j = σ n := by
          rw [g.agree j (by omega) (.inl hlent)]
          simp [List.getD_eq_getElem?_getD, hn']
        rw [hj1]
        unfold backσ
        rw [if_pos hnl]
        split
        · rename_i k hk
          refine hsame (idxOf_spec hk) (.inl ?_)
          have := List.all_eq_true.1 hok n (List.mem_of_getElem? hn)
          have hmem := List.mem_of_getElem? (idxOf_spec hk)
          simpa [hmem] using this
        · rfl
    · rename_i hj
      simp only [Option.some.injEq] at hjm
      subst hjm
      have : (Tn ++ Ln).length ≤ j := List.getElem?_eq_none_iff.1 hj
      unfold backσ
      rw [if_neg (by omega)]
      congr 1
      omega
  have hren : ∀ j m, backN (Tn ++ Ln) H.length j = some m → j < H1.length → m < H.length + (H1.length - (Tn ++ Ln).length) := by
    intro j m hjm hj
    unfold backN at hjm
    split at hjm
    · rename_i n hn
      simp only [Option.some.injEq] at hjm
      subst hjm
      rcases List.mem_append.1 (List.mem_of_getElem? hn) with hn | hn
      · have := hT n hn; omega
      · have := hL n hn; omega
    · rename_i hj'
      simp only [Option.some.injEq] at hjm
      subst hjm
      have : (Tn ++ Ln).length ≤ j := List.getElem?_eq_none_iff.1 hj'
      omega
  have hfrl : ∀ b, b < w.heap.size → (∀ n, (n ∈ Tn ∨ H.length ≤ n) → ¬ φ n b) → w'.heap[b]? = w.heap[b]? := fun b hb hno => g.adv.fr b hb fun k hk => by
    have := getD_some (d := 0) hk.1
    rw [hgl this] at hk
    exact hno _ (.inl (List.mem_of_getElem? this)) hk.2
  have hold' : ∀ n, ¬ (n ∈ Tn ∨ H.length ≤ n) → backσ Tn (Tn ++ Ln) H.length σ σ1 n = σ n ∧ ∀ b, backφ Tn (Tn ++ Ln) H.length φ φ1 n b ↔ φ n b := fun n hn => by
    obtain ⟨h1, h2⟩ := hno n hn
    exact ⟨by simp [backσ, h1, h2], fun b => by simp [backφ, h1, h2]⟩
  have hgrow : ∀ n b, (n ∈ Tn ∨ H.length ≤ n) → backφ Tn (Tn ++ Ln) H.length φ φ1 n b → (∃ m, (m ∈ Tn ∨ H.length ≤ m) ∧ φ m b) ∨ w.heap.size ≤ b := fun n b hn hb => by
    obtain ⟨k, _, h2, _⟩ := src n hn
    rcases g.adv.grow k b ((h2 b).1 hb) with ⟨m, hm⟩ | hle
    · have := getD_some (d := 0) hm.1
      rw [hgl this] at hm
      exact .inl ⟨_, .inl (List.mem_of_getElem? this), hm.2⟩
    · exact .inr hle
  have hagree : ∀ n, n < H.length → isOwn H n = false ∨ n ∉ ts.filterMap (Tn[·]?) → backσ Tn (Tn ++ Ln) H.length σ σ1 n = σ n := fun n hn ho => by
    unfold backσ
    rw [if_pos hn]
    split
    · rename_i k hk; exact hsame (idxOf_spec hk) ho
    · rfl
  obtain ⟨hoo1, hoo2⟩ := Bool.and_eq_true_iff.1 hoo
  have hsat : Sat C (backσ Tn (Tn ++ Ln) H.length σ σ1) (backφ Tn (Tn ++ Ln) H.length φ φ1) w' (backH Tn (Tn ++ Ln) (ts.filterMap (Tn[·]?)) H H1) := by
    refine (h.kills ((ts.filterMap (Tn[·]?)).filter (isOwn H))).step hC (fun n => n ∈ Tn ∨ H.length ≤ n) g.adv.size hfrl (fun n hn => ⟨hbno (hno n hn).1 (hno n hn).2, hold' n hn⟩) (fun n c hn hc m hm => ?_) (fun n c hn hc => ?_)
      hgrow (fun n m b hn hm hb hb' => ?_) (fun n b hn hb => ?_) (fun n e l hn hc hpos b hb m hm => ?_) (fun n hn b hb => ?_) (by rw [killsH_length, hblen]; omega) (fun n c hn hc m hm => ?_)
    · have hlt := (h.kills ((ts.filterMap (Tn[·]?)).filter (isOwn H))).cl n c hc m hm
      rw [killsH_length] at hlt
      refine hagree m hlt ?_
      have := killsH_get _ hc m hm
      rw [List.mem_filter] at this
      by_cases hm' : m ∈ ts.filterMap (Tn[·]?)
      · refine .inl ?_
        cases hx : isOwn H m with
        | false => rfl
        | true => exact absurd ⟨hm', hx⟩ this
      · exact .inr hm'
    · obtain ⟨k, h1, h2, h3, _⟩ := src n hn
      rw [h3, Option.map_eq_some_iff] at hc
      obtain ⟨c0, hc0, rfl⟩ := hc
      rw [h1, show backφ Tn (Tn ++ Ln) H.length φ φ1 n = φ1 k from funext fun b => propext (h2 b)]
      exact (g.sat.holds k c0 hc0).ren hρ
    · obtain ⟨k, _, h2, _, h4⟩ := src n hn
      obtain ⟨k', _, h2', _, h4'⟩ := src m hm
      have := g.sat.dis k k' b ((h2 b).1 hb) ((h2' b).1 hb')
      subst this
      rcases h4 with ⟨h4, _⟩ | ⟨h4, h5⟩ <;> rcases h4' with ⟨h4', _⟩ | ⟨h4', h5'⟩
      · exact Option.some.inj (h4.symm.trans h4')
      · have := (List.getElem?_eq_some_iff.1 h4).1; omega
      · have := (List.getElem?_eq_some_iff.1 h4').1; omega
      · omega
    · obtain ⟨k, _, h2, _⟩ := src n hn
      exact g.sat.bd k b ((h2 b).1 hb)
    · obtain ⟨k, h1, h2, h3, h4⟩ := src n hn
      rw [h3, Option.map_eq_some_iff] at hc
      obtain ⟨c0, hc0, he⟩ := hc
      have he' := Chunk.ren_row he
      subst he'
      rw [h1] at hb
      by_cases hmS : m ∈ Tn ∨ H.length ≤ m
      · obtain ⟨k', _, h2', _⟩ := src m hmS
        exact g.sat.imm k e l hc0 hpos b hb k' ((h2' b).1 hm)
      · have hm2 := ((hold' m hmS).2 b).1 hm
        rcases h4 with ⟨h4, hlt⟩ | ⟨h4, _⟩
        · have hk := (List.getElem?_eq_some_iff.1 h4).1
          have hkk := List.all_eq_true.1 hoo1 k (List.mem_range.2 hk)
          have e1 : isRow0 (H1.getD k .gone) = true := by
            have : H1.getD k .gone = .row false e l := by simp [List.getD_eq_getElem?_getD, hc0]
            rw [this]; rfl
          rw [e1] at hkk
          simp only [Bool.not_true, Bool.false_or, Bool.or_eq_true, Bool.and_eq_true] at hkk
          have hHn := getD_some (d := .gone) hlt
          have hHl := locH_get (Ln := Ln) hT h4
          rw [hHn] at hHl
          have hgd : (locH Tn Ln H).getD k .gone = (H.getD n .gone).ren (fun n => idxOf n Tn) := by
            rw [List.getD_eq_getElem?_getD, hHl]; rfl
          rcases hkk with hkk | ⟨hk1, hk2⟩
          · rw [hgd] at hkk
            generalize H.getD n .gone = c at *
            match c, hkk, hHn with
            | .row false e' l', _, hHn =>
              have hnown : isOwn H n = false := by simp [isOwn, hHn]
              have hσ := hsame h4 (.inl hnown)
              rw [hσ] at hb
              refine h.imm n e' l' hHn ?_ b hb m hm2
              have i1 := (g.sat.holds k _ hc0).1
              have i2 := (h.holds n _ hHn).1
              obtain ⟨A, c, e1, _⟩ := i1
              obtain ⟨A', c', e2, _⟩ := i2
              rw [hσ, e2] at e1
              simp only [Value.slice.injEq] at e1
              omega
          · have hk2' : k ∉ ts := by simpa using hk2
            rw [hown h4] at hk1
            obtain ⟨e', l', hHo⟩ := isOwn_some.1 hk1
            have hσ : σ1 k = σ n := by
              rw [g.agree k (hks h4) (.inr hk2'), hgl h4]
            rw [hσ] at hb
            have := ((h.holds n _ hHo).2 b).2 hb
            have := h.dis m n b hm2 this
            subst this
            exact hmS (.inl (List.mem_of_getElem? h4))
        · have hmem : Chunk.row false e l ∈ H1.drop (Tn ++ Ln).length := by
            refine List.mem_of_getElem? (i := k - (Tn ++ Ln).length) ?_
            rw [List.getElem?_drop]
            rw [show (Tn ++ Ln).length + (k - (Tn ++ Ln).length) = k by omega]
            exact hc0
          have := List.all_eq_true.1 hoo2 _ hmem
          simp [isRow0] at this
    · rw [hblen] at hn
      unfold backφ at hb
      rw [if_neg (by omega)] at hb
      exact g.sat.out _ (by omega) b hb
    · obtain ⟨k, h1, h2, h3, h4⟩ := src n hn
      rw [h3, Option.map_eq_some_iff] at hc
      obtain ⟨c0, hc0, rfl⟩ := hc
      obtain ⟨j, hj, e⟩ := Chunk.ren_names m hm
      rw [hblen]
      exact hren j m e (g.sat.cl k c0 hc0 j hj)
  refine ⟨SV.ren_rel hρ g.rel, fun m hm => ?_, hsat, ⟨g.adv.os, g.adv.tape, g.adv.output, g.adv.size, fun k hk hn => hfrl k hk fun n _ => hn n, fun n b hb => ?_⟩, by rw [hblen]; omega, hagree, fun n hn ho => ?_, fun n hn hnt => ?_⟩
  · obtain ⟨j, hj, e⟩ := SV.ren_names m hm
    rw [hblen]
    exact hren j m e (g.rcl j hj)
  · by_cases hS : n ∈ Tn ∨ H.length ≤ n
    · rcases hgrow n b hS hb with ⟨m, _, hm⟩ | hle
      · exact .inl ⟨m, hm⟩
      · exact .inr hle
    · exact .inl ⟨n, ((hold' n hS).2 b).1 hb⟩
  · cases hi : idxOf n Tn with
    | some k =>
      rw [isOwn_ren (hbin hi)] at ho
      have := g.own k (hks (idxOf_spec hi)) ho
      rw [hown (idxOf_spec hi)] at this
      exact this
    | none =>
      have := hbno hn hi
      unfold isOwn at ho
      rw [this] at ho
      exact killsH_own ((ts.filterMap (Tn[·]?)).filter (isOwn H)) ▸ ho
  · cases hi : idxOf n Tn with
    | some k =>
      obtain ⟨h1, h2⟩ := g.touch k (hks (idxOf_spec hi)) (hts (idxOf_spec hi) hnt)
      have hl : ∀ b, Rdb (locH Tn Ln H) (fun k => σ ((Tn ++ Ln).getD k 0)) k b ↔ Rdb H σ n b := fun b => Rdb.same (by simp only [hgl (idxOf_spec hi)]) (locH_get hT (idxOf_spec hi))
      refine ⟨fun b => ?_, fun b hb hlt => h2 b ((hl b).2 hb) hlt⟩
      rw [← hl b, ← h1 b]
      exact Rdb.same (by simp [backσ, hn, hi]) (hbin hi)
    | none =>
      have hS : ¬ (n ∈ Tn ∨ H.length ≤ n) := fun hh => by
        rcases hh with hh | hh
        · exact idxOf_none hi hh
        · omega
      refine ⟨fun b => ?_, fun b hb hlt => hfrl b hlt fun m hm hφ => hS (by rw [rdb_apart h hb hφ]; exact hm)⟩
      rw [← killsH_rdb ((ts.filterMap (Tn[·]?)).filter (isOwn H)) (σ := σ)]
      unfold Rdb
      rw [hbno hn hi, (hold' n hS).1]

theorem frame (hC : C.OK) {f : FuncId} {t : Tfm C} (ht : SoundT C f t) (ms : List Bool) : SoundT C f (frameT ms t) where
  enter := ht.enter
  call args H K hk := by
    intro σ φ w vs hs hr hn
    unfold frameT at hk
    simp only at hk
    split at hk <;> try (exact hk.elim)
    rename_i hok
    obtain ⟨d1, ⟨_, _⟩, d3⟩ := dedup_spec (rootsA ms args) [] List.nodup_nil
    obtain ⟨c1, _, c3⟩ := closeN_spec hs.cl 6 _ d1 fun n hn' => by
      rcases d3 n hn' with h | h
      · cases h
      · obtain ⟨x, hx, hxn⟩ := rootsA_names args ms n h
        exact hn x hx n hxn
    generalize closeN H 6 (dedup [] (rootsA ms args)) = Tn at *
    obtain ⟨x, l1, l2, l3, l4⟩ := locTs_spec (Tn := Tn) args ms []
    have hx : (locTs Tn ms args []).2 = x := by simpa using l1
    rw [hx] at hk hok l3
    have hL : ∀ n ∈ x, n < H.length := fun n hnx => by
      obtain ⟨a, ha, han⟩ := l2 n hnx
      exact hn a ha n han
    have hsl := hs.loc hC c1 c3 hL hok
    have hrl := l4 σ (fun k => σ ((Tn ++ x).getD k 0)) [] (fun k n hkn => by
      have : (Tn ++ x)[k]? = some n := by simpa using hkn
      simp [List.getD_eq_getElem?_getD, this]) vs hr
    refine Calls.mono (ht.call _ _ _ hk _ _ w vs hsl hrl fun a ha m hm => ?_) fun e w' hh => ?_
    · have := l3 a ha m hm
      simpa [locH, pickH] using this
    · cases e with
      | panicked ch => exact hh.elim
      | outgrown => exact hh.elim
      | returned v =>
        obtain ⟨r, H1, ts, σ1, φ1, hout, hK⟩ := hh
        split at hK <;> try (exact hK.elim)
        rename_i hoo
        exact ⟨_, _, _, _, _, frame_out hC hs c1 c3 hL hok hout hoo, hK⟩
/-- Every row is of a length that the machine bears. -/
def RowB (H : List (Chunk C)) : Prop := ∀ (n : Nat) own e l, H[n]? = some (.row own e l) → l.length ≤ maxLen

theorem CallOK.rowB (hC : C.OK) {f : FuncId} {args : List TV} {K : SV → List (Chunk C) → List Nat → Prop} (h : RowB H → CallOK C f args H K) : CallOK C f args H K := by
  intro σ φ w vs hs hr hn
  refine h (fun n own e l hl => ?_) σ φ w vs hs hr hn
  obtain ⟨A, c, _, hrd⟩ := (hs.holds n _ hl).rd hC
  exact Nat.le_trans hrd.cap hrd.max
end
end Go.Proofs.Ytbonbaccmlomhaa.Sx
end
section
/- The kinds of elements of the arena's programs, and the logic over them. -/
namespace Go.Proofs.Ytbonbaccmlomhaa.Sx
open Go

structure SlotT where
  alloc : Bool
  count : Int
  gen : Int
  node : NodeT
  deriving DecidableEq
structure FindT where
  kind : Int
  slot : Int
  want : Int
  have_ : Int
  deriving DecidableEq
structure ItemT where
  index : Int
  size : Int
  key : Int
  value : Int
  single : Bool
  deriving DecidableEq
structure PStepT where
  index : Int
  open_ : Bool
  deriving DecidableEq
structure LStepT where
  drop : Bool
  key : Int
  value : Int
  left : Int
  right : Int
  deriving DecidableEq
structure MoveT where
  kind : Int
  key : Int
  at_ : Int
  deriving DecidableEq
structure EdtT where
  del : Bool
  at_ : Int
  ent : Ent
  deriving DecidableEq

inductive EC where
  | ent
  | i64
  | int
  | u32
  | bool
  | node
  | chg
  | slot
  | find
  | item
  | edt
  | edm
  deriving DecidableEq

def EC.α : EC → Type
  | .ent => Ent
  | .i64 => Int
  | .int => Int
  | .u32 => Int
  | .bool => Bool
  | .node => NodeT
  | .chg => Chg
  | .slot => SlotT
  | .find => FindT
  | .item => ItemT
  | .edt => EdtT
  | .edm => EdtT

def EC.enc : (e : EC) → e.α → List Value
  | .ent, x => [.int .i64 x.1, .int .i64 x.2]
  | .i64, x => [.int .i64 x]
  | .int, x => [.int .i64 x]
  | .u32, x => [.int .u32 x]
  | .bool, x => [.bool x]
  | .node, x => [.int .i64 x.key, .int .i64 x.value, .int .u32 x.left, .int .u32 x.right, .int .i64 x.size, .int .i64 x.sum, .int .i64 x.min, .int .i64 x.max]
  | .chg, x => [.int .i64 x.kind, .int .i64 x.key, .int .i64 x.old, .int .i64 x.new]
  | .slot, x => [.bool x.alloc, .int .i64 x.count, .int .u32 x.gen, .int .i64 x.node.key, .int .i64 x.node.value, .int .u32 x.node.left, .int .u32 x.node.right, .int .i64 x.node.size, .int .i64 x.node.sum, .int .i64 x.node.min, .int .i64 x.node.max]
  | .find, x => [.int .i64 x.kind, .int .u32 x.slot, .int .i64 x.want, .int .i64 x.have_]
  | .item, x => [.int .u32 x.index, .int .i64 x.size, .int .i64 x.key, .int .i64 x.value, .bool x.single]
  | .edt, x => [.bool x.del, .int .i64 x.at_, .int .i64 x.ent.1, .int .i64 x.ent.2]
  | .edm, x => [.bool x.del, .int .i64 x.at_, .int .i64 x.ent.1, .int .i64 x.ent.2]

def dcd_ent : List Value → Option Ent := fun l => match l with | [.int .i64 x0, .int .i64 x1] => some (x0, x1) | _ => none
def dcd_i64 : List Value → Option Int := fun l => match l with | [.int .i64 x0] => some x0 | _ => none
def dcd_int : List Value → Option Int := fun l => match l with | [.int .i64 x0] => some x0 | _ => none
def dcd_u32 : List Value → Option Int := fun l => match l with | [.int .u32 x0] => some x0 | _ => none
def dcd_bool : List Value → Option Bool := fun l => match l with | [.bool x0] => some x0 | _ => none
def dcd_node : List Value → Option NodeT := fun l => match l with | [.int .i64 x0, .int .i64 x1, .int .u32 x2, .int .u32 x3, .int .i64 x4, .int .i64 x5, .int .i64 x6, .int .i64 x7] => some ⟨x0, x1, x2, x3, x4, x5, x6, x7⟩ | _ => none
def dcd_chg : List Value → Option Chg := fun l => match l with | [.int .i64 x0, .int .i64 x1, .int .i64 x2, .int .i64 x3] => some ⟨x0, x1, x2, x3⟩ | _ => none
def dcd_slot : List Value → Option SlotT := fun l => match l with | [.bool x0, .int .i64 x1, .int .u32 x2, .int .i64 x3, .int .i64 x4, .int .u32 x5, .int .u32 x6, .int .i64 x7, .int .i64 x8, .int .i64 x9, .int .i64 x10] => some ⟨x0, x1, x2, ⟨x3, x4, x5, x6, x7, x8, x9, x10⟩⟩ | _ => none
def dcd_find : List Value → Option FindT := fun l => match l with | [.int .i64 x0, .int .u32 x1, .int .i64 x2, .int .i64 x3] => some ⟨x0, x1, x2, x3⟩ | _ => none
def dcd_item : List Value → Option ItemT := fun l => match l with | [.int .u32 x0, .int .i64 x1, .int .i64 x2, .int .i64 x3, .bool x4] => some ⟨x0, x1, x2, x3, x4⟩ | _ => none
def dcd_edt : List Value → Option EdtT := fun l => match l with | [.bool x0, .int .i64 x1, .int .i64 x2, .int .i64 x3] => some ⟨x0, x1, (x2, x3)⟩ | _ => none
def dcd_edm : List Value → Option EdtT := fun l => match l with | [.bool x0, .int .i64 x1, .int .i64 x2, .int .i64 x3] => some ⟨x0, x1, (x2, x3)⟩ | _ => none
def EC.dcd : (e : EC) → List Value → Option e.α
  | .ent => dcd_ent
  | .i64 => dcd_i64
  | .int => dcd_int
  | .u32 => dcd_u32
  | .bool => dcd_bool
  | .node => dcd_node
  | .chg => dcd_chg
  | .slot => dcd_slot
  | .find => dcd_find
  | .item => dcd_item
  | .edt => dcd_edt
  | .edm => dcd_edm

def EC.dft : (e : EC) → e.α
  | .ent => ((0 : Int), (0 : Int))
  | .i64 => (0 : Int)
  | .int => (0 : Int)
  | .u32 => (0 : Int)
  | .bool => false
  | .node => ⟨0, 0, 0, 0, 0, 0, 0, 0⟩
  | .chg => ⟨0, 0, 0, 0⟩
  | .slot => ⟨false, 0, 0, ⟨0, 0, 0, 0, 0, 0, 0, 0⟩⟩
  | .find => ⟨0, 0, 0, 0⟩
  | .item => ⟨0, 0, 0, 0, false⟩
  | .edt => ⟨false, 0, (0, 0)⟩
  | .edm => ⟨false, 0, (0, 0)⟩

def EC.sz : EC → Nat
  | .ent => 2
  | .i64 => 1
  | .int => 1
  | .u32 => 1
  | .bool => 1
  | .node => 8
  | .chg => 4
  | .slot => 11
  | .find => 4
  | .item => 5
  | .edt => 4
  | .edm => 4

def EC.tid : EC → TypeId
  | .ent => 98
  | .i64 => 2
  | .int => 3
  | .u32 => 26
  | .bool => 4
  | .node => 110
  | .chg => 35
  | .slot => 124
  | .find => 202
  | .item => 209
  | .edt => 100
  | .edm => 176

def EC.byT (t : TypeId) : Option EC :=
  if t = 98 then some .ent else
  if t = 2 then some .i64 else
  if t = 3 then some .int else
  if t = 26 then some .u32 else
  if t = 4 then some .bool else
  if t = 110 then some .node else
  if t = 35 then some .chg else
  if t = 124 then some .slot else
  if t = 202 then some .find else
  if t = 209 then some .item else
  if t = 100 then some .edt else
  if t = 176 then some .edm else
  none

noncomputable def C0 : Ctx where
  P := Try.prog
  EC := EC
  deq := inferInstance
  α := EC.α
  enc := EC.enc
  dcd := EC.dcd
  dft := EC.dft
  sz := EC.sz
  tid := EC.tid
  byT := EC.byT
  X := Empty
  I := fun _ _ _ _ => False

theorem dcd_ent_spec {cs : List Value} {x : Ent} (h : dcd_ent cs = some x) : EC.enc .ent x = cs := by unfold dcd_ent at h; split at h <;> simp at h; subst h; rfl
theorem dcd_i64_spec {cs : List Value} {x : Int} (h : dcd_i64 cs = some x) : EC.enc .i64 x = cs := by unfold dcd_i64 at h; split at h <;> simp at h; subst h; rfl
theorem dcd_int_spec {cs : List Value} {x : Int} (h : dcd_int cs = some x) : EC.enc .int x = cs := by unfold dcd_int at h; split at h <;> simp at h; subst h; rfl
theorem dcd_u32_spec {cs : List Value} {x : Int} (h : dcd_u32 cs = some x) : EC.enc .u32 x = cs := by unfold dcd_u32 at h; split at h <;> simp at h; subst h; rfl
theorem dcd_bool_spec {cs : List Value} {x : Bool} (h : dcd_bool cs = some x) : EC.enc .bool x = cs := by unfold dcd_bool at h; split at h <;> simp at h; subst h; rfl
theorem dcd_node_spec {cs : List Value} {x : NodeT} (h : dcd_node cs = some x) : EC.enc .node x = cs := by unfold dcd_node at h; split at h <;> simp at h; subst h; rfl
theorem dcd_chg_spec {cs : List Value} {x : Chg} (h : dcd_chg cs = some x) : EC.enc .chg x = cs := by unfold dcd_chg at h; split at h <;> simp at h; subst h; rfl
theorem dcd_slot_spec {cs : List Value} {x : SlotT} (h : dcd_slot cs = some x) : EC.enc .slot x = cs := by unfold dcd_slot at h; split at h <;> simp at h; subst h; rfl
theorem dcd_find_spec {cs : List Value} {x : FindT} (h : dcd_find cs = some x) : EC.enc .find x = cs := by unfold dcd_find at h; split at h <;> simp at h; subst h; rfl
theorem dcd_item_spec {cs : List Value} {x : ItemT} (h : dcd_item cs = some x) : EC.enc .item x = cs := by unfold dcd_item at h; split at h <;> simp at h; subst h; rfl
theorem dcd_edt_spec {cs : List Value} {x : EdtT} (h : dcd_edt cs = some x) : EC.enc .edt x = cs := by unfold dcd_edt at h; split at h <;> simp at h; subst h; rfl
theorem dcd_edm_spec {cs : List Value} {x : EdtT} (h : dcd_edm cs = some x) : EC.enc .edm x = cs := by unfold dcd_edm at h; split at h <;> simp at h; subst h; rfl
theorem byT_spec {t : TypeId} {e : EC} (h : EC.byT t = some e) : t = e.tid := by
  unfold EC.byT at h
  by_cases h_ent : t = 98; (rw [if_pos h_ent] at h; cases h; exact h_ent); rw [if_neg h_ent] at h
  by_cases h_i64 : t = 2; (rw [if_pos h_i64] at h; cases h; exact h_i64); rw [if_neg h_i64] at h
  by_cases h_int : t = 3; (rw [if_pos h_int] at h; cases h; exact h_int); rw [if_neg h_int] at h
  by_cases h_u32 : t = 26; (rw [if_pos h_u32] at h; cases h; exact h_u32); rw [if_neg h_u32] at h
  by_cases h_bool : t = 4; (rw [if_pos h_bool] at h; cases h; exact h_bool); rw [if_neg h_bool] at h
  by_cases h_node : t = 110; (rw [if_pos h_node] at h; cases h; exact h_node); rw [if_neg h_node] at h
  by_cases h_chg : t = 35; (rw [if_pos h_chg] at h; cases h; exact h_chg); rw [if_neg h_chg] at h
  by_cases h_slot : t = 124; (rw [if_pos h_slot] at h; cases h; exact h_slot); rw [if_neg h_slot] at h
  by_cases h_find : t = 202; (rw [if_pos h_find] at h; cases h; exact h_find); rw [if_neg h_find] at h
  by_cases h_item : t = 209; (rw [if_pos h_item] at h; cases h; exact h_item); rw [if_neg h_item] at h
  by_cases h_edt : t = 100; (rw [if_pos h_edt] at h; cases h; exact h_edt); rw [if_neg h_edt] at h
  by_cases h_edm : t = 176; (rw [if_pos h_edm] at h; cases h; exact h_edm); rw [if_neg h_edm] at h
  cases h
theorem info_of {P : Program} {t : TypeId} {z : Value} {n b : Nat} {l : List Value} (h : (P.info? t).map (fun i => (i.zero, i.size, i.bytes)) = some (some z, n, b)) (hz : z.cells.toList = l) (hb : 0 < b) :
    ∃ i z, P.info? t = some i ∧ i.zero = some z ∧ i.size = n ∧ z.cells.toList = l ∧ 0 < i.bytes := by
  rw [Option.map_eq_some_iff] at h
  obtain ⟨i, h1, h2⟩ := h
  simp only [Prod.mk.injEq] at h2
  exact ⟨i, z, h1, h2.1, h2.2.1, hz, h2.2.2 ▸ hb⟩

theorem C0.ok : C0.OK where
  len e x := by cases e <;> rfl
  one e x := by
    have h : ∀ u ∈ EC.enc e x, u.oneCell' = true := by cases e <;> (intro u hu; simp [EC.enc] at hu; (first | (repeat (rcases hu with rfl | hu; exact rfl)); done | (repeat (rcases hu with rfl | hu; exact rfl)); (subst hu; rfl)))
    exact h
  dcd e cs x h := by
    cases e with
    | ent => exact dcd_ent_spec h
    | i64 => exact dcd_i64_spec h
    | int => exact dcd_int_spec h
    | u32 => exact dcd_u32_spec h
    | bool => exact dcd_bool_spec h
    | node => exact dcd_node_spec h
    | chg => exact dcd_chg_spec h
    | slot => exact dcd_slot_spec h
    | find => exact dcd_find_spec h
    | item => exact dcd_item_spec h
    | edt => exact dcd_edt_spec h
    | edm => exact dcd_edm_spec h
  pos e := by cases e <;> decide
  info e := by
    cases e with
    | ent => exact info_of (z := .agg #[.int .i64 0, .int .i64 0]) (n := 2) (b := 16) (by kernel_rfl) rfl (by decide)
    | i64 => exact info_of (z := .int .i64 0) (n := 1) (b := 8) (by kernel_rfl) rfl (by decide)
    | int => exact info_of (z := .int .i64 0) (n := 1) (b := 8) (by kernel_rfl) rfl (by decide)
    | u32 => exact info_of (z := .int .u32 0) (n := 1) (b := 4) (by kernel_rfl) rfl (by decide)
    | bool => exact info_of (z := .bool false) (n := 1) (b := 1) (by kernel_rfl) rfl (by decide)
    | node => exact info_of (z := .agg #[.int .i64 0, .int .i64 0, .int .u32 0, .int .u32 0, .int .i64 0, .int .i64 0, .int .i64 0, .int .i64 0]) (n := 8) (b := 56) (by kernel_rfl) rfl (by decide)
    | chg => exact info_of (z := .agg #[.int .i64 0, .int .i64 0, .int .i64 0, .int .i64 0]) (n := 4) (b := 32) (by kernel_rfl) rfl (by decide)
    | slot => exact info_of (z := .agg #[.bool false, .int .i64 0, .int .u32 0, .int .i64 0, .int .i64 0, .int .u32 0, .int .u32 0, .int .i64 0, .int .i64 0, .int .i64 0, .int .i64 0]) (n := 11) (b := 80) (by kernel_rfl) rfl (by decide)
    | find => exact info_of (z := .agg #[.int .i64 0, .int .u32 0, .int .i64 0, .int .i64 0]) (n := 4) (b := 32) (by kernel_rfl) rfl (by decide)
    | item => exact info_of (z := .agg #[.int .u32 0, .int .i64 0, .int .i64 0, .int .i64 0, .bool false]) (n := 5) (b := 40) (by kernel_rfl) rfl (by decide)
    | edt => exact info_of (z := .agg #[.bool false, .int .i64 0, .int .i64 0, .int .i64 0]) (n := 4) (b := 32) (by kernel_rfl) rfl (by decide)
    | edm => exact info_of (z := .agg #[.bool false, .int .i64 0, .int .i64 0, .int .i64 0]) (n := 4) (b := 32) (by kernel_rfl) rfl (by decide)
  byT t e h := by
    exact byT_spec h
  local_ x := x.elim
  mixed := Try.checked.mixed

theorem enter_of {f : FuncId} {fn : Func} {c : Code} (hf : Try.prog.funcs[f]? = some fn) (hname : (fn.name == "runtime.NumGoroutine") = false) (hb : fn.body = some c) (args : Array Value) (w : World) :
    (callFunc f args).run C0.P w = .ok (.enter f args) w := MuLone.run_callFunc_enter hf hname hb args w

abbrev vI (x : Int) : At := .val (.int .i64 x)
abbrev vU (x : Int) : At := .val (.int .u32 x)
abbrev vU64 (x : Int) : At := .val (.int .u64 x)
abbrev vB (b : Bool) : At := .val (.bool b)
abbrev KT := SV → List (Chunk C0) → List Nat → Prop
/-- A contract out of a run. -/
theorem SoundT.of {f : FuncId} {fn : Func} {c : Code} {t : Tfm C0} (hf : Try.prog.funcs[f]? = some fn) (hname : (fn.name == "runtime.NumGoroutine") = false) (hb : fn.body = some c)
    (h : ∀ args H K, t args H K → RowB H → ∃ A : Ann C0, GOK C0 A.Γ ∧ vc C0 A fn args H (normK H.length K)) : SoundT C0 f t :=
  ⟨enter_of hf hname hb, fun args H K hk => by
    refine CallOK.rowB C0.ok fun hB => ?_
    obtain ⟨A, hG, hv⟩ := h args H K hk hB
    exact CallOK.norm (call_of_vc C0.ok hG hf hv)⟩
/-- The same names touched, whichever way a run takes. -/
def wideK (W0 : List Nat) (K : KT) : KT := fun r H ts => if ts.all W0.contains then K r H W0 else False
theorem CallOK.wide {f : FuncId} {args : List TV} {H : List (Chunk C0)} {K : KT} (W0 : List Nat) (h : CallOK C0 f args H (wideK W0 K)) : CallOK C0 f args H K := by
  intro σ φ w vs hs hr hn
  refine Calls.mono (h σ φ w vs hs hr hn) fun e w' hh => ?_
  cases e with
  | panicked ch => exact hh.elim
  | outgrown => exact hh.elim
  | returned v =>
    obtain ⟨r, H', ts, σ', φ', hout, hK⟩ := hh
    unfold wideK at hK
    split at hK <;> try exact hK.elim
    rename_i hsub
    have hts : ∀ n, n ∉ W0 → n ∉ ts := fun n hn ht => hn (by simpa using List.all_eq_true.1 hsub n ht)
    exact ⟨r, H', W0, σ', φ', ⟨hout.rel, hout.rcl, hout.sat, hout.adv, hout.len, fun n hn ho => hout.agree n hn (ho.imp id (hts n)), hout.own, fun n hn ht => hout.touch n hn (hts n ht)⟩, hK⟩
theorem SoundT.ofW {f : FuncId} {fn : Func} {c : Code} {t : Tfm C0} (W0 : List Nat) (hf : Try.prog.funcs[f]? = some fn) (hname : (fn.name == "runtime.NumGoroutine") = false) (hb : fn.body = some c)
    (h : ∀ args H K, t args H K → RowB H → ∃ A : Ann C0, GOK C0 A.Γ ∧ vc C0 A fn args H (normK H.length (wideK W0 K))) : SoundT C0 f t :=
  ⟨enter_of hf hname hb, fun args H K hk => by
    refine CallOK.wide W0 (CallOK.rowB C0.ok fun hB => ?_)
    obtain ⟨A, hG, hv⟩ := h args H K hk hB
    exact CallOK.norm (call_of_vc C0.ok hG hf hv)⟩

theorem SoundT.weak {f : FuncId} {t t' : Tfm C0} (h : SoundT C0 f t) (hw : ∀ args H K, t' args H K → t args H K) : SoundT C0 f t' := ⟨h.enter, fun args H K hk => h.call args H K (hw args H K hk)⟩
noncomputable def A0 : Ann C0 := { Γ := [] }
theorem brS_of {b : Bool} {t f : Prop} (ht : b = true → t) (hf : b = false → f) : brS b t f := by cases b <;> simp_all [brS]
theorem bytes_ent : bytesOf C0 EC.ent = 16 := by kernel_rfl
theorem bytes_int : bytesOf C0 EC.int = 8 := by kernel_rfl
theorem bytes_u32 : bytesOf C0 EC.u32 = 4 := by kernel_rfl
theorem bytes_bool : bytesOf C0 EC.bool = 1 := by kernel_rfl
theorem bytes_node : bytesOf C0 EC.node = 56 := by kernel_rfl
theorem bytes_slot : bytesOf C0 EC.slot = 80 := by kernel_rfl
end Go.Proofs.Ytbonbaccmlomhaa.Sx
end
section
/- The slots of an arena. -/
namespace Go.Proofs.Ytbonbaccmlomhaa.Sx
open Go

def relOK (rl : List Int) (n : Nat) : Prop := ∀ i ∈ rl, 0 ≤ i ∧ i < (n : Int)
def slM (H : List (Chunk C0)) (k : List Bool → List Int → List Int → Int → Prop) : Prop := match H with
  | [.box [.slc 1, .slc 2, .slc 3, .val (.int .u32 fr)], .row true .bool us, .row true .u32 gn, .row true .u32 rl] => k us gn rl fr
  | _ => False
abbrev slC (us : List Bool) (gn rl : List Int) (fr : Int) : List (Chunk C0) := [.box [.slc 1, .slc 2, .slc 3, vU fr], .row true EC.bool us, .row true EC.u32 gn, .row true EC.u32 rl]
def tSlCap : Tfm C0 := fun args H K => match args with
  | [.at (.ptr 0 0)] => slM H fun us gn rl fr => 1 ≤ us.length ∧ us.length ≤ 65537 ∧ K (.one (.at (vI (us.length - 1)))) (slC us gn rl fr) []
  | _ => False
def tSlAllocated : Tfm C0 := fun args H K => match args with
  | [.at (.ptr 0 0), .at (.val (.int .u32 i))] => slM H fun us gn rl fr => 0 ≤ i ∧ i < 4294967296 ∧ us.length ≤ 65537 ∧ K (.one (.at (vB (us.getD i.toNat false)))) (slC us gn rl fr) []
  | _ => False
def tSlGen : Tfm C0 := fun args H K => match args with
  | [.at (.ptr 0 0), .at (.val (.int .u32 i))] => slM H fun us gn rl fr => 0 ≤ i ∧ i < 4294967296 ∧ gn.length ≤ 65537 ∧ K (.one (.at (vU (gn.getD i.toNat 0)))) (slC us gn rl fr) []
  | _ => False
noncomputable def aSlFree : Ann C0 := { Γ := [(108, frameT [] tSlCap)], quiet := [108] }
def tSlFree : Tfm C0 := fun args H K => match args with
  | [.at (.ptr 0 0)] => slM H fun us gn rl fr => 1 ≤ us.length ∧ us.length ≤ 65537 ∧ rl.length ≤ 65537 ∧ 0 ≤ fr ∧ fr ≤ 65537 ∧ K (.one (.at (vI (rl.length + (us.length - 1) - fr)))) (slC us gn rl fr) []
  | _ => False
noncomputable def aSlAlloc : Ann C0 := { trunc := fun n => n == 30, Γ := [(109, frameT [] tSlFree)] }
def tSlAlloc : Tfm C0 := fun args H K => match args with
  | [.at (.ptr 0 0)] => slM H fun us gn rl fr => 1 ≤ us.length ∧ us.length ≤ 65537 ∧ rl.length ≤ 65537 ∧ 0 ≤ fr ∧ fr ≤ 65537 ∧ gn.length = us.length ∧ relOK rl us.length ∧ 0 ≤ (rl.length : Int) + (us.length - 1) - fr ∧
    ((rl.length : Int) + (us.length - 1) - fr = 0 → K (.tup [.at (vU 0), .at (vI 2)]) (slC us gn rl fr) [0, 1, 2, 3]) ∧
    (0 < (rl.length : Int) + (us.length - 1) - fr → ∀ i rl' fr', (i, rl', fr') = fresh3 rl fr → K (.tup [.at (vU i), .at (vI 0)]) (slC (us.set i.toNat true) (gn.set i.toNat (IntKind.u32.wrap (gn.getD i.toNat 0 + 1))) rl' fr') [0, 1, 2, 3])
  | _ => False
noncomputable def aSlRelease : Ann C0 := { Γ := [(67, frameT [] tSlAllocated)] }
def tSlRelease : Tfm C0 := fun args H K => match args with
  | [.at (.ptr 0 0), .at (.val (.int .u32 i))] => slM H fun us gn rl fr => 0 ≤ i ∧ i < 4294967296 ∧ us.length ≤ 65537 ∧ rl.length ≤ 65537 ∧ us.getD i.toNat false = true ∧ K (.one (.at (vI 0))) (slC (us.set i.toNat false) gn (rl ++ [i]) fr) [0, 1, 3]
  | _ => False
theorem vc_slCap (us : List Bool) (gn rl : List Int) (fr : Int) (K : KT) (h1 : 1 ≤ us.length) (h2 : us.length ≤ 65537) (h : K (.one (.at (vI (us.length - 1)))) (slC us gn rl fr) []) :
    vc C0 A0 Try.f108 [.at (.ptr 0 0)] (slC us gn rl fr) (normK 4 K) := by
  refine Eq.mp (show (K (SV.one (TV.at (At.val (Value.int IntKind.i64 (IntKind.i64.wrap ((↑us.length : Int) - 1)))))) [(Chunk.box [(At.slc 1), (At.slc 2), (At.slc 3), (At.val (Value.int IntKind.u32 (fr)))]), (Chunk.row true (EC.bool) (us)), (Chunk.row true (EC.u32) (gn)), (Chunk.row true (EC.u32) (rl))] []) = _ by kernel_rfl) ?_
  rw [wrap_id (by omega) (by omega)]
  exact h
theorem s_slCap : SoundT C0 108 tSlCap := by
  refine .of Try.func108 (by decide) rfl fun args H K h hB => ?_
  unfold tSlCap at h
  split at h <;> try exact h.elim
  unfold slM at h
  split at h <;> try exact h.elim
  rename_i fr us gn rl
  exact ⟨A0, trivial, vc_slCap us gn rl _ K h.1 h.2.1 h.2.2⟩
theorem vc_slAllocated (us : List Bool) (gn rl : List Int) (fr i : Int) (K : KT) (h1 : 0 ≤ i) (h2 : i < 4294967296) (h3 : us.length ≤ 65537) (h : K (.one (.at (vB (us.getD i.toNat false)))) (slC us gn rl fr) []) :
    vc C0 A0 Try.f67 [.at (.ptr 0 0), .at (vU i)] (slC us gn rl fr) (normK 4 K) := by
  refine Eq.mp (show (brS (decide (IntKind.i64.wrap i < (↑us.length : Int))) (((0 ≤ i) ∧ (i < (↑us.length : Int)) ∧ (K (SV.one (TV.at (At.val (Value.bool (us.getD i.toNat false))))) [(Chunk.box [(At.slc 1), (At.slc 2), (At.slc 3), (At.val (Value.int IntKind.u32 (fr)))]), (Chunk.row true (EC.bool) (us)), (Chunk.row true (EC.u32) (gn)), (Chunk.row true (EC.u32) (rl))] []))) ((K (SV.one (TV.at (At.val (Value.bool false)))) [(Chunk.box [(At.slc 1), (At.slc 2), (At.slc 3), (At.val (Value.int IntKind.u32 (fr)))]), (Chunk.row true (EC.bool) (us)), (Chunk.row true (EC.u32) (gn)), (Chunk.row true (EC.u32) (rl))] []))) = _ by kernel_rfl) ?_
  rw [wrap_id (by omega) (by omega)]
  refine brS_of (fun c => ⟨h1, by simpa using c, h⟩) fun c => ?_
  have e : us.getD i.toNat false = false := by
    have c : ¬ i < (us.length : Int) := by simpa using c
    rw [List.getD_eq_getElem?_getD, List.getElem?_eq_none (by omega)]; rfl
  rw [e] at h
  exact h
theorem s_slAllocated : SoundT C0 67 tSlAllocated := by
  refine .of Try.func67 (by decide) rfl fun args H K h hB => ?_
  unfold tSlAllocated at h
  split at h <;> try exact h.elim
  unfold slM at h
  split at h <;> try exact h.elim
  rename_i i _ fr us gn rl
  exact ⟨A0, trivial, vc_slAllocated us gn rl fr i K h.1 h.2.1 h.2.2.1 h.2.2.2⟩
theorem vc_slGen (us : List Bool) (gn rl : List Int) (fr i : Int) (K : KT) (h1 : 0 ≤ i) (h2 : i < 4294967296) (h3 : gn.length ≤ 65537) (h : K (.one (.at (vU (gn.getD i.toNat 0)))) (slC us gn rl fr) []) :
    vc C0 A0 Try.f110 [.at (.ptr 0 0), .at (vU i)] (slC us gn rl fr) (normK 4 K) := by
  refine Eq.mp (show (brS (decide (IntKind.i64.wrap i ≥ (↑gn.length : Int))) ((K (SV.one (TV.at (At.val (Value.int IntKind.u32 0)))) [(Chunk.box [(At.slc 1), (At.slc 2), (At.slc 3), (At.val (Value.int IntKind.u32 (fr)))]), (Chunk.row true (EC.bool) (us)), (Chunk.row true (EC.u32) (gn)), (Chunk.row true (EC.u32) (rl))] [])) (((0 ≤ i) ∧ (i < (↑gn.length : Int)) ∧ (K (SV.one (TV.at (At.val (Value.int IntKind.u32 (gn.getD i.toNat 0))))) [(Chunk.box [(At.slc 1), (At.slc 2), (At.slc 3), (At.val (Value.int IntKind.u32 (fr)))]), (Chunk.row true (EC.bool) (us)), (Chunk.row true (EC.u32) (gn)), (Chunk.row true (EC.u32) (rl))] [])))) = _ by kernel_rfl) ?_
  rw [wrap_id (by omega) (by omega)]
  refine brS_of (fun c => ?_) fun c => ⟨h1, by simp at c; omega, h⟩
  have e : gn.getD i.toNat 0 = 0 := by
    have c : (gn.length : Int) ≤ i := by simpa using c
    rw [List.getD_eq_getElem?_getD, List.getElem?_eq_none (by omega)]; rfl
  rw [e] at h
  exact h
theorem s_slGen : SoundT C0 110 tSlGen := by
  refine .of Try.func110 (by decide) rfl fun args H K h hB => ?_
  unfold tSlGen at h
  split at h <;> try exact h.elim
  unfold slM at h
  split at h <;> try exact h.elim
  rename_i i _ fr us gn rl
  exact ⟨A0, trivial, vc_slGen us gn rl fr i K h.1 h.2.1 h.2.2.1 h.2.2.2⟩
theorem vc_slFree (us : List Bool) (gn rl : List Int) (fr : Int) (K : KT) (h1 : 1 ≤ us.length) (h2 : us.length ≤ 65537) (h3 : rl.length ≤ 65537) (h4 : 0 ≤ fr) (h5 : fr ≤ 65537) (h : K (.one (.at (vI (rl.length + (us.length - 1) - fr)))) (slC us gn rl fr) []) :
    vc C0 aSlFree Try.f109 [.at (.ptr 0 0)] (slC us gn rl fr) (normK 4 K) := by
  refine Eq.mp (show ((1 ≤ us.length) ∧
(us.length ≤ 65537) ∧
(K (SV.one (TV.at (At.val (Value.int IntKind.i64 (IntKind.i64.wrap (IntKind.i64.wrap ((↑rl.length : Int) + ((↑us.length : Int) - 1)) - IntKind.i64.wrap fr)))))) [(Chunk.box [(At.slc 1), (At.slc 2), (At.slc 3), (At.val (Value.int IntKind.u32 (fr)))]), (Chunk.row true (EC.bool) (us)), (Chunk.row true (EC.u32) (gn)), (Chunk.row true (EC.u32) (rl))] [])) = _ by kernel_rfl) ?_
  refine ⟨h1, h2, ?_⟩
  rw [wrap_id (x := fr) (by omega) (by omega), wrap_id (x := (rl.length : Int) + ((us.length : Int) - 1)) (by omega) (by omega), wrap_id (by omega) (by omega)]
  exact h
theorem s_slFree : SoundT C0 109 tSlFree := by
  refine .of Try.func109 (by decide) rfl fun args H K h hB => ?_
  unfold tSlFree at h
  split at h <;> try exact h.elim
  unfold slM at h
  split at h <;> try exact h.elim
  rename_i fr us gn rl
  exact ⟨aSlFree, ⟨frame C0.ok s_slCap _, trivial⟩, vc_slFree us gn rl fr K h.1 h.2.1 h.2.2.1 h.2.2.2.1 h.2.2.2.2.1 h.2.2.2.2.2⟩
theorem wrap_u32 {x : Int} (h1 : 0 ≤ x) (h2 : x < 4294967296) : IntKind.u32.wrap x = x := by
  unfold IntKind.wrap
  simp [IntKind.signed, IntKind.bits]
  omega
theorem vc_slAlloc (us : List Bool) (gn rl : List Int) (fr : Int) (K : KT) (h1 : 1 ≤ us.length) (h2 : us.length ≤ 65537) (h3 : rl.length ≤ 65537) (h4 : 0 ≤ fr) (h5 : fr ≤ 65537) (h6 : gn.length = us.length) (h7 : relOK rl us.length)
    (h8 : 0 ≤ (rl.length : Int) + (us.length - 1) - fr)
    (ha : (rl.length : Int) + (us.length - 1) - fr = 0 → K (.tup [.at (vU 0), .at (vI 2)]) (slC us gn rl fr) [0, 1, 2, 3])
    (hb : 0 < (rl.length : Int) + (us.length - 1) - fr → ∀ i rl' fr', (i, rl', fr') = fresh3 rl fr → K (.tup [.at (vU i), .at (vI 0)]) (slC (us.set i.toNat true) (gn.set i.toNat (IntKind.u32.wrap (gn.getD i.toNat 0 + 1))) rl' fr') [0, 1, 2, 3]) :
    vc C0 aSlAlloc Try.f131 [.at (.ptr 0 0)] (slC us gn rl fr) (normK 4 (wideK [0, 1, 2, 3] K)) := by
  refine Eq.mp (show ((1 ≤ us.length) ∧
(us.length ≤ 65537) ∧
(rl.length ≤ 65537) ∧
(0 ≤ fr) ∧
(fr ≤ 65537) ∧
(brS ((↑rl.length : Int) + ((↑us.length : Int) - 1) - fr == 0) ((K (SV.tup [(TV.at (At.val (Value.int IntKind.u32 0))), (TV.at (At.val (Value.int IntKind.i64 2)))]) [(Chunk.box [(At.slc 1), (At.slc 2), (At.slc 3), (At.val (Value.int IntKind.u32 (fr)))]), (Chunk.row true (EC.bool) (us)), (Chunk.row true (EC.u32) (gn)), (Chunk.row true (EC.u32) (rl))] [0, 1, 2, 3])) ((brS (decide (IntKind.i64.wrap ((↑rl.length : Int) - 1) ≥ 0)) (((0 ≤ IntKind.i64.wrap ((↑rl.length : Int) - 1)) ∧ (IntKind.i64.wrap ((↑rl.length : Int) - 1) < (↑rl.length : Int)) ∧ (0 ≤ IntKind.i64.wrap ((↑rl.length : Int) - 1)) ∧ (IntKind.i64.wrap ((↑rl.length : Int) - 1) ≤ (↑rl.length : Int)) ∧ (0 ≤ rl.getD (IntKind.i64.wrap ((↑rl.length : Int) - 1)).toNat 0) ∧ (rl.getD (IntKind.i64.wrap ((↑rl.length : Int) - 1)).toNat 0 < (↑us.length : Int)) ∧ (0 ≤ rl.getD (IntKind.i64.wrap ((↑rl.length : Int) - 1)).toNat 0) ∧ (rl.getD (IntKind.i64.wrap ((↑rl.length : Int) - 1)).toNat 0 < (↑gn.length : Int)) ∧ (0 ≤ rl.getD (IntKind.i64.wrap ((↑rl.length : Int) - 1)).toNat 0) ∧ (rl.getD (IntKind.i64.wrap ((↑rl.length : Int) - 1)).toNat 0 < (↑gn.length : Int)) ∧
    (K (SV.tup [(TV.at (At.val (Value.int IntKind.u32 (rl.getD (IntKind.i64.wrap ((↑rl.length : Int) - 1)).toNat 0)))), (TV.at (At.val (Value.int IntKind.i64 0)))]) [(Chunk.box [(At.slc 1), (At.slc 2), (At.slc 3), (At.val (Value.int IntKind.u32 (fr)))]), (Chunk.row true (EC.bool) (us.set (rl.getD (IntKind.i64.wrap ((↑rl.length : Int) - 1)).toNat 0).toNat true)), (Chunk.row true (EC.u32) (gn.set (rl.getD (IntKind.i64.wrap ((↑rl.length : Int) - 1)).toNat 0).toNat (IntKind.u32.wrap (gn.getD (rl.getD (IntKind.i64.wrap ((↑rl.length : Int) - 1)).toNat 0).toNat 0 + 1)))), (Chunk.row true (EC.u32) (List.take (IntKind.i64.wrap ((↑rl.length : Int) - 1)).toNat rl))] [0, 1, 2, 3]))) (((0 ≤ IntKind.u32.wrap (fr + 1)) ∧ (IntKind.u32.wrap (fr + 1) < (↑us.length : Int)) ∧ (0 ≤ IntKind.u32.wrap (fr + 1)) ∧ (IntKind.u32.wrap (fr + 1) < (↑gn.length : Int)) ∧ (0 ≤ IntKind.u32.wrap (fr + 1)) ∧ (IntKind.u32.wrap (fr + 1) < (↑gn.length : Int)) ∧ (K (SV.tup [(TV.at (At.val (Value.int IntKind.u32 (IntKind.u32.wrap (fr + 1))))), (TV.at (At.val (Value.int IntKind.i64 0)))]) [(Chunk.box [(At.slc 1), (At.slc 2), (At.slc 3), (At.val (Value.int IntKind.u32 (IntKind.u32.wrap (fr + 1))))]), (Chunk.row true (EC.bool) (us.set (IntKind.u32.wrap (fr + 1)).toNat true)), (Chunk.row true (EC.u32) (gn.set (IntKind.u32.wrap (fr + 1)).toNat (IntKind.u32.wrap (gn.getD (IntKind.u32.wrap (fr + 1)).toNat 0 + 1)))), (Chunk.row true (EC.u32) (rl))] [0, 1, 2, 3]))))))) = _ by kernel_rfl) ?_
  rw [wrap_id (x := (rl.length : Int) - 1) (by omega) (by omega), wrap_u32 (x := fr + 1) (by omega) (by omega)]
  refine ⟨h1, h2, h3, h4, h5, brS_of (fun c => ha (by simpa using c)) fun c => ?_⟩
  have c : ¬ (rl.length : Int) + (us.length - 1) - fr = 0 := by simpa using c
  have hb := hb (by omega)
  refine brS_of (fun d => ?_) fun d => ?_
  · have d : 0 ≤ (rl.length : Int) - 1 := by simpa using d
    have e : ((rl.length : Int) - 1).toNat = rl.length - 1 := by omega
    rw [e]
    have hm : rl.getD (rl.length - 1) 0 ∈ rl := by
      have : rl.length - 1 < rl.length := by omega
      rw [List.getD_eq_getElem?_getD, List.getElem?_eq_getElem this]
      exact List.getElem_mem this
    have hr := h7 _ hm
    exact ⟨by omega, by omega, by omega, by omega, hr.1, hr.2, hr.1, by omega, hr.1, by omega, hb _ _ _ (by unfold fresh3; rw [if_pos (by omega)]; rfl)⟩
  · have d : ¬ 0 ≤ (rl.length : Int) - 1 := by simpa using d
    exact ⟨by omega, by omega, by omega, by omega, by omega, by omega, hb _ _ _ (by unfold fresh3; rw [if_neg (by omega)])⟩
theorem s_slAlloc : SoundT C0 131 tSlAlloc := by
  refine .ofW [0, 1, 2, 3] Try.func131 (by decide) rfl fun args H K h hB => ?_
  unfold tSlAlloc at h
  split at h <;> try exact h.elim
  unfold slM at h
  split at h <;> try exact h.elim
  rename_i fr us gn rl
  exact ⟨aSlAlloc, ⟨frame C0.ok s_slFree _, trivial⟩, vc_slAlloc us gn rl fr K h.1 h.2.1 h.2.2.1 h.2.2.2.1 h.2.2.2.2.1 h.2.2.2.2.2.1 h.2.2.2.2.2.2.1 h.2.2.2.2.2.2.2.1 h.2.2.2.2.2.2.2.2.1 h.2.2.2.2.2.2.2.2.2⟩
theorem vc_slRelease (us : List Bool) (gn rl : List Int) (fr i : Int) (K : KT) (h1 : 0 ≤ i) (h2 : i < 4294967296) (h3 : us.length ≤ 65537) (h4 : rl.length ≤ 65537) (h5 : us.getD i.toNat false = true) (h : K (.one (.at (vI 0))) (slC (us.set i.toNat false) gn (rl ++ [i]) fr) [0, 1, 3]) :
    vc C0 aSlRelease Try.f76 [.at (.ptr 0 0), .at (vU i)] (slC us gn rl fr) (normK 4 K) := by
  refine Eq.mp (show ((0 ≤ i) ∧
(i < 4294967296) ∧
(us.length ≤ 65537) ∧
(brS (!us.getD i.toNat false) ((K (SV.one (TV.at (At.val (Value.int IntKind.i64 3)))) [(Chunk.box [(At.slc 1), (At.slc 2), (At.slc 3), (At.val (Value.int IntKind.u32 (fr)))]), (Chunk.row true (EC.bool) (us)), (Chunk.row true (EC.u32) (gn)), (Chunk.row true (EC.u32) (rl))] [])) (((0 ≤ i) ∧ (i < (↑us.length : Int)) ∧ ((rl.length + [i].length) * bytesOf C0 EC.u32 ≤ 140737488355328) ∧ (K (SV.one (TV.at (At.val (Value.int IntKind.i64 0)))) [(Chunk.box [(At.slc 1), (At.slc 2), (At.slc 3), (At.val (Value.int IntKind.u32 (fr)))]), (Chunk.row true (EC.bool) (us.set i.toNat false)), (Chunk.row true (EC.u32) (gn)), (Chunk.row true (EC.u32) (rl ++ [i]))] [0, 1, 3]))))) = _ by kernel_rfl) ?_
  simp only [bytes_u32]
  refine ⟨h1, h2, h3, brS_of (fun c => ?_) fun c => ⟨h1, ?_, ?_, h⟩⟩
  · rw [h5] at c; cases c
  · rcases Nat.lt_or_ge i.toNat us.length with hh | hh
    · omega
    · rw [List.getD_eq_getElem?_getD, List.getElem?_eq_none hh] at h5; cases h5
  · simp; omega
theorem s_slRelease : SoundT C0 76 tSlRelease := by
  refine .of Try.func76 (by decide) rfl fun args H K h hB => ?_
  unfold tSlRelease at h
  split at h <;> try exact h.elim
  unfold slM at h
  split at h <;> try exact h.elim
  rename_i i _ fr us gn rl
  exact ⟨aSlRelease, ⟨frame C0.ok s_slAllocated _, trivial⟩, vc_slRelease us gn rl fr i K h.1 h.2.1 h.2.2.1 h.2.2.2.1 h.2.2.2.2.1 h.2.2.2.2.2⟩
end Go.Proofs.Ytbonbaccmlomhaa.Sx
end
section
/- The arena's functions. -/
namespace Go.Proofs.Ytbonbaccmlomhaa.Sx
open Go

abbrev chS (S : Arn) : List (Chunk C0) := [.box [.ptr 1 0, .slc 2, .slc 3, vU64 S.reads], .box [.slc 4, .slc 5, .slc 6, vU S.fresh], .row true EC.node S.nodes, .row true EC.int S.counts, .row true EC.bool S.used, .row true EC.u32 S.gen, .row true EC.u32 S.rel]
def arM (H : List (Chunk C0)) (k : Arn → Prop) : Prop := match H with
  | [.box [.ptr 1 0, .slc 2, .slc 3, .val (.int .u64 rd)], .box [.slc 4, .slc 5, .slc 6, .val (.int .u32 fr)], .row true .node nd, .row true .int ct, .row true .bool us, .row true .u32 gn, .row true .u32 rl] => k ⟨us, gn, rl, fr, nd, ct, rd⟩
  | _ => False
def arMr (H : List (Chunk C0)) (k : Arn → List (Chunk C0) → Prop) : Prop := match H with
  | .box [.ptr 1 0, .slc 2, .slc 3, .val (.int .u64 rd)] :: .box [.slc 4, .slc 5, .slc 6, .val (.int .u32 fr)] :: .row true .node nd :: .row true .int ct :: .row true .bool us :: .row true .u32 gn :: .row true .u32 rl :: rest => k ⟨us, gn, rl, fr, nd, ct, rd⟩ rest
  | _ => False
abbrev nodeA (n : NodeT) : TV := .agg [vI n.key, vI n.value, vU n.left, vU n.right, vI n.size, vI n.sum, vI n.min, vI n.max]
abbrev W7 : List Nat := [0, 1, 2, 3, 4, 5, 6]
def inU (i : Int) : Prop := 0 ≤ i ∧ i < 4294967296
def exW (S : Arn) : Prop := ∃ hs, Wf S hs
def live (S : Arn) (i : Int) : Prop := i = 0 ∨ S.us i = true

noncomputable def aFree : Ann C0 := { Γ := [(109, frameT [] tSlFree)] }
def tFree : Tfm C0 := fun args H K => match args with
  | [.at (.ptr 0 0)] => arM H fun S => exW S ∧ K (.one (.at (vI S.free))) (chS S) []
  | _ => False
noncomputable def aCap : Ann C0 := { Γ := [(108, frameT [] tSlCap)] }
def tCap : Tfm C0 := fun args H K => match args with
  | [.at (.ptr 0 0)] => arM H fun S => exW S ∧ K (.one (.at (vI S.cap))) (chS S) []
  | _ => False
def tReads : Tfm C0 := fun args H K => match args with
  | [.at (.ptr 0 0)] => arM H fun S => K (.one (.at (vU64 S.reads))) (chS S) []
  | _ => False
noncomputable def aAlc : Ann C0 := { Γ := [(67, frameT [] tSlAllocated)] }
def tNode : Tfm C0 := fun args H K => match args with
  | [.at (.ptr 0 0), .at (.val (.int .u32 i))] => arM H fun S => inU i ∧ exW S ∧ S.reads < 4000000000000000000 ∧ ∀ S', S' = rdS S (S.us i).toNat → K (.tup [nodeA (S.nd i), .at (vB (S.us i))]) (chS S') [0]
  | _ => False
def tSize : Tfm C0 := fun args H K => match args with
  | [.at (.ptr 0 0), .at (.val (.int .u32 i))] => arM H fun S => inU i ∧ exW S ∧ S.reads < 4000000000000000000 ∧ ∀ S', S' = rdS S (S.us i).toNat → K (.one (.at (vI (S.nd i).size))) (chS S') [0]
  | _ => False
def tCount : Tfm C0 := fun args H K => match args with
  | [.at (.ptr 0 0), .at (.val (.int .u32 i))] => arM H fun S => inU i ∧ exW S ∧ K (.one (.at (vI (if S.us i then S.ct i else 0)))) (chS S) []
  | _ => False
noncomputable def aGen : Ann C0 := { Γ := [(110, frameT [] tSlGen)] }
def tGen : Tfm C0 := fun args H K => match args with
  | [.at (.ptr 0 0), .at (.val (.int .u32 i))] => arM H fun S => inU i ∧ exW S ∧ K (.one (.at (vU (S.gn i)))) (chS S) []
  | _ => False
def tRetain : Tfm C0 := fun args H K => match args with
  | [.at (.ptr 0 0), .at (.val (.int .u32 i))] => arM H fun S => inU i ∧ exW S ∧ (i = 0 → K (.one (.at (vI 0))) (chS S) [3]) ∧ (i ≠ 0 → S.us i = false → K (.one (.at (vI 3))) (chS S) [3]) ∧ (S.us i = true → ∀ S', S' = retA S i → K (.one (.at (vI 0))) (chS S') [3])
  | _ => False
def newUs (c : Int) : List Bool := List.replicate (c.toNat + 1) false
def newGn (c : Int) : List Int := List.replicate (c.toNat + 1) 0
noncomputable def aSlNew : Ann C0 := { Γ := [] }
def tSlNew : Tfm C0 := fun args H K => match args, H with
  | [.at (.val (.int .i64 c))], [] => (c < 1 ∨ 65536 < c → K (.tup [.at (.val (.pointer none)), .at (vI 1)]) [] []) ∧ (1 ≤ c → c ≤ 65536 → ∀ (us : List Bool) (gn : List Int), us = newUs c → gn = newGn c → K (.tup [.at (.ptr 0 0), .at (vI 0)]) (slC us gn [] 0) [])
  | _, _ => False
noncomputable def aNew : Ann C0 := { Γ := [(87, frameT [] tSlNew)] }
def tNew : Tfm C0 := fun args H K => match args, H with
  | [.at (.val (.int .i64 c))], [] => (c < 1 ∨ 65536 < c → K (.tup [.at (.val (.pointer none)), .at (vI 1)]) [] []) ∧ (1 ≤ c → c ≤ 65536 → ∀ S, S = newS c.toNat → K (.tup [.at (.ptr 0 0), .at (vI 0)]) (chS S) [])
  | _, _ => False
theorem getD_false {l : List Bool} {i : Nat} (h : l.getD i false = true) : i < l.length := by
  rcases Nat.lt_or_ge i l.length with hh | hh
  · exact hh
  · rw [List.getD_eq_getElem?_getD, List.getElem?_eq_none hh] at h; cases h
theorem vc_free (S : Arn) (K : KT) (hw : exW S) (h : K (.one (.at (vI S.free))) (chS S) []) : vc C0 aFree Try.f77 [.at (.ptr 0 0)] (chS S) (normK 7 K) := by
  refine Eq.mp (show ((1 ≤ S.used.length) ∧
(S.used.length ≤ 65537) ∧
(S.rel.length ≤ 65537) ∧
(0 ≤ S.fresh) ∧
(S.fresh ≤ 65537) ∧
(K (SV.one (TV.at (At.val (Value.int IntKind.i64 ((↑S.rel.length : Int) + ((↑S.used.length : Int) - 1) - S.fresh))))) [(Chunk.box [(At.ptr 1 0), (At.slc 2), (At.slc 3), (At.val (Value.int IntKind.u64 (S.reads)))]), (Chunk.box [(At.slc 4), (At.slc 5), (At.slc 6), (At.val (Value.int IntKind.u32 (S.fresh)))]), (Chunk.row true (EC.node) (S.nodes)), (Chunk.row true (EC.int) (S.counts)), (Chunk.row true (EC.bool) (S.used)), (Chunk.row true (EC.u32) (S.gen)), (Chunk.row true (EC.u32) (S.rel))] [])) = _ by kernel_rfl) ?_
  obtain ⟨hs, hw⟩ := hw
  have h1 := hw.n1; have h2 := hw.n2; have h3 := hw.fr; have h4 := hw.free_nonneg
  exact ⟨by omega, by omega, by omega, by omega, by omega, h⟩
theorem s_free : SoundT C0 77 tFree := by
  refine .of Try.func77 (by decide) rfl fun args H K h hB => ?_
  unfold tFree at h
  split at h <;> try exact h.elim
  unfold arM at h
  split at h <;> try exact h.elim
  rename_i rd fr nd ct us gn rl
  exact ⟨aFree, ⟨frame C0.ok s_slFree _, trivial⟩, vc_free ⟨us, gn, rl, fr, nd, ct, rd⟩ K h.1 h.2⟩
theorem vc_cap (S : Arn) (K : KT) (hw : exW S) (h : K (.one (.at (vI S.cap))) (chS S) []) : vc C0 aCap Try.f65 [.at (.ptr 0 0)] (chS S) (normK 7 K) := by
  refine Eq.mp (show ((1 ≤ S.used.length) ∧
(S.used.length ≤ 65537) ∧
(K (SV.one (TV.at (At.val (Value.int IntKind.i64 ((↑S.used.length : Int) - 1))))) [(Chunk.box [(At.ptr 1 0), (At.slc 2), (At.slc 3), (At.val (Value.int IntKind.u64 (S.reads)))]), (Chunk.box [(At.slc 4), (At.slc 5), (At.slc 6), (At.val (Value.int IntKind.u32 (S.fresh)))]), (Chunk.row true (EC.node) (S.nodes)), (Chunk.row true (EC.int) (S.counts)), (Chunk.row true (EC.bool) (S.used)), (Chunk.row true (EC.u32) (S.gen)), (Chunk.row true (EC.u32) (S.rel))] [])) = _ by kernel_rfl) ?_
  obtain ⟨hs, hw⟩ := hw
  have h1 := hw.n1; have h2 := hw.n2
  exact ⟨by omega, by omega, h⟩
theorem s_cap : SoundT C0 65 tCap := by
  refine .of Try.func65 (by decide) rfl fun args H K h hB => ?_
  unfold tCap at h
  split at h <;> try exact h.elim
  unfold arM at h
  split at h <;> try exact h.elim
  rename_i rd fr nd ct us gn rl
  exact ⟨aCap, ⟨frame C0.ok s_slCap _, trivial⟩, vc_cap ⟨us, gn, rl, fr, nd, ct, rd⟩ K h.1 h.2⟩
theorem vc_rds (S : Arn) (K : KT) (h : K (.one (.at (vU64 S.reads))) (chS S) []) : vc C0 A0 Try.f27 [.at (.ptr 0 0)] (chS S) (normK 7 K) :=
  Eq.mp (show (K (SV.one (TV.at (At.val (Value.int IntKind.u64 (S.reads))))) [(Chunk.box [(At.ptr 1 0), (At.slc 2), (At.slc 3), (At.val (Value.int IntKind.u64 (S.reads)))]), (Chunk.box [(At.slc 4), (At.slc 5), (At.slc 6), (At.val (Value.int IntKind.u32 (S.fresh)))]), (Chunk.row true (EC.node) (S.nodes)), (Chunk.row true (EC.int) (S.counts)), (Chunk.row true (EC.bool) (S.used)), (Chunk.row true (EC.u32) (S.gen)), (Chunk.row true (EC.u32) (S.rel))] []) = _ by kernel_rfl) h
theorem s_rds : SoundT C0 27 tReads := by
  refine .of Try.func27 (by decide) rfl fun args H K h hB => ?_
  unfold tReads at h
  split at h <;> try exact h.elim
  unfold arM at h
  split at h <;> try exact h.elim
  rename_i rd fr nd ct us gn rl
  exact ⟨A0, trivial, vc_rds ⟨us, gn, rl, fr, nd, ct, rd⟩ K h⟩
theorem wrap_u64 {x : Int} (h1 : 0 ≤ x) (h2 : x < 18446744073709551616) : IntKind.u64.wrap x = x := by
  unfold IntKind.wrap
  simp [IntKind.signed, IntKind.bits]
  omega
theorem vc_node (S : Arn) (i : Int) (K : KT) (hi : inU i) (hw : exW S) (hr : S.reads < 4000000000000000000) (h : ∀ S', S' = rdS S (S.us i).toNat → K (.tup [nodeA (S.nd i), .at (vB (S.us i))]) (chS S') [0]) :
    vc C0 aAlc Try.f63 [.at (.ptr 0 0), .at (vU i)] (chS S) (normK 7 (wideK [0] K)) := by
  refine Eq.mp (show ((0 ≤ i) ∧
(i < 4294967296) ∧
(S.used.length ≤ 65537) ∧
(brS (!S.us i) ((K (SV.tup [(TV.agg [(At.val (Value.int IntKind.i64 0)), (At.val (Value.int IntKind.i64 0)), (At.val (Value.int IntKind.u32 0)), (At.val (Value.int IntKind.u32 0)), (At.val (Value.int IntKind.i64 0)), (At.val (Value.int IntKind.i64 0)), (At.val (Value.int IntKind.i64 0)), (At.val (Value.int IntKind.i64 0))]), (TV.at (At.val (Value.bool false)))]) [(Chunk.box [(At.ptr 1 0), (At.slc 2), (At.slc 3), (At.val (Value.int IntKind.u64 (S.reads)))]), (Chunk.box [(At.slc 4), (At.slc 5), (At.slc 6), (At.val (Value.int IntKind.u32 (S.fresh)))]), (Chunk.row true (EC.node) (S.nodes)), (Chunk.row true (EC.int) (S.counts)), (Chunk.row true (EC.bool) (S.used)), (Chunk.row true (EC.u32) (S.gen)), (Chunk.row true (EC.u32) (S.rel))] [0])) (((0 ≤ i) ∧ (i < (↑S.nodes.length : Int)) ∧
    (K (SV.tup [(TV.agg [(At.val (Value.int IntKind.i64 ((S.nd i).key))), (At.val (Value.int IntKind.i64 ((S.nd i).value))), (At.val (Value.int IntKind.u32 ((S.nd i).left))), (At.val (Value.int IntKind.u32 ((S.nd i).right))), (At.val (Value.int IntKind.i64 ((S.nd i).size))), (At.val (Value.int IntKind.i64 ((S.nd i).sum))), (At.val (Value.int IntKind.i64 ((S.nd i).min))), (At.val (Value.int IntKind.i64 ((S.nd i).max)))]), (TV.at (At.val (Value.bool true)))]) [(Chunk.box [(At.ptr 1 0), (At.slc 2), (At.slc 3), (At.val (Value.int IntKind.u64 (IntKind.u64.wrap (S.reads + 1))))]), (Chunk.box [(At.slc 4), (At.slc 5), (At.slc 6), (At.val (Value.int IntKind.u32 (S.fresh)))]), (Chunk.row true (EC.node) (S.nodes)), (Chunk.row true (EC.int) (S.counts)), (Chunk.row true (EC.bool) (S.used)), (Chunk.row true (EC.u32) (S.gen)), (Chunk.row true (EC.u32) (S.rel))] [0]))))) = _ by kernel_rfl) ?_
  obtain ⟨hs, hw⟩ := hw
  have h2 := hw.n2; have h3 := hw.nnod; have h4 := hw.rds
  rw [wrap_u64 (by omega) (by omega)]
  refine ⟨hi.1, hi.2, by omega, brS_of (fun c => ?_) fun c => ?_⟩
  · have c : S.us i = false := by simpa using c
    have h5 := h _ rfl
    rw [hw.zero i c, c] at h5
    have e : rdS S (false.toNat) = S := by simp [rdS]
    rw [e] at h5
    exact h5
  · have c : S.us i = true := by simpa using c
    have hp := hw.pos c
    have h5 := h _ rfl
    rw [c] at h5
    exact ⟨hi.1, by omega, h5⟩
theorem s_node : SoundT C0 63 tNode := by
  refine .ofW [0] Try.func63 (by decide) rfl fun args H K h hB => ?_
  unfold tNode at h
  split at h <;> try exact h.elim
  unfold arM at h
  split at h <;> try exact h.elim
  rename_i i _ rd fr nd ct us gn rl
  exact ⟨aAlc, ⟨frame C0.ok s_slAllocated _, trivial⟩, vc_node ⟨us, gn, rl, fr, nd, ct, rd⟩ i K h.1 h.2.1 h.2.2.1 h.2.2.2⟩
theorem vc_size (S : Arn) (i : Int) (K : KT) (hi : inU i) (hw : exW S) (hr : S.reads < 4000000000000000000) (h : ∀ S', S' = rdS S (S.us i).toNat → K (.one (.at (vI (S.nd i).size))) (chS S') [0]) :
    vc C0 aAlc Try.f49 [.at (.ptr 0 0), .at (vU i)] (chS S) (normK 7 (wideK [0] K)) := by
  refine Eq.mp (show ((0 ≤ i) ∧
(i < 4294967296) ∧
(S.used.length ≤ 65537) ∧
(brS (!S.us i) ((K (SV.one (TV.at (At.val (Value.int IntKind.i64 0)))) [(Chunk.box [(At.ptr 1 0), (At.slc 2), (At.slc 3), (At.val (Value.int IntKind.u64 (S.reads)))]), (Chunk.box [(At.slc 4), (At.slc 5), (At.slc 6), (At.val (Value.int IntKind.u32 (S.fresh)))]), (Chunk.row true (EC.node) (S.nodes)), (Chunk.row true (EC.int) (S.counts)), (Chunk.row true (EC.bool) (S.used)), (Chunk.row true (EC.u32) (S.gen)), (Chunk.row true (EC.u32) (S.rel))] [0])) (((0 ≤ i) ∧ (i < (↑S.nodes.length : Int)) ∧ (K (SV.one (TV.at (At.val (Value.int IntKind.i64 ((S.nd i).size))))) [(Chunk.box [(At.ptr 1 0), (At.slc 2), (At.slc 3), (At.val (Value.int IntKind.u64 (IntKind.u64.wrap (S.reads + 1))))]), (Chunk.box [(At.slc 4), (At.slc 5), (At.slc 6), (At.val (Value.int IntKind.u32 (S.fresh)))]), (Chunk.row true (EC.node) (S.nodes)), (Chunk.row true (EC.int) (S.counts)), (Chunk.row true (EC.bool) (S.used)), (Chunk.row true (EC.u32) (S.gen)), (Chunk.row true (EC.u32) (S.rel))] [0]))))) = _ by kernel_rfl) ?_
  obtain ⟨hs, hw⟩ := hw
  have h2 := hw.n2; have h3 := hw.nnod; have h4 := hw.rds
  rw [wrap_u64 (by omega) (by omega)]
  refine ⟨hi.1, hi.2, by omega, brS_of (fun c => ?_) fun c => ?_⟩
  · have c : S.us i = false := by simpa using c
    have h5 := h _ rfl
    rw [hw.zero i c, c] at h5
    have e : rdS S (false.toNat) = S := by simp [rdS]
    rw [e] at h5
    exact h5
  · have c : S.us i = true := by simpa using c
    have hp := hw.pos c
    have h5 := h _ rfl
    rw [c] at h5
    exact ⟨hi.1, by omega, h5⟩
theorem s_size : SoundT C0 49 tSize := by
  refine .ofW [0] Try.func49 (by decide) rfl fun args H K h hB => ?_
  unfold tSize at h
  split at h <;> try exact h.elim
  unfold arM at h
  split at h <;> try exact h.elim
  rename_i i _ rd fr nd ct us gn rl
  exact ⟨aAlc, ⟨frame C0.ok s_slAllocated _, trivial⟩, vc_size ⟨us, gn, rl, fr, nd, ct, rd⟩ i K h.1 h.2.1 h.2.2.1 h.2.2.2⟩
theorem vc_count (S : Arn) (i : Int) (K : KT) (hi : inU i) (hw : exW S) (h : K (.one (.at (vI (if S.us i then S.ct i else 0)))) (chS S) []) :
    vc C0 aAlc Try.f68 [.at (.ptr 0 0), .at (vU i)] (chS S) (normK 7 K) := by
  refine Eq.mp (show ((0 ≤ i) ∧
(i < 4294967296) ∧
(S.used.length ≤ 65537) ∧
(brS (!S.us i) ((K (SV.one (TV.at (At.val (Value.int IntKind.i64 0)))) [(Chunk.box [(At.ptr 1 0), (At.slc 2), (At.slc 3), (At.val (Value.int IntKind.u64 (S.reads)))]), (Chunk.box [(At.slc 4), (At.slc 5), (At.slc 6), (At.val (Value.int IntKind.u32 (S.fresh)))]), (Chunk.row true (EC.node) (S.nodes)), (Chunk.row true (EC.int) (S.counts)), (Chunk.row true (EC.bool) (S.used)), (Chunk.row true (EC.u32) (S.gen)), (Chunk.row true (EC.u32) (S.rel))] [])) (((0 ≤ i) ∧ (i < (↑S.counts.length : Int)) ∧ (K (SV.one (TV.at (At.val (Value.int IntKind.i64 (S.ct i))))) [(Chunk.box [(At.ptr 1 0), (At.slc 2), (At.slc 3), (At.val (Value.int IntKind.u64 (S.reads)))]), (Chunk.box [(At.slc 4), (At.slc 5), (At.slc 6), (At.val (Value.int IntKind.u32 (S.fresh)))]), (Chunk.row true (EC.node) (S.nodes)), (Chunk.row true (EC.int) (S.counts)), (Chunk.row true (EC.bool) (S.used)), (Chunk.row true (EC.u32) (S.gen)), (Chunk.row true (EC.u32) (S.rel))] []))))) = _ by kernel_rfl) ?_
  obtain ⟨hs, hw⟩ := hw
  have h2 := hw.n2; have h3 := hw.ncnt
  refine ⟨hi.1, hi.2, by omega, brS_of (fun c => ?_) fun c => ?_⟩
  · have c : S.us i = false := by simpa using c
    rw [c] at h
    exact h
  · have c : S.us i = true := by simpa using c
    have hp := hw.pos c
    rw [c] at h
    exact ⟨hi.1, by omega, h⟩
theorem s_count : SoundT C0 68 tCount := by
  refine .of Try.func68 (by decide) rfl fun args H K h hB => ?_
  unfold tCount at h
  split at h <;> try exact h.elim
  unfold arM at h
  split at h <;> try exact h.elim
  rename_i i _ rd fr nd ct us gn rl
  exact ⟨aAlc, ⟨frame C0.ok s_slAllocated _, trivial⟩, vc_count ⟨us, gn, rl, fr, nd, ct, rd⟩ i K h.1 h.2.1 h.2.2⟩
theorem vc_gen (S : Arn) (i : Int) (K : KT) (hi : inU i) (hw : exW S) (h : K (.one (.at (vU (S.gn i)))) (chS S) []) :
    vc C0 aGen Try.f69 [.at (.ptr 0 0), .at (vU i)] (chS S) (normK 7 K) := by
  refine Eq.mp (show ((0 ≤ i) ∧
(i < 4294967296) ∧
(S.gen.length ≤ 65537) ∧
(K (SV.one (TV.at (At.val (Value.int IntKind.u32 (S.gn i))))) [(Chunk.box [(At.ptr 1 0), (At.slc 2), (At.slc 3), (At.val (Value.int IntKind.u64 (S.reads)))]), (Chunk.box [(At.slc 4), (At.slc 5), (At.slc 6), (At.val (Value.int IntKind.u32 (S.fresh)))]), (Chunk.row true (EC.node) (S.nodes)), (Chunk.row true (EC.int) (S.counts)), (Chunk.row true (EC.bool) (S.used)), (Chunk.row true (EC.u32) (S.gen)), (Chunk.row true (EC.u32) (S.rel))] [])) = _ by kernel_rfl) ?_
  obtain ⟨hs, hw⟩ := hw
  have h2 := hw.n2; have h3 := hw.ngen
  exact ⟨hi.1, hi.2, by omega, h⟩
theorem s_gen : SoundT C0 69 tGen := by
  refine .of Try.func69 (by decide) rfl fun args H K h hB => ?_
  unfold tGen at h
  split at h <;> try exact h.elim
  unfold arM at h
  split at h <;> try exact h.elim
  rename_i i _ rd fr nd ct us gn rl
  exact ⟨aGen, ⟨frame C0.ok s_slGen _, trivial⟩, vc_gen ⟨us, gn, rl, fr, nd, ct, rd⟩ i K h.1 h.2.1 h.2.2⟩
theorem vc_retain (S : Arn) (i : Int) (K : KT) (hi : inU i) (hw : exW S) (h0 : i = 0 → K (.one (.at (vI 0))) (chS S) [3]) (h1 : i ≠ 0 → S.us i = false → K (.one (.at (vI 3))) (chS S) [3]) (h : S.us i = true → ∀ S', S' = retA S i → K (.one (.at (vI 0))) (chS S') [3]) :
    vc C0 aAlc Try.f56 [.at (.ptr 0 0), .at (vU i)] (chS S) (normK 7 (wideK [3] K)) := by
  refine Eq.mp (show (brS (i == 0) ((K (SV.one (TV.at (At.val (Value.int IntKind.i64 0)))) [(Chunk.box [(At.ptr 1 0), (At.slc 2), (At.slc 3), (At.val (Value.int IntKind.u64 (S.reads)))]), (Chunk.box [(At.slc 4), (At.slc 5), (At.slc 6), (At.val (Value.int IntKind.u32 (S.fresh)))]), (Chunk.row true (EC.node) (S.nodes)), (Chunk.row true (EC.int) (S.counts)), (Chunk.row true (EC.bool) (S.used)), (Chunk.row true (EC.u32) (S.gen)), (Chunk.row true (EC.u32) (S.rel))] [3])) (((0 ≤ i) ∧ (i < 4294967296) ∧ (S.used.length ≤ 65537) ∧ (brS (!S.us i) ((K (SV.one (TV.at (At.val (Value.int IntKind.i64 3)))) [(Chunk.box [(At.ptr 1 0), (At.slc 2), (At.slc 3), (At.val (Value.int IntKind.u64 (S.reads)))]), (Chunk.box [(At.slc 4), (At.slc 5), (At.slc 6), (At.val (Value.int IntKind.u32 (S.fresh)))]), (Chunk.row true (EC.node) (S.nodes)), (Chunk.row true (EC.int) (S.counts)), (Chunk.row true (EC.bool) (S.used)), (Chunk.row true (EC.u32) (S.gen)), (Chunk.row true (EC.u32) (S.rel))] [3])) (((0 ≤ i) ∧ (i < (↑S.counts.length : Int)) ∧ (0 ≤ i) ∧ (i < (↑S.counts.length : Int)) ∧
    (K (SV.one (TV.at (At.val (Value.int IntKind.i64 0)))) [(Chunk.box [(At.ptr 1 0), (At.slc 2), (At.slc 3), (At.val (Value.int IntKind.u64 (S.reads)))]), (Chunk.box [(At.slc 4), (At.slc 5), (At.slc 6), (At.val (Value.int IntKind.u32 (S.fresh)))]), (Chunk.row true (EC.node) (S.nodes)), (Chunk.row true (EC.int) (S.counts.set i.toNat (IntKind.i64.wrap (S.ct i + 1)))), (Chunk.row true (EC.bool) (S.used)), (Chunk.row true (EC.u32) (S.gen)), (Chunk.row true (EC.u32) (S.rel))] [3]))))))) = _ by kernel_rfl) ?_
  obtain ⟨hs, hw⟩ := hw
  have h2 := hw.n2; have h3 := hw.ncnt
  refine brS_of (fun c => h0 (by simpa using c)) fun c => ⟨hi.1, hi.2, by omega, brS_of (fun d => ?_) fun d => ?_⟩
  · exact h1 (by simpa using c) (by simpa using d)
  · have d : S.us i = true := by simpa using d
    have hp := hw.pos d
    exact ⟨hi.1, by omega, hi.1, by omega, h d _ rfl⟩
theorem s_retain : SoundT C0 56 tRetain := by
  refine .ofW [3] Try.func56 (by decide) rfl fun args H K h hB => ?_
  unfold tRetain at h
  split at h <;> try exact h.elim
  unfold arM at h
  split at h <;> try exact h.elim
  rename_i i _ rd fr nd ct us gn rl
  exact ⟨aAlc, ⟨frame C0.ok s_slAllocated _, trivial⟩, vc_retain ⟨us, gn, rl, fr, nd, ct, rd⟩ i K h.1 h.2.1 h.2.2.1 h.2.2.2.1 h.2.2.2.2⟩
theorem vc_slNew (c : Int) (K : KT) (hb : c < 1 ∨ 65536 < c → K (.tup [.at (.val (.pointer none)), .at (vI 1)]) [] []) (h : 1 ≤ c → c ≤ 65536 → ∀ (us : List Bool) (gn : List Int), us = newUs c → gn = newGn c → K (.tup [.at (.ptr 0 0), .at (vI 0)]) (slC us gn [] 0) []) :
    vc C0 aSlNew Try.f87 [.at (vI c)] [] (normK 0 K) := by
  refine Eq.mp (show (brS (decide (c < 1)) ((K (SV.tup [(TV.at (At.val (Value.pointer none))), (TV.at (At.val (Value.int IntKind.i64 1)))]) [] [])) ((brS (decide (c > 65536)) ((K (SV.tup [(TV.at (At.val (Value.pointer none))), (TV.at (At.val (Value.int IntKind.i64 1)))]) [] [])) ((((0 ≤ IntKind.i64.wrap (c + 1)) ∧ (IntKind.i64.wrap (c + 1) ≤ IntKind.i64.wrap (c + 1)) ∧ (IntKind.i64.wrap (c + 1) * (↑(bytesOf C0 EC.bool) : Int) ≤ 140737488355328) ∧ (0 ≤ IntKind.i64.wrap (c + 1)) ∧ (IntKind.i64.wrap (c + 1) ≤ IntKind.i64.wrap (c + 1)) ∧ (IntKind.i64.wrap (c + 1) * (↑(bytesOf C0 EC.u32) : Int) ≤ 140737488355328) ∧ (K (SV.tup [(TV.at (At.ptr 0 0)), (TV.at (At.val (Value.int IntKind.i64 0)))]) [(Chunk.box [(At.slc 1), (At.slc 2), (At.slc 3), (At.val (Value.int IntKind.u32 0))]), (Chunk.row true (EC.bool) (List.replicate (IntKind.i64.wrap (c + 1)).toNat false)), (Chunk.row true (EC.u32) (List.replicate (IntKind.i64.wrap (c + 1)).toNat (0 : Int))), (Chunk.row true (EC.u32) [])] [])) ∧ (0 ≤ IntKind.i64.wrap (c + 1)) ∧ (IntKind.i64.wrap (c + 1) ≤ IntKind.i64.wrap (c + 1)) ∧ (IntKind.i64.wrap (c + 1) * (↑(bytesOf C0 EC.u32) : Int) ≤ 140737488355328) ∧ (0 ≤ IntKind.i64.wrap (c + 1)) ∧ (IntKind.i64.wrap (c + 1) ≤ IntKind.i64.wrap (c + 1)) ∧ (IntKind.i64.wrap (c + 1) * (↑(bytesOf C0 EC.bool) : Int) ≤ 140737488355328) ∧
    (K (SV.tup [(TV.at (At.ptr 0 0)), (TV.at (At.val (Value.int IntKind.i64 0)))]) [(Chunk.box [(At.slc 1), (At.slc 2), (At.slc 3), (At.val (Value.int IntKind.u32 0))]), (Chunk.row true (EC.bool) (List.replicate (IntKind.i64.wrap (c + 1)).toNat false)), (Chunk.row true (EC.u32) (List.replicate (IntKind.i64.wrap (c + 1)).toNat (0 : Int))), (Chunk.row true (EC.u32) [])] [])))))) = _ by kernel_rfl) ?_
  simp only [bytes_bool, bytes_u32]
  refine brS_of (fun d => hb (.inl (by simpa using d))) fun d => brS_of (fun e => hb (.inr (by simpa using e))) fun e => ?_
  have d : 1 ≤ c := by simp at d; omega
  have e : c ≤ 65536 := by simp at e; omega
  have h := h d e _ _ rfl rfl
  unfold newUs newGn at h
  rw [wrap_id (x := c + 1) (by omega) (by omega), show (c + 1).toNat = c.toNat + 1 by omega]
  exact ⟨⟨by omega, by omega, by omega, by omega, by omega, by omega, h⟩, by omega, by omega, by omega, by omega, by omega, by omega, h⟩
theorem s_slNew : SoundT C0 87 tSlNew := by
  refine .of Try.func87 (by decide) rfl fun args H K h hB => ?_
  unfold tSlNew at h
  split at h <;> try exact h.elim
  rename_i c
  exact ⟨aSlNew, trivial, vc_slNew c K h.1 h.2⟩
theorem vc_new (c : Int) (K : KT) (hb : c < 1 ∨ 65536 < c → K (.tup [.at (.val (.pointer none)), .at (vI 1)]) [] []) (h : 1 ≤ c → c ≤ 65536 → ∀ S, S = newS c.toNat → K (.tup [.at (.ptr 0 0), .at (vI 0)]) (chS S) []) :
    vc C0 aNew Try.f34 [.at (vI c)] [] (normK 0 K) := by
  refine Eq.mp (show (((c < 1 ∨ 65536 < c) →
(K (SV.tup [(TV.at (At.val (Value.pointer none))), (TV.at (At.val (Value.int IntKind.i64 1)))]) [] [])) ∧
((1 ≤ c) →
((c ≤ 65536) →
(∀ us : List Bool, (∀ gn : List Int, (((us) = (newUs c)) → (((gn) = (newGn c)) → (((0 ≤ IntKind.i64.wrap (c + 1)) ∧ (IntKind.i64.wrap (c + 1) ≤ IntKind.i64.wrap (c + 1)) ∧ (IntKind.i64.wrap (c + 1) * (↑(bytesOf C0 EC.node) : Int) ≤ 140737488355328) ∧ (0 ≤ IntKind.i64.wrap (c + 1)) ∧ (IntKind.i64.wrap (c + 1) ≤ IntKind.i64.wrap (c + 1)) ∧ (IntKind.i64.wrap (c + 1) * (↑(bytesOf C0 EC.int) : Int) ≤ 140737488355328) ∧ (K (SV.tup [(TV.at (At.ptr 0 0)), (TV.at (At.val (Value.int IntKind.i64 0)))]) [(Chunk.box [(At.ptr 1 0), (At.slc 2), (At.slc 3), (At.val (Value.int IntKind.u64 0))]), (Chunk.box [(At.slc 4), (At.slc 5), (At.slc 6), (At.val (Value.int IntKind.u32 0))]), (Chunk.row true (EC.node) (List.replicate (IntKind.i64.wrap (c + 1)).toNat { key := 0, value := 0, left := 0, right := 0, size := 0, sum := 0, min := 0, max := 0 : NodeT })), (Chunk.row true (EC.int) (List.replicate (IntKind.i64.wrap (c + 1)).toNat (0 : Int))), (Chunk.row true (EC.bool) (us)), (Chunk.row true (EC.u32) (gn)), (Chunk.row true (EC.u32) [])] [])) ∧ (0 ≤ IntKind.i64.wrap (c + 1)) ∧ (IntKind.i64.wrap (c + 1) ≤ IntKind.i64.wrap (c + 1)) ∧ (IntKind.i64.wrap (c + 1) * (↑(bytesOf C0 EC.int) : Int) ≤ 140737488355328) ∧ (0 ≤ IntKind.i64.wrap (c + 1)) ∧ (IntKind.i64.wrap (c + 1) ≤ IntKind.i64.wrap (c + 1)) ∧
    (IntKind.i64.wrap (c + 1) * (↑(bytesOf C0 EC.node) : Int) ≤ 140737488355328) ∧ (K (SV.tup [(TV.at (At.ptr 0 0)), (TV.at (At.val (Value.int IntKind.i64 0)))]) [(Chunk.box [(At.ptr 1 0), (At.slc 2), (At.slc 3), (At.val (Value.int IntKind.u64 0))]), (Chunk.box [(At.slc 4), (At.slc 5), (At.slc 6), (At.val (Value.int IntKind.u32 0))]), (Chunk.row true (EC.node) (List.replicate (IntKind.i64.wrap (c + 1)).toNat { key := 0, value := 0, left := 0, right := 0, size := 0, sum := 0, min := 0, max := 0 : NodeT })), (Chunk.row true (EC.int) (List.replicate (IntKind.i64.wrap (c + 1)).toNat (0 : Int))), (Chunk.row true (EC.bool) (us)), (Chunk.row true (EC.u32) (gn)), (Chunk.row true (EC.u32) [])] []))))))))) = _ by kernel_rfl) ?_
  simp only [bytes_node, bytes_int]
  refine ⟨hb, fun d e us gn hu hg => ?_⟩
  have h := h d e _ rfl
  subst hu hg
  unfold newUs newGn
  rw [wrap_id (x := c + 1) (by omega) (by omega), show (c + 1).toNat = c.toNat + 1 by omega]
  exact ⟨⟨by omega, by omega, by omega, by omega, by omega, by omega, h⟩, by omega, by omega, by omega, by omega, by omega, by omega, h⟩
theorem s_new : SoundT C0 34 tNew := by
  refine .of Try.func34 (by decide) rfl fun args H K h hB => ?_
  unfold tNew at h
  split at h <;> try exact h.elim
  rename_i c
  exact ⟨aNew, ⟨frame C0.ok s_slNew _, trivial⟩, vc_new c K h.1 h.2⟩
end Go.Proofs.Ytbonbaccmlomhaa.Sx
end
