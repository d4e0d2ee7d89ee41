/- A part of the proof. -/
import Derived.Test.YtmjnoiajenoinaaG4
import Derived.Deep.LoopGhost
import Derived.LoopN
import Derived.Test.YtmjnoiajenoinaaG2
import Derived.Test.YtmjnoiajenoinaaG1
import Derived.Test.YtmjnoiajenoinaaProg
import Derived.Test.YtmjnoiajenoinaaChecked
import Derived.Conc.MuLone
section
/- The symbolic run is sound: bodies and functions. No program in sight. -/
namespace Go.Proofs.Ytmjnoiajenoinaa.Sx
open Go

/-- A loop seen from its inside. -/
def LW (P : Program) (c : Code) (Q : Exit → Act → World → Prop) (a : Act) (w : World) : Prop :=
  ∀ b k cs, ∃ e a' w', Q e a' w' ∧ Arrives P (lone (b.at a (.code c :: .inLoop c :: k)) cs w) b k cs e a' w'
theorem LW.loop {P : Program} {Q : Exit → Act → World → Prop} {a : Act} {w : World} {c : Code} (h : LW P c Q a w) : (Code.loop c).wp P Q a w := by
  intro b k cs
  obtain ⟨e, a', w', hq, harr⟩ := h b k cs
  exact ⟨e, a', w', hq, .of_steps (.one step_loop) harr⟩
theorem LW.step {P : Program} {Q : Exit → Act → World → Prop} {a : Act} {w : World} {c : Code} (h : c.wp P (Exit.then (LW P c Q) Q) a w) : LW P c Q a w := by
  intro b k cs
  obtain ⟨e, a₁, w₁, hq, harr⟩ := h b (.inLoop c :: k) cs
  cases e with
  | normal =>
    obtain ⟨e₂, a₂, w₂, hq₂, harr₂⟩ := hq b k cs
    exact ⟨e₂, a₂, w₂, hq₂, .of_steps (Steps.trans harr (.one step_inLoop)) harr₂⟩
  | exit id => exact ⟨_, a₁, w₁, hq, .pass (x := .inLoop c) rfl (fun _ _ => .inl (by simp)) harr⟩
  | goto l => exact ⟨_, a₁, w₁, hq, .pass (x := .inLoop c) rfl (fun _ _ => .inl (by simp)) harr⟩
  | ret => exact ⟨_, a₁, w₁, hq, .pass (x := .inLoop c) rfl (fun _ _ => .inl (by simp)) harr⟩
  | panic ch => exact ⟨_, a₁, w₁, hq, .pass (x := .inLoop c) rfl (fun _ _ => .inl (by simp)) harr⟩
  | outgrown => exact ⟨_, a₁, w₁, hq, .pass (x := .inLoop c) rfl (fun _ _ => .inl (by simp)) harr⟩
theorem LW.ghost {P : Program} {Q : Exit → Act → World → Prop} {c : Code} (I : Nat → Act → World → Prop)
    (round : ∀ n a w, I n a w → c.wp P (Exit.then (fun a' w' => ∃ n', n' < n ∧ I n' a' w') Q) a w) : ∀ n {a : Act} {w : World}, I n a w → LW P c Q a w := by
  intro n
  induction n using Nat.strongRecOn with
  | ind n ih =>
    intro a w h
    refine LW.step (wp_mono (round n a w h) fun e a' w' hd => ?_)
    cases e with
    | normal =>
      obtain ⟨n', hlt, hI⟩ := hd
      exact ih n' hlt hI
    | exit id => exact hd
    | ret => exact hd
    | goto l => exact hd
    | panic ch => exact hd
    | outgrown => exact hd

section
variable {C : Ctx}
variable {W : List Nat} {B : Base C} {T : List SV} {H : List (Chunk C)} {σ : Nat → Value} {φ : Nat → Nat → Prop} {a : Act} {w : World} {o : Oper}

theorem At.le_rel {x y : At} {v : Value} (h : At.le x y) (hr : x.rel σ v) : y.rel σ v := by
  unfold At.le at h
  split at h
  · trivial
  · split at h
    · split at h
      · rename_i hc; obtain ⟨rfl, rfl⟩ := hc; exact hr
      · exact h.elim
    · exact h.elim
  · split at h
    · split at h
      · rename_i hc; subst hc; exact hr
      · exact h.elim
    · exact h.elim
  · split at h
    · subst h; exact hr
    · exact h.elim
  · subst h; exact hr

theorem lesAt_rel : ∀ {l m : List At} {vs : List Value}, lesAt l m → Rels (At.rel σ) l vs → Rels (At.rel σ) m vs := by
  intro l
  induction l with
  | nil => intro m vs h hr; cases m with
    | nil => exact hr
    | cons _ _ => simp [lesAt] at h
  | cons x l ih =>
    intro m vs h hr
    cases m with
    | nil => simp [lesAt] at h
    | cons y m =>
      match vs, hr with
      | [], hr => exact absurd hr.1 (by simp)
      | v :: vs, hr =>
        have h0 : x.rel σ v := hr.2 0 _ _ rfl rfl
        have ht : Rels (At.rel σ) l vs := ⟨by simpa using hr.1, fun i a b ha hb => hr.2 (i + 1) a b (by simpa using ha) (by simpa using hb)⟩
        unfold lesAt at h
        split at h
        · exact Rels.cons trivial (ih h ht)
        · exact Rels.cons (At.le_rel h.1 h0) (ih h.2 ht)

theorem SV.le_rel {x y : SV} {v : Value} (h : SV.le x y) (hr : x.rel σ v) : y.rel σ v := by
  unfold SV.le at h
  split at h
  · split at h
    · trivial
    · split at h
      · exact At.le_rel h hr
      · exact h.elim
  · split at h
    · obtain ⟨cs, e, hr'⟩ := hr; exact ⟨cs, e, lesAt_rel h hr'⟩
    · exact h.elim
  · subst h; exact hr

theorem lesT_rel : ∀ {T T1 : List SV} {vs : List Value}, lesT T T1 → Rels (SV.rel σ) T vs → Rels (SV.rel σ) T1 vs := by
  intro T
  induction T with
  | nil => intro m vs h hr; cases m with
    | nil => exact hr
    | cons _ _ => simp [lesT] at h
  | cons x l ih =>
    intro m vs h hr
    cases m with
    | nil => simp [lesT] at h
    | cons y m =>
      match vs, hr with
      | [], hr => exact absurd hr.1 (by simp)
      | v :: vs, hr =>
        have h0 : x.rel σ v := hr.2 0 _ _ rfl rfl
        have ht : Rels (SV.rel σ) l vs := ⟨by simpa using hr.1, fun i a b ha hb => hr.2 (i + 1) a b (by simpa using ha) (by simpa using hb)⟩
        unfold lesT at h
        split at h
        · exact Rels.cons trivial (ih h ht)
        · exact Rels.cons (SV.le_rel h.1 h0) (ih h.2 ht)

theorem lesH_get : ∀ {H H1 : List (Chunk C)}, lesH H H1 → ∀ (n : Nat) (d : Chunk C), H1[n]? = some d → ∃ c, H[n]? = some c ∧ Chunk.le c d := by
  intro H
  induction H with
  | nil => intro H1 h n d hd; cases H1 with
    | nil => simp at hd
    | cons _ _ => simp [lesH] at h
  | cons x l ih =>
    intro H1 h n d hd
    cases H1 with
    | nil => simp at hd
    | cons y m =>
      cases n with
      | zero => simp at hd; subst hd; exact ⟨x, rfl, h.1⟩
      | succ n => simp at hd; simpa using ih h.2 n d hd

/-- Is the chunk's memory owned? -/
def Chunk.keeps : Chunk C → Bool
  | .gone => false
  | .row false _ _ => false
  | _ => true

theorem Chunk.le_holds (hC : C.OK) {c d : Chunk C} {v : Value} {f : Nat → Prop} (h : Chunk.le c d) (hh : Holds w σ v f c) : Holds w σ v (fun b => f b ∧ d.keeps = true) d := by
  unfold Chunk.le at h
  split at h
  · trivial
  · rename_i m
    split at h
    · obtain ⟨b, t, cs, h1, h2, h3, h4⟩ := hh
      exact ⟨b, t, cs, h1, fun k => by simp [h2 k, Chunk.keeps], h3, lesAt_rel h h4⟩
    · exact h.elim
  · rename_i o' e' l'
    split at h
    · rename_i o e l
      split at h
      · rename_i hoo
        split at h
        · rename_i he _
          subst he
          simp only at h
          subst h
          cases o' with
          | true =>
            have : o = true := by simpa using hoo
            subst this
            exact ⟨hh.1, fun k => by simp [hh.2 k, Chunk.keeps]⟩
          | false =>
            obtain ⟨A, c, h1, h2⟩ := hh.rd hC
            exact ⟨⟨A, c, h1, h2⟩, fun k hk => by simp [Chunk.keeps] at hk⟩
        · exact h.elim
      · exact h.elim
    · exact h.elim
  · rename_i y
    split at h
    · subst h
      exact ⟨by simpa [Chunk.keeps] using hh.1, hh.2⟩
    · exact h.elim
  · rename_i kk vk m
    split at h
    · rename_i k v l
      split at h
      · rename_i hkv
        obtain ⟨rfl, rfl⟩ := hkv
        subst h
        obtain ⟨b, es, ck, h1, h2, h3, h4⟩ := hh
        exact ⟨b, es, ck, h1, fun q => by simp [h2 q, Chunk.keeps], h3, h4⟩
      · exact h.elim
    · exact h.elim
  · rename_i h' e' m
    split at h
    · split at h
      · rename_i q1 _
        subst q1
        split at h
        · rename_i q2 _
          subst q2
          simp only at h
          subst h
          exact ⟨hh.1, hh.2.1, fun k => by simp [hh.2.2 k, Chunk.keeps]⟩
        · exact h.elim
      · exact h.elim
    · exact h.elim

theorem Chunk.le_row {c : Chunk C} {o' : Bool} {e' : C.EC} {l' : List (C.α e')} (h : Chunk.le c (.row o' e' l')) : ∃ o, c = .row o e' l' ∧ (o' = true → o = true) := by
  unfold Chunk.le at h
  split at h
  · rename_i heq; cases heq
  · rename_i heq; cases heq
  · rename_i o2 e2 l2 heq
    injection heq with h1 h2 h3
    subst h1 h2
    have h3 := eq_of_heq h3
    subst h3
    split at h
    · rename_i o e l
      split at h
      · rename_i hoo
        split at h
        · rename_i he _
          subst he
          simp only at h
          subst h
          exact ⟨o, rfl, fun e => by subst e; simpa using hoo⟩
        · exact h.elim
      · exact h.elim
    · exact h.elim
  all_goals (rename_i heq; cases heq)
theorem Chunk.le_rows {c : Chunk C} {h' e' : C.EC} {l' : List (List (C.α e'))} (h : Chunk.le c (.rows h' e' l')) : c = .rows h' e' l' := by
  unfold Chunk.le at h
  cases c <;> first | exact h.elim | skip
  dsimp only at h
  split at h <;> try (exact h.elim)
  rename_i q1 _
  subst q1
  split at h <;> try (exact h.elim)
  rename_i q2 _
  subst q2
  simp only at h
  subst h
  rfl

/-- A weaker state. -/
theorem Sat.weaken (hC : C.OK) (h : Sat C σ φ w H) {H1 : List (Chunk C)} (hl : lesH H H1) (hcl : ∀ c ∈ H1, ∀ m ∈ c.names, m < H1.length) :
    Sat C σ (fun n b => φ n b ∧ ∃ d, H1[n]? = some d ∧ d.keeps = true) w H1 where
  holds n d hd := by
    obtain ⟨c, hc, hle⟩ := lesH_get hl n d hd
    have := Chunk.le_holds hC hle (h.holds n c hc)
    have e : (fun b => φ n b ∧ d.keeps = true) = (fun b => φ n b ∧ ∃ d, H1[n]? = some d ∧ d.keeps = true) := by
      funext b
      simp [hd]
    rw [e] at this
    exact this
  dis n m b h1 h2 := h.dis n m b h1.1 h2.1
  bd n b hb := h.bd n b hb.1
  imm n d hd b hb m hm := by
    obtain ⟨c, hc, hle⟩ := lesH_get hl n _ hd
    cases d with
    | rows h' e' l' =>
      obtain rfl := Chunk.le_rows hle
      exact h.imm n _ hc b hb m hm.1
    | gone => exact hb.elim
    | box _ => exact (Ro.box hb).elim
    | abs _ => exact hb.elim
    | map _ _ _ => exact (Ro.map hb).elim
    | row o' e l =>
    cases o' with
    | true => exact (Ro.own hb).elim
    | false =>
    obtain ⟨o, rfl, _⟩ := Chunk.le_row hle
    obtain ⟨hpos, hb⟩ := hb
    cases o with
    | false => exact h.immr n e l hc hpos b hb m hm.1
    | true =>
      have hnm := h.dis m n b hm.1 (((h.holds n _ hc).2 b).2 hb)
      subst hnm
      obtain ⟨d, hd', hk⟩ := hm.2
      rw [hd] at hd'
      simp only [Option.some.injEq] at hd'
      subst hd'
      simp [Chunk.keeps] at hk
  out n hn b hb := by
    obtain ⟨d, hd, _⟩ := hb.2
    rw [List.getElem?_eq_none hn] at hd
    cases hd
  cl n c hc m hm := hcl c (List.mem_of_getElem? hc) m hm

theorem okNames_spec {base : Nat} {T : List SV} {H : List (Chunk C)} (h : okNames base T H = true) : base ≤ H.length ∧ (∀ s ∈ T, ∀ m ∈ s.names, m < H.length) ∧ ∀ c ∈ H, ∀ m ∈ c.names, m < H.length := by
  unfold okNames at h
  simp only [Bool.and_eq_true, decide_eq_true_eq, List.all_eq_true] at h
  exact ⟨h.1.1, h.1.2, h.2⟩

/-- What chunks of a state's beginning must still be: rows that were not touched keep their list. -/
theorem St.weaken (h : St C B W T H σ φ a w) {T1 : List SV} {H1 : List (Chunk C)} {W1 : List Nat} (hT : lesT T T1) (hl : lesH H H1) (hok : okNames B.H.length T1 H1 = true) (hW : ∀ n, n ∈ W → B.H.length ≤ n ∨ n ∈ W1)
    (hst : ∀ n, n < B.H.length → n ∉ W1 → ∀ b, Rdb H1 σ n b ↔ Rdb H σ n b) :
    St C B W1 T1 H1 σ (fun n b => φ n b ∧ ∃ d, H1[n]? = some d ∧ d.keeps = true) a w := by
  obtain ⟨h1, h2, h3⟩ := okNames_spec hok
  refine ⟨⟨h.pre.ok, lesT_rel hT h.pre.tm, h2, h.pre.sat.weaken h.pre.ok hl h3⟩, h.dfs, ?_, h1, h.agree, fun n hn ho => h.own n hn ?_, fun n hn hnW => ?_⟩
  · exact h.adv.trans ⟨rfl, rfl, rfl, Nat.le_refl _, fun _ _ _ => rfl, fun n b hb => .inl ⟨n, hb.1⟩⟩
  · unfold isOwn at ho
    split at ho
    · rename_i e l hH
      obtain ⟨c, hc, hle⟩ := lesH_get hl n _ hH
      obtain ⟨o, rfl, ho'⟩ := Chunk.le_row hle
      have := ho' rfl
      subst this
      simp [isOwn, hc]
    · rename_i h' e l hH
      obtain ⟨c, hc, hle⟩ := lesH_get hl n _ hH
      obtain rfl := Chunk.le_rows hle
      simp [isOwn, hc]
    · cases ho
  · obtain ⟨h4, h5, h6⟩ := h.stand n hn fun e => (hW n e).elim (fun hle => by omega) hnW
    exact ⟨h4, fun b => (hst n hn hnW b).trans (h5 b), h6⟩

variable {A : Ann C}

theorem rdb_row {n : Nat} {own : Bool} {e : C.EC} {l : List (C.α e)} (hH : H[n]? = some (.row own e l)) (b : Nat) : Rdb H σ n b ↔ (σ n).ownBlock = some b ∧ 0 < l.length := by
  constructor
  · rintro (⟨_, cells, h⟩ | ⟨h, own', e', l', h2, hp⟩ | ⟨_, kk, vk, l', h⟩ | ⟨_, hh, e', l', h, _⟩)
    · rw [hH] at h; cases h
    · rw [hH] at h2
      simp only [Option.some.injEq] at h2
      injection h2 with _ h3 h4
      subst h3
      have h4 := eq_of_heq h4
      subst h4
      exact ⟨h, hp⟩
    · rw [hH] at h; cases h
    · rw [hH] at h; cases h
  · rintro ⟨h1, h2⟩
    exact .inr (.inl ⟨h1, own, e, l, hH, h2⟩)

theorem okBase_rdb {base : Nat} {wr : List Nat} {H1 : List (Chunk C)} (h : okBase base wr H1 = true) (hl : lesH H H1) {n : Nat} (hn : n < base) (hw : n ∉ wr) (b : Nat) : Rdb H1 σ n b ↔ Rdb H σ n b := by
  unfold okBase at h
  have h1 := List.all_eq_true.1 h n (List.mem_range.2 hn)
  simp only [Bool.or_eq_true] at h1
  rcases h1 with h1 | h1
  · exact absurd (by simpa using h1) hw
  · split at h1
    · cases h1
    · rename_i d hng hd
      obtain ⟨c, hc, hle⟩ := lesH_get hl n d hd
      cases d with
      | gone => exact (hng rfl).elim
      | box m =>
        unfold Chunk.le at hle
        unfold Rdb
        cases c <;> simp_all
      | row o e l =>
        obtain ⟨o', rfl, _⟩ := Chunk.le_row hle
        rw [rdb_row hd, rdb_row hc]
      | abs x =>
        unfold Chunk.le at hle
        unfold Rdb
        cases c <;> simp_all
      | map kk vk l =>
        unfold Chunk.le at hle
        unfold Rdb
        cases c <;> simp_all
      | rows h' e' l' =>
        obtain rfl := Chunk.le_rows hle
        unfold Rdb
        rw [hd, hc]
    · cases h1

theorem nodupB_spec : ∀ {l : List Nat}, nodupB l = true → l.Nodup := by
  intro l
  induction l with
  | nil => intro _; exact List.nodup_nil
  | cons n l ih =>
    intro h
    simp only [nodupB, Bool.and_eq_true] at h
    exact List.nodup_cons.2 ⟨by simpa using h.1, ih h.2⟩

theorem St.rename (h : St C B W T H σ φ a w) {τ : List Nat} (hnd : τ.Nodup) (hlt : ∀ n ∈ τ, n < H.length) (hlow : ∀ n, n < B.H.length → τ[n]? = some n) (hlen : B.H.length ≤ τ.length) :
    St C B W (T.map (SV.ren fun n => idxOf n τ)) (pickH τ H) (fun k => σ (τ.getD k 0)) (fun k b => k < τ.length ∧ φ (τ.getD k 0) b) a w := by
  have hgd : ∀ {k n : Nat}, τ[k]? = some n → τ.getD k 0 = n := fun {k n} hk => by simp [List.getD_eq_getElem?_getD, hk]
  have hρ : ∀ n m, idxOf n τ = some m → σ (τ.getD m 0) = σ n := fun n m hm => by rw [hgd (idxOf_spec hm)]
  have hrow : ∀ n, n < B.H.length → (pickH τ H)[n]? = (H[n]?).map (Chunk.ren fun n => idxOf n τ) := fun n hn => by
    unfold pickH
    rw [List.getElem?_map, hlow n hn, getD_some (d := .gone) (Nat.lt_of_lt_of_le hn h.len)]
    rfl
  refine ⟨⟨h.pre.ok, ⟨by simp [h.pre.tm.1], fun i x v hx hv => ?_⟩, fun x hx m hm => ?_, h.pre.sat.pick hnd hlt⟩, h.dfs, ⟨h.adv.os, h.adv.tape, h.adv.output, h.adv.size, h.adv.fr, fun n b hb => h.adv.grow _ b hb.2⟩, by simpa [pickH] using hlen, fun n hn ho => ?_, fun n hn ho => ?_, fun n hn hnW => ?_⟩
  · rw [List.getElem?_map] at hx
    cases hi : T[i]? with
    | none => rw [hi] at hx; cases hx
    | some y => rw [hi] at hx; simp at hx; subst hx; exact SV.ren_rel hρ (h.pre.tm.2 i y v hi hv)
  · obtain ⟨y, hy, rfl⟩ := List.mem_map.1 hx
    obtain ⟨n, _, e⟩ := SV.ren_names m hm
    simpa [pickH] using (List.getElem?_eq_some_iff.1 (idxOf_spec e)).1
  · rw [hgd (hlow n hn)]
    exact h.agree n hn ho
  · refine h.own n hn ?_
    rw [isOwn_ren (hrow n hn)] at ho
    exact ho
  · obtain ⟨h4, h5, h6⟩ := h.stand n hn hnW
    refine ⟨by simp only [hgd (hlow n hn)]; exact h4, fun b => ?_, h6⟩
    rw [← h5 b]
    exact Rdb.same (by simp only [hgd (hlow n hn)]) (hrow n hn)

theorem meetO_sound (h : St C B W T H σ φ a w) (hb : A.base = B.H.length) {i : Inv C} {T1 : List SV} {x : i.X} (hm : meetO C A i W T T1 H x) : ∃ σ' φ', St C B i.wr T1 (i.hf x) σ' φ' a w := by
  unfold meetO at hm
  simp only at hm
  split at hm
  · rename_i hc
    simp only [Bool.and_eq_true] at hc
    obtain ⟨hc1, hc2, hc3, hc4, hc5⟩ := hc
    rw [hb] at hc1 hc2
    have hle : B.H.length ≤ (i.hf x).length := by
      simp only [okNames, Bool.and_eq_true, decide_eq_true_eq] at hc1
      exact hc1.1.1
    have hst := h.rename (nodupB_spec hc4) (fun n hn => by simpa using List.all_eq_true.1 hc5 n hn) (fun n hn => by
      unfold meetN
      simp only
      rw [List.getElem?_map, List.getElem?_range (by omega)]
      simp [hb, hn]) (by simpa [meetN] using hle)
    exact ⟨_, _, hst.weaken hm.1 hm.2 hc1 (fun n hn => by have := List.all_eq_true.1 hc3 n hn; rw [hb] at this; simpa using this) fun n hn hnw b => okBase_rdb hc2 hm.2 hn hnw b⟩
  · exact hm.elim

theorem St.dup (h : St C B W T H σ φ a w) {s n : Nat} {e : C.EC} {l : List (C.α e)} (hT : T[s]? = some (.one (.at (.slc n)))) (hH : H[n]? = some (.row false e l)) : ∃ σ' φ', St C B W (T.set s (.one (.at (.slc H.length)))) (H ++ [.row false e l]) σ' φ' a w := by
  obtain ⟨v, hv, hr⟩ := h.pre.tm.get hT
  have hr : v = σ n := hr
  have g := dup_sound h.pre.ok h.pre.sat hH
  have e0 : a.put none (σ n) = a := rfl
  have q := quiet_out h.pre g (s := .one (.at (.slc H.length))) (v := σ n) (by show σ n = _; simp) (by intro m hm; simp [SV.names, TV.names, At.names] at hm; subst hm; simp) none []
  have st := h.step q
  rw [e0] at st
  refine ⟨_, _, st.withT ⟨h.pre.ok, ?_, ?_, g.sat⟩⟩
  · have := st.pre.tm.set s (a := .one (.at (.slc H.length))) (b := v) (by show v = _; simp [hr])
    have e1 : a.tmps.toList.set s v = a.tmps.toList := by
      apply List.ext_getElem?
      intro k
      rw [List.getElem?_set]
      split
      · rename_i hk
        subst hk
        split
        · exact hv.symm
        · rename_i hlt
          rw [List.getElem?_eq_none (by omega)] at hv
          cases hv
      · rfl
    rw [e1] at this
    exact this
  · intro x hx m hm
    rcases List.mem_or_eq_of_mem_set hx with hx | rfl
    · exact Nat.lt_of_lt_of_le (h.pre.tcl x hx m hm) g.len
    · simp [SV.names, TV.names, At.names] at hm; subst hm; simp
theorem St.grow (h : St C B W T H σ φ a w) {σ' : Nat → Value} {φ' : Nat → Nat → Prop} {H' : List (Chunk C)} (g : Grows C σ φ H σ' φ' H' w) : St C B W T H' σ' φ' a w :=
  h.step (quiet_out h.pre g (s := .one (.at .any)) (v := undef) trivial (by intro m hm; simp [SV.names, TV.names, At.names] at hm) none [])
theorem copyS_sound : ∀ (r : List Nat) {T : List SV} {H : List (Chunk C)} {σ : Nat → Value} {φ : Nat → Nat → Prop}, St C B W T H σ φ a w → ∃ σ' φ', St C B W (copyS r T H).1 (copyS r T H).2 σ' φ' a w := by
  intro r
  induction r with
  | nil => intro T H σ φ h; exact ⟨σ, φ, h⟩
  | cons s r ih =>
    intro T H σ φ h
    unfold copyS
    split
    · rename_i n hn
      split
      · rename_i e l hH
        have hT : T[s]? = some (.one (.at (.slc n))) := by
          rw [List.getD_eq_getElem?_getD] at hn
          cases hT' : T[s]? with
          | none => rw [hT'] at hn; simp at hn
          | some x => rw [hT'] at hn; simp at hn; rw [hn]
        obtain ⟨σ1, φ1, h1⟩ := h.dup hT hH
        exact ih h1
      · rename_i e l hH
        have hT : T[s]? = some (.one (.at (.slc n))) := by
          rw [List.getD_eq_getElem?_getD] at hn
          cases hT' : T[s]? with
          | none => rw [hT'] at hn; simp at hn
          | some x => rw [hT'] at hn; simp at hn; rw [hn]
        have hn' : n < H.length := (List.getElem?_eq_some_iff.1 hH).1
        have hf := h.grow (freeze_sound h.pre.ok h.pre.sat hH)
        obtain ⟨σ1, φ1, h1⟩ := hf.dup hT (List.getElem?_set_self hn')
        rw [List.length_set] at h1
        exact ih h1
      · exact ih h
    · exact ih h
theorem meetS_sound (h : St C B W T H σ φ a w) (hb : A.base = B.H.length) {i : Inv C} {T1 : List SV} {x : i.X} (hm : meetS C A i W T T1 H x) : ∃ σ' φ', St C B i.wr T1 (i.hf x) σ' φ' a w := by
  unfold meetS at hm
  split at hm
  · exact meetO_sound h hb hm
  · obtain ⟨σ1, φ1, h1⟩ := copyS_sound _ h
    exact meetO_sound h1 hb hm

/-- What a body's run comes to, of the real thing. -/
def Den (C : Ctx) (B : Base C) (K : Ex → List Nat → List SV → List (Chunk C) → Prop) : Exit → Act → World → Prop
  | .normal, a, w => ∃ W T H σ φ, St C B W T H σ φ a w ∧ K .normal W T H
  | .exit id, a, w => ∃ W T H σ φ, St C B W T H σ φ a w ∧ K (.exit id) W T H
  | .ret, a, w => ∃ W T H σ φ, St C B W T H σ φ a w ∧ K .ret W T H
  | _, _, _ => False

theorem St.setBool (h : St C B W T H σ φ a w) {d : Nat} {b : Bool} (hT : T.getD d (.one (.at .any)) = .one (.at (.val (.bool b)))) : a.eval (.tmp d) = .bool b ∧ St C B W (T.set d (vb b)) H σ φ a w := by
  have hT' : T[d]? = some (.one (.at (.val (.bool b)))) := by
    rw [List.getD_eq_getElem?_getD] at hT
    cases hT' : T[d]? with
    | none => rw [hT'] at hT; simp at hT
    | some x => rw [hT'] at hT; simp at hT; rw [hT]
  obtain ⟨v, hv, hr⟩ := h.pre.tm.get hT'
  have hvb : v = .bool b := hr
  subst hvb
  have hv' : a.tmps[d]? = some (.bool b) := by rw [← Array.getElem?_toList]; exact hv
  refine ⟨by simp [Act.eval, Array.getD_eq_getD_getElem?, hv'], ?_⟩
  have e : T.set d (vb b) = T := by
    apply List.ext_getElem?
    intro k
    rw [List.getElem?_set]
    split
    · rename_i hk
      subst hk
      split
      · exact hT'.symm
      · rename_i hlt
        rw [List.getElem?_eq_none (by omega)] at hT'
        cases hT'
    · rfl
  rw [e]
  exact h

theorem run_sound (hC : C.OK) (hG : GOK C A.Γ) (hb : A.base = B.H.length) : ∀ (c : Code) (lv : Nat → Bool) (K : Ex → List Nat → List SV → List (Chunk C) → Prop) {W : List Nat} {T : List SV} {H : List (Chunk C)} {σ : Nat → Value} {φ : Nat → Nat → Prop} {a : Act} {w : World},
    run C A c lv K W T H → St C B W T H σ φ a w → c.wp C.P (Den C B K) a w := by
  intro c
  induction c with
  | skip => intro lv K W T H σ φ a w hr h; exact wp_skip ⟨W, T, H, σ, φ, h, hr⟩
  | region id ops d =>
    intro lv K W T H σ φ a w hr h
    simp only [run] at hr
    cases d with
    | true =>
      simp only [if_true] at hr
      split at hr
      · rename_i hsel
        refine wp_region_any hC.mixed (wpAnyL.any (S := Stand H σ (stayS A.quiet A.trunc T H ops) { w with drawn := w.drawn + 1 }) (late := lateS A.trunc ops) ?_)
        have hN : NoLate (lateS A.trunc ops) (Array.replicate ops.size false) := fun j hj => by
          have hlt : j < ops.size := by
            unfold lateS at hj
            split at hj
            · cases hj
            · rename_i p hp
              exact (Array.getElem?_eq_some_iff.1 hp).1
          simp [hlt]
        exact anyS_sound hG (fun hst hk => ⟨_, _, _, _, _, hst, hk⟩) (fun c a w hh => hh) hsel (Hs := H) (σs := σ) (fun n hn => by
          unfold stayS at hn
          exact List.mem_range.1 (List.mem_filter.1 hn).1) ops.size (h.drawn _) (Nat.le_refl _) (fun _ => ⟨fun _ _ _ _ => rfl, fun _ _ _ => Iff.rfl⟩) (fun _ _ _ _ _ => hN) hr
      · exact hr.elim
    | false =>
      simp only [Bool.false_eq_true, if_false] at hr
      exact wp_region_list (seqS_sound hG (fun hst hk => ⟨_, _, _, _, _, hst, hk⟩) ops.toList h hr)
  | seq x y ihx ihy =>
    intro lv K W T H σ φ a w hr h
    simp only [run] at hr
    split at hr
    · refine wp_seq (wp_mono (ihx _ _ hr h) fun e a' w' hd => ?_)
      cases e with
      | normal =>
        obtain ⟨W', T', H', σ', φ', hst, hk⟩ := hd
        exact ihy _ _ hk hst
      | exit id => exact hd
      | ret => exact hd
      | goto l => exact hd
      | panic ch => exact hd
      | outgrown => exact hd
    · rename_i i _
      refine wp_seq (wp_mono (ihx _ _ hr.1 h) fun e a' w' hd => ?_)
      cases e with
      | normal =>
        obtain ⟨W', T', H', σ', φ', hst, x, hrl, hm⟩ := hd
        obtain ⟨σ2, φ2, hst2⟩ := meetS_sound hst hb hm
        exact ihy _ _ (hr.2 x hrl) hst2
      | exit id => exact hd
      | ret => exact hd
      | goto l => exact hd
      | panic ch => exact hd
      | outgrown => exact hd
  | cond c x y ihx ihy =>
    intro lv K W T H σ φ a w hr h
    simp only [run] at hr
    split at hr <;> try (exact hr.elim)
    rename_i d
    split at hr <;> try (exact hr.elim)
    rename_i t ht
    obtain ⟨he, hst⟩ := h.setBool ht
    rw [brS_iff] at hr
    refine wp_cond_split he (fun e => ?_) (fun e => ?_)
    · subst e; exact ihx _ _ (hr.1 rfl) hst
    · subst e; exact ihy _ _ (hr.2 rfl) hst
  | block id b ih =>
    intro lv K W T H σ φ a w hr h
    simp only [run] at hr
    refine wp_block (wp_mono (ih _ _ hr h) fun e a' w' hd => ?_)
    cases e with
    | exit j =>
      obtain ⟨W', T', H', σ', φ', hst, hk⟩ := hd
      simp only at hk
      show if j = id then _ else _
      by_cases hj : j = id
      · rw [if_pos hj] at hk ⊢; exact ⟨W', T', H', σ', φ', hst, hk⟩
      · rw [if_neg hj] at hk ⊢; exact ⟨W', T', H', σ', φ', hst, hk⟩
    | normal => exact hd
    | ret => exact hd
    | goto l => exact hd
    | panic ch => exact hd
    | outgrown => exact hd
  | loop b ih =>
    intro lv K W T H σ φ a w hr h
    simp only [run] at hr
    refine LW.loop ?_
    generalize A.rounds (headId b) = n at hr
    induction n generalizing W T H σ φ a w with
    | zero =>
      simp only [unroll] at hr
      split at hr <;> try (exact hr.elim)
      rename_i i _
      obtain ⟨⟨x0, hrl0, hm0⟩, hround⟩ := hr
      obtain ⟨σ0, φ0, hst0⟩ := meetS_sound h hb hm0
      refine LW.ghost (fun n a w => ∃ x σ φ, i.μ x = n ∧ i.rel T H x ∧ St C B i.wr (invS C b (liveC b lv) T i x) (i.hf x) σ φ a w) ?_ (i.μ x0) ⟨x0, σ0, φ0, rfl, hrl0, hst0⟩
      rintro n a1 w1 ⟨x, σ1, φ1, hμ, hrl, hst⟩
      refine wp_mono (ih _ _ (hround x hrl) hst) fun e a' w' hd => ?_
      cases e with
      | normal =>
        obtain ⟨W', T', H', σ', φ', hst', x', hrl', hm, hlt⟩ := hd
        obtain ⟨σ2, φ2, hst2⟩ := meetS_sound hst' hb hm
        exact ⟨i.μ x', by omega, x', σ2, φ2, rfl, hrl', hst2⟩
      | exit id => exact hd
      | ret => exact hd
      | goto l => exact hd
      | panic ch => exact hd
      | outgrown => exact hd
    | succ n ihn =>
      refine LW.step (wp_mono (ih _ _ hr h) fun e a' w' hd => ?_)
      cases e with
      | normal =>
        obtain ⟨W', T', H', σ', φ', hst, hk⟩ := hd
        exact ihn hst hk
      | exit id => exact hd
      | ret => exact hd
      | goto l => exact hd
      | panic ch => exact hd
      | outgrown => exact hd
  | exit id => intro lv K W T H σ φ a w hr h; exact wp_exit ⟨W, T, H, σ, φ, h, hr⟩
  | ret => intro lv K W T H σ φ a w hr h; exact wp_ret ⟨W, T, H, σ, φ, h, hr⟩
  | _ => intro lv K W T H σ φ a w hr h; simp [run] at hr
end
end Go.Proofs.Ytmjnoiajenoinaa.Sx
end
section
/- The symbolic run is sound: functions; what is left of a call's chunks. No program in sight. -/
namespace Go.Proofs.Ytmjnoiajenoinaa.Sx
open Go

section
variable {C : Ctx}
variable {W : List Nat} {B : Base C} {T : List SV} {H : List (Chunk C)} {σ : Nat → Value} {φ : Nat → Nat → Prop} {a : Act} {w : World} {o : Oper} {A : Ann C}

def resRun (tmps : Array Value) : ResultVar → Sem Value
  | .tmp t => pure (tmps.getD t undef)
  | .cell x t => do loadVar t (← asAddr (tmps.getD x undef))
theorem results_eq (fn : Func) (tmps : Array Value) : results fn tmps = (do
    let vs ← fn.results.mapM (resRun tmps)
    pure (if h : vs.size = 1 then vs[0] else .tuple vs)) := by
  unfold results
  congr 1

theorem resS_sound (h : Pre C T H σ φ a w) : ∀ (rs : List ResultVar) {l : List SV}, resS C T H rs = some l → ∃ vs, Rels (SV.rel σ) l vs ∧ (∀ s ∈ l, ∀ m ∈ s.names, m < H.length) ∧
    (rs.mapM (m := Sem) (resRun a.tmps)).run C.P w = .ok vs w := by
  intro rs
  induction rs with
  | nil => intro l hl; simp [resS] at hl; subst hl; exact ⟨[], Rels.nil, by simp, by simp⟩
  | cons r rs ih =>
    intro l hl
    cases r with
    | tmp t =>
      simp only [resS, Option.map_eq_some_iff] at hl
      obtain ⟨l', h1, rfl⟩ := hl
      obtain ⟨vs, h2, h3, h4⟩ := ih h1
      have hr := h.rel (.tmp t)
      refine ⟨a.tmps.getD t undef :: vs, Rels.cons hr h2, fun s hs m hm => ?_, ?_⟩
      · rcases List.mem_cons.1 hs with rfl | hs
        · exact h.nm (.tmp t) m hm
        · exact h3 s hs m hm
      · rw [List.mapM_cons, Sem.run_bind]
        simp only [resRun, Sem.run_pure, Result.andThen_ok, Sem.run_bind, h4]
    | cell x t =>
      simp only [resS] at hl
      split at hl <;> try (cases hl; done)
      rename_i s l' hs h1
      simp only [Option.some.injEq] at hl
      subst hl
      obtain ⟨vs, h2, h3, h4⟩ := ih h1
      obtain ⟨u, n, b, ad, _, e2, _, e4, e5, _, e7⟩ := loadS_sound h.ok h.sat (h.rel (.tmp x)) hs
      have e2' : a.tmps.getD x undef = .pointer (some ad) := e2
      refine ⟨u :: vs, Rels.cons e4 h2, fun s' hs m hm => ?_, ?_⟩
      · rcases List.mem_cons.1 hs with rfl | hs
        · exact e5 m hm
        · exact h3 s' hs m hm
      · have e8 : (resRun a.tmps (.cell x t)).run C.P w = .ok u w := by
          have := e7 w rfl
          simp [resRun, e2', asAddr, this]
        rw [List.mapM_cons, Sem.run_bind, e8]
        simp only [Result.andThen_ok, Sem.run_bind, h4, Sem.run_pure]

theorem retS_sound (h : Pre C T H σ φ a w) {fn : Func} {r : SV} (hr : retS C T H fn.results.toList = some r) : ∃ v, r.rel σ v ∧ (∀ m ∈ r.names, m < H.length) ∧ (results fn a.tmps).run C.P w = .ok v w := by
  have key : ∀ {l : List SV}, resS C T H fn.results.toList = some l → ∃ vs, Rels (SV.rel σ) l vs ∧ (∀ s ∈ l, ∀ m ∈ s.names, m < H.length) ∧ (results fn a.tmps).run C.P w = .ok (if h : vs.toArray.size = 1 then vs.toArray[0] else .tuple vs.toArray) w := by
    intro l hl
    obtain ⟨vs, h1, h2, h3⟩ := resS_sound h _ hl
    refine ⟨vs, h1, h2, ?_⟩
    rw [results_eq, Array.mapM_eq_mapM_toList]
    simp only [Sem.run_bind, Sem.run_map, h3, Result.andThen_ok, Sem.run_pure]
  unfold retS at hr
  split at hr
  · rename_i s hs
    simp only [Option.some.injEq] at hr
    subst hr
    obtain ⟨vs, h1, h2, h3⟩ := key hs
    match vs, h1, h3 with
    | [v], h1, h3 => exact ⟨v, h1.2 0 _ _ rfl rfl, h2 s (by simp), by simpa using h3⟩
    | [], h1, _ => exact absurd h1.1 (by simp)
    | _ :: _ :: _, h1, _ => exact absurd h1.1 (by simp)
  · rename_i l hne hl
    simp only [Option.map_eq_some_iff] at hr
    obtain ⟨xs, hxs, rfl⟩ := hr
    obtain ⟨vs, h1, h2, h3⟩ := key hl
    obtain ⟨h4, h5⟩ := atsOf_rel hxs h1
    refine ⟨.tuple vs.toArray, ⟨vs, rfl, h4⟩, fun m hm => ?_, ?_⟩
    · obtain ⟨x, hx, hm⟩ := List.mem_flatMap.1 hm
      exact h2 _ (h5 x hx) m hm
    · have hlen : ¬ vs.toArray.size = 1 := fun e => by
        rw [List.size_toArray, ← h1.1] at e
        match l, e, hne with
        | [s], _, hne => exact hne s rfl
      rw [dif_neg hlen] at h3
      exact h3
  · cases hr

theorem initT_rel {args : List TV} {vs : List Value} {n : Nat} (h : Rels (TV.rel σ) args vs) : Rels (SV.rel σ) (initT args n) (vs.toArray ++ Array.replicate (n - vs.toArray.size) undef).toList := by
  simp only [Array.toList_append, initT]
  refine Rels.append ⟨by simpa using h.1, fun i x v hx hv => ?_⟩ ⟨by simp [h.1], fun i x v hx hv => ?_⟩
  · rw [List.getElem?_map] at hx
    cases hi : args[i]? with
    | none => rw [hi] at hx; cases hx
    | some y => rw [hi] at hx; simp at hx hv; subst hx; exact h.2 i y v hi hv
  · rw [List.getElem?_replicate] at hx
    split at hx
    · simp at hx; subst hx; trivial
    · cases hx

/-- A function does what its run says. -/
theorem call_of_vc (hC : C.OK) (hG : GOK C A.Γ) {f : FuncId} {fn : Func} (hf : C.P.funcs[f]? = some fn) {args : List TV} {Q : SV → List (Chunk C) → List Nat → Prop} (hv : vc C A fn args H Q) : CallOK C f args H Q := by
  intro σ φ w vs hs hr hn
  unfold vc at hv
  split at hv
  · exact hv.elim
  · rename_i c hc
    have hst : St C ⟨H, σ, φ, w⟩ [] (initT args fn.ntmps) H σ φ { tmps := vs.toArray ++ Array.replicate (fn.ntmps - vs.toArray.size) undef, defers := [] } w :=
      ⟨⟨hC, initT_rel hr, fun s hs m hm => by
        rcases List.mem_append.1 hs with hs | hs
        · obtain ⟨x, hx, rfl⟩ := List.mem_map.1 hs
          exact hn x hx m hm
        · rw [List.mem_replicate] at hs
          rw [hs.2] at hm
          simp [SV.names, TV.names, At.names] at hm, hs⟩, rfl, Adv.refl _ _, Nat.le_refl _, fun _ _ _ => rfl, fun _ _ h => h, fun _ _ _ => ⟨rfl, fun _ => Iff.rfl, fun _ _ _ => rfl⟩⟩
    have hrun := run_sound (A := { A with base := H.length }) (B := ⟨H, σ, φ, w⟩) hC hG rfl c _ _ hv hst
    refine calls_of_wp hf hc (wp_mono hrun fun e a' w' hd => ?_)
    have fin : ∀ {W : List Nat} {T' : List SV} {H' : List (Chunk C)} {σ' : Nat → Value} {φ' : Nat → Nat → Prop}, St C ⟨H, σ, φ, w⟩ W T' H' σ' φ' a' w' → (match retS C T' H' fn.results.toList with | some r => Q r H' W | none => False) →
        a'.defers = [] ∧ ∃ v, (results fn a'.tmps).run C.P w' = .ok v w' ∧ COk C H σ φ w Q (.returned v) w' := by
      intro W T' H' σ' φ' h hq
      refine ⟨h.dfs, ?_⟩
      split at hq
      · rename_i r hret
        obtain ⟨v, h1, h2, h3⟩ := retS_sound h.pre hret
        refine ⟨v, h3, r, H', W, σ', φ', ⟨h1, h2, h.pre.sat, h.adv, h.len, fun n hn ho => ?_, h.own, fun n hn ht => (h.stand n hn ht).2⟩, hq⟩
        rcases ho with ho | ho
        · exact h.agree n hn ho
        · exact (h.stand n hn ho).1
      · exact hq.elim
    cases e with
    | normal =>
      obtain ⟨W, T', H', σ', φ', h, hq⟩ := hd
      exact fin h hq
    | ret =>
      obtain ⟨W, T', H', σ', φ', h, hq⟩ := hd
      exact fin h hq
    | exit id =>
      obtain ⟨W, T', H', σ', φ', h, hq⟩ := hd
      exact hq.elim
    | goto l => exact hd.elim
    | panic ch => exact hd.elim
    | outgrown => exact hd.elim

end
end Go.Proofs.Ytmjnoiajenoinaa.Sx
end
section
/- What a call leaves, in a form of its own; the rule of the frame. No program in sight. -/
namespace Go.Proofs.Ytmjnoiajenoinaa.Sx
open Go

section
variable {C : Ctx}
variable {H H' : List (Chunk C)} {σ σ' : Nat → Value} {φ φ' : Nat → Nat → Prop} {w w' : World}

def dedup : List Nat → List Nat → List Nat
  | acc, [] => acc
  | acc, n :: l => if acc.contains n then dedup acc l else dedup (acc ++ [n]) l

theorem dedup_spec : ∀ (l acc : List Nat), acc.Nodup → (dedup acc l).Nodup ∧ (∃ x, dedup acc l = acc ++ x) ∧ ∀ n, n ∈ dedup acc l → n ∈ acc ∨ n ∈ l := by
  intro l
  induction l with
  | nil => intro acc h; exact ⟨h, ⟨[], by simp [dedup]⟩, fun n hn => .inl hn⟩
  | cons n l ih =>
    intro acc h
    simp only [dedup]
    split
    · obtain ⟨h1, h2, h3⟩ := ih acc h
      exact ⟨h1, h2, fun m hm => (h3 m hm).imp id fun h => by simp [h]⟩
    · rename_i hc
      have hc' : n ∉ acc := by simpa using hc
      obtain ⟨h1, ⟨x, h2⟩, h3⟩ := ih (acc ++ [n]) (by
        rw [List.nodup_append]
        exact ⟨h, by simp, fun a ha b hb => by simp at hb; subst hb; exact fun e => hc' (e ▸ ha)⟩)
      refine ⟨h1, ⟨n :: x, by simp [h2]⟩, fun m hm => ?_⟩
      rcases h3 m hm with h | h
      · rcases List.mem_append.1 h with h | h
        · exact .inl h
        · exact .inr (by simp at h; simp [h])
      · exact .inr (by simp [h])

def closeN (H : List (Chunk C)) : Nat → List Nat → List Nat
  | 0, l => l
  | d + 1, l => closeN H d (dedup l (l.flatMap (subNames H)))

theorem closeN_spec (hcl : ∀ (n : Nat) (c : Chunk C), H[n]? = some c → ∀ m ∈ c.names, m < H.length) : ∀ (d : Nat) (l : List Nat), l.Nodup → (∀ n ∈ l, n < H.length) →
    (closeN H d l).Nodup ∧ (∃ x, closeN H d l = l ++ x) ∧ ∀ n ∈ closeN H d l, n < H.length := by
  intro d
  induction d with
  | zero => intro l h h'; exact ⟨h, ⟨[], by simp [closeN]⟩, h'⟩
  | succ d ih =>
    intro l h h'
    obtain ⟨h1, ⟨x, h2⟩, h3⟩ := dedup_spec (l.flatMap (subNames H)) l h
    obtain ⟨h4, ⟨y, h5⟩, h6⟩ := ih _ h1 fun n hn => by
      rcases h3 n hn with hn | hn
      · exact h' n hn
      · obtain ⟨k, _, hk⟩ := List.mem_flatMap.1 hn
        unfold subNames at hk
        split at hk
        · rename_i c hc; exact hcl k c hc n hk
        · cases hk
    exact ⟨h4, ⟨x ++ y, by rw [closeN, h5, h2, List.append_assoc]⟩, h6⟩

def normN (n0 : Nat) (r : SV) (H : List (Chunk C)) : List Nat := closeN H 6 (dedup (List.range n0) r.names)
def normW (n0 : Nat) (ts : List Nat) : List Nat := (List.range n0).filter ts.contains
/-- What is said of a call's end, of the names that count alone. -/
def normK (n0 : Nat) (K : SV → List (Chunk C) → List Nat → Prop) : SV → List (Chunk C) → List Nat → Prop := fun r H ts =>
  K (r.ren (fun n => idxOf n (normN n0 r H))) (pickH (normN n0 r H) H) (normW n0 ts)

theorem normN_spec (hcl : ∀ (n : Nat) (c : Chunk C), H[n]? = some c → ∀ m ∈ c.names, m < H.length) {n0 : Nat} (h0 : n0 ≤ H.length) {r : SV} (hr : ∀ m ∈ r.names, m < H.length) :
    (normN n0 r H).Nodup ∧ (∃ x, normN n0 r H = List.range n0 ++ x) ∧ ∀ n ∈ normN n0 r H, n < H.length := by
  obtain ⟨h1, ⟨x, h2⟩, h3⟩ := dedup_spec r.names (List.range n0) List.nodup_range
  obtain ⟨h4, ⟨y, h5⟩, h6⟩ := closeN_spec hcl 6 _ h1 fun n hn => by
    rcases h3 n hn with hn | hn
    · have := List.mem_range.1 hn; omega
    · exact hr n hn
  exact ⟨h4, ⟨x ++ y, by rw [normN, h5, h2, List.append_assoc]⟩, h6⟩

theorem COut.norm {ts : List Nat} {r : SV} {v : Value} (h : COut C H σ φ w ts r v H' σ' φ' w') :
    COut C H σ φ w (normW H.length ts) (r.ren (fun n => idxOf n (normN H.length r H'))) v (pickH (normN H.length r H') H') (fun k => σ' ((normN H.length r H').getD k 0))
      (fun k b => k < (normN H.length r H').length ∧ φ' ((normN H.length r H').getD k 0) b) w' := by
  obtain ⟨h1, ⟨x, h2⟩, h3⟩ := normN_spec (H := H') h.sat.cl h.len h.rcl
  generalize normN H.length r H' = τ at h1 h2 h3
  have hgd : ∀ {k n : Nat}, τ[k]? = some n → τ.getD k 0 = n := fun {k n} hk => by simp [List.getD_eq_getElem?_getD, hk]
  have hρ : ∀ n m, idxOf n τ = some m → σ' (τ.getD m 0) = σ' n := fun n m hm => by rw [hgd (idxOf_spec hm)]
  have hlow : ∀ n, n < H.length → τ[n]? = some n := fun n hn => by rw [h2, List.getElem?_append_left (by simpa using hn), List.getElem?_range hn]
  have hrow : ∀ n, n < H.length → (pickH τ H')[n]? = (H'[n]?).map (Chunk.ren fun n => idxOf n τ) := fun n hn => by
    unfold pickH
    rw [List.getElem?_map, hlow n hn, getD_some (d := .gone) (Nat.lt_of_lt_of_le hn h.len)]
    rfl
  have hts : ∀ n, n < H.length → n ∉ normW H.length ts → n ∉ ts := fun n hn hnn hh => hnn (by simp [normW, hn, hh])
  refine ⟨SV.ren_rel hρ h.rel, fun m hm => ?_, h.sat.pick h1 h3, ⟨h.adv.os, h.adv.tape, h.adv.output, h.adv.size, h.adv.fr, fun n b hb => h.adv.grow _ b hb.2⟩, ?_, fun n hn ho => ?_, fun n hn ho => ?_, fun n hn hnt => ⟨fun b => ?_, (h.touch n hn (hts n hn hnt)).2⟩⟩
  · obtain ⟨n, hn, e⟩ := SV.ren_names m hm
    simpa [pickH] using (List.getElem?_eq_some_iff.1 (idxOf_spec e)).1
  · simp [pickH, h2]
  · rw [hgd (hlow n hn)]
    exact h.agree n hn (ho.imp id (hts n hn))
  · refine h.own n hn ?_
    rw [isOwn_ren (hrow n hn)] at ho
    exact ho
  · rw [← (h.touch n hn (hts n hn hnt)).1 b]
    exact Rdb.same (by simp only [hgd (hlow n hn)]) (hrow n hn)

theorem CallOK.norm {f : FuncId} {args : List TV} {K : SV → List (Chunk C) → List Nat → Prop} (h : CallOK C f args H (normK H.length K)) : CallOK C f args H K := by
  intro σ φ w vs hs hr hn
  refine Calls.mono (h σ φ w vs hs hr hn) fun e w' hh => ?_
  cases e with
  | panicked ch => exact hh.elim
  | outgrown => exact hh.elim
  | returned v =>
    obtain ⟨r, H', ts, σ', φ', hout, hK⟩ := hh
    exact ⟨_, _, _, _, _, hout.norm, hK⟩
end
end Go.Proofs.Ytmjnoiajenoinaa.Sx
end
section
/- The rule of the frame: what a function does with the chunks that it is handed, it does beside others. No program in sight. -/
namespace Go.Proofs.Ytmjnoiajenoinaa.Sx
open Go

section
variable {C : Ctx}
variable {H H' H1 : List (Chunk C)} {σ σ' σ1 : Nat → Value} {φ φ' φ1 : Nat → Nat → Prop} {w w' : World}

def At.roots (own : Bool) : At → List Nat
  | .ptr n _ => [n]
  | .fn _ cs => cs
  | .slc n => match own with
    | true => [n]
    | false => []
  | _ => []
def TV.roots (own : Bool) : TV → List Nat
  | .at a => a.roots own
  | .agg l => l.flatMap (At.roots own)
def rootsA : List Bool → List TV → List Nat
  | _, [] => []
  | [], x :: l => x.roots false ++ rootsA [] l
  | m :: ms, x :: l => x.roots m ++ rootsA ms l

/-- An argument under the names of the callee; what is lent to it. -/
def At.loc (own : Bool) (Tn : List Nat) (a : At) (Ln : List Nat) : At × List Nat := match own, a with
  | false, .slc n => (.slc (Tn.length + Ln.length), Ln ++ [n])
  | false, .eptr n i sz off => (.eptr (Tn.length + Ln.length) i sz off, Ln ++ [n])
  | _, a => (a.ren (fun n => idxOf n Tn), Ln)
def locAts (own : Bool) (Tn : List Nat) : List At → List Nat → List At × List Nat
  | [], Ln => ([], Ln)
  | a :: l, Ln => let p := a.loc own Tn Ln; let q := locAts own Tn l p.2; (p.1 :: q.1, q.2)
def TV.loc (own : Bool) (Tn : List Nat) (x : TV) (Ln : List Nat) : TV × List Nat := match x with
  | .at a => let p := a.loc own Tn Ln; (.at p.1, p.2)
  | .agg l => let p := locAts own Tn l Ln; (.agg p.1, p.2)
def locTs (Tn : List Nat) : List Bool → List TV → List Nat → List TV × List Nat
  | _, [], Ln => ([], Ln)
  | [], x :: l, Ln => let p := x.loc false Tn Ln; let q := locTs Tn [] l p.2; (p.1 :: q.1, q.2)
  | m :: ms, x :: l, Ln => let p := x.loc m Tn Ln; let q := locTs Tn ms l p.2; (p.1 :: q.1, q.2)

def Chunk.lent {C : Ctx} : Chunk C → Chunk C
  | .row _ e l => .row false e l
  | _ => .gone
def locH (Tn Ln : List Nat) (H : List (Chunk C)) : List (Chunk C) := pickH Tn H ++ Ln.map fun n => (H.getD n .gone).lent

def okLent (Tn Ln : List Nat) (H : List (Chunk C)) : Bool := Ln.all fun n => !(isOwn H n) || !(Tn.contains n)
def isRow0 : Chunk C → Bool
  | .row false _ _ => true
  | _ => false
def isRows : Chunk C → Bool
  | .rows _ _ _ => true
  | _ => false
/-- No new row that is read alone. -/
def okOut (kt n0 : Nat) (Hl H1 : List (Chunk C)) (ts : List Nat) : Bool :=
  ((List.range kt).all fun k => !(isRow0 (H1.getD k .gone)) || (isRow0 (Hl.getD k .gone) || (isOwn Hl k && !(ts.contains k)))) && ((H1.drop n0).all (fun c => !(isRow0 c)) && H1.all fun c => !(isRows c))

def backN (L : List Nat) (h0 : Nat) (j : Nat) : Option Nat := match L[j]? with
  | some n => some n
  | none => some (h0 + (j - L.length))
def killsH (ks : List Nat) (H : List (Chunk C)) : List (Chunk C) := ks.foldl (fun H n => H.map (Chunk.kill n)) H
def backH (Tn L ts : List Nat) (H H1 : List (Chunk C)) : List (Chunk C) :=
  ((List.range H.length).map fun n => match idxOf n Tn with
    | some k => (H1.getD k .gone).ren (backN L H.length)
    | none => (killsH (ts.filter (isOwn H)) H).getD n .gone) ++ (H1.drop L.length).map (Chunk.ren (backN L H.length))

/-- A function beside other chunks. ms: the arguments whose rows are handed over for good. -/
def frameT (ms : List Bool) (t : Tfm C) : Tfm C := fun args H K =>
  let Tn := closeN H 6 (dedup [] (rootsA ms args))
  let p := locTs Tn ms args []
  let L := Tn ++ p.2
  let Hl := locH Tn p.2 H
  if okLent Tn p.2 H then t p.1 Hl fun r H1 ts => if okOut Tn.length L.length Hl H1 ts then K (r.ren (backN L H.length)) (backH Tn L (ts.filterMap (Tn[·]?)) H H1) (ts.filterMap (Tn[·]?)) else False else False

theorem killsH_length : ∀ (ks : List Nat) {H : List (Chunk C)}, (killsH ks H).length = H.length := by
  intro ks
  induction ks with
  | nil => intro H; rfl
  | cons k ks ih => intro H; show (killsH ks (H.map (Chunk.kill k))).length = _; rw [ih]; simp
theorem Sat.kills : ∀ (ks : List Nat) {H : List (Chunk C)}, Sat C σ φ w H → Sat C σ φ w (killsH ks H) := by
  intro ks
  induction ks with
  | nil => intro H h; exact h
  | cons k ks ih => intro H h; exact ih (h.kill k)
theorem killsH_get : ∀ (ks : List Nat) {H : List (Chunk C)} {n : Nat} {c : Chunk C}, (killsH ks H)[n]? = some c → ∀ m ∈ c.names, m ∉ ks := by
  intro ks
  induction ks with
  | nil => intro H n c _ m _; simp
  | cons k ks ih =>
    intro H n c h m hm
    have h' : (killsH ks (H.map (Chunk.kill k)))[n]? = some c := h
    have h1 := ih h' m hm
    have aux : ∀ (ks : List Nat) {H : List (Chunk C)} {c : Chunk C}, (killsH ks H)[n]? = some c → ∃ d, H[n]? = some d ∧ ∀ m ∈ c.names, m ∈ d.names := by
      intro ks
      induction ks with
      | nil => intro H c h; exact ⟨c, h, fun m hm => hm⟩
      | cons k ks ih =>
        intro H c h
        have h' : (killsH ks (H.map (Chunk.kill k)))[n]? = some c := h
        obtain ⟨d, hd, hm⟩ := ih h'
        rw [List.getElem?_map, Option.map_eq_some_iff] at hd
        obtain ⟨d0, h0, rfl⟩ := hd
        exact ⟨d0, h0, fun m hmm => (Chunk.kill_names m (hm m hmm)).1⟩
    obtain ⟨d, hd, hmd⟩ := aux ks h'
    rw [List.getElem?_map, Option.map_eq_some_iff] at hd
    obtain ⟨d0, h0, rfl⟩ := hd
    simp only [List.mem_cons, not_or]
    exact ⟨(Chunk.kill_names m (hmd m hm)).2, h1⟩
theorem killsH_own : ∀ (ks : List Nat) {H : List (Chunk C)} {n : Nat}, isOwn (killsH ks H) n = isOwn H n := by
  intro ks
  induction ks with
  | nil => intro H n; rfl
  | cons k ks ih => intro H n; show isOwn (killsH ks (H.map (Chunk.kill k))) n = _; rw [ih, isOwn_kill]
theorem rdb_kill {n k b : Nat} : Rdb (H.map (Chunk.kill n)) σ k b ↔ Rdb H σ k b := by
  unfold Rdb
  rw [List.getElem?_map]
  cases H[k]? with
  | none => simp
  | some c => cases c <;> simp [Chunk.kill]
theorem killsH_rdb : ∀ (ks : List Nat) {H : List (Chunk C)} {n b : Nat}, Rdb (killsH ks H) σ n b ↔ Rdb H σ n b := by
  intro ks
  induction ks with
  | nil => intro H n b; exact Iff.rfl
  | cons k ks ih => intro H n b; show Rdb (killsH ks (H.map (Chunk.kill k))) σ n b ↔ _; rw [ih, rdb_kill]

theorem At.loc_spec {own : Bool} {Tn : List Nat} {a : At} {Ln : List Nat} : ∃ x, (a.loc own Tn Ln).2 = Ln ++ x ∧ (∀ n ∈ x, n ∈ a.names) ∧ (∀ m ∈ (a.loc own Tn Ln).1.names, m < (Tn ++ (a.loc own Tn Ln).2).length) ∧
    ∀ (σ σ' : Nat → Value) (y : List Nat), (∀ k n, (Tn ++ (Ln ++ x ++ y))[k]? = some n → σ' k = σ n) → ∀ v, a.rel σ v → (a.loc own Tn Ln).1.rel σ' v := by
  have gen : ∃ x, Ln = Ln ++ x ∧ (∀ n ∈ x, n ∈ a.names) ∧ (∀ m ∈ (a.ren (fun n => idxOf n Tn)).names, m < (Tn ++ Ln).length) ∧
      ∀ (σ σ' : Nat → Value) (y : List Nat), (∀ k n, (Tn ++ (Ln ++ x ++ y))[k]? = some n → σ' k = σ n) → ∀ v, a.rel σ v → (a.ren (fun n => idxOf n Tn)).rel σ' v := by
    refine ⟨[], by simp, by simp, fun m hm => ?_, fun σ σ' y hσ v hv => At.ren_rel (fun n m hm => hσ m n ?_) hv⟩
    · obtain ⟨n, _, e⟩ := At.ren_names m hm
      have := (List.getElem?_eq_some_iff.1 (idxOf_spec e)).1
      simp; omega
    · have := idxOf_spec hm
      rw [List.getElem?_append_left (List.getElem?_eq_some_iff.1 this).1]
      exact this
  have hlast : ∀ (n : Nat) (y : List Nat), (Tn ++ (Ln ++ [n] ++ y))[Tn.length + Ln.length]? = some n := fun n y => by
    rw [List.getElem?_append_right (by omega), List.append_assoc, List.getElem?_append_right (by omega)]
    simp
  cases own with
  | true => cases a <;> exact gen
  | false =>
    cases a with
    | slc n =>
      exact ⟨[n], rfl, fun m hm => hm, fun m hm => by simp [At.loc, At.names] at hm ⊢; omega, fun σ σ' y hσ v hv => by
        show v = σ' (Tn.length + Ln.length)
        rw [hσ _ _ (hlast n y)]; exact hv⟩
    | eptr n i sz off =>
      exact ⟨[n], rfl, fun m hm => hm, fun m hm => by simp [At.loc, At.names] at hm ⊢; omega, fun σ σ' y hσ v hv => by
        obtain ⟨b, o, len, cap, h1, h2⟩ := hv
        exact ⟨b, o, len, cap, (hσ _ _ (hlast n y)).trans h1, h2⟩⟩
    | _ => exact gen

theorem locAts_spec {own : Bool} {Tn : List Nat} : ∀ (l : List At) (Ln : List Nat), ∃ x, (locAts own Tn l Ln).2 = Ln ++ x ∧ (∀ n ∈ x, n ∈ l.flatMap At.names) ∧ (∀ m ∈ (locAts own Tn l Ln).1.flatMap At.names, m < (Tn ++ (locAts own Tn l Ln).2).length) ∧
    ∀ (σ σ' : Nat → Value) (y : List Nat), (∀ k n, (Tn ++ (Ln ++ x ++ y))[k]? = some n → σ' k = σ n) → ∀ vs, Rels (At.rel σ) l vs → Rels (At.rel σ') (locAts own Tn l Ln).1 vs := by
  intro l
  induction l with
  | nil => intro Ln; exact ⟨[], by simp [locAts], by simp, by simp [locAts], fun σ σ' y _ vs h => ⟨h.1, fun i a b ha => by simp [locAts] at ha⟩⟩
  | cons a l ih =>
    intro Ln
    obtain ⟨x, h1, h2, h3, h4⟩ := At.loc_spec (own := own) (Tn := Tn) (a := a) (Ln := Ln)
    obtain ⟨x', h1', h2', h3', h4'⟩ := ih (a.loc own Tn Ln).2
    refine ⟨x ++ x', h1'.trans (by rw [h1, List.append_assoc]), fun n hn => ?_, fun m hm => ?_, fun σ σ' y hσ vs hr => ?_⟩
    · rw [List.flatMap_cons]
      rcases List.mem_append.1 hn with hn | hn
      · exact List.mem_append_left _ (h2 n hn)
      · exact List.mem_append_right _ (h2' n hn)
    · simp only [locAts, List.flatMap_cons] at hm ⊢
      rcases List.mem_append.1 hm with hm | hm
      · have := h3 m hm
        rw [h1']
        simp only [List.length_append] at this ⊢
        omega
      · exact h3' m hm
    · match vs, hr with
      | [], hr => exact absurd hr.1 (by simp)
      | v :: vs, hr =>
        refine Rels.cons (h4 σ σ' (x' ++ y) (fun k n hk => hσ k n (by simpa [List.append_assoc] using hk)) v (hr.2 0 a v rfl rfl)) ?_
        exact h4' σ σ' y (fun k n hk => hσ k n (by rw [h1] at hk; simpa [List.append_assoc] using hk)) vs ⟨by simpa using hr.1, fun i b u hb hu => hr.2 (i + 1) b u (by simpa using hb) (by simpa using hu)⟩

theorem TV.loc_spec {own : Bool} {Tn : List Nat} (x : TV) (Ln : List Nat) : ∃ z, (x.loc own Tn Ln).2 = Ln ++ z ∧ (∀ n ∈ z, n ∈ x.names) ∧ (∀ m ∈ (x.loc own Tn Ln).1.names, m < (Tn ++ (x.loc own Tn Ln).2).length) ∧
    ∀ (σ σ' : Nat → Value) (y : List Nat), (∀ k n, (Tn ++ (Ln ++ z ++ y))[k]? = some n → σ' k = σ n) → ∀ v, x.rel σ v → (x.loc own Tn Ln).1.rel σ' v := by
  cases x with
  | «at» a => exact At.loc_spec
  | agg l =>
    obtain ⟨z, h1, h2, h3, h4⟩ := locAts_spec (own := own) (Tn := Tn) l Ln
    exact ⟨z, h1, h2, h3, fun σ σ' y hσ v ⟨cs, e, hr⟩ => ⟨cs, e, h4 σ σ' y hσ cs hr⟩⟩

theorem locTs_cons {Tn : List Nat} (ms : List Bool) (x : TV) (l : List TV) (Ln : List Nat) : ∃ m ms', locTs Tn ms (x :: l) Ln = ((x.loc m Tn Ln).1 :: (locTs Tn ms' l (x.loc m Tn Ln).2).1, (locTs Tn ms' l (x.loc m Tn Ln).2).2) := by
  cases ms with
  | nil => exact ⟨false, [], rfl⟩
  | cons m ms => exact ⟨m, ms, rfl⟩

theorem locTs_spec {Tn : List Nat} : ∀ (l : List TV) (ms : List Bool) (Ln : List Nat), ∃ x, (locTs Tn ms l Ln).2 = Ln ++ x ∧ (∀ n ∈ x, ∃ a ∈ l, n ∈ a.names) ∧ (∀ a ∈ (locTs Tn ms l Ln).1, ∀ m ∈ a.names, m < (Tn ++ (locTs Tn ms l Ln).2).length) ∧
    ∀ (σ σ' : Nat → Value) (y : List Nat), (∀ k n, (Tn ++ (Ln ++ x ++ y))[k]? = some n → σ' k = σ n) → ∀ vs, Rels (TV.rel σ) l vs → Rels (TV.rel σ') (locTs Tn ms l Ln).1 vs := by
  intro l
  induction l with
  | nil => intro ms Ln; exact ⟨[], by cases ms <;> simp [locTs], by simp, by cases ms <;> simp [locTs], fun σ σ' y _ vs h => ⟨by cases ms <;> simpa [locTs] using h.1, fun i a b ha => by cases ms <;> simp [locTs] at ha⟩⟩
  | cons a l ih =>
    intro ms Ln
    obtain ⟨m, ms', e⟩ := locTs_cons (Tn := Tn) ms a l Ln
    rw [e]
    obtain ⟨x, h1, h2, h3, h4⟩ := TV.loc_spec (own := m) (Tn := Tn) a Ln
    obtain ⟨x', h1', h2', h3', h4'⟩ := ih ms' (a.loc m Tn Ln).2
    refine ⟨x ++ x', h1'.trans (by rw [h1, List.append_assoc]), fun n hn => ?_, fun b hb k hk => ?_, fun σ σ' y hσ vs hr => ?_⟩
    · rcases List.mem_append.1 hn with hn | hn
      · exact ⟨a, by simp, h2 n hn⟩
      · obtain ⟨b, hb, hbn⟩ := h2' n hn
        exact ⟨b, by simp [hb], hbn⟩
    · rcases List.mem_cons.1 hb with rfl | hb
      · have := h3 k hk
        simp only [h1']
        simp only [List.length_append] at this ⊢
        omega
      · exact h3' b hb k hk
    · match vs, hr with
      | [], hr => exact absurd hr.1 (by simp)
      | v :: vs, hr =>
        refine Rels.cons (h4 σ σ' (x' ++ y) (fun k n hk => hσ k n (by simpa [List.append_assoc] using hk)) v (hr.2 0 a v rfl rfl)) ?_
        exact h4' σ σ' y (fun k n hk => hσ k n (by rw [h1] at hk; simpa [List.append_assoc] using hk)) vs ⟨by simpa using hr.1, fun i b u hb hu => hr.2 (i + 1) b u (by simpa using hb) (by simpa using hu)⟩

theorem At.roots_names {own : Bool} {a : At} : ∀ n ∈ a.roots own, n ∈ a.names := by
  cases a <;> cases own <;> simp [At.roots, At.names]
theorem TV.roots_names {own : Bool} {x : TV} : ∀ n ∈ x.roots own, n ∈ x.names := by
  cases x with
  | «at» a => exact At.roots_names
  | agg l =>
    intro n hn
    obtain ⟨a, ha, h⟩ := List.mem_flatMap.1 hn
    exact List.mem_flatMap.2 ⟨a, ha, At.roots_names n h⟩
theorem rootsA_names : ∀ (l : List TV) (ms : List Bool), ∀ n ∈ rootsA ms l, ∃ x ∈ l, n ∈ x.names := by
  intro l
  induction l with
  | nil => intro ms n hn; cases ms <;> simp [rootsA] at hn
  | cons x l ih =>
    intro ms n hn
    cases ms with
    | nil =>
      rcases List.mem_append.1 hn with hn | hn
      · exact ⟨x, by simp, TV.roots_names n hn⟩
      · obtain ⟨y, hy, h⟩ := ih _ n hn; exact ⟨y, by simp [hy], h⟩
    | cons m ms =>
      rcases List.mem_append.1 hn with hn | hn
      · exact ⟨x, by simp, TV.roots_names n hn⟩
      · obtain ⟨y, hy, h⟩ := ih _ n hn; exact ⟨y, by simp [hy], h⟩

/-- The chunks that the callee sees. -/
theorem Sat.loc (hC : C.OK) (h : Sat C σ φ w H) {Tn Ln : List Nat} (hnd : Tn.Nodup) (hT : ∀ n ∈ Tn, n < H.length) (hL : ∀ n ∈ Ln, n < H.length) (hok : okLent Tn Ln H = true) :
    Sat C (fun k => σ ((Tn ++ Ln).getD k 0)) (fun k b => k < Tn.length ∧ φ ((Tn ++ Ln).getD k 0) b) w (locH Tn Ln H) := by
  have hp := h.pick hnd hT
  have hlen : (pickH Tn H).length = Tn.length := by simp [pickH]
  have hgl : ∀ k, k < Tn.length → (Tn ++ Ln).getD k 0 = Tn.getD k 0 := fun k hk => by simp [List.getD_eq_getElem?_getD, List.getElem?_append_left hk]
  have hgr : ∀ {k n : Nat}, Tn.length ≤ k → Ln[k - Tn.length]? = some n → (Tn ++ Ln).getD k 0 = n := fun {k n} hk hn => by simp [List.getD_eq_getElem?_getD, List.getElem?_append_right hk, hn]
  have hφ : ∀ k, (fun b => k < Tn.length ∧ φ ((Tn ++ Ln).getD k 0) b) = fun b => k < Tn.length ∧ φ (Tn.getD k 0) b := fun k => funext fun b => propext ⟨fun hh => ⟨hh.1, by rw [← hgl k hh.1]; exact hh.2⟩, fun hh => ⟨hh.1, by rw [hgl k hh.1]; exact hh.2⟩⟩
  have hget : ∀ {k : Nat} {c : Chunk C}, Tn.length ≤ k → (locH Tn Ln H)[k]? = some c → ∃ n c0, Ln[k - Tn.length]? = some n ∧ H[n]? = some c0 ∧ c = c0.lent := fun {k c} hk hc => by
    unfold locH at hc
    rw [List.getElem?_append_right (by rw [hlen]; exact hk), hlen, List.getElem?_map, Option.map_eq_some_iff] at hc
    obtain ⟨n, hn, e⟩ := hc
    exact ⟨n, _, hn, getD_some (hL n (List.mem_of_getElem? hn)), e.symm⟩
  have hgetl : ∀ {k : Nat}, k < Tn.length → (locH Tn Ln H)[k]? = (pickH Tn H)[k]? := fun {k} hk => by
    unfold locH
    rw [List.getElem?_append_left (by rw [hlen]; exact hk)]
  refine ⟨fun k c hc => ?_, fun k m b hk hm => ?_, fun k b hb => h.bd _ b hb.2, fun k c hl b hb m hm => ?_, fun k hk b hb => ?_, fun k c hc m hm => ?_⟩
  · rw [hφ k]
    rcases Nat.lt_or_ge k Tn.length with hk | hk
    · rw [hgetl hk] at hc
      have hh := hp.holds k c hc
      rw [hgl k hk]
      match c with
      | .gone => trivial
      | .box cells =>
        obtain ⟨b, t, cs, h1, h2, h3, h4⟩ := hh
        refine ⟨b, t, cs, h1, h2, h3, h4.mono fun a v ha hr => At.rel_of hr fun m hm => ?_⟩
        have := hp.cl k _ hc m (List.mem_flatMap.2 ⟨a, ha, hm⟩)
        exact congrArg σ (hgl m (by rw [← hlen]; exact this))
      | .row true e l => exact hh
      | .row false e l => exact hh
      | .abs x => exact hh
      | .map kk vk l => exact hh
      | .rows _ _ _ => exact hh
    · obtain ⟨n, c0, h1, h2, rfl⟩ := hget hk hc
      have hh := h.holds n c0 h2
      rw [hgr hk h1]
      have hno : ∀ b, ¬ (k < Tn.length ∧ φ (Tn.getD k 0) b) := fun b hb => by omega
      match c0 with
      | .gone => trivial
      | .box cells => trivial
      | .row own e l => exact ⟨hh.rd hC, hno⟩
      | .abs x => trivial
      | .map kk vk l => trivial
      | .rows _ _ _ => trivial
  · rw [hgl k hk.1] at hk
    rw [hgl m hm.1] at hm
    exact hp.dis k m b hk hm
  · rw [hgl m hm.1] at hm
    rcases Nat.lt_or_ge k Tn.length with hk | hk
    · rw [hgetl hk] at hl
      rw [hgl k hk] at hb
      exact hp.imm k c hl b hb m hm
    · obtain ⟨n, c0, h1, h2, rfl⟩ := hget hk hl
      rw [hgr hk h1] at hb
      match c0 with
      | .gone | .box _ | .abs _ | .map _ _ _ | .rows _ _ _ => exact hb.elim
      | .row own e' l' =>
        obtain ⟨hpos, hb⟩ := hb
        cases own with
        | false => exact h.immr n _ _ h2 hpos b hb _ hm.2
        | true =>
          have hh := h.holds n _ h2
          have hn : φ n b := (hh.2 b).2 hb
          have := h.dis _ _ b hm.2 hn
          have hmem : n ∈ Tn := by
            rw [← this]
            exact List.mem_of_getElem? (getD_some (d := 0) hm.1)
          have hok' := List.all_eq_true.1 hok n (List.mem_of_getElem? h1)
          simp [isOwn, h2, hmem] at hok'
  · simp [locH, pickH] at hk
    have := hb.1
    omega
  · have hle : (locH Tn Ln H).length = Tn.length + Ln.length := by simp [locH, pickH]
    rcases Nat.lt_or_ge k Tn.length with hk | hk
    · rw [hgetl hk] at hc
      have := hp.cl k c hc m hm
      rw [hlen] at this
      omega
    · obtain ⟨n, c0, h1, h2, rfl⟩ := hget hk hc
      cases c0 <;> simp [Chunk.lent, Chunk.names] at hm
end
end Go.Proofs.Ytmjnoiajenoinaa.Sx
end
section
/- The rule of the frame, end. No program in sight. -/
namespace Go.Proofs.Ytmjnoiajenoinaa.Sx
open Go

section
variable {C : Ctx}
variable {H H' H1 : List (Chunk C)} {σ σ' σ1 : Nat → Value} {φ φ' φ1 : Nat → Nat → Prop} {w w' : World}

def backσ (Tn L : List Nat) (h0 : Nat) (σ σ1 : Nat → Value) (n : Nat) : Value := if n < h0 then (match idxOf n Tn with | some k => σ1 k | none => σ n) else σ1 (n - h0 + L.length)
def backφ (Tn L : List Nat) (h0 : Nat) (φ φ1 : Nat → Nat → Prop) (n b : Nat) : Prop := if n < h0 then (match idxOf n Tn with | some k => φ1 k b | none => φ n b) else φ1 (n - h0 + L.length) b

theorem locH_get {Tn Ln : List Nat} {k n : Nat} (hT : ∀ n ∈ Tn, n < H.length) (h : Tn[k]? = some n) : (locH Tn Ln H)[k]? = (H[n]?).map (Chunk.ren fun n => idxOf n Tn) := by
  have hk := (List.getElem?_eq_some_iff.1 h).1
  unfold locH
  rw [List.getElem?_append_left (by simpa [pickH] using hk)]
  unfold pickH
  rw [List.getElem?_map, h, getD_some (d := .gone) (hT n (List.mem_of_getElem? h))]
  rfl
theorem frame_out (hC : C.OK) (h : Sat C σ φ w H) {Tn Ln : List Nat} (hnd : Tn.Nodup) (hT : ∀ n ∈ Tn, n < H.length) (hL : ∀ n ∈ Ln, n < H.length) (hok : okLent Tn Ln H = true) {ts : List Nat} {r : SV} {v : Value}
    (g : COut C (locH Tn Ln H) (fun k => σ ((Tn ++ Ln).getD k 0)) (fun k b => k < Tn.length ∧ φ ((Tn ++ Ln).getD k 0) b) w ts r v H1 σ1 φ1 w')
    (hoo : okOut Tn.length (Tn ++ Ln).length (locH Tn Ln H) H1 ts = true) :
    COut C H σ φ w (ts.filterMap (Tn[·]?)) (r.ren (backN (Tn ++ Ln) H.length)) v (backH Tn (Tn ++ Ln) (ts.filterMap (Tn[·]?)) H H1) (backσ Tn (Tn ++ Ln) H.length σ σ1) (backφ Tn (Tn ++ Ln) H.length φ φ1) w' := by
  have hl0 : (locH Tn Ln H).length = (Tn ++ Ln).length := by simp [locH, pickH]
  have hn0 : (Tn ++ Ln).length ≤ H1.length := hl0 ▸ g.len
  have htl : Tn.length ≤ (Tn ++ Ln).length := by simp
  have hgl : ∀ {k n : Nat}, Tn[k]? = some n → (Tn ++ Ln).getD k 0 = n := fun {k n} hk => by
    simp [List.getD_eq_getElem?_getD, List.getElem?_append_left (List.getElem?_eq_some_iff.1 hk).1, hk]
  have hts : ∀ {k n : Nat}, Tn[k]? = some n → n ∉ ts.filterMap (Tn[·]?) → k ∉ ts := fun {k n} hk hn hh => hn (List.mem_filterMap.2 ⟨k, hh, hk⟩)
  have hown : ∀ {k n : Nat}, Tn[k]? = some n → isOwn (locH Tn Ln H) k = isOwn H n := fun {k n} hk => isOwn_ren (locH_get hT hk)
  have hks : ∀ {k n : Nat}, Tn[k]? = some n → k < (locH Tn Ln H).length := fun {k n} hk => by
    have := (List.getElem?_eq_some_iff.1 hk).1; omega
  have hsame : ∀ {k n : Nat}, Tn[k]? = some n → isOwn H n = false ∨ n ∉ ts.filterMap (Tn[·]?) → σ1 k = σ n := fun {k n} hk ho => by
    have := g.agree k (hks hk) (ho.imp (fun e => (hown hk).trans e) (hts hk))
    rw [this, hgl hk]
  have hblen : (backH Tn (Tn ++ Ln) (ts.filterMap (Tn[·]?)) H H1).length = H.length + (H1.length - (Tn ++ Ln).length) := by simp [backH]
  have hbin : ∀ {n k : Nat}, idxOf n Tn = some k → (backH Tn (Tn ++ Ln) (ts.filterMap (Tn[·]?)) H H1)[n]? = (H1[k]?).map (Chunk.ren (backN (Tn ++ Ln) H.length)) := fun {n k} hk => by
    have hn := hT n (List.mem_of_getElem? (idxOf_spec hk))
    have := hks (idxOf_spec hk)
    unfold backH
    rw [List.getElem?_append_left (by simpa using hn), List.getElem?_map, List.getElem?_range hn]
    simp only [Option.map_some, hk]
    rw [getD_some (d := .gone) (l := H1) (i := k) (by omega)]
    rfl
  have hbno : ∀ {n : Nat}, n < H.length → idxOf n Tn = none → (backH Tn (Tn ++ Ln) (ts.filterMap (Tn[·]?)) H H1)[n]? = (killsH ((ts.filterMap (Tn[·]?)).filter (isOwn H)) H)[n]? := fun {n} hn hk => by
    unfold backH
    rw [List.getElem?_append_left (by simpa using hn), List.getElem?_map, List.getElem?_range hn]
    simp only [Option.map_some, hk]
    rw [← getD_some (by rw [killsH_length]; exact hn)]
  have hbnew : ∀ {n : Nat}, H.length ≤ n → (backH Tn (Tn ++ Ln) (ts.filterMap (Tn[·]?)) H H1)[n]? = (H1[n - H.length + (Tn ++ Ln).length]?).map (Chunk.ren (backN (Tn ++ Ln) H.length)) := fun {n} hn => by
    unfold backH
    rw [List.getElem?_append_right (by simpa using hn), List.getElem?_map, List.getElem?_drop]
    simp only [List.length_map, List.length_range, Nat.add_comm]
  -- the source of a name that was handed over or is new
  have src : ∀ n, (n ∈ Tn ∨ H.length ≤ n) → ∃ k, backσ Tn (Tn ++ Ln) H.length σ σ1 n = σ1 k ∧ (∀ b, backφ Tn (Tn ++ Ln) H.length φ φ1 n b ↔ φ1 k b) ∧
      (backH Tn (Tn ++ Ln) (ts.filterMap (Tn[·]?)) H H1)[n]? = (H1[k]?).map (Chunk.ren (backN (Tn ++ Ln) H.length)) ∧ ((Tn[k]? = some n ∧ n < H.length) ∨ ((Tn ++ Ln).length ≤ k ∧ n = H.length + (k - (Tn ++ Ln).length))) := by
    intro n hn
    by_cases hlt : n < H.length
    · have hmem : n ∈ Tn := hn.resolve_right (by omega)
      cases hi : idxOf n Tn with
      | none => exact absurd hmem (idxOf_none hi)
      | some k => exact ⟨k, by simp [backσ, hlt, hi], fun b => by simp [backφ, hlt, hi], hbin hi, .inl ⟨idxOf_spec hi, hlt⟩⟩
    · exact ⟨n - H.length + (Tn ++ Ln).length, by simp only [backσ, if_neg hlt], fun b => by simp only [backφ, if_neg hlt], hbnew (by omega), .inr ⟨by omega, by omega⟩⟩
  have hno : ∀ n, ¬ (n ∈ Tn ∨ H.length ≤ n) → n < H.length ∧ idxOf n Tn = none := fun n hn => by
    have h1 : n ∉ Tn := fun e => hn (.inl e)
    refine ⟨by have : ¬ H.length ≤ n := fun e => hn (.inr e); omega, ?_⟩
    cases hi : idxOf n Tn with
    | none => rfl
    | some k => exact absurd (List.mem_of_getElem? (idxOf_spec hi)) h1
  have hρ : ∀ j m, backN (Tn ++ Ln) H.length j = some m → backσ Tn (Tn ++ Ln) H.length σ σ1 m = σ1 j := by
    intro j m hjm
    unfold backN at hjm
    split at hjm
    · rename_i n hn
      simp only [Option.some.injEq] at hjm
      subst hjm
      rcases Nat.lt_or_ge j Tn.length with hj | hj
      · rw [List.getElem?_append_left hj] at hn
        simp [backσ, hT n (List.mem_of_getElem? hn), idxOf_nodup hnd hn]
      · have hjl := (List.getElem?_eq_some_iff.1 hn).1
        have hn' := hn
        rw [List.getElem?_append_right hj] at hn
        have hnl := hL n (List.mem_of_getElem? hn)
        have hlent : isOwn (locH Tn Ln H) j = false := by
          unfold isOwn locH
          rw [List.getElem?_append_right (by simpa [pickH] using hj)]
          simp only [pickH, List.length_map, List.getElem?_map, hn, Option.map_some]
          cases H.getD n .gone <;> rfl
        have hj1 : σ1 j = σ n := by
          rw [g.agree j (by omega) (.inl hlent)]
          simp [List.getD_eq_getElem?_getD, hn']
        rw [hj1]
        unfold backσ
        rw [if_pos hnl]
        split
        · rename_i k hk
          refine hsame (idxOf_spec hk) (.inl ?_)
          have := List.all_eq_true.1 hok n (List.mem_of_getElem? hn)
          have hmem := List.mem_of_getElem? (idxOf_spec hk)
          simpa [hmem] using this
        · rfl
    · rename_i hj
      simp only [Option.some.injEq] at hjm
      subst hjm
      have : (Tn ++ Ln).length ≤ j := List.getElem?_eq_none_iff.1 hj
      unfold backσ
      rw [if_neg (by omega)]
      congr 1
      omega
  have hren : ∀ j m, backN (Tn ++ Ln) H.length j = some m → j < H1.length → m < H.length + (H1.length - (Tn ++ Ln).length) := by
    intro j m hjm hj
    unfold backN at hjm
    split at hjm
    · rename_i n hn
      simp only [Option.some.injEq] at hjm
      subst hjm
      rcases List.mem_append.1 (List.mem_of_getElem? hn) with hn | hn
      · have := hT n hn; omega
      · have := hL n hn; omega
    · rename_i hj'
      simp only [Option.some.injEq] at hjm
      subst hjm
      have : (Tn ++ Ln).length ≤ j := List.getElem?_eq_none_iff.1 hj'
      omega
  have hfrl : ∀ b, b < w.heap.size → (∀ n, (n ∈ Tn ∨ H.length ≤ n) → ¬ φ n b) → w'.heap[b]? = w.heap[b]? := fun b hb hno => g.adv.fr b hb fun k hk => by
    have := getD_some (d := 0) hk.1
    rw [hgl this] at hk
    exact hno _ (.inl (List.mem_of_getElem? this)) hk.2
  have hold' : ∀ n, ¬ (n ∈ Tn ∨ H.length ≤ n) → backσ Tn (Tn ++ Ln) H.length σ σ1 n = σ n ∧ ∀ b, backφ Tn (Tn ++ Ln) H.length φ φ1 n b ↔ φ n b := fun n hn => by
    obtain ⟨h1, h2⟩ := hno n hn
    exact ⟨by simp [backσ, h1, h2], fun b => by simp [backφ, h1, h2]⟩
  have hgrow : ∀ n b, (n ∈ Tn ∨ H.length ≤ n) → backφ Tn (Tn ++ Ln) H.length φ φ1 n b → (∃ m, (m ∈ Tn ∨ H.length ≤ m) ∧ φ m b) ∨ w.heap.size ≤ b := fun n b hn hb => by
    obtain ⟨k, _, h2, _⟩ := src n hn
    rcases g.adv.grow k b ((h2 b).1 hb) with ⟨m, hm⟩ | hle
    · have := getD_some (d := 0) hm.1
      rw [hgl this] at hm
      exact .inl ⟨_, .inl (List.mem_of_getElem? this), hm.2⟩
    · exact .inr hle
  have hagree : ∀ n, n < H.length → isOwn H n = false ∨ n ∉ ts.filterMap (Tn[·]?) → backσ Tn (Tn ++ Ln) H.length σ σ1 n = σ n := fun n hn ho => by
    unfold backσ
    rw [if_pos hn]
    split
    · rename_i k hk; exact hsame (idxOf_spec hk) ho
    · rfl
  obtain ⟨hoo1, hoo23⟩ := Bool.and_eq_true_iff.1 hoo
  obtain ⟨hoo2, hoo3⟩ := Bool.and_eq_true_iff.1 hoo23
  have hsat : Sat C (backσ Tn (Tn ++ Ln) H.length σ σ1) (backφ Tn (Tn ++ Ln) H.length φ φ1) w' (backH Tn (Tn ++ Ln) (ts.filterMap (Tn[·]?)) H H1) := by
    refine (h.kills ((ts.filterMap (Tn[·]?)).filter (isOwn H))).step hC (fun n => n ∈ Tn ∨ H.length ≤ n) g.adv.size hfrl (fun n hn => ⟨hbno (hno n hn).1 (hno n hn).2, hold' n hn⟩) (fun n c hn hc m hm => ?_) (fun n c hn hc => ?_)
      hgrow (fun n m b hn hm hb hb' => ?_) (fun n b hn hb => ?_) (fun n c hn hc b hb m hm => ?_) (fun n hn b hb => ?_) (by rw [killsH_length, hblen]; omega) (fun n c hn hc m hm => ?_)
    · have hlt := (h.kills ((ts.filterMap (Tn[·]?)).filter (isOwn H))).cl n c hc m hm
      rw [killsH_length] at hlt
      refine hagree m hlt ?_
      have := killsH_get _ hc m hm
      rw [List.mem_filter] at this
      by_cases hm' : m ∈ ts.filterMap (Tn[·]?)
      · refine .inl ?_
        cases hx : isOwn H m with
        | false => rfl
        | true => exact absurd ⟨hm', hx⟩ this
      · exact .inr hm'
    · obtain ⟨k, h1, h2, h3, _⟩ := src n hn
      rw [h3, Option.map_eq_some_iff] at hc
      obtain ⟨c0, hc0, rfl⟩ := hc
      rw [h1, show backφ Tn (Tn ++ Ln) H.length φ φ1 n = φ1 k from funext fun b => propext (h2 b)]
      exact (g.sat.holds k c0 hc0).ren hρ
    · obtain ⟨k, _, h2, _, h4⟩ := src n hn
      obtain ⟨k', _, h2', _, h4'⟩ := src m hm
      have := g.sat.dis k k' b ((h2 b).1 hb) ((h2' b).1 hb')
      subst this
      rcases h4 with ⟨h4, _⟩ | ⟨h4, h5⟩ <;> rcases h4' with ⟨h4', _⟩ | ⟨h4', h5'⟩
      · exact Option.some.inj (h4.symm.trans h4')
      · have := (List.getElem?_eq_some_iff.1 h4).1; omega
      · have := (List.getElem?_eq_some_iff.1 h4').1; omega
      · omega
    · obtain ⟨k, _, h2, _⟩ := src n hn
      exact g.sat.bd k b ((h2 b).1 hb)
    · obtain ⟨k, h1, h2, h3, h4⟩ := src n hn
      rw [h3, Option.map_eq_some_iff] at hc
      obtain ⟨c0, hc0, rfl⟩ := hc
      rw [h1] at hb
      have hb := Ro.ren.1 hb
      match c0, hb with
      | .rows _ _ _, _ =>
        have := List.all_eq_true.1 hoo3 _ (List.mem_of_getElem? hc0)
        simp [isRows] at this
      | .gone, hb | .box _, hb | .abs _, hb | .map _ _ _, hb | .row true _ _, hb => exact hb.elim
      | .row false e l, hb =>
      obtain ⟨hpos, hb⟩ := hb
      by_cases hmS : m ∈ Tn ∨ H.length ≤ m
      · obtain ⟨k', _, h2', _⟩ := src m hmS
        exact g.sat.immr k e l hc0 hpos b hb k' ((h2' b).1 hm)
      · have hm2 := ((hold' m hmS).2 b).1 hm
        rcases h4 with ⟨h4, hlt⟩ | ⟨h4, _⟩
        · have hk := (List.getElem?_eq_some_iff.1 h4).1
          have hkk := List.all_eq_true.1 hoo1 k (List.mem_range.2 hk)
          have e1 : isRow0 (H1.getD k .gone) = true := by
            have : H1.getD k .gone = .row false e l := by simp [List.getD_eq_getElem?_getD, hc0]
            rw [this]; rfl
          rw [e1] at hkk
          simp only [Bool.not_true, Bool.false_or, Bool.or_eq_true, Bool.and_eq_true] at hkk
          have hHn := getD_some (d := .gone) hlt
          have hHl := locH_get (Ln := Ln) hT h4
          rw [hHn] at hHl
          have hgd : (locH Tn Ln H).getD k .gone = (H.getD n .gone).ren (fun n => idxOf n Tn) := by
            rw [List.getD_eq_getElem?_getD, hHl]; rfl
          rcases hkk with hkk | ⟨hk1, hk2⟩
          · rw [hgd] at hkk
            generalize H.getD n .gone = c at *
            match c, hkk, hHn with
            | .row false e' l', _, hHn =>
              have hnown : isOwn H n = false := by simp [isOwn, hHn]
              have hσ := hsame h4 (.inl hnown)
              rw [hσ] at hb
              refine h.immr n e' l' hHn ?_ b hb m hm2
              have i1 := (g.sat.holds k _ hc0).1
              have i2 := (h.holds n _ hHn).1
              obtain ⟨A, c, e1, _⟩ := i1
              obtain ⟨A', c', e2, _⟩ := i2
              rw [hσ, e2] at e1
              simp only [Value.slice.injEq] at e1
              omega
          · have hk2' : k ∉ ts := by simpa using hk2
            rw [hown h4] at hk1
            have hφn : ∀ b, φ n b ↔ (σ n).ownBlock = some b := by
              rcases isOwn_some.1 hk1 with ⟨e', l', hHo⟩ | ⟨a', e', l', hHo⟩
              · exact (h.holds n _ hHo).2
              · exact (h.holds n _ hHo).2.2
            have hσ : σ1 k = σ n := by
              rw [g.agree k (hks h4) (.inr hk2'), hgl h4]
            rw [hσ] at hb
            have := (hφn b).2 hb
            have := h.dis m n b hm2 this
            subst this
            exact hmS (.inl (List.mem_of_getElem? h4))
        · have hmem : Chunk.row false e l ∈ H1.drop (Tn ++ Ln).length := by
            refine List.mem_of_getElem? (i := k - (Tn ++ Ln).length) ?_
            rw [List.getElem?_drop]
            rw [show (Tn ++ Ln).length + (k - (Tn ++ Ln).length) = k by omega]
            exact hc0
          have := List.all_eq_true.1 hoo2 _ hmem
          simp [isRow0] at this
    · rw [hblen] at hn
      unfold backφ at hb
      rw [if_neg (by omega)] at hb
      exact g.sat.out _ (by omega) b hb
    · obtain ⟨k, h1, h2, h3, h4⟩ := src n hn
      rw [h3, Option.map_eq_some_iff] at hc
      obtain ⟨c0, hc0, rfl⟩ := hc
      obtain ⟨j, hj, e⟩ := Chunk.ren_names m hm
      rw [hblen]
      exact hren j m e (g.sat.cl k c0 hc0 j hj)
  refine ⟨SV.ren_rel hρ g.rel, fun m hm => ?_, hsat, ⟨g.adv.os, g.adv.tape, g.adv.output, g.adv.size, fun k hk hn => hfrl k hk fun n _ => hn n, fun n b hb => ?_⟩, by rw [hblen]; omega, hagree, fun n hn ho => ?_, fun n hn hnt => ?_⟩
  · obtain ⟨j, hj, e⟩ := SV.ren_names m hm
    rw [hblen]
    exact hren j m e (g.rcl j hj)
  · by_cases hS : n ∈ Tn ∨ H.length ≤ n
    · rcases hgrow n b hS hb with ⟨m, _, hm⟩ | hle
      · exact .inl ⟨m, hm⟩
      · exact .inr hle
    · exact .inl ⟨n, ((hold' n hS).2 b).1 hb⟩
  · cases hi : idxOf n Tn with
    | some k =>
      rw [isOwn_ren (hbin hi)] at ho
      have := g.own k (hks (idxOf_spec hi)) ho
      rw [hown (idxOf_spec hi)] at this
      exact this
    | none =>
      have := hbno hn hi
      unfold isOwn at ho
      rw [this] at ho
      exact killsH_own ((ts.filterMap (Tn[·]?)).filter (isOwn H)) ▸ ho
  · cases hi : idxOf n Tn with
    | some k =>
      obtain ⟨h1, h2⟩ := g.touch k (hks (idxOf_spec hi)) (hts (idxOf_spec hi) hnt)
      have hl : ∀ b, Rdb (locH Tn Ln H) (fun k => σ ((Tn ++ Ln).getD k 0)) k b ↔ Rdb H σ n b := fun b => Rdb.same (by simp only [hgl (idxOf_spec hi)]) (locH_get hT (idxOf_spec hi))
      refine ⟨fun b => ?_, fun b hb hlt => h2 b ((hl b).2 hb) hlt⟩
      rw [← hl b, ← h1 b]
      exact Rdb.same (by simp [backσ, hn, hi]) (hbin hi)
    | none =>
      have hS : ¬ (n ∈ Tn ∨ H.length ≤ n) := fun hh => by
        rcases hh with hh | hh
        · exact idxOf_none hi hh
        · omega
      refine ⟨fun b => ?_, fun b hb hlt => hfrl b hlt fun m hm hφ => hS (by rw [rdb_apart h hb hφ]; exact hm)⟩
      rw [← killsH_rdb ((ts.filterMap (Tn[·]?)).filter (isOwn H)) (σ := σ)]
      unfold Rdb
      rw [hbno hn hi, (hold' n hS).1]

theorem frame (hC : C.OK) {f : FuncId} {t : Tfm C} (ht : SoundT C f t) (ms : List Bool) : SoundT C f (frameT ms t) where
  enter := ht.enter
  call args H K hk := by
    intro σ φ w vs hs hr hn
    unfold frameT at hk
    simp only at hk
    split at hk <;> try (exact hk.elim)
    rename_i hok
    obtain ⟨d1, ⟨_, _⟩, d3⟩ := dedup_spec (rootsA ms args) [] List.nodup_nil
    obtain ⟨c1, _, c3⟩ := closeN_spec hs.cl 6 _ d1 fun n hn' => by
      rcases d3 n hn' with h | h
      · cases h
      · obtain ⟨x, hx, hxn⟩ := rootsA_names args ms n h
        exact hn x hx n hxn
    generalize closeN H 6 (dedup [] (rootsA ms args)) = Tn at *
    obtain ⟨x, l1, l2, l3, l4⟩ := locTs_spec (Tn := Tn) args ms []
    have hx : (locTs Tn ms args []).2 = x := by simpa using l1
    rw [hx] at hk hok l3
    have hL : ∀ n ∈ x, n < H.length := fun n hnx => by
      obtain ⟨a, ha, han⟩ := l2 n hnx
      exact hn a ha n han
    have hsl := hs.loc hC c1 c3 hL hok
    have hrl := l4 σ (fun k => σ ((Tn ++ x).getD k 0)) [] (fun k n hkn => by
      have : (Tn ++ x)[k]? = some n := by simpa using hkn
      simp [List.getD_eq_getElem?_getD, this]) vs hr
    refine Calls.mono (ht.call _ _ _ hk _ _ w vs hsl hrl fun a ha m hm => ?_) fun e w' hh => ?_
    · have := l3 a ha m hm
      simpa [locH, pickH] using this
    · cases e with
      | panicked ch => exact hh.elim
      | outgrown => exact hh.elim
      | returned v =>
        obtain ⟨r, H1, ts, σ1, φ1, hout, hK⟩ := hh
        split at hK <;> try (exact hK.elim)
        rename_i hoo
        exact ⟨_, _, _, _, _, frame_out hC hs c1 c3 hL hok hout hoo, hK⟩
/-- Every row is of a length that the machine bears. -/
def RowB (H : List (Chunk C)) : Prop := ∀ (n : Nat) own e l, H[n]? = some (.row own e l) → l.length ≤ maxLen

theorem CallOK.rowB (hC : C.OK) {f : FuncId} {args : List TV} {K : SV → List (Chunk C) → List Nat → Prop} (h : RowB H → CallOK C f args H K) : CallOK C f args H K := by
  intro σ φ w vs hs hr hn
  refine h (fun n own e l hl => ?_) σ φ w vs hs hr hn
  obtain ⟨A, c, _, hrd⟩ := (hs.holds n _ hl).rd hC
  exact Nat.le_trans hrd.cap hrd.max
end
end Go.Proofs.Ytmjnoiajenoinaa.Sx
end
section
/- The kinds of elements of the arena's programs, and the logic over them. -/
namespace Go.Proofs.Ytmjnoiajenoinaa.Sx
open Go

structure SlotT where
  alloc : Bool
  count : Int
  gen : Int
  node : NodeT
  deriving DecidableEq
structure FindT where
  kind : Int
  slot : Int
  want : Int
  have_ : Int
  deriving DecidableEq
structure ItemT where
  index : Int
  size : Int
  key : Int
  value : Int
  single : Bool
  deriving DecidableEq
structure PStepT where
  index : Int
  open_ : Bool
  deriving DecidableEq
structure LStepT where
  drop : Bool
  key : Int
  value : Int
  left : Int
  right : Int
  deriving DecidableEq
structure MoveT where
  kind : Int
  key : Int
  at_ : Int
  deriving DecidableEq
structure EdtT where
  del : Bool
  at_ : Int
  ent : Ent
  deriving DecidableEq
structure EduT where
  del : Bool
  ent : Ent
  deriving DecidableEq

inductive EC where
  | ent
  | i64
  | int
  | u32
  | bool
  | node
  | chg
  | slot
  | find
  | item
  | pstep
  | lstep
  | move
  | edm
  | edu
  | edc
  | hent
  deriving DecidableEq

def EC.α : EC → Type
  | .ent => Ent
  | .i64 => Int
  | .int => Int
  | .u32 => Int
  | .bool => Bool
  | .node => NodeT
  | .chg => Chg
  | .slot => SlotT
  | .find => FindT
  | .item => ItemT
  | .pstep => PStepT
  | .lstep => LStepT
  | .move => MoveT
  | .edm => EdtT
  | .edu => EduT
  | .edc => EduT
  | .hent => Unit

def EC.enc : (e : EC) → e.α → List Value
  | .ent, x => [.int .i64 x.1, .int .i64 x.2]
  | .i64, x => [.int .i64 x]
  | .int, x => [.int .i64 x]
  | .u32, x => [.int .u32 x]
  | .bool, x => [.bool x]
  | .node, x => [.int .i64 x.key, .int .i64 x.value, .int .u32 x.left, .int .u32 x.right, .int .i64 x.size, .int .i64 x.sum, .int .i64 x.min, .int .i64 x.max]
  | .chg, x => [.int .i64 x.kind, .int .i64 x.key, .int .i64 x.old, .int .i64 x.new]
  | .slot, x => [.bool x.alloc, .int .i64 x.count, .int .u32 x.gen, .int .i64 x.node.key, .int .i64 x.node.value, .int .u32 x.node.left, .int .u32 x.node.right, .int .i64 x.node.size, .int .i64 x.node.sum, .int .i64 x.node.min, .int .i64 x.node.max]
  | .find, x => [.int .i64 x.kind, .int .u32 x.slot, .int .i64 x.want, .int .i64 x.have_]
  | .item, x => [.int .u32 x.index, .int .i64 x.size, .int .i64 x.key, .int .i64 x.value, .bool x.single]
  | .pstep, x => [.int .u32 x.index, .bool x.open_]
  | .lstep, x => [.bool x.drop, .int .i64 x.key, .int .i64 x.value, .int .i64 x.left, .int .i64 x.right]
  | .move, x => [.int .i64 x.kind, .int .i64 x.key, .int .i64 x.at_]
  | .edm, x => [.bool x.del, .int .i64 x.at_, .int .i64 x.ent.1, .int .i64 x.ent.2]
  | .edu, x => [.bool x.del, .int .i64 x.ent.1, .int .i64 x.ent.2]
  | .edc, x => [.bool x.del, .int .i64 x.ent.1, .int .i64 x.ent.2]
  | .hent, _ => [.slice none 0 0]

def dcd_ent : List Value → Option Ent := fun l => match l with | [.int .i64 x0, .int .i64 x1] => some (x0, x1) | _ => none
def dcd_i64 : List Value → Option Int := fun l => match l with | [.int .i64 x0] => some x0 | _ => none
def dcd_int : List Value → Option Int := fun l => match l with | [.int .i64 x0] => some x0 | _ => none
def dcd_u32 : List Value → Option Int := fun l => match l with | [.int .u32 x0] => some x0 | _ => none
def dcd_bool : List Value → Option Bool := fun l => match l with | [.bool x0] => some x0 | _ => none
def dcd_node : List Value → Option NodeT := fun l => match l with | [.int .i64 x0, .int .i64 x1, .int .u32 x2, .int .u32 x3, .int .i64 x4, .int .i64 x5, .int .i64 x6, .int .i64 x7] => some ⟨x0, x1, x2, x3, x4, x5, x6, x7⟩ | _ => none
def dcd_chg : List Value → Option Chg := fun l => match l with | [.int .i64 x0, .int .i64 x1, .int .i64 x2, .int .i64 x3] => some ⟨x0, x1, x2, x3⟩ | _ => none
def dcd_slot : List Value → Option SlotT := fun l => match l with | [.bool x0, .int .i64 x1, .int .u32 x2, .int .i64 x3, .int .i64 x4, .int .u32 x5, .int .u32 x6, .int .i64 x7, .int .i64 x8, .int .i64 x9, .int .i64 x10] => some ⟨x0, x1, x2, ⟨x3, x4, x5, x6, x7, x8, x9, x10⟩⟩ | _ => none
def dcd_find : List Value → Option FindT := fun l => match l with | [.int .i64 x0, .int .u32 x1, .int .i64 x2, .int .i64 x3] => some ⟨x0, x1, x2, x3⟩ | _ => none
def dcd_item : List Value → Option ItemT := fun l => match l with | [.int .u32 x0, .int .i64 x1, .int .i64 x2, .int .i64 x3, .bool x4] => some ⟨x0, x1, x2, x3, x4⟩ | _ => none
def dcd_pstep : List Value → Option PStepT := fun l => match l with | [.int .u32 x0, .bool x1] => some ⟨x0, x1⟩ | _ => none
def dcd_lstep : List Value → Option LStepT := fun l => match l with | [.bool x0, .int .i64 x1, .int .i64 x2, .int .i64 x3, .int .i64 x4] => some ⟨x0, x1, x2, x3, x4⟩ | _ => none
def dcd_move : List Value → Option MoveT := fun l => match l with | [.int .i64 x0, .int .i64 x1, .int .i64 x2] => some ⟨x0, x1, x2⟩ | _ => none
def dcd_edm : List Value → Option EdtT := fun l => match l with | [.bool x0, .int .i64 x1, .int .i64 x2, .int .i64 x3] => some ⟨x0, x1, (x2, x3)⟩ | _ => none
def dcd_edu : List Value → Option EduT := fun l => match l with | [.bool x0, .int .i64 x1, .int .i64 x2] => some ⟨x0, (x1, x2)⟩ | _ => none
def dcd_edc : List Value → Option EduT := fun l => match l with | [.bool x0, .int .i64 x1, .int .i64 x2] => some ⟨x0, (x1, x2)⟩ | _ => none
def dcd_hent : List Value → Option Unit := fun _ => none
def EC.dcd : (e : EC) → List Value → Option e.α
  | .ent => dcd_ent
  | .i64 => dcd_i64
  | .int => dcd_int
  | .u32 => dcd_u32
  | .bool => dcd_bool
  | .node => dcd_node
  | .chg => dcd_chg
  | .slot => dcd_slot
  | .find => dcd_find
  | .item => dcd_item
  | .pstep => dcd_pstep
  | .lstep => dcd_lstep
  | .move => dcd_move
  | .edm => dcd_edm
  | .edu => dcd_edu
  | .edc => dcd_edc
  | .hent => dcd_hent

def EC.dft : (e : EC) → e.α
  | .ent => ((0 : Int), (0 : Int))
  | .i64 => (0 : Int)
  | .int => (0 : Int)
  | .u32 => (0 : Int)
  | .bool => false
  | .node => ⟨0, 0, 0, 0, 0, 0, 0, 0⟩
  | .chg => ⟨0, 0, 0, 0⟩
  | .slot => ⟨false, 0, 0, ⟨0, 0, 0, 0, 0, 0, 0, 0⟩⟩
  | .find => ⟨0, 0, 0, 0⟩
  | .item => ⟨0, 0, 0, 0, false⟩
  | .pstep => ⟨0, false⟩
  | .lstep => ⟨false, 0, 0, 0, 0⟩
  | .move => ⟨0, 0, 0⟩
  | .edm => ⟨false, 0, (0, 0)⟩
  | .edu => ⟨false, (0, 0)⟩
  | .edc => ⟨false, (0, 0)⟩
  | .hent => ()

def EC.sz : EC → Nat
  | .ent => 2
  | .i64 => 1
  | .int => 1
  | .u32 => 1
  | .bool => 1
  | .node => 8
  | .chg => 4
  | .slot => 11
  | .find => 4
  | .item => 5
  | .pstep => 2
  | .lstep => 5
  | .move => 3
  | .edm => 4
  | .edu => 3
  | .edc => 3
  | .hent => 1

def EC.tid : EC → TypeId
  | .ent => 61
  | .i64 => 2
  | .int => 3
  | .u32 => 28
  | .bool => 4
  | .node => 123
  | .chg => 181
  | .slot => 138
  | .find => 225
  | .item => 243
  | .pstep => 248
  | .lstep => 134
  | .move => 95
  | .edm => 207
  | .edu => 63
  | .edc => 88
  | .hent => 58

def EC.byT (t : TypeId) : Option EC :=
  if t = 61 then some .ent else
  if t = 2 then some .i64 else
  if t = 3 then some .int else
  if t = 28 then some .u32 else
  if t = 4 then some .bool else
  if t = 123 then some .node else
  if t = 181 then some .chg else
  if t = 138 then some .slot else
  if t = 225 then some .find else
  if t = 243 then some .item else
  if t = 248 then some .pstep else
  if t = 134 then some .lstep else
  if t = 95 then some .move else
  if t = 207 then some .edm else
  if t = 63 then some .edu else
  if t = 88 then some .edc else
  if t = 58 then some .hent else
  none

def EC.lst (e : EC) : Option EC :=
  if e = .hent then some .ent else
  none
noncomputable def C0 : Ctx where
  P := Try.prog
  EC := EC
  deq := inferInstance
  α := EC.α
  enc := EC.enc
  dcd := EC.dcd
  dft := EC.dft
  sz := EC.sz
  tid := EC.tid
  byT := EC.byT
  lst := EC.lst
  X := Empty
  I := fun _ _ _ _ => False

theorem dcd_ent_spec {cs : List Value} {x : Ent} (h : dcd_ent cs = some x) : EC.enc .ent x = cs := by unfold dcd_ent at h; split at h <;> simp at h; subst h; rfl
theorem dcd_i64_spec {cs : List Value} {x : Int} (h : dcd_i64 cs = some x) : EC.enc .i64 x = cs := by unfold dcd_i64 at h; split at h <;> simp at h; subst h; rfl
theorem dcd_int_spec {cs : List Value} {x : Int} (h : dcd_int cs = some x) : EC.enc .int x = cs := by unfold dcd_int at h; split at h <;> simp at h; subst h; rfl
theorem dcd_u32_spec {cs : List Value} {x : Int} (h : dcd_u32 cs = some x) : EC.enc .u32 x = cs := by unfold dcd_u32 at h; split at h <;> simp at h; subst h; rfl
theorem dcd_bool_spec {cs : List Value} {x : Bool} (h : dcd_bool cs = some x) : EC.enc .bool x = cs := by unfold dcd_bool at h; split at h <;> simp at h; subst h; rfl
theorem dcd_node_spec {cs : List Value} {x : NodeT} (h : dcd_node cs = some x) : EC.enc .node x = cs := by unfold dcd_node at h; split at h <;> simp at h; subst h; rfl
theorem dcd_chg_spec {cs : List Value} {x : Chg} (h : dcd_chg cs = some x) : EC.enc .chg x = cs := by unfold dcd_chg at h; split at h <;> simp at h; subst h; rfl
theorem dcd_slot_spec {cs : List Value} {x : SlotT} (h : dcd_slot cs = some x) : EC.enc .slot x = cs := by unfold dcd_slot at h; split at h <;> simp at h; subst h; rfl
theorem dcd_find_spec {cs : List Value} {x : FindT} (h : dcd_find cs = some x) : EC.enc .find x = cs := by unfold dcd_find at h; split at h <;> simp at h; subst h; rfl
theorem dcd_item_spec {cs : List Value} {x : ItemT} (h : dcd_item cs = some x) : EC.enc .item x = cs := by unfold dcd_item at h; split at h <;> simp at h; subst h; rfl
theorem dcd_pstep_spec {cs : List Value} {x : PStepT} (h : dcd_pstep cs = some x) : EC.enc .pstep x = cs := by unfold dcd_pstep at h; split at h <;> simp at h; subst h; rfl
theorem dcd_lstep_spec {cs : List Value} {x : LStepT} (h : dcd_lstep cs = some x) : EC.enc .lstep x = cs := by unfold dcd_lstep at h; split at h <;> simp at h; subst h; rfl
theorem dcd_move_spec {cs : List Value} {x : MoveT} (h : dcd_move cs = some x) : EC.enc .move x = cs := by unfold dcd_move at h; split at h <;> simp at h; subst h; rfl
theorem dcd_edm_spec {cs : List Value} {x : EdtT} (h : dcd_edm cs = some x) : EC.enc .edm x = cs := by unfold dcd_edm at h; split at h <;> simp at h; subst h; rfl
theorem dcd_edu_spec {cs : List Value} {x : EduT} (h : dcd_edu cs = some x) : EC.enc .edu x = cs := by unfold dcd_edu at h; split at h <;> simp at h; subst h; rfl
theorem dcd_edc_spec {cs : List Value} {x : EduT} (h : dcd_edc cs = some x) : EC.enc .edc x = cs := by unfold dcd_edc at h; split at h <;> simp at h; subst h; rfl
theorem dcd_hent_spec {cs : List Value} {x : Unit} (h : dcd_hent cs = some x) : EC.enc .hent x = cs := by cases h
theorem byT_spec {t : TypeId} {e : EC} (h : EC.byT t = some e) : t = e.tid := by
  unfold EC.byT at h
  by_cases h_ent : t = 61; (rw [if_pos h_ent] at h; cases h; exact h_ent); rw [if_neg h_ent] at h
  by_cases h_i64 : t = 2; (rw [if_pos h_i64] at h; cases h; exact h_i64); rw [if_neg h_i64] at h
  by_cases h_int : t = 3; (rw [if_pos h_int] at h; cases h; exact h_int); rw [if_neg h_int] at h
  by_cases h_u32 : t = 28; (rw [if_pos h_u32] at h; cases h; exact h_u32); rw [if_neg h_u32] at h
  by_cases h_bool : t = 4; (rw [if_pos h_bool] at h; cases h; exact h_bool); rw [if_neg h_bool] at h
  by_cases h_node : t = 123; (rw [if_pos h_node] at h; cases h; exact h_node); rw [if_neg h_node] at h
  by_cases h_chg : t = 181; (rw [if_pos h_chg] at h; cases h; exact h_chg); rw [if_neg h_chg] at h
  by_cases h_slot : t = 138; (rw [if_pos h_slot] at h; cases h; exact h_slot); rw [if_neg h_slot] at h
  by_cases h_find : t = 225; (rw [if_pos h_find] at h; cases h; exact h_find); rw [if_neg h_find] at h
  by_cases h_item : t = 243; (rw [if_pos h_item] at h; cases h; exact h_item); rw [if_neg h_item] at h
  by_cases h_pstep : t = 248; (rw [if_pos h_pstep] at h; cases h; exact h_pstep); rw [if_neg h_pstep] at h
  by_cases h_lstep : t = 134; (rw [if_pos h_lstep] at h; cases h; exact h_lstep); rw [if_neg h_lstep] at h
  by_cases h_move : t = 95; (rw [if_pos h_move] at h; cases h; exact h_move); rw [if_neg h_move] at h
  by_cases h_edm : t = 207; (rw [if_pos h_edm] at h; cases h; exact h_edm); rw [if_neg h_edm] at h
  by_cases h_edu : t = 63; (rw [if_pos h_edu] at h; cases h; exact h_edu); rw [if_neg h_edu] at h
  by_cases h_edc : t = 88; (rw [if_pos h_edc] at h; cases h; exact h_edc); rw [if_neg h_edc] at h
  by_cases h_hent : t = 58; (rw [if_pos h_hent] at h; cases h; exact h_hent); rw [if_neg h_hent] at h
  cases h
theorem info_of {P : Program} {t : TypeId} {z : Value} {n b : Nat} {l : List Value} (h : (P.info? t).map (fun i => (i.zero, i.size, i.bytes)) = some (some z, n, b)) (hz : z.cells.toList = l) (hb : 0 < b) :
    ∃ i z, P.info? t = some i ∧ i.zero = some z ∧ i.size = n ∧ z.cells.toList = l ∧ 0 < i.bytes := by
  rw [Option.map_eq_some_iff] at h
  obtain ⟨i, h1, h2⟩ := h
  simp only [Prod.mk.injEq] at h2
  exact ⟨i, z, h1, h2.1, h2.2.1, hz, h2.2.2 ▸ hb⟩

theorem lst_spec {h e : EC} (hl : EC.lst h = some e) : h.sz = 1 := by
  unfold EC.lst at hl
  by_cases h_hent : h = .hent; (rw [h_hent]; rfl); rw [if_neg h_hent] at hl
  cases hl
theorem C0.ok : C0.OK where
  len e x := by cases e <;> rfl
  one e x := by
    have h : ∀ u ∈ EC.enc e x, u.oneCell' = true := by cases e <;> (intro u hu; simp [EC.enc] at hu; (first | (repeat (rcases hu with rfl | hu; exact rfl)); done | (repeat (rcases hu with rfl | hu; exact rfl)); (subst hu; rfl)))
    exact h
  dcd e cs x h := by
    cases e with
    | ent => exact dcd_ent_spec h
    | i64 => exact dcd_i64_spec h
    | int => exact dcd_int_spec h
    | u32 => exact dcd_u32_spec h
    | bool => exact dcd_bool_spec h
    | node => exact dcd_node_spec h
    | chg => exact dcd_chg_spec h
    | slot => exact dcd_slot_spec h
    | find => exact dcd_find_spec h
    | item => exact dcd_item_spec h
    | pstep => exact dcd_pstep_spec h
    | lstep => exact dcd_lstep_spec h
    | move => exact dcd_move_spec h
    | edm => exact dcd_edm_spec h
    | edu => exact dcd_edu_spec h
    | edc => exact dcd_edc_spec h
    | hent => exact dcd_hent_spec h
  pos e := by cases e <;> decide
  info e := by
    cases e with
    | ent => exact info_of (z := .agg #[.int .i64 0, .int .i64 0]) (n := 2) (b := 16) (by kernel_rfl) rfl (by decide)
    | i64 => exact info_of (z := .int .i64 0) (n := 1) (b := 8) (by kernel_rfl) rfl (by decide)
    | int => exact info_of (z := .int .i64 0) (n := 1) (b := 8) (by kernel_rfl) rfl (by decide)
    | u32 => exact info_of (z := .int .u32 0) (n := 1) (b := 4) (by kernel_rfl) rfl (by decide)
    | bool => exact info_of (z := .bool false) (n := 1) (b := 1) (by kernel_rfl) rfl (by decide)
    | node => exact info_of (z := .agg #[.int .i64 0, .int .i64 0, .int .u32 0, .int .u32 0, .int .i64 0, .int .i64 0, .int .i64 0, .int .i64 0]) (n := 8) (b := 56) (by kernel_rfl) rfl (by decide)
    | chg => exact info_of (z := .agg #[.int .i64 0, .int .i64 0, .int .i64 0, .int .i64 0]) (n := 4) (b := 32) (by kernel_rfl) rfl (by decide)
    | slot => exact info_of (z := .agg #[.bool false, .int .i64 0, .int .u32 0, .int .i64 0, .int .i64 0, .int .u32 0, .int .u32 0, .int .i64 0, .int .i64 0, .int .i64 0, .int .i64 0]) (n := 11) (b := 80) (by kernel_rfl) rfl (by decide)
    | find => exact info_of (z := .agg #[.int .i64 0, .int .u32 0, .int .i64 0, .int .i64 0]) (n := 4) (b := 32) (by kernel_rfl) rfl (by decide)
    | item => exact info_of (z := .agg #[.int .u32 0, .int .i64 0, .int .i64 0, .int .i64 0, .bool false]) (n := 5) (b := 40) (by kernel_rfl) rfl (by decide)
    | pstep => exact info_of (z := .agg #[.int .u32 0, .bool false]) (n := 2) (b := 8) (by kernel_rfl) rfl (by decide)
    | lstep => exact info_of (z := .agg #[.bool false, .int .i64 0, .int .i64 0, .int .i64 0, .int .i64 0]) (n := 5) (b := 40) (by kernel_rfl) rfl (by decide)
    | move => exact info_of (z := .agg #[.int .i64 0, .int .i64 0, .int .i64 0]) (n := 3) (b := 24) (by kernel_rfl) rfl (by decide)
    | edm => exact info_of (z := .agg #[.bool false, .int .i64 0, .int .i64 0, .int .i64 0]) (n := 4) (b := 32) (by kernel_rfl) rfl (by decide)
    | edu => exact info_of (z := .agg #[.bool false, .int .i64 0, .int .i64 0]) (n := 3) (b := 24) (by kernel_rfl) rfl (by decide)
    | edc => exact info_of (z := .agg #[.bool false, .int .i64 0, .int .i64 0]) (n := 3) (b := 24) (by kernel_rfl) rfl (by decide)
    | hent => exact info_of (z := .slice none 0 0) (n := 1) (b := 24) (by kernel_rfl) rfl (by decide)
  byT t e h := by
    exact byT_spec h
  lst h e hl := lst_spec hl
  local_ x := x.elim
  mixed := Try.checked.mixed

theorem enter_of {f : FuncId} {fn : Func} {c : Code} (hf : Try.prog.funcs[f]? = some fn) (hname : (fn.name == "runtime.NumGoroutine") = false) (hb : fn.body = some c) (args : Array Value) (w : World) :
    (callFunc f args).run C0.P w = .ok (.enter f args) w := MuLone.run_callFunc_enter hf hname hb args w

abbrev vI (x : Int) : At := .val (.int .i64 x)
abbrev vU (x : Int) : At := .val (.int .u32 x)
abbrev vU64 (x : Int) : At := .val (.int .u64 x)
abbrev vB (b : Bool) : At := .val (.bool b)
abbrev KT := SV → List (Chunk C0) → List Nat → Prop
/-- A contract out of a run. -/
theorem SoundT.of {f : FuncId} {fn : Func} {c : Code} {t : Tfm C0} (hf : Try.prog.funcs[f]? = some fn) (hname : (fn.name == "runtime.NumGoroutine") = false) (hb : fn.body = some c)
    (h : ∀ args H K, t args H K → RowB H → ∃ A : Ann C0, GOK C0 A.Γ ∧ vc C0 A fn args H (normK H.length K)) : SoundT C0 f t :=
  ⟨enter_of hf hname hb, fun args H K hk => by
    refine CallOK.rowB C0.ok fun hB => ?_
    obtain ⟨A, hG, hv⟩ := h args H K hk hB
    exact CallOK.norm (call_of_vc C0.ok hG hf hv)⟩
/-- The same names touched, whichever way a run takes. -/
def wideK (W0 : List Nat) (K : KT) : KT := fun r H ts => if ts.all W0.contains then K r H W0 else False
theorem CallOK.wide {f : FuncId} {args : List TV} {H : List (Chunk C0)} {K : KT} (W0 : List Nat) (h : CallOK C0 f args H (wideK W0 K)) : CallOK C0 f args H K := by
  intro σ φ w vs hs hr hn
  refine Calls.mono (h σ φ w vs hs hr hn) fun e w' hh => ?_
  cases e with
  | panicked ch => exact hh.elim
  | outgrown => exact hh.elim
  | returned v =>
    obtain ⟨r, H', ts, σ', φ', hout, hK⟩ := hh
    unfold wideK at hK
    split at hK <;> try exact hK.elim
    rename_i hsub
    have hts : ∀ n, n ∉ W0 → n ∉ ts := fun n hn ht => hn (by simpa using List.all_eq_true.1 hsub n ht)
    exact ⟨r, H', W0, σ', φ', ⟨hout.rel, hout.rcl, hout.sat, hout.adv, hout.len, fun n hn ho => hout.agree n hn (ho.imp id (hts n)), hout.own, fun n hn ht => hout.touch n hn (hts n ht)⟩, hK⟩
theorem SoundT.ofW {f : FuncId} {fn : Func} {c : Code} {t : Tfm C0} (W0 : List Nat) (hf : Try.prog.funcs[f]? = some fn) (hname : (fn.name == "runtime.NumGoroutine") = false) (hb : fn.body = some c)
    (h : ∀ args H K, t args H K → RowB H → ∃ A : Ann C0, GOK C0 A.Γ ∧ vc C0 A fn args H (normK H.length (wideK W0 K))) : SoundT C0 f t :=
  ⟨enter_of hf hname hb, fun args H K hk => by
    refine CallOK.wide W0 (CallOK.rowB C0.ok fun hB => ?_)
    obtain ⟨A, hG, hv⟩ := h args H K hk hB
    exact CallOK.norm (call_of_vc C0.ok hG hf hv)⟩

theorem SoundT.weak {f : FuncId} {t t' : Tfm C0} (h : SoundT C0 f t) (hw : ∀ args H K, t' args H K → t args H K) : SoundT C0 f t' := ⟨h.enter, fun args H K hk => h.call args H K (hw args H K hk)⟩
noncomputable def A0 : Ann C0 := { Γ := [] }
theorem brS_of {b : Bool} {t f : Prop} (ht : b = true → t) (hf : b = false → f) : brS b t f := by cases b <;> simp_all [brS]
theorem bytes_ent : bytesOf C0 EC.ent = 16 := by kernel_rfl
theorem bytes_i64 : bytesOf C0 EC.i64 = 8 := by kernel_rfl
theorem bytes_int : bytesOf C0 EC.int = 8 := by kernel_rfl
theorem bytes_u32 : bytesOf C0 EC.u32 = 4 := by kernel_rfl
theorem bytes_bool : bytesOf C0 EC.bool = 1 := by kernel_rfl
theorem bytes_node : bytesOf C0 EC.node = 56 := by kernel_rfl
theorem bytes_chg : bytesOf C0 EC.chg = 32 := by kernel_rfl
theorem bytes_item : bytesOf C0 EC.item = 40 := by kernel_rfl
end Go.Proofs.Ytmjnoiajenoinaa.Sx
end
section
/- The slots of an arena. -/
namespace Go.Proofs.Ytmjnoiajenoinaa.Sx
open Go

def relOK (rl : List Int) (n : Nat) : Prop := ∀ i ∈ rl, 0 ≤ i ∧ i < (n : Int)
def slM (H : List (Chunk C0)) (k : List Bool → List Int → List Int → Int → Prop) : Prop := match H with
  | [.box [.slc 1, .slc 2, .slc 3, .val (.int .u32 fr)], .row true .bool us, .row true .u32 gn, .row true .u32 rl] => k us gn rl fr
  | _ => False
abbrev slC (us : List Bool) (gn rl : List Int) (fr : Int) : List (Chunk C0) := [.box [.slc 1, .slc 2, .slc 3, vU fr], .row true EC.bool us, .row true EC.u32 gn, .row true EC.u32 rl]
def tSlCap : Tfm C0 := fun args H K => match args with
  | [.at (.ptr 0 0)] => slM H fun us gn rl fr => 1 ≤ us.length ∧ us.length ≤ 65537 ∧ K (.one (.at (vI (us.length - 1)))) (slC us gn rl fr) []
  | _ => False
def tSlAllocated : Tfm C0 := fun args H K => match args with
  | [.at (.ptr 0 0), .at (.val (.int .u32 i))] => slM H fun us gn rl fr => 0 ≤ i ∧ i < 4294967296 ∧ us.length ≤ 65537 ∧ K (.one (.at (vB (us.getD i.toNat false)))) (slC us gn rl fr) []
  | _ => False
def tSlGen : Tfm C0 := fun args H K => match args with
  | [.at (.ptr 0 0), .at (.val (.int .u32 i))] => slM H fun us gn rl fr => 0 ≤ i ∧ i < 4294967296 ∧ gn.length ≤ 65537 ∧ K (.one (.at (vU (gn.getD i.toNat 0)))) (slC us gn rl fr) []
  | _ => False
noncomputable def aSlFree : Ann C0 := { Γ := [(79, frameT [] tSlCap)], quiet := [79] }
def tSlFree : Tfm C0 := fun args H K => match args with
  | [.at (.ptr 0 0)] => slM H fun us gn rl fr => 1 ≤ us.length ∧ us.length ≤ 65537 ∧ rl.length ≤ 65537 ∧ 0 ≤ fr ∧ fr ≤ 65537 ∧ K (.one (.at (vI (rl.length + (us.length - 1) - fr)))) (slC us gn rl fr) []
  | _ => False
noncomputable def aSlAlloc : Ann C0 := { trunc := fun n => n == 30, Γ := [(62, frameT [] tSlFree)] }
def tSlAlloc : Tfm C0 := fun args H K => match args with
  | [.at (.ptr 0 0)] => slM H fun us gn rl fr => 1 ≤ us.length ∧ us.length ≤ 65537 ∧ rl.length ≤ 65537 ∧ 0 ≤ fr ∧ fr ≤ 65537 ∧ gn.length = us.length ∧ relOK rl us.length ∧ 0 ≤ (rl.length : Int) + (us.length - 1) - fr ∧
    ((rl.length : Int) + (us.length - 1) - fr = 0 → K (.tup [.at (vU 0), .at (vI 2)]) (slC us gn rl fr) [0, 1, 2, 3]) ∧
    (0 < (rl.length : Int) + (us.length - 1) - fr → ∀ i rl' fr', (i, rl', fr') = fresh3 rl fr → K (.tup [.at (vU i), .at (vI 0)]) (slC (us.set i.toNat true) (gn.set i.toNat (IntKind.u32.wrap (gn.getD i.toNat 0 + 1))) rl' fr') [0, 1, 2, 3])
  | _ => False
noncomputable def aSlRelease : Ann C0 := { Γ := [(56, frameT [] tSlAllocated)] }
def tSlRelease : Tfm C0 := fun args H K => match args with
  | [.at (.ptr 0 0), .at (.val (.int .u32 i))] => slM H fun us gn rl fr => 0 ≤ i ∧ i < 4294967296 ∧ us.length ≤ 65537 ∧ rl.length ≤ 65537 ∧ us.getD i.toNat false = true ∧ K (.one (.at (vI 0))) (slC (us.set i.toNat false) gn (rl ++ [i]) fr) [0, 1, 3]
  | _ => False
theorem vc_slCap (us : List Bool) (gn rl : List Int) (fr : Int) (K : KT) (h1 : 1 ≤ us.length) (h2 : us.length ≤ 65537) (h : K (.one (.at (vI (us.length - 1)))) (slC us gn rl fr) []) :
    vc C0 A0 Try.f79 [.at (.ptr 0 0)] (slC us gn rl fr) (normK 4 K) := by
  refine Eq.mp (show (K (SV.one (TV.at (At.val (Value.int IntKind.i64 (IntKind.i64.wrap ((↑us.length : Int) - 1)))))) [(Chunk.box [(At.slc 1), (At.slc 2), (At.slc 3), (At.val (Value.int IntKind.u32 (fr)))]), (Chunk.row true (EC.bool) (us)), (Chunk.row true (EC.u32) (gn)), (Chunk.row true (EC.u32) (rl))] []) = _ by kernel_rfl) ?_
  rw [wrap_id (by omega) (by omega)]
  exact h
theorem s_slCap : SoundT C0 79 tSlCap := by
  refine .of Try.func79 (by decide) rfl fun args H K h hB => ?_
  unfold tSlCap at h
  split at h <;> try exact h.elim
  unfold slM at h
  split at h <;> try exact h.elim
  rename_i fr us gn rl
  exact ⟨A0, trivial, vc_slCap us gn rl _ K h.1 h.2.1 h.2.2⟩
theorem vc_slAllocated (us : List Bool) (gn rl : List Int) (fr i : Int) (K : KT) (h1 : 0 ≤ i) (h2 : i < 4294967296) (h3 : us.length ≤ 65537) (h : K (.one (.at (vB (us.getD i.toNat false)))) (slC us gn rl fr) []) :
    vc C0 A0 Try.f56 [.at (.ptr 0 0), .at (vU i)] (slC us gn rl fr) (normK 4 K) := by
  refine Eq.mp (show (brS (decide (IntKind.i64.wrap i < (↑us.length : Int))) (((0 ≤ i) ∧ (i < (↑us.length : Int)) ∧ (K (SV.one (TV.at (At.val (Value.bool (us.getD i.toNat false))))) [(Chunk.box [(At.slc 1), (At.slc 2), (At.slc 3), (At.val (Value.int IntKind.u32 (fr)))]), (Chunk.row true (EC.bool) (us)), (Chunk.row true (EC.u32) (gn)), (Chunk.row true (EC.u32) (rl))] []))) ((K (SV.one (TV.at (At.val (Value.bool false)))) [(Chunk.box [(At.slc 1), (At.slc 2), (At.slc 3), (At.val (Value.int IntKind.u32 (fr)))]), (Chunk.row true (EC.bool) (us)), (Chunk.row true (EC.u32) (gn)), (Chunk.row true (EC.u32) (rl))] []))) = _ by kernel_rfl) ?_
  rw [wrap_id (by omega) (by omega)]
  refine brS_of (fun c => ⟨h1, by simpa using c, h⟩) fun c => ?_
  have e : us.getD i.toNat false = false := by
    have c : ¬ i < (us.length : Int) := by simpa using c
    rw [List.getD_eq_getElem?_getD, List.getElem?_eq_none (by omega)]; rfl
  rw [e] at h
  exact h
theorem s_slAllocated : SoundT C0 56 tSlAllocated := by
  refine .of Try.func56 (by decide) rfl fun args H K h hB => ?_
  unfold tSlAllocated at h
  split at h <;> try exact h.elim
  unfold slM at h
  split at h <;> try exact h.elim
  rename_i i _ fr us gn rl
  exact ⟨A0, trivial, vc_slAllocated us gn rl fr i K h.1 h.2.1 h.2.2.1 h.2.2.2⟩
theorem vc_slFree (us : List Bool) (gn rl : List Int) (fr : Int) (K : KT) (h1 : 1 ≤ us.length) (h2 : us.length ≤ 65537) (h3 : rl.length ≤ 65537) (h4 : 0 ≤ fr) (h5 : fr ≤ 65537) (h : K (.one (.at (vI (rl.length + (us.length - 1) - fr)))) (slC us gn rl fr) []) :
    vc C0 aSlFree Try.f62 [.at (.ptr 0 0)] (slC us gn rl fr) (normK 4 K) := by
  refine Eq.mp (show ((1 ≤ us.length) ∧
(us.length ≤ 65537) ∧
(K (SV.one (TV.at (At.val (Value.int IntKind.i64 (IntKind.i64.wrap (IntKind.i64.wrap ((↑rl.length : Int) + ((↑us.length : Int) - 1)) - IntKind.i64.wrap fr)))))) [(Chunk.box [(At.slc 1), (At.slc 2), (At.slc 3), (At.val (Value.int IntKind.u32 (fr)))]), (Chunk.row true (EC.bool) (us)), (Chunk.row true (EC.u32) (gn)), (Chunk.row true (EC.u32) (rl))] [])) = _ by kernel_rfl) ?_
  refine ⟨h1, h2, ?_⟩
  rw [wrap_id (x := fr) (by omega) (by omega), wrap_id (x := (rl.length : Int) + ((us.length : Int) - 1)) (by omega) (by omega), wrap_id (by omega) (by omega)]
  exact h
theorem s_slFree : SoundT C0 62 tSlFree := by
  refine .of Try.func62 (by decide) rfl fun args H K h hB => ?_
  unfold tSlFree at h
  split at h <;> try exact h.elim
  unfold slM at h
  split at h <;> try exact h.elim
  rename_i fr us gn rl
  exact ⟨aSlFree, ⟨frame C0.ok s_slCap _, trivial⟩, vc_slFree us gn rl fr K h.1 h.2.1 h.2.2.1 h.2.2.2.1 h.2.2.2.2.1 h.2.2.2.2.2⟩
theorem wrap_u32 {x : Int} (h1 : 0 ≤ x) (h2 : x < 4294967296) : IntKind.u32.wrap x = x := by
  unfold IntKind.wrap
  simp [IntKind.signed, IntKind.bits]
  omega
theorem vc_slAlloc (us : List Bool) (gn rl : List Int) (fr : Int) (K : KT) (h1 : 1 ≤ us.length) (h2 : us.length ≤ 65537) (h3 : rl.length ≤ 65537) (h4 : 0 ≤ fr) (h5 : fr ≤ 65537) (h6 : gn.length = us.length) (h7 : relOK rl us.length)
    (h8 : 0 ≤ (rl.length : Int) + (us.length - 1) - fr)
    (ha : (rl.length : Int) + (us.length - 1) - fr = 0 → K (.tup [.at (vU 0), .at (vI 2)]) (slC us gn rl fr) [0, 1, 2, 3])
    (hb : 0 < (rl.length : Int) + (us.length - 1) - fr → ∀ i rl' fr', (i, rl', fr') = fresh3 rl fr → K (.tup [.at (vU i), .at (vI 0)]) (slC (us.set i.toNat true) (gn.set i.toNat (IntKind.u32.wrap (gn.getD i.toNat 0 + 1))) rl' fr') [0, 1, 2, 3]) :
    vc C0 aSlAlloc Try.f57 [.at (.ptr 0 0)] (slC us gn rl fr) (normK 4 (wideK [0, 1, 2, 3] K)) := by
  refine Eq.mp (show ((1 ≤ us.length) ∧
(us.length ≤ 65537) ∧
(rl.length ≤ 65537) ∧
(0 ≤ fr) ∧
(fr ≤ 65537) ∧
(brS ((↑rl.length : Int) + ((↑us.length : Int) - 1) - fr == 0) ((K (SV.tup [(TV.at (At.val (Value.int IntKind.u32 0))), (TV.at (At.val (Value.int IntKind.i64 2)))]) [(Chunk.box [(At.slc 1), (At.slc 2), (At.slc 3), (At.val (Value.int IntKind.u32 (fr)))]), (Chunk.row true (EC.bool) (us)), (Chunk.row true (EC.u32) (gn)), (Chunk.row true (EC.u32) (rl))] [0, 1, 2, 3])) ((brS (decide (IntKind.i64.wrap ((↑rl.length : Int) - 1) ≥ 0)) (((0 ≤ IntKind.i64.wrap ((↑rl.length : Int) - 1)) ∧ (IntKind.i64.wrap ((↑rl.length : Int) - 1) < (↑rl.length : Int)) ∧ (0 ≤ IntKind.i64.wrap ((↑rl.length : Int) - 1)) ∧ (IntKind.i64.wrap ((↑rl.length : Int) - 1) ≤ (↑rl.length : Int)) ∧ (0 ≤ rl.getD (IntKind.i64.wrap ((↑rl.length : Int) - 1)).toNat 0) ∧ (rl.getD (IntKind.i64.wrap ((↑rl.length : Int) - 1)).toNat 0 < (↑us.length : Int)) ∧ (0 ≤ rl.getD (IntKind.i64.wrap ((↑rl.length : Int) - 1)).toNat 0) ∧ (rl.getD (IntKind.i64.wrap ((↑rl.length : Int) - 1)).toNat 0 < (↑gn.length : Int)) ∧ (0 ≤ rl.getD (IntKind.i64.wrap ((↑rl.length : Int) - 1)).toNat 0) ∧ (rl.getD (IntKind.i64.wrap ((↑rl.length : Int) - 1)).toNat 0 < (↑gn.length : Int)) ∧
    (K (SV.tup [(TV.at (At.val (Value.int IntKind.u32 (rl.getD (IntKind.i64.wrap ((↑rl.length : Int) - 1)).toNat 0)))), (TV.at (At.val (Value.int IntKind.i64 0)))]) [(Chunk.box [(At.slc 1), (At.slc 2), (At.slc 3), (At.val (Value.int IntKind.u32 (fr)))]), (Chunk.row true (EC.bool) (us.set (rl.getD (IntKind.i64.wrap ((↑rl.length : Int) - 1)).toNat 0).toNat true)), (Chunk.row true (EC.u32) (gn.set (rl.getD (IntKind.i64.wrap ((↑rl.length : Int) - 1)).toNat 0).toNat (IntKind.u32.wrap (gn.getD (rl.getD (IntKind.i64.wrap ((↑rl.length : Int) - 1)).toNat 0).toNat 0 + 1)))), (Chunk.row true (EC.u32) (List.take (IntKind.i64.wrap ((↑rl.length : Int) - 1)).toNat rl))] [0, 1, 2, 3]))) (((0 ≤ IntKind.u32.wrap (fr + 1)) ∧ (IntKind.u32.wrap (fr + 1) < (↑us.length : Int)) ∧ (0 ≤ IntKind.u32.wrap (fr + 1)) ∧ (IntKind.u32.wrap (fr + 1) < (↑gn.length : Int)) ∧ (0 ≤ IntKind.u32.wrap (fr + 1)) ∧ (IntKind.u32.wrap (fr + 1) < (↑gn.length : Int)) ∧ (K (SV.tup [(TV.at (At.val (Value.int IntKind.u32 (IntKind.u32.wrap (fr + 1))))), (TV.at (At.val (Value.int IntKind.i64 0)))]) [(Chunk.box [(At.slc 1), (At.slc 2), (At.slc 3), (At.val (Value.int IntKind.u32 (IntKind.u32.wrap (fr + 1))))]), (Chunk.row true (EC.bool) (us.set (IntKind.u32.wrap (fr + 1)).toNat true)), (Chunk.row true (EC.u32) (gn.set (IntKind.u32.wrap (fr + 1)).toNat (IntKind.u32.wrap (gn.getD (IntKind.u32.wrap (fr + 1)).toNat 0 + 1)))), (Chunk.row true (EC.u32) (rl))] [0, 1, 2, 3]))))))) = _ by kernel_rfl) ?_
  rw [wrap_id (x := (rl.length : Int) - 1) (by omega) (by omega), wrap_u32 (x := fr + 1) (by omega) (by omega)]
  refine ⟨h1, h2, h3, h4, h5, brS_of (fun c => ha (by simpa using c)) fun c => ?_⟩
  have c : ¬ (rl.length : Int) + (us.length - 1) - fr = 0 := by simpa using c
  have hb := hb (by omega)
  refine brS_of (fun d => ?_) fun d => ?_
  · have d : 0 ≤ (rl.length : Int) - 1 := by simpa using d
    have e : ((rl.length : Int) - 1).toNat = rl.length - 1 := by omega
    rw [e]
    have hm : rl.getD (rl.length - 1) 0 ∈ rl := by
      have : rl.length - 1 < rl.length := by omega
      rw [List.getD_eq_getElem?_getD, List.getElem?_eq_getElem this]
      exact List.getElem_mem this
    have hr := h7 _ hm
    exact ⟨by omega, by omega, by omega, by omega, hr.1, hr.2, hr.1, by omega, hr.1, by omega, hb _ _ _ (by unfold fresh3; rw [if_pos (by omega)]; rfl)⟩
  · have d : ¬ 0 ≤ (rl.length : Int) - 1 := by simpa using d
    exact ⟨by omega, by omega, by omega, by omega, by omega, by omega, hb _ _ _ (by unfold fresh3; rw [if_neg (by omega)])⟩
theorem s_slAlloc : SoundT C0 57 tSlAlloc := by
  refine .ofW [0, 1, 2, 3] Try.func57 (by decide) rfl fun args H K h hB => ?_
  unfold tSlAlloc at h
  split at h <;> try exact h.elim
  unfold slM at h
  split at h <;> try exact h.elim
  rename_i fr us gn rl
  exact ⟨aSlAlloc, ⟨frame C0.ok s_slFree _, trivial⟩, vc_slAlloc us gn rl fr K h.1 h.2.1 h.2.2.1 h.2.2.2.1 h.2.2.2.2.1 h.2.2.2.2.2.1 h.2.2.2.2.2.2.1 h.2.2.2.2.2.2.2.1 h.2.2.2.2.2.2.2.2.1 h.2.2.2.2.2.2.2.2.2⟩
theorem vc_slRelease (us : List Bool) (gn rl : List Int) (fr i : Int) (K : KT) (h1 : 0 ≤ i) (h2 : i < 4294967296) (h3 : us.length ≤ 65537) (h4 : rl.length ≤ 65537) (h5 : us.getD i.toNat false = true) (h : K (.one (.at (vI 0))) (slC (us.set i.toNat false) gn (rl ++ [i]) fr) [0, 1, 3]) :
    vc C0 aSlRelease Try.f58 [.at (.ptr 0 0), .at (vU i)] (slC us gn rl fr) (normK 4 K) := by
  refine Eq.mp (show ((0 ≤ i) ∧
(i < 4294967296) ∧
(us.length ≤ 65537) ∧
(brS (!us.getD i.toNat false) ((K (SV.one (TV.at (At.val (Value.int IntKind.i64 3)))) [(Chunk.box [(At.slc 1), (At.slc 2), (At.slc 3), (At.val (Value.int IntKind.u32 (fr)))]), (Chunk.row true (EC.bool) (us)), (Chunk.row true (EC.u32) (gn)), (Chunk.row true (EC.u32) (rl))] [])) (((0 ≤ i) ∧ (i < (↑us.length : Int)) ∧ ((rl.length + [i].length) * bytesOf C0 EC.u32 ≤ 140737488355328) ∧ (K (SV.one (TV.at (At.val (Value.int IntKind.i64 0)))) [(Chunk.box [(At.slc 1), (At.slc 2), (At.slc 3), (At.val (Value.int IntKind.u32 (fr)))]), (Chunk.row true (EC.bool) (us.set i.toNat false)), (Chunk.row true (EC.u32) (gn)), (Chunk.row true (EC.u32) (rl ++ [i]))] [0, 1, 3]))))) = _ by kernel_rfl) ?_
  simp only [bytes_u32]
  refine ⟨h1, h2, h3, brS_of (fun c => ?_) fun c => ⟨h1, ?_, ?_, h⟩⟩
  · rw [h5] at c; cases c
  · rcases Nat.lt_or_ge i.toNat us.length with hh | hh
    · omega
    · rw [List.getD_eq_getElem?_getD, List.getElem?_eq_none hh] at h5; cases h5
  · simp; omega
theorem s_slRelease : SoundT C0 58 tSlRelease := by
  refine .of Try.func58 (by decide) rfl fun args H K h hB => ?_
  unfold tSlRelease at h
  split at h <;> try exact h.elim
  unfold slM at h
  split at h <;> try exact h.elim
  rename_i i _ fr us gn rl
  exact ⟨aSlRelease, ⟨frame C0.ok s_slAllocated _, trivial⟩, vc_slRelease us gn rl fr i K h.1 h.2.1 h.2.2.1 h.2.2.2.1 h.2.2.2.2.1 h.2.2.2.2.2⟩
end Go.Proofs.Ytmjnoiajenoinaa.Sx
end
