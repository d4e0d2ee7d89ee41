/- The symbolic run is sound: regions, in the text's order and in any. No program in sight. -/
import Derived.Test.YtacdmmomkngpkaaSxI
namespace Go.Proofs.Ytacdmmomkngpkaa.Sx
open Go

section
variable {P : Program} {ops : Array Oper} {Q : Exit → Act → World → Prop} {S : World → Prop} {late : Nat → Bool}

/-- No late operation has come up. -/
def NoLate (late : Nat → Bool) (listed : Array Bool) : Prop := ∀ j, late j = true → listed.getD j true = false

/-- Any order; an operation that is not late leaves S standing, as long as no late one has come up. -/
def wpAnyL (P : Program) (ops : Array Oper) (Q : Exit → Act → World → Prop) (S : World → Prop) (late : Nat → Bool) : Nat → Array Bool → Act → World → Prop
  | 0, listed, a, w => Region.ready .any ops listed = [] ∧ Q .normal a w
  | fuel + 1, listed, a, w => (Region.ready .any ops listed = [] → Q .normal a w) ∧
    ∀ i ∈ Region.ready .any ops listed, wpOp P ops Q i (fun a' w' => (late i = false → NoLate late listed → S w → S w') ∧ wpAnyL P ops Q S late fuel (listed.setIfInBounds i true) a' w') a w

theorem wpAnyL.any : ∀ {fuel : Nat} {listed : Array Bool} {a : Act} {w : World}, wpAnyL P ops Q S late fuel listed a w → wpAny P .any ops Q fuel listed a w
  | 0, _, _, _, h => h
  | _ + 1, _, _, _, h => ⟨h.1, fun i hi => wpOp_mono (fun _ _ h' => wpAnyL.any h'.2) (h.2 i hi)⟩

theorem wpAnyL_done {listed : Array Bool} {a : Act} {w : World} (hr : Region.ready .any ops listed = []) (h : Q .normal a w) : ∀ fuel, wpAnyL P ops Q S late fuel listed a w
  | 0 => ⟨hr, h⟩
  | _ + 1 => ⟨fun _ => h, by rw [hr]; simp⟩

theorem ready_lt {listed : Array Bool} {i : Nat} (hi : i ∈ Region.ready .any ops listed) : i < listed.size := by
  rcases Nat.lt_or_ge i listed.size with h' | h'
  · exact h'
  · have := (mem_ready.1 hi).1
    simp [Array.getElem?_eq_none h'] at this

/-- What waits for an operation that has not come up is not ready. -/
theorem ready_waits {listed : Array Bool} {i j : Nat} {oj : Oper} (hj : j ∈ Region.ready .any ops listed) (hoj : ops[j]? = some oj) (hun : listed.getD i true = false) : ∀ e ∈ oj.after, Region.binds .any e = true → e.on ≠ i := by
  intro e he hb heq
  obtain ⟨_, o', ho', hall⟩ := mem_ready.1 hj
  rw [hoj] at ho'
  simp only [Option.some.injEq] at ho'
  subst ho'
  have h2 := hall e he hb
  rw [heq] at h2
  rcases Nat.lt_or_ge i listed.size with h' | h'
  · simp [h'] at h2 hun; rw [hun] at h2; cases h2
  · simp [Array.getElem?_eq_none h'] at h2

/-- An operation that yields its value in every world that meets Si comes first, where Si is nothing, or S and every late operation waits for it. -/
theorem wpAnyL_take {Si : World → Prop} {i : Nat} {oi : Oper} {v : Value} (hi : ops[i]? = some oi) (hsel : ∀ (j : Nat) (o : Oper) cs b, ops[j]? = some o → o.op ≠ .select cs b)
    (hQ : ∀ c a w, Q (.panic c) (a.put oi.dst v) w → Q (.panic c) a w)
    (hli : late i = false) (hSi : (∀ w, Si w) ∨ ((∀ w, S w → Si w) ∧ (∀ w, Si w → S w) ∧ ∀ (j : Nat) (oj : Oper), ops[j]? = some oj → late j = true → ∃ e ∈ oj.after, Region.binds .any e = true ∧ e.on = i)) :
    ∀ (fuel : Nat) (listed : Array Bool) (a : Act) (w : World), ((∀ w, Si w) ∨ NoLate late listed) →
      (∀ (j : Nat) (oj : Oper), ops[j]? = some oj → j ≠ i → listed.getD j true = false → (∀ e ∈ oj.after, Region.binds .any e = true → e.on ≠ i) → oi.apart ops oj = true) →
      i ∈ Region.ready .any ops listed → YieldsIf P ops Si oi v a → Si w →
      wpAnyL P ops Q S late fuel (listed.setIfInBounds i true) (a.put oi.dst v) w → wpAnyL P ops Q S late (fuel + 1) listed a w := by
  intro fuel
  induction fuel with
  | zero =>
    intro listed a w _ _ hr hy hS h
    refine ⟨fun h0 => (by rw [h0] at hr; cases hr), fun j hj => ?_⟩
    by_cases hji : j = i
    · subst hji; exact hy.wpOp hi hS ⟨fun _ _ h => h, h⟩
    · have h1 := ready_mono hj hji
      rw [h.1] at h1; cases h1
  | succ fuel ih =>
    intro listed a w hNL hfree hr hy hS h
    refine ⟨fun h0 => (by rw [h0] at hr; cases hr), fun j hj => ?_⟩
    by_cases hji : j = i
    · subst hji; exact hy.wpOp hi hS ⟨fun _ _ h => h, h⟩
    · obtain ⟨hjun, oj, hoj, _⟩ := mem_ready.1 hj
      have hnot := ready_waits hj hoj (mem_ready.1 hr).1
      have hp := wpOp_putIf hoj (hfree j oj hoj hji hjun hnot) (fun cs b => hsel i oi cs b hi) (fun cs b => hsel j oj cs b hoj) hQ hy (h.2 j (ready_mono hj hji))
      refine wpOp_mono (fun a' w' h3 => ?_) hp
      obtain ⟨hy', hSj, hrest⟩ := h3
      have hlt := ready_lt hr
      have hset : (NoLate late listed) → NoLate late (listed.setIfInBounds i true) := fun hl k hk => by
        by_cases hki : i = k
        · subst hki; rw [hli] at hk; cases hk
        · rw [getD_set_ne true hki]; exact hl k hk
      have hjl : (∀ w, Si w) ∨ (NoLate late listed ∧ late j = false) := by
        rcases hSi with hSi | ⟨hSi, hSi', hl⟩
        · exact .inl hSi
        · rcases hNL with h0 | hNL
          · exact .inl h0
          · refine .inr ⟨hNL, ?_⟩
            cases hlj : late j with
            | false => rfl
            | true =>
              obtain ⟨e, he, hb, heq⟩ := hl j oj hoj hlj
              exact absurd heq (hnot e he hb)
      refine ⟨fun h1 h2 h4 => hSj h1 (hset h2) h4, ih _ a' w' ?_ (fun k ok hk hki hun hno => hfree k ok hk hki ?_ hno) (ready_mono hr (Ne.symm hji)) hy' ?_ ?_⟩
      · rcases hjl with h0 | ⟨hN, hlj⟩
        · exact .inl h0
        · refine .inr fun k hk => ?_
          by_cases hjk : j = k
          · subst hjk; rw [hlj] at hk; cases hk
          · rw [getD_set_ne true hjk]; exact hN k hk
      · by_cases hjk : j = k
        · subst hjk; exact hjun
        · rw [getD_set_ne true hjk] at hun; exact hun
      · rcases hSi with hSi | ⟨hSi, hSi', hl⟩
        · exact hSi _
        · rcases hjl with h0 | ⟨hN, hlj⟩
          · exact h0 _
          · exact hSi _ (hSj hlj (hset hN) (hSi' _ hS))
      · rw [Array.setIfInBounds_comm _ _ hji]
        exact hrest
end

section
variable {C : Ctx}

/-- Where a body began. -/
structure Base (C : Ctx) where
  H : List (Chunk C)
  σ : Nat → Value
  φ : Nat → Nat → Prop
  w : World

/-- What holds at a point of a body. -/
structure St (C : Ctx) (B : Base C) (W : List Nat) (T : List SV) (H : List (Chunk C)) (σ : Nat → Value) (φ : Nat → Nat → Prop) (a : Act) (w : World) : Prop where
  pre : Pre C T H σ φ a w
  dfs : a.defers = []
  adv : Adv B.φ B.w φ w
  len : B.H.length ≤ H.length
  agree : ∀ n, n < B.H.length → isOwn B.H n = false → σ n = B.σ n
  own : ∀ n, n < B.H.length → isOwn H n = true → isOwn B.H n = true
  stand : ∀ n, n < B.H.length → n ∉ W → σ n = B.σ n ∧ (∀ b, Rdb H σ n b ↔ Rdb B.H B.σ n b) ∧ ∀ b, Rdb B.H B.σ n b → b < B.w.heap.size → w.heap[b]? = B.w.heap[b]?

variable {W : List Nat} {B : Base C} {T : List SV} {H : List (Chunk C)} {σ : Nat → Value} {φ : Nat → Nat → Prop} {a : Act} {w : World} {o : Oper}

theorem St.step (h : St C B W T H σ φ a w) {ts : List Nat} {T' : List SV} {H' : List (Chunk C)} {σ' : Nat → Value} {φ' : Nat → Nat → Prop} {a' : Act} {w' : World} (e : EOut C H σ φ a w ts T' H' σ' φ' a' w') : St C B (ts ++ W) T' H' σ' φ' a' w' where
  pre := ⟨h.pre.ok, e.tm, e.tcl, e.sat⟩
  dfs := e.dfs.trans h.dfs
  adv := h.adv.trans e.adv
  len := Nat.le_trans h.len e.len
  agree n hn ho := (e.agree n (Nat.lt_of_lt_of_le hn h.len) (by
    cases hh : isOwn H n with
    | false => rfl
    | true => rw [h.own n hn hh] at ho; cases ho)).trans (h.agree n hn ho)
  own n hn ho := h.own n hn (e.own n (Nat.lt_of_lt_of_le hn h.len) ho)
  stand n hn hW := by
    simp only [List.mem_append, not_or] at hW
    obtain ⟨h0, h1, h2⟩ := h.stand n hn hW.2
    have hn' := Nat.lt_of_lt_of_le hn h.len
    obtain ⟨h3, h4⟩ := e.touch n hn' hW.1
    exact ⟨(e.still n hn' hW.1).trans h0, fun b => (h3 b).trans (h1 b), fun b hb hlt => (h4 b ((h1 b).2 hb) (Nat.lt_of_lt_of_le hlt h.adv.size)).trans (h2 b hb hlt)⟩

theorem St.withT (h : St C B W T H σ φ a w) {T' : List SV} (hp : Pre C T' H σ φ a w) : St C B W T' H σ φ a w := ⟨hp, h.dfs, h.adv, h.len, h.agree, h.own, h.stand⟩

theorem St.drawn (h : St C B W T H σ φ a w) (k : Nat) : St C B W T H σ φ a { w with drawn := k } where
  pre := ⟨h.pre.ok, h.pre.tm, h.pre.tcl, h.pre.sat.drawn h.pre.ok k⟩
  dfs := h.dfs
  adv := h.adv.trans ⟨rfl, rfl, rfl, Nat.le_refl _, fun _ _ _ => rfl, fun n b hb => .inl ⟨n, hb⟩⟩
  len := h.len
  agree := h.agree
  own := h.own
  stand := h.stand

/-- A quiet step, as a step. -/
theorem quiet_out (h : Pre C T H σ φ a w) {s : SV} {H' : List (Chunk C)} {v : Value} {σ' : Nat → Value} {φ' : Nat → Nat → Prop} (g : Grows C σ φ H σ' φ' H' w) (hv : s.rel σ' v) (hn : ∀ m ∈ s.names, m < H'.length) (dst : Option Nat) (ts : List Nat) :
    EOut C H σ φ a w ts (setT T dst s) H' σ' φ' (a.put dst v) w where
  tm := put_rel (rel_agree h.tm h.tcl g.agree) hv dst
  tcl x hx m hm := by
    rcases setT_mem hx with hx | rfl
    · exact Nat.lt_of_lt_of_le (h.tcl x hx m hm) g.len
    · exact hn m hm
  sat := g.sat
  adv := ⟨rfl, rfl, rfl, Nat.le_refl _, fun _ _ _ => rfl, fun n b hb => .inl ⟨n, g.sub n b hb⟩⟩
  len := g.len
  dfs := put_defers _ _
  agree n hn _ := g.agree n hn
  own := g.own
  touch n hn _ := ⟨g.rdb n hn, fun _ _ _ => rfl⟩
  still n hn _ := g.agree n hn

/-- An operation that was not carried out. -/
theorem skip_out (h : Pre C T H σ φ a w) (dst : Option Nat) (ts : List Nat) : EOut C H σ φ a w ts (setT T dst undefS) H σ φ (a.put dst undef) w :=
  quiet_out h (Grows.refl h.sat) (s := undefS) rfl (by simp [undefS, SV.names, TV.names, At.names]) dst ts

theorem reqs_iff : ∀ {ps : List Prop} {k : Prop}, reqs ps k → (∀ p ∈ ps, p) ∧ k := by
  intro ps
  induction ps with
  | nil => intro k h; exact ⟨fun p hp => by simp at hp, h⟩
  | cons p ps ih =>
    intro k h
    obtain ⟨h1, h2⟩ := h
    obtain ⟨h3, h4⟩ := ih h2
    exact ⟨fun q hq => by
      rcases List.mem_cons.1 hq with rfl | hq
      · exact h1
      · exact h3 q hq, h4⟩

theorem brS_iff {b : Bool} {t f : Prop} : brS b t f ↔ (b = true → t) ∧ (b = false → f) := by cases b <;> simp [brS]

theorem guardS_sound {ops : Array Oper} {yes no : List SV → Prop} (hg : guardS ops T o yes no) (h : Pre C T H σ φ a w) :
    (Region.wanted o (yielded ops a.tmps) = true ∧ ∃ T1, Pre C T1 H σ φ a w ∧ yes T1) ∨ (Region.wanted o (yielded ops a.tmps) = false ∧ ∃ T1, Pre C T1 H σ φ a w ∧ no T1) := by
  unfold guardS at hg
  split at hg
  · rename_i hgd
    exact .inl ⟨by simp [Region.wanted, hgd], T, h, hg⟩
  · rename_i j want hgd
    split at hg <;> try (exact hg.elim)
    rename_i d hd
    split at hg <;> try (exact hg.elim)
    case h_2 =>
      rename_i cs hb
      have hT : T[d]? = some (.one (.at (.val (.tuple cs)))) := by
        rw [List.getD_eq_getElem?_getD] at hb
        cases hT : T[d]? with
        | none => rw [hT] at hb; simp at hb
        | some x => rw [hT] at hb; simp at hb; rw [hb]
      obtain ⟨v, hv, hr⟩ := h.tm.get hT
      have hvb : v = .tuple cs := hr
      subst hvb
      have hy : yielded ops a.tmps j = none := by
        rw [Array.getElem?_toList] at hv
        simp [yielded, hd, hv]
      exact .inr ⟨by simp [Region.wanted, hgd, hy], _, h, hg⟩
    rename_i b hb
    have hT : T[d]? = some (.one (.at (.val (.bool b)))) := by
      rw [List.getD_eq_getElem?_getD] at hb
      cases hT : T[d]? with
      | none => rw [hT] at hb; simp at hb
      | some x => rw [hT] at hb; simp at hb; rw [hb]
    obtain ⟨v, hv, hr⟩ := h.tm.get hT
    have hvb : v = .bool b := hr
    subst hvb
    have hy : yielded ops a.tmps j = some b := by
      rw [Array.getElem?_toList] at hv
      simp [yielded, hd, hv]
    have hset : ∀ b', b = b' → Pre C (T.set d (vb b')) H σ φ a w := fun b' hb' => ⟨h.ok, by
      have := h.tm.set d (a := vb b') (b := .bool b) (by subst hb'; rfl)
      have e : a.tmps.toList.set d (.bool b) = a.tmps.toList := by
        apply List.ext_getElem?
        intro k
        rw [List.getElem?_set]
        split
        · rename_i hk
          subst hk
          split
          · exact hv.symm
          · rename_i hlt
            rw [List.getElem?_eq_none (by omega)] at hv
            cases hv
        · rfl
      rw [e] at this
      exact this, fun s hs m hm => by
      rcases List.mem_or_eq_of_mem_set hs with hs | rfl
      · exact h.tcl s hs m hm
      · simp [vb, SV.names, TV.names, At.names] at hm, h.sat⟩
    rw [brS_iff] at hg
    cases b with
    | true =>
      have hg := hg.1 rfl
      cases want with
      | true => exact .inl ⟨by simp [Region.wanted, hgd, hy], _, hset true rfl, hg⟩
      | false => exact .inr ⟨by simp [Region.wanted, hgd, hy], _, hset true rfl, hg⟩
    | false =>
      have hg := hg.2 rfl
      cases want with
      | true => exact .inr ⟨by simp [Region.wanted, hgd, hy], _, hset false rfl, hg⟩
      | false => exact .inl ⟨by simp [Region.wanted, hgd, hy], _, hset false rfl, hg⟩

variable {Γ : List (FuncId × Tfm C)} {trunc : Nat → Bool} {K : EK C} {Q : Exit → Act → World → Prop}

theorem dup_sound (hC : C.OK) (hs : Sat C σ φ w H) {n : Nat} {e : C.EC} {l : List (C.α e)} (hH : H[n]? = some (.row false e l)) :
    Grows C σ φ H (fun k => if k = H.length then σ n else σ k) (fun k => if k = H.length then (fun _ => False) else φ k) (H ++ [.row false e l]) w :=
  Grows.view hC hs _ _ (fun σ' => ⟨(hs.holds n _ hH).1, fun _ h => h⟩) rfl (fun e' l' he hpos b hb m hm => by
    injection he with _ he1 he2
    subst he1
    have he2 := eq_of_heq he2
    subst he2
    exact hs.imm n e l hH hpos b hb m hm)

theorem stepS_sound (hG : GOK C Γ) (h : Pre C T H σ φ a w) (hs : stepS C Γ trunc T H o K) : o.wp C.P a w (After C H σ φ a w K) Q := by
  have hq : ∀ {x : Q3 C}, x = quietS C T H o → (match x with | some (ps, s, H') => reqs ps (K [] (setT T o.dst s) H') | none => effS C Γ trunc T H o K) → o.wp C.P a w (After C H σ φ a w K) Q := by
    intro x hx hm
    split at hm
    · rename_i ps s H' 
      obtain ⟨h1, h2⟩ := reqs_iff hm
      obtain ⟨v, σ', φ', g, hv, hn, hrun⟩ := quietS_sound h h1 hx.symm
      exact wp_value (hrun w fun _ _ _ _ => rfl) ⟨_, _, _, _, _, quiet_out h g hv hn o.dst [], h2⟩
    · exact effS_sound hG h hm
  unfold stepS at hs
  split at hs
  · split at hs
    · exact effS_sound hG h hs
    · split at hs
      · rename_i ps s H' hx
        exact hq (x := some (ps, s, H')) hx.symm hs
      · exact hs.elim
  · rename_i x ho
    split at hs
    · split at hs <;> try (exact hs.elim)
      rename_i n hn
      split at hs
      case h_2 =>
        split at hs
        · rename_i ps s H' hx
          exact hq (x := some (ps, s, H')) hx.symm hs
        · exact hs.elim
      rename_i e l hH
      have hr := h.rel x
      rw [hn] at hr
      have ev : a.eval x = σ n := hr
      exact wp_value (v := a.eval x) (w' := w) (by simp [execOp, ho]) ⟨_, _, _, _, _, quiet_out h (dup_sound h.ok h.sat hH) (s := .one (.at (.slc H.length))) (by show a.eval x = _; simp [ev]) (by intro m hm; simp [SV.names, TV.names, At.names] at hm; subst hm; simp) o.dst [], hs⟩
    · split at hs
      · rename_i ps s H' hx
        exact hq (x := some (ps, s, H')) hx.symm hs
      · exact hs.elim
  · split at hs
    · rename_i ps s H' hx
      exact hq (x := some (ps, s, H')) hx.symm hs
    · exact effS_sound hG h hs

theorem seqS_sound (hG : GOK C Γ) {ops : Array Oper} {K : EK C} (hQ : ∀ {W T H σ φ a w}, St C B W T H σ φ a w → K W T H → Q .normal a w) : ∀ (rest : List Oper) {W : List Nat} {T : List SV} {H : List (Chunk C)} {σ : Nat → Value} {φ : Nat → Nat → Prop} {a : Act} {w : World},
    St C B W T H σ φ a w → seqS C Γ trunc ops K rest W T H → wpList C.P ops Q rest a w := by
  intro rest
  induction rest with
  | nil => intro W T H σ φ a w h hs; exact hQ h hs
  | cons o rest ih =>
    intro W T H σ φ a w h hs
    simp only [seqS] at hs
    unfold wpList
    rcases guardS_sound hs h.pre with ⟨hw, T1, hp, hy⟩ | ⟨hw, T1, hp, hy⟩
    · rw [if_pos hw]
      refine .inl (Oper.wp_mono (fun a' w' hh => ?_) (stepS_sound hG hp hy))
      obtain ⟨ts, T', H', σ', φ', he, hk⟩ := hh
      exact ih ((h.withT hp).step he) hk
    · rw [if_neg (by rw [hw]; simp)]
      exact ih ((h.withT hp).step (skip_out hp o.dst [])) hy

/-- The blocks that the loads of the region may read stay as they are. -/
def Stand (H : List (Chunk C)) (σ : Nat → Value) (Z : List Nat) (ws w : World) : Prop := ∀ n ∈ Z, ∀ b, Rdb H σ n b → w.heap[b]? = ws.heap[b]?

theorem conj_mem : ∀ {l : List Prop}, conj l → ∀ p ∈ l, p := by
  intro l
  induction l with
  | nil => intro _ p hp; simp at hp
  | cons q l ih =>
    intro h p hp
    cases l with
    | nil =>
      rcases List.mem_cons.1 hp with hp | hp
      · subst hp; exact h
      · cases hp
    | cons r l =>
      rcases List.mem_cons.1 hp with hp | hp
      · subst hp; exact h.1
      · exact ih h.2 p hp

theorem lateS_spec {ops : Array Oper} {j : Nat} (h : lateS trunc ops j = true) {i : Nat} {oi : Oper} (hi : ops[i]? = some oi) (hl : isLoad oi = true) {oj : Oper} (hj : ops[j]? = some oj) : ∃ e ∈ oj.after, Region.binds .any e = true ∧ e.on = i := by
  have hlt : i < ops.size := (Array.getElem?_eq_some_iff.1 hi).1
  unfold lateS at h
  rw [hj] at h
  simp only [Bool.and_eq_true] at h
  have h1 := List.all_eq_true.1 h.2 i (List.mem_range.2 hlt)
  simp only [hi, hl, Bool.not_true, Bool.false_or] at h1
  obtain ⟨e, he, h2⟩ := Array.any_eq_true'.1 h1
  simp only [Bool.and_eq_true, beq_iff_eq] at h2
  exact ⟨e, he, h2.2, h2.1⟩

theorem lateS_quiet {ops : Array Oper} {i : Nat} {oi : Oper} (hi : ops[i]? = some oi) (h : quietK trunc oi = true) : lateS trunc ops i = false := by
  unfold lateS
  rw [hi]
  simp [h]

theorem takeS_quiet {Z : List Nat} (h : takeS T Z trunc o = true) : quietK trunc o = true := by
  unfold takeS at h
  simp only [Bool.and_eq_true] at h
  exact h.1

theorem firstTake_spec {Z : List Nat} {ops : Array Oper} {listed : Array Bool} : ∀ {l : List Nat} {i : Nat}, firstTake T Z trunc ops listed l = some i → i ∈ l ∧ ∃ o, ops[i]? = some o ∧ takeS T Z trunc o = true ∧ Region.free .any ops listed i = true := by
  intro l
  induction l with
  | nil => intro i h; simp [firstTake] at h
  | cons k r ih =>
    intro i h
    simp only [firstTake] at h
    split at h
    · rename_i o ho
      split at h
      · rename_i hc
        simp only [Option.some.injEq] at h
        subst h
        simp only [Bool.and_eq_true] at hc
        exact ⟨List.mem_cons_self, o, ho, hc.1, hc.2⟩
      · obtain ⟨h1, h2⟩ := ih h
        exact ⟨List.mem_cons_of_mem _ h1, h2⟩
    · cases h

theorem readName_isLoad {n : Nat} (h : readName T o = some n) : isLoad o = true := by
  unfold readName at h
  unfold isLoad
  split at h
  · rename_i t x heq
    simp only [heq]
  · cases h

theorem takeS_name {Z : List Nat} (h : takeS T Z trunc o = true) {n : Nat} (hn : readName T o = some n) : n ∈ Z := by
  unfold takeS at h
  simp only [Bool.and_eq_true] at h
  have := h.2
  rw [hn] at this
  simpa using this

theorem anyS_sound (hG : GOK C Γ) {ops : Array Oper} {Z : List Nat} {K : EK C} (hQ : ∀ {W T H σ φ a w}, St C B W T H σ φ a w → K W T H → Q .normal a w) (hpanic : ∀ c a w, ¬ Q (.panic c) a w) (hsel : Region.noSelect ops = true)
    {Hs : List (Chunk C)} {σs : Nat → Value} {ws : World} (hZ : ∀ n ∈ Z, n < Hs.length) :
    ∀ (fuel : Nat) {listed : Array Bool} {W : List Nat} {T : List SV} {H : List (Chunk C)} {σ : Nat → Value} {φ : Nat → Nat → Prop} {a : Act} {w : World}, St C B W T H σ φ a w → Hs.length ≤ H.length →
      (NoLate (lateS trunc ops) listed → Stand Hs σs Z ws w ∧ ∀ n ∈ Z, ∀ b, Rdb H σ n b ↔ Rdb Hs σs n b) →
      (∀ (i : Nat) (oi : Oper), ops[i]? = some oi → isLoad oi = true → listed.getD i true = false → NoLate (lateS trunc ops) listed) →
      anyS C Γ trunc ops Z K fuel listed W T H → wpAnyL C.P ops Q (Stand Hs σs Z ws) (lateS trunc ops) fuel listed a w := by
  intro fuel
  induction fuel with
  | zero =>
    intro listed W T H σ φ a w h hlen _ _ hs
    simp only [anyS] at hs
    split at hs
    · rename_i hr; exact wpAnyL_done hr (hQ h hs) 0
    · exact hs.elim
  | succ fuel ih =>
    intro listed W T H σ φ a w h hlen hS hL hs
    simp only [anyS] at hs
    split at hs
    · rename_i hr; exact wpAnyL_done hr (hQ h hs) _
    · rename_i r rs hr
      have hback : ∀ {i : Nat}, i ∈ Region.ready .any ops listed → NoLate (lateS trunc ops) (listed.setIfInBounds i true) → NoLate (lateS trunc ops) listed ∧ lateS trunc ops i = false := by
        intro i hi hN
        have hlt := ready_lt hi
        have hli : lateS trunc ops i = false := by
          cases hl : lateS trunc ops i with
          | false => rfl
          | true =>
            have := hN i hl
            simp [hlt] at this
        refine ⟨fun k hk => ?_, hli⟩
        have := hN k hk
        by_cases hik : i = k
        · subst hik; rw [hli] at hk; cases hk
        · rwa [getD_set_ne true hik] at this
      have hLn : ∀ {i : Nat}, i ∈ Region.ready .any ops listed → ∀ (k : Nat) (ok : Oper), ops[k]? = some ok → isLoad ok = true → (listed.setIfInBounds i true).getD k true = false → NoLate (lateS trunc ops) (listed.setIfInBounds i true) := by
        intro i hi k ok hk hkl hku
        have hlt := ready_lt hi
        have hik : i ≠ k := fun e => by subst e; simp [hlt] at hku
        rw [getD_set_ne true hik] at hku
        have hN := hL k ok hk hkl hku
        obtain ⟨_, oi, hoi, _⟩ := mem_ready.1 hi
        intro j hj
        by_cases hij : i = j
        · subst hij
          obtain ⟨e, he, hb, heq⟩ := lateS_spec hj hk hkl hoi
          exact absurd heq (ready_waits hi hoi hku e he hb)
        · rw [getD_set_ne true hij]; exact hN j hj
      have hstand : ∀ {T1 : List SV} {i : Nat} {T' : List SV} {H' : List (Chunk C)} {σ' : Nat → Value} {φ' : Nat → Nat → Prop} {a' : Act} {w' : World} {ts : List Nat}, EOut C H σ φ a w ts T' H' σ' φ' a' w' → ts.any Z.contains = false → NoLate (lateS trunc ops) listed →
          Stand Hs σs Z ws w' ∧ ∀ n ∈ Z, ∀ b, Rdb H' σ' n b ↔ Rdb Hs σs n b := by
        intro T1 i T' H' σ' φ' a' w' ts he hts hN
        obtain ⟨h1, h2⟩ := hS hN
        have hnt : ∀ n ∈ Z, n ∉ ts := fun n hn hnt => by
          have := List.any_eq_false.1 hts n hnt
          simp [hn] at this
        have hlt : ∀ n ∈ Z, n < H.length := fun n hn => Nat.lt_of_lt_of_le (hZ n hn) hlen
        refine ⟨fun n hn b hb => ?_, fun n hn b => ((he.touch n (hlt n hn) (hnt n hn)).1 b).trans (h2 n hn b)⟩
        have hb' := (h2 n hn b).2 hb
        have hbs : b < w.heap.size := by
          rcases hb' with ⟨e1, cells, hc⟩ | ⟨e1, own, e, l, hc, hpos⟩
          · obtain ⟨b', t, cs, h3, h4, h5, _⟩ := h.pre.sat.holds n _ hc
            rw [e1] at h3
            obtain rfl : b = b' := by simpa using h3
            exact (Array.getElem?_eq_some_iff.1 h5).1
          · cases own with
            | true => exact ((h.pre.sat.holds n _ hc).1.lt b e1).2
            | false => exact (h.pre.sat.holds n _ hc).1.lt hpos e1
        exact ((he.touch n (hlt n hn) (hnt n hn)).2 b hb' hbs).trans (h1 n hn b hb)
      split at hs
      · rename_i i hft
        obtain ⟨him, o, hoi, htk0, hfree⟩ := firstTake_spec hft
        rw [← hr] at him
        simp only [hoi] at hs
        have hsel' := Region.noSelect_spec hsel
        have hfree' := Region.free_spec hoi hfree
        have hli := lateS_quiet (trunc := trunc) hoi (takeS_quiet htk0)
        rcases guardS_sound hs h.pre with ⟨hw, T1, hp, hy⟩ | ⟨hw, T1, hp, hy⟩
        · split at hy <;> try (exact hy.elim)
          rename_i ps s H' hx
          split at hx <;> try (cases hx; done)
          rename_i htk
          obtain ⟨h1, h2⟩ := reqs_iff hy
          obtain ⟨v, σ', φ', g, hv, hn, hrun⟩ := quietS_sound hp h1 hx
          have he := quiet_out hp g hv hn o.dst []
          have hnext := ih ((h.withT hp).step he) (Nat.le_trans hlen he.len) (fun hN => hstand (T1 := T1) (i := i) he (by simp) (hback him hN).1) (hLn him) h2
          cases hrn : readName T1 o with
          | none =>
            exact wpAnyL_take (Si := fun _ => True) hoi hsel' (fun c a w hc => absurd hc (hpanic c _ w)) hli (.inl fun _ => trivial) fuel listed a w (.inl fun _ => trivial) hfree' him (.inl ⟨hw, fun w' _ => hrun w' fun n hn => by rw [hrn] at hn; cases hn⟩) trivial hnext
          | some n =>
            have hld := readName_isLoad hrn
            have hN := hL i o hoi hld (mem_ready.1 him).1
            obtain ⟨hS1, hS2⟩ := hS hN
            have hnZ : n ∈ Z := takeS_name htk hrn
            exact wpAnyL_take (Si := Stand Hs σs Z ws) hoi hsel' (fun c a w hc => absurd hc (hpanic c _ w)) hli (.inr ⟨fun _ h => h, fun _ h => h, fun j oj hj hl => lateS_spec hl hoi hld hj⟩) fuel listed a w (.inr hN) hfree' him (.inl ⟨hw, fun w' hw' => hrun w' fun m hm b hb => by
              rw [hrn] at hm
              simp only [Option.some.injEq] at hm
              subst hm
              have hb' := (hS2 n hnZ b).1 hb
              exact (hw' n hnZ b hb').trans (hS1 n hnZ b hb').symm⟩) hS1 hnext
        · have he := skip_out hp o.dst []
          have hnext := ih ((h.withT hp).step he) (Nat.le_trans hlen he.len) (fun hN => hstand (T1 := T1) (i := i) he (by simp) (hback him hN).1) (hLn him) hy
          exact wpAnyL_take (Si := fun _ => True) hoi hsel' (fun c a w hc => absurd hc (hpanic c _ w)) hli (.inl fun _ => trivial) fuel listed a w (.inl fun _ => trivial) hfree' him (.inr ⟨hw, rfl⟩) trivial hnext
      · refine ⟨fun h0 => (by rw [h0] at hr; cases hr), fun i hi => ?_⟩
        have hi' := hi
        rw [hr] at hi'
        have hp := conj_mem hs _ (List.mem_map.2 ⟨i, hi', rfl⟩)
        obtain ⟨_, oi, hoi, _⟩ := mem_ready.1 hi
        simp only [hoi] at hp
        unfold wpOp
        simp only [hoi]
        rcases guardS_sound hp h.pre with ⟨hw, T1, hpre, hy⟩ | ⟨hw, T1, hpre, hy⟩
        · rw [if_pos hw]
          refine .inl (Oper.wp_mono (fun a' w' hh => ?_) (stepS_sound hG hpre hy))
          obtain ⟨ts, T', H', σ', φ', he, hk⟩ := hh
          split at hk
          · rename_i hc
            have hc' : lateS trunc ops i = true ∨ ts.any Z.contains = false := by simpa using hc
            refine ⟨fun hl hN _ => ?_, ih ((h.withT hpre).step he) (Nat.le_trans hlen he.len) (fun hN => ?_) (hLn hi) hk⟩
            · rcases hc' with hc' | hc'
              · rw [hl] at hc'; cases hc'
              · exact (hstand (T1 := T1) (i := i) he hc' hN).1
            · obtain ⟨hN', hl⟩ := hback hi hN
              rcases hc' with hc' | hc'
              · rw [hl] at hc'; cases hc'
              · exact hstand (T1 := T1) (i := i) he hc' hN'
          · exact hk.elim
        · rw [if_neg (by rw [hw]; simp)]
          have he := skip_out hpre oi.dst []
          exact ⟨fun _ _ hS0 => hS0, ih ((h.withT hpre).step he) (Nat.le_trans hlen he.len) (fun hN => hstand (T1 := T1) (i := i) he (by simp) (hback hi hN).1) (hLn hi) hy⟩
end
end Go.Proofs.Ytacdmmomkngpkaa.Sx
