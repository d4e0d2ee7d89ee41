/- The symbolic run is sound: rows that grow or shrink in place; calls. No program in sight. -/
import Derived.Test.YtacdmmomkngpkaaSxH
namespace Go.Proofs.Ytacdmmomkngpkaa.Sx
open Go

section
variable {C : Ctx}
variable {T : List SV} {H : List (Chunk C)} {o : Oper} {σ : Nat → Value} {φ : Nat → Nat → Prop} {a : Act} {w : World} {ps : List Prop} {s : SV} {H' : List (Chunk C)}
variable {K : EK C} {Γ : List (FuncId × Tfm C)} {trunc : Nat → Bool} {Q : Exit → Act → World → Prop}

theorem ren_sound (hC : C.OK) (h : Pre C T H σ φ a w) {σ1 : Nat → Value} {φ1 : Nat → Nat → Prop} {H1 : List (Chunk C)} (g : Grows C σ φ H σ1 φ1 H1 w) {n : Nat} {e : C.EC} {l l' : List (C.α e)} (hH : H1[n]? = some (.row true e l))
    {w' : World} {v' : Value} {f' : Nat → Prop} (dst : Option Nat) (hsz : w.heap.size ≤ w'.heap.size) (hos : w'.os = w.os) (htp : w'.tape = w.tape) (hop : w'.output = w.output) (hfr : ∀ k, k < w.heap.size → ¬ φ1 n k → w'.heap[k]? = w.heap[k]?)
    (hc : w'.ownsRow 0 (C.tid e) (C.sz e) v' l'.length (flat C e l')) (hf : ∀ b, f' b ↔ v'.ownBlock = some b) (hgr : ∀ b, f' b → φ1 n b ∨ w.heap.size ≤ b) :
    EOut C H σ φ a w [n] (setT (T.map (SV.kill n)) dst (.one (.at (.slc n)))) ((H1.map (Chunk.kill n)).set n (.row true e l')) (fun k => if k = n then v' else σ1 k) (fun k => if k = n then f' else φ1 k) (a.put dst v') w' := by
  have hn : n < H1.length := (List.getElem?_eq_some_iff.1 hH).1
  have hnk : n < (H1.map (Chunk.kill n)).length := by simpa using hn
  have hag : ∀ k, k < H.length → k ≠ n → (if k = n then v' else σ1 k) = σ k := fun k hk hne => by rw [if_neg hne]; exact g.agree k hk
  have hrow : ∀ k, k ≠ n → ((H1.map (Chunk.kill n)).set n (.row true e l'))[k]? = (H1[k]?).map (Chunk.kill n) := fun k hne => by rw [List.getElem?_set_ne (Ne.symm hne), List.getElem?_map]
  refine ⟨put_rel (s := .one (.at (.slc n))) ?_ (by show v' = _; simp) dst, fun x hx m hm => ?_, ?_, ⟨hos, htp, hop, hsz, fun k hk hno => hfr k hk fun hh => hno n (g.sub n k hh), fun k b hb => ?_⟩, by have := g.len; simp; omega, put_defers _ _, fun k hk ho => ?_, fun k hk ho => ?_, fun k hk hkn => ?_, fun k hk hkn => hag k hk (fun e' => hkn (by simp [e']))⟩
  · have h0 : Rels (SV.rel σ) (T.map (SV.kill n)) a.tmps.toList := rels_killS h.tm
    refine h0.mono fun x v hx hr => SV.rel_of hr fun m hm => ?_
    obtain ⟨y, hy, rfl⟩ := List.mem_map.1 hx
    have := SV.kill_names m hm
    exact hag m (h.tcl y hy m this.1) this.2
  · have := g.len
    rcases setT_mem hx with hx | rfl
    · obtain ⟨y, hy, rfl⟩ := List.mem_map.1 hx
      have := h.tcl y hy m (SV.kill_names m hm).1
      simp; omega
    · simp [SV.names, TV.names, At.names] at hm
      subst hm
      simpa using hn
  · refine (g.sat.kill n).step hC (fun k => k = n) hsz (fun k hk hno => hfr k hk (hno n rfl)) (fun k hk => ?_) (fun k c hk hc' m hm => ?_) (fun k c hk hc' => ?_) (fun k b hk hb => ?_) (fun k m b hk hm _ _ => hk.trans hm.symm) (fun k b hk hb => ?_)
      (fun k e' l'' hk hc' => ?_) (fun k hk b hb => ?_) (by simp) (fun k c hk hc' m hm => ?_)
    · have hne : ¬ k = n := hk
      exact ⟨by rw [List.getElem?_set_ne (Ne.symm hne)], by simp [hne], fun b => by simp [hne]⟩
    · rw [List.getElem?_map] at hc'
      cases hl : H1[k]? with
      | none => rw [hl] at hc'; cases hc'
      | some d =>
        rw [hl] at hc'; simp at hc'; subst hc'
        simp [(Chunk.kill_names m hm).2]
    · have hk' : k = n := hk
      subst hk'
      rw [List.getElem?_set_self hnk] at hc'
      simp only [Option.some.injEq] at hc'
      subst hc'
      simp only [if_true]
      exact ⟨hc, hf⟩
    · have hk' : k = n := hk
      subst hk'
      simp only [if_true] at hb
      rcases hgr b hb with h1 | h1
      · exact .inl ⟨k, rfl, h1⟩
      · exact .inr h1
    · have hk' : k = n := hk
      subst hk'
      simp only [if_true] at hb
      exact (hc.lt b ((hf b).1 hb)).2
    · have hk' : k = n := hk
      subst hk'
      rw [List.getElem?_set_self hnk] at hc'
      simp at hc'
    · rw [List.length_set, List.length_map] at hk
      rw [if_neg (by omega)] at hb
      exact g.sat.out k hk b hb
    · have hk' : k = n := hk
      subst hk'
      rw [List.getElem?_set_self hnk] at hc'
      simp only [Option.some.injEq] at hc'
      subst hc'
      simp [Chunk.names] at hm
  · by_cases e' : k = n
    · subst e'
      simp only [if_true] at hb
      rcases hgr b hb with h1 | h1
      · exact .inl ⟨k, g.sub k b h1⟩
      · exact .inr h1
    · simp only [if_neg e'] at hb
      exact .inl ⟨k, g.sub k b hb⟩
  · refine hag k hk fun e' => ?_
    subst e'
    have := g.own k hk (by simp [isOwn, hH])
    rw [this] at ho; cases ho
  · by_cases e' : k = n
    · subst e'; exact g.own k hk (by simp [isOwn, hH])
    · refine g.own k hk ?_
      rw [isOwn, hrow k e'] at ho
      have := isOwn_kill (H := H1) (n := n) (k := k)
      rw [isOwn, List.getElem?_map] at this
      rw [← this]; exact ho
  · have hne : k ≠ n := fun e' => hkn (by simp [e'])
    refine ⟨fun b => ?_, fun b hb hlt => hfr b hlt fun hφ => hne (rdb_apart h.sat hb (g.sub n b hφ))⟩
    rw [← g.rdb k hk b]
    unfold Rdb
    rw [hrow k hne]
    simp only [if_neg hne]
    cases hl : H1[k]? with
    | none => simp
    | some d => cases d <;> simp [Chunk.kill]

theorem e_trunc {t : TypeId} {x hi : Operand} (h : Pre C T H σ φ a w) (ho : o.op = .slice t x none (some hi) none) (he : effS C Γ trunc T H o K) : o.wp C.P a w (After C H σ φ a w K) Q := by
  have hx := h.rel x
  simp only [effS, ho] at he
  split at he <;> try (exact he.elim)
  split at he <;> try (exact he.elim)
  rename_i n b hcx hb
  rw [hcx] at hx
  split at he <;> try (exact he.elim)
  rename_i e l hH
  split at he <;> try (exact he.elim)
  rename_i hec
  obtain ⟨h0, h1, hK⟩ := he
  have ex : a.eval x = σ n := hx
  obtain ⟨k, hk⟩ := trueInt_val h hb
  obtain ⟨ti, z, hti, _, hsz, _⟩ := h.ok.info e
  obtain ⟨⟨q1, q2⟩, q3⟩ := h.sat.holds n _ hH
  have hfl := flat_len h.ok e
  rcases q2 with ⟨q2, q4⟩ | ⟨g, cap, cur, q2, _, hg, hnc, hcm, hcs, htk⟩
  · have hb0 : b = 0 := by omega
    subst hb0
    have hrun := run_sliceAt (P := C.P) (A := none) (len := 0) (cap := 0) (low := none) (high := some (.int k 0)) (i := 0) (j := 0) (isEC_spec h.ok hec) hti (.inl ⟨rfl, rfl⟩) (.inr ⟨k, rfl⟩) (by omega) (by omega) (by omega) w
    refine wp_value (v := .slice none 0 0) (w' := w) (by (try simp at hrun); simp [execOp, ho, ex, q2, hk, hrun]) ⟨_, _, _, _, _, ren_sound h.ok h (Grows.refl h.sat) hH (l' := l.take (0 : Int).toNat) (v' := .slice none 0 0) (f' := φ n) o.dst (Nat.le_refl _) rfl rfl rfl (fun _ _ _ => rfl) ?_ (fun b => by rw [q3 b, q2]) (fun b hb => .inl hb), hK⟩
    simpa [flat] using World.ownsRow_nil w 0 (C.tid e) (C.sz e)
  · have hrun := run_sliceAt (P := C.P) (A := some ⟨g, 0, none⟩) (len := l.length) (cap := cap) (low := none) (high := some (.int k b)) (i := 0) (j := b) (isEC_spec h.ok hec) hti (.inl ⟨rfl, rfl⟩) (.inr ⟨k, rfl⟩) (by omega) h0 (by omega) w
    have hv : (Value.slice (if cap = (0 : Int).toNat then some (⟨g, 0, none⟩ : Addr) else (some (⟨g, 0, none⟩ : Addr)).map (·.add ((0 : Int).toNat * ti.size))) (b.toNat - (0 : Int).toNat) (cap - (0 : Int).toNat)) = .slice (some ⟨g, 0, none⟩) b.toNat cap := by
      simp [Addr.add]
    rw [hv] at hrun
    have hbl : (l.take b.toNat).length = b.toNat := by simp; omega
    refine wp_value (v := .slice (some ⟨g, 0, none⟩) b.toNat cap) (w' := w) (by (try simp at hrun); simp [execOp, ho, ex, q2, hk, hrun]) ⟨_, _, _, _, _, ren_sound h.ok h (Grows.refl h.sat) hH (l' := l.take b.toNat) (v' := .slice (some ⟨g, 0, none⟩) b.toNat cap) (f' := φ n) o.dst (Nat.le_refl _) rfl rfl rfl (fun _ _ _ => rfl) ?_ (fun b => by rw [q3 b, q2]; rfl) (fun b hb => .inl hb), hK⟩
    refine ⟨hfl _, .inr ⟨g, cap, cur, by rw [hbl], Nat.zero_le _, hg, by rw [hbl]; omega, hcm, hcs, ?_⟩⟩
    rw [hbl]
    have e1 : flat C e l = flat C e (l.take b.toNat) ++ flat C e (l.drop b.toNat) := by
      unfold flat
      rw [← List.flatMap_append, List.take_append_drop]
    have e2 : (cur.toList.take (l.length * C.sz e)).take (b.toNat * C.sz e) = cur.toList.take (b.toNat * C.sz e) := by
      rw [List.take_take, Nat.min_eq_left (Nat.mul_le_mul_right _ (by omega))]
    rw [← e2, htk, e1]
    apply List.take_left'
    rw [hfl, hbl]

theorem e_append {c : Call} {x y : Operand} {t : TypeId} (h : Pre C T H σ φ a w) (ho : o.op = .call c) (hcal : c.callee = .builtin .append) (hargs : c.args.toList = [x, y]) (hty : c.argTypes.toList = [t, t])
    {σ1 : Nat → Value} {φ1 : Nat → Nat → Prop} {H1 : List (Chunk C)} (g : Grows C σ φ H σ1 φ1 H1 w) {n : Nat} {e : C.EC} {l : List (C.α e)} (hx : a.eval x = σ1 n) (hH : H1[n]? = some (.row true e l)) (hec : elemEC C t = some e)
    {A : Option Addr} {m cp : Nat} {ys : List (C.α e)} (hy : a.eval y = .slice A m cp) (hsrc : Rd (C.enc e) (C.sz e) w A m cp ys) (hb : A ≠ none → (l.length + ys.length) * bytesOf C e ≤ 140737488355328)
    (hK : K [n] (setT (T.map (SV.kill n)) o.dst (.one (.at (.slc n)))) ((H1.map (Chunk.kill n)).set n (.row true e (l ++ ys)))) : o.wp C.P a w (After C H σ φ a w K) Q := by
  obtain ⟨i, z, hi, hz, hsz, hzc, hbp⟩ := h.ok.info e
  rw [bytesOf_spec hi] at hb
  obtain ⟨q1, q3⟩ := g.sat.holds n _ hH
  have hty' : c.argTypes = #[t, t] := Array.ext' (by simpa using hty)
  have hexec : ∀ {v' : Value} {w' : World}, (Builtin.append_ #[t, t] o.type #[σ1 n, .slice A m cp]).run C.P w = .ok v' w' → (execOp a.eval o).run C.P w = .ok (.value v') w' := by
    intro v' w' hr
    have e1 : c.args.map a.eval = #[σ1 n, .slice A m cp] := by rw [map_eval2 hargs, hx, hy]
    simp [execOp, ho, resolve, hcal, invoke, builtin, e1, hty', hr]
  have hm := hsrc.len
  cases A with
  | none =>
    have hcp := hsrc.nul rfl
    have hle := hsrc.cap
    have hm0 : m = 0 := by omega
    have hys : ys = [] := List.eq_nil_of_length_eq_zero (by omega)
    subst hys hm0 hcp
    have hr := run_append_owned_none (P := C.P) (w := w) 0 t o.type (C.tid e) i (C.sz e) (elemEC_spec h.ok hec) hi (σ1 n) l.length _ q1
    refine wp_value (hexec hr) ⟨_, _, _, _, _, ren_sound h.ok h g hH (l' := l ++ []) (v' := σ1 n) (f' := φ1 n) o.dst (Nat.le_refl _) rfl rfl rfl (fun _ _ _ => rfl) (by simpa using q1) q3 (fun b hb => .inl hb), hK⟩
  | some ad =>
    have hb := hb (by simp)
    have hbm : l.length + ys.length ≤ 140737488355328 := Nat.le_trans (Nat.le_mul_of_pos_right _ hbp) hb
    have hnews : ∀ (j : Nat) (u : Value), (flat C e ys)[j]? = some u → w.cell? (ad.add j) = some u := by
      intro j u hu
      have hj : j < (flat C e ys).length := (List.getElem?_eq_some_iff.1 hu).1
      rw [flat_len h.ok] at hj
      have hp := h.ok.pos e
      have hq : j / C.sz e < ys.length := Nat.div_lt_of_lt_mul (by rw [Nat.mul_comm]; exact hj)
      have hp0 : 0 < ys.length := Nat.lt_of_le_of_lt (Nat.zero_le _) hq
      obtain ⟨b, o', e1, hlt, hc⟩ := hsrc.get (by omega)
      simp only [Option.some.injEq] at e1
      subst e1
      have hr : j % C.sz e < C.sz e := Nat.mod_lt _ hp
      have hd : j = j / C.sz e * C.sz e + j % C.sz e := by rw [Nat.mul_comm]; exact (Nat.div_add_mod j (C.sz e)).symm
      rw [hd, flat_at h.ok (List.getElem?_eq_getElem hq) hr] at hu
      rw [Addr.add_lit, hd, ← Nat.add_assoc]
      exact hc _ _ (List.getElem?_eq_getElem hq) _ u hu
    have hl : (flat C e ys).length = m * C.sz e := by rw [flat_len h.ok, hm]
    have hbytes : (l.length + m) * i.bytes ≤ 140737488355328 := by rw [hm]; exact hb
    have h63 : l.length + m ≤ maxLen := by unfold maxLen; omega
    have hzs : z.cells.size = C.sz e := by rw [← Array.length_toList, hzc, h.ok.len]
    obtain ⟨v', w', hr, hown, hgr, _⟩ := run_append_own (P := C.P) w 0 t o.type (C.tid e) i z (C.sz e) i.bytes (elemEC_spec h.ok hec) hi hz hsz rfl hzs (h.ok.pos e) (σ1 n) l.length _ q1 ad m cp (flat C e ys) hl hnews (flat_one h.ok e ys) h63 hbytes (Nat.zero_le _)
    have hblk := append_block (P := C.P) (elemEC_spec h.ok hec) hi hz hsz rfl (h.ok.pos e) q1 hl hnews (flat_one h.ok e ys) h63 hbytes hr
    refine wp_value (hexec hr) ⟨_, _, _, _, _, ren_sound h.ok h g hH (l' := l ++ ys) (v' := v') (f' := fun b => v'.ownBlock = some b) o.dst hgr.size hgr.os hgr.tape hgr.output (fun k hk hno => hgr.block k hk fun e' => hno ((q3 k).2 e'.symm)) ?_ (fun b => Iff.rfl) (fun b hb => ?_), hK⟩
    · rw [List.length_append, ← hm]
      have : flat C e (l ++ ys) = flat C e l ++ flat C e ys := by simp [flat]
      rw [this]; exact hown
    · rcases hblk b hb with h1 | h1
      · exact .inl ((q3 b).2 h1)
      · exact .inr h1

/-- What a call leaves. -/
structure COut (C : Ctx) (H : List (Chunk C)) (σ : Nat → Value) (φ : Nat → Nat → Prop) (w : World) (ts : List Nat) (r : SV) (v : Value) (H' : List (Chunk C)) (σ' : Nat → Value) (φ' : Nat → Nat → Prop) (w' : World) : Prop where
  rel : r.rel σ' v
  rcl : ∀ m ∈ r.names, m < H'.length
  sat : Sat C σ' φ' w' H'
  adv : Adv φ w φ' w'
  len : H.length ≤ H'.length
  agree : ∀ n, n < H.length → isOwn H n = false ∨ n ∉ ts → σ' n = σ n
  own : ∀ n, n < H.length → isOwn H' n = true → isOwn H n = true
  touch : ∀ n, n < H.length → n ∉ ts → (∀ b, Rdb H' σ' n b ↔ Rdb H σ n b) ∧ ∀ b, Rdb H σ n b → b < w.heap.size → w'.heap[b]? = w.heap[b]?

def COk (C : Ctx) (H : List (Chunk C)) (σ : Nat → Value) (φ : Nat → Nat → Prop) (w : World) (K : SV → List (Chunk C) → List Nat → Prop) : Ending → World → Prop
  | .returned v, w' => ∃ r H' ts σ' φ', COut C H σ φ w ts r v H' σ' φ' w' ∧ K r H' ts
  | _, _ => False

/-- The call returns, and K holds of what it leaves. -/
def CallOK (C : Ctx) (f : FuncId) (args : List TV) (H : List (Chunk C)) (K : SV → List (Chunk C) → List Nat → Prop) : Prop :=
  ∀ σ φ w vs, Sat C σ φ w H → Rels (TV.rel σ) args vs → (∀ x ∈ args, ∀ m ∈ x.names, m < H.length) → Calls C.P f vs.toArray w (COk C H σ φ w K)

structure SoundT (C : Ctx) (f : FuncId) (t : Tfm C) : Prop where
  enter : ∀ args w, (callFunc f args).run C.P w = .ok (.enter f args) w
  call : ∀ args H K, t args H K → CallOK C f args H K

def GOK (C : Ctx) : List (FuncId × Tfm C) → Prop
  | [] => True
  | (f, t) :: r => SoundT C f t ∧ GOK C r

theorem getG_sound : ∀ {Γ : List (FuncId × Tfm C)} {f : FuncId} {t : Tfm C}, GOK C Γ → getG C Γ f = some t → SoundT C f t := by
  intro Γ
  induction Γ with
  | nil => intro f t _ h; simp [getG] at h
  | cons p r ih =>
    obtain ⟨g, t'⟩ := p
    intro f t hok h
    simp only [getG] at h
    split at h
    · rename_i e
      subst e
      simp only [Option.some.injEq] at h
      subst h
      exact hok.1
    · exact ih hok.2 h

theorem atsOf_rel : ∀ {l : List SV} {xs : List TV} {vs : List Value}, atsOf l = some xs → Rels (SV.rel σ) l vs → Rels (TV.rel σ) xs vs ∧ ∀ x ∈ xs, (SV.one x) ∈ l := by
  intro l
  induction l with
  | nil => intro xs vs h hr; simp [atsOf] at h; subst h; exact ⟨⟨hr.1, fun i a b ha => by simp at ha⟩, fun x hx => by cases hx⟩
  | cons s l ih =>
    intro xs vs h hr
    cases s with
    | tup _ => simp [atsOf] at h
    | one x =>
      simp only [atsOf, Option.map_eq_some_iff] at h
      obtain ⟨xs', h1, rfl⟩ := h
      match vs, hr with
      | [], hr => exact absurd hr.1 (by simp)
      | v :: vs, hr =>
        obtain ⟨h2, h3⟩ := ih h1 (vs := vs) ⟨by simpa using hr.1, fun i x y hx hy => hr.2 (i + 1) x y (by simpa using hx) (by simpa using hy)⟩
        refine ⟨Rels.cons (hr.2 0 _ _ rfl rfl) h2, fun y hy => ?_⟩
        rcases List.mem_cons.1 hy with rfl | hy
        · exact List.mem_cons_self
        · exact List.mem_cons_of_mem _ (h3 y hy)

theorem foldl_kill_rel : ∀ (ks : List Nat) {T : List SV} {vs : List Value}, Rels (SV.rel σ) T vs → Rels (SV.rel σ) (ks.foldl (fun T n => T.map (SV.kill n)) T) vs := by
  intro ks
  induction ks with
  | nil => intro T vs h; exact h
  | cons k ks ih => intro T vs h; exact ih (rels_killS h)
theorem foldl_kill_names : ∀ (ks : List Nat) {T : List SV}, ∀ x ∈ (ks.foldl (fun T n => T.map (SV.kill n)) T), ∀ m ∈ x.names, (∃ y ∈ T, m ∈ y.names) ∧ m ∉ ks := by
  intro ks
  induction ks with
  | nil => intro T x hx m hm; exact ⟨⟨x, hx, hm⟩, by simp⟩
  | cons k ks ih =>
    intro T x hx m hm
    obtain ⟨⟨y, hy, h1⟩, h2⟩ := ih x hx m hm
    obtain ⟨z, hz, rfl⟩ := List.mem_map.1 hy
    have := SV.kill_names m h1
    exact ⟨⟨z, hz, this.1⟩, by simp [this.2, h2]⟩

theorem nilFix_tv {H : List (Chunk C)} {t : TypeId} {x : TV} : ∃ y, (nilFix C H t (.one x)).1 = .one y := by
  unfold nilFix
  split
  · split <;> exact ⟨_, rfl⟩
  · exact ⟨_, rfl⟩

theorem nilArgs_sound (hC : C.OK) {w : World} : ∀ (l : List TV) (ts : List TypeId) {σ : Nat → Value} {φ : Nat → Nat → Prop} {H : List (Chunk C)} {cs : List Value}, Sat C σ φ w H → Rels (TV.rel σ) l cs → (∀ a ∈ l, ∀ m ∈ a.names, m < H.length) →
    ∃ σ' φ', Grows C σ φ H σ' φ' (nilArgs C H l ts).2 w ∧ Rels (TV.rel σ') (nilArgs C H l ts).1 cs ∧ (∀ a ∈ (nilArgs C H l ts).1, ∀ m ∈ a.names, m < (nilArgs C H l ts).2.length) := by
  intro l
  induction l with
  | nil => intro ts σ φ H cs h hr hn; cases ts <;> exact ⟨σ, φ, Grows.refl h, hr, hn⟩
  | cons x l ih =>
    intro ts σ φ H cs h hr hn
    cases ts with
    | nil => exact ⟨σ, φ, Grows.refl h, hr, hn⟩
    | cons t ts =>
      match cs, hr with
      | [], hr => exact absurd hr.1 (by simp)
      | c :: cs, hr =>
        have hrc : TV.rel σ x c := hr.2 0 _ _ rfl rfl
        have hrt : Rels (TV.rel σ) l cs := ⟨by simpa using hr.1, fun i x y hx hy => hr.2 (i + 1) x y (by simpa using hx) (by simpa using hy)⟩
        obtain ⟨σ1, φ1, g1, r1, n1⟩ := nilFix_sound hC h t (s := .one x) (v := c) hrc (hn x (by simp))
        obtain ⟨y, hy⟩ := nilFix_tv (C := C) (H := H) (t := t) (x := x)
        have hrt1 : Rels (TV.rel σ1) l cs := hrt.mono fun x y hx hxy => TV.rel_of hxy fun m hm => g1.agree m (hn x (by simp [hx]) m hm)
        obtain ⟨σ2, φ2, g2, r2, n2⟩ := ih ts g1.sat hrt1 (fun x hx m hm => Nat.lt_of_lt_of_le (hn x (by simp [hx]) m hm) g1.len)
        have he : nilArgs C H (x :: l) (t :: ts) = (y :: (nilArgs C (nilFix C H t (.one x)).2 l ts).1, (nilArgs C (nilFix C H t (.one x)).2 l ts).2) := by
          rw [nilArgs]
          generalize nilFix C H t (.one x) = q at *
          obtain ⟨q1, q2⟩ := q
          simp only at hy
          subst hy
          rfl
        rw [he]
        rw [hy] at r1 n1
        have n1' : ∀ m ∈ y.names, m < (nilFix C H t (.one x)).2.length := fun m hm => n1 m hm
        refine ⟨σ2, φ2, g1.trans g2, Rels.cons (TV.rel_of (show TV.rel σ1 y c from r1) fun m hm => g2.agree m (n1' m hm)) r2, fun z hz m hm => ?_⟩
        rcases List.mem_cons.1 hz with rfl | hz
        · exact Nat.lt_of_lt_of_le (n1' m hm) g2.len
        · exact n2 z hz m hm

theorem e_callf {c : Call} {x : Operand} (hG : GOK C Γ) (h : Pre C T H σ φ a w) (ho : o.op = .call c) (hcal : c.callee = .value x) (he : effS C Γ trunc T H o K) (hQ : True) : o.wp C.P a w (After C H σ φ a w K) Q := by
  simp only [effS, ho, hcal] at he
  split at he <;> try (exact he.elim)
  rename_i g cs xs hf hxs
  split at he <;> try (exact he.elim)
  rename_i t ht
  have hS := getG_sound hG ht
  have hfr := h.rel x
  have hfn := h.nm x
  rw [hf] at hfr hfn
  have e1 : a.eval x = .func (.func g) #[] (cs.map σ).toArray := hfr.1
  obtain ⟨hr1, hm1⟩ := atsOf_rel hxs (rels_map_eval h c.args.toList)
  obtain ⟨σ1, φ1, gr, hr1, hn1⟩ := nilArgs_sound h.ok (w := w) xs c.argTypes.toList h.sat hr1 (fun y hy m hm => by
    obtain ⟨q, _, hq⟩ := List.mem_map.1 (hm1 y hy)
    exact h.nm q m (by rw [hq]; exact hm))
  have hcs : cs.map σ = cs.map σ1 := List.map_congr_left fun n hn => (gr.agree n (hfn n hn)).symm
  have hr2 : Rels (TV.rel σ1) ((nilArgs C H xs c.argTypes.toList).1 ++ cs.map fun n => .at (.ptr n 0)) (c.args.toList.map a.eval ++ cs.map σ) := hr1.append ⟨by simp, fun i y v hy hv => by
    rw [List.getElem?_map] at hy hv
    cases hi : cs[i]? with
    | none => rw [hi] at hy; cases hy
    | some n =>
      rw [hi] at hy hv
      simp only [Option.map_some, Option.some.injEq] at hy hv
      subst hy hv
      obtain ⟨b, hb⟩ := hfr.2 n (List.mem_of_getElem? hi)
      exact ⟨b, (gr.agree n (hfn n (List.mem_of_getElem? hi))).trans hb, hb⟩⟩
  have hcl : ∀ y ∈ (nilArgs C H xs c.argTypes.toList).1 ++ cs.map (fun n => TV.at (.ptr n 0)), ∀ m ∈ y.names, m < (nilArgs C H xs c.argTypes.toList).2.length := fun y hy m hm => by
    rcases List.mem_append.1 hy with hy | hy
    · exact hn1 y hy m hm
    · obtain ⟨n, hn, rfl⟩ := List.mem_map.1 hy
      simp [TV.names, At.names] at hm
      subst hm
      exact Nat.lt_of_lt_of_le (hfn m hn) gr.len
  have hC := hS.call _ _ _ he σ1 φ1 w _ gr.sat hr2 hcl
  have hrun : (execOp a.eval o).run C.P w = .ok (.enter g (c.args.toList.map a.eval ++ cs.map σ).toArray) w := by
    have := hS.enter (c.args.map a.eval ++ (cs.map σ).toArray) w
    have e2 : (c.args.toList.map a.eval ++ cs.map σ).toArray = c.args.map a.eval ++ (cs.map σ).toArray := by
      apply Array.ext'
      simp
    rw [e2]
    simp [execOp, ho, resolve, hcal, e1, Deferred.ofValue, invoke, this]
  unfold Oper.wp
  rw [hrun]
  refine Calls.mono hC fun e w' hh => ?_
  cases e with
  | panicked ch => exact hh.elim
  | outgrown => exact hh.elim
  | returned v =>
    obtain ⟨r, H', ts, σ', φ', hout, hK⟩ := hh
    refine ⟨ts, _, H', σ', φ', ⟨put_rel ?_ hout.rel o.dst, fun y hy m hm => ?_, hout.sat, ⟨hout.adv.os, hout.adv.tape, hout.adv.output, hout.adv.size, fun k hk hn => hout.adv.fr k hk fun n hh => hn n (gr.sub n k hh), fun n b hb => (hout.adv.grow n b hb).imp (fun ⟨m, hm⟩ => ⟨m, gr.sub m b hm⟩) id⟩,
      Nat.le_trans gr.len hout.len, put_defers _ _, fun n hn ho => (hout.agree n (Nat.lt_of_lt_of_le hn gr.len) (.inl ?_)).trans (gr.agree n hn), fun n hn ho => gr.own n hn (hout.own n (Nat.lt_of_lt_of_le hn gr.len) ho), fun n hn hts => ?_, fun n hn hts => (hout.agree n (Nat.lt_of_lt_of_le hn gr.len) (.inr hts)).trans (gr.agree n hn)⟩, hK⟩
    · refine (foldl_kill_rel _ h.tm).mono fun y v hy hr => SV.rel_of hr fun m hm => ?_
      obtain ⟨⟨z, hz, h1⟩, h2⟩ := foldl_kill_names _ y hy m hm
      have hmH := h.tcl z hz m h1
      refine (hout.agree m (Nat.lt_of_lt_of_le hmH gr.len) ?_).trans (gr.agree m hmH)
      cases hown : isOwn (nilArgs C H xs c.argTypes.toList).2 m with
      | false => exact .inl rfl
      | true => exact .inr fun hts => h2 (by simp [hts, hown])
    · rcases setT_mem hy with hy | rfl
      · obtain ⟨⟨z, hz, h1⟩, _⟩ := foldl_kill_names _ y hy m hm
        exact Nat.lt_of_lt_of_le (h.tcl z hz m h1) (Nat.le_trans gr.len hout.len)
      · exact hout.rcl m hm
    · cases hown : isOwn (nilArgs C H xs c.argTypes.toList).2 n with
      | false => rfl
      | true => rw [gr.own n hn hown] at ho; cases ho
    · have := hout.touch n (Nat.lt_of_lt_of_le hn gr.len) hts
      exact ⟨fun b => (this.1 b).trans (gr.rdb n hn b), fun b hb => this.2 b ((gr.rdb n hn b).2 hb)⟩

/-- Every operation with an effect. -/
theorem effS_sound (hG : GOK C Γ) (h : Pre C T H σ φ a w) (he : effS C Γ trunc T H o K) : o.wp C.P a w (After C H σ φ a w K) Q := by
  cases ho : o.op with
  | alloc t => exact e_alloc h ho he
  | box t x => exact e_box h ho he
  | store t x y => exact e_store h ho he
  | makeSlice t l c => exact e_makeSlice h ho he
  | buildSlice t n parts => exact e_buildSlice h ho he
  | slice t x lo hi mx =>
    cases lo <;> cases hi <;> cases mx <;> first
      | (simp [effS, ho] at he; done)
      | exact e_trunc h ho he
  | call c =>
    cases hcal : c.callee with
    | value x => exact e_callf hG h ho hcal he trivial
    | invoke r m => simp [effS, ho, hcal] at he
    | builtin b =>
      cases b <;> try (simp [effS, ho, hcal] at he; done)
      have he' := he
      simp only [effS, ho, hcal] at he'
      split at he' <;> try (exact he'.elim)
      rename_i x y t t' hargs hty
      split at he' <;> try (exact he'.elim)
      rename_i htt
      subst htt
      obtain ⟨σ1, φ1, g, hr1, hn1⟩ := nilFix_sound h.ok h.sat t (h.rel x) (h.nm x)
      split at he' <;> try (exact he'.elim)
      rename_i n e0 hfx hec
      rw [hfx] at hr1
      have hx : a.eval x = σ1 n := hr1
      split at he' <;> try (exact he'.elim)
      rename_i e l hH
      split at he' <;> try (exact he'.elim)
      rename_i hee _
      subst hee
      have hy := h.rel y
      split at he'
      · rename_i hcy
        rw [hcy] at hy
        have ey : a.eval y = .slice none 0 0 := hy
        exact e_append h ho hcal hargs hty g hx hH hec ey (Rd.nil (h.ok.len e0)) (fun h => absurd rfl h) (by simpa using he')
      · rename_i m hcy
        rw [hcy] at hy
        split at he' <;> try (exact he'.elim)
        rename_i hmn
        split at he' <;> try (exact he'.elim)
        rename_i own e' l' hHm
        split at he' <;> try (exact he'.elim)
        rename_i hee' _
        subst hee'
        have ny := h.nm y
        rw [hcy] at ny
        have hmlt : m < H.length := ny m (by simp [SV.names, TV.names, At.names])
        have ey : a.eval y = σ m := hy
        obtain ⟨A, c', h1, h2⟩ := (g.sat.holds m _ hHm).rd h.ok
        rw [g.agree m hmlt] at h1
        exact e_append h ho hcal hargs hty g hx hH hec (ey.trans h1) h2 (fun _ => he'.1) he'.2
      · exact he'.elim
  | _ => simp [effS, ho] at he
end
end Go.Proofs.Ytacdmmomkngpkaa.Sx
