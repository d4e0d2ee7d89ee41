/- The symbolic run is sound: operations that leave the world alone. No program in sight. -/
import Derived.Test.YtacdmmomkngpkaaSxB
namespace Go.Proofs.Ytacdmmomkngpkaa.Sx
open Go

theorem pureRun_sound {P : Program} {α : Type} : ∀ (s : Sem α) (a : α), pureRun P s = some a → ∀ w, s.run P w = .ok a w := by
  intro s
  induction s with
  | pure x => intro a h w; simp [pureRun] at h; subst h; rfl
  | program k ih => intro a h w; exact ih P a h w
  | _ => intro a h; simp [pureRun] at h

theorem allVals_rel {σ : Nat → Value} : ∀ {l : List At} {cs vs : List Value}, allVals l = some cs → Rels (At.rel σ) l vs → vs = cs := by
  intro l
  induction l with
  | nil => intro cs vs h hr; simp [allVals] at h; subst h; exact List.eq_nil_of_length_eq_zero hr.1.symm
  | cons a t ih =>
    intro cs vs h hr
    cases a with
    | val v =>
      simp only [allVals, Option.map_eq_some_iff] at h
      obtain ⟨cs', h1, rfl⟩ := h
      match vs, hr with
      | [], hr => exact absurd hr.1 (by simp)
      | u :: us, hr =>
        have h0 : u = v := hr.2 0 _ _ rfl rfl
        have := ih h1 (vs := us) ⟨by simpa using hr.1, fun i a b ha hb => hr.2 (i + 1) a b (by simpa using ha) (by simpa using hb)⟩
        rw [h0, this]
    | _ => simp [allVals] at h

theorem rels_vals {σ : Nat → Value} (cs : List Value) : Rels (At.rel σ) (cs.map At.val) cs :=
  ⟨by simp, fun i a b ha hb => by
    rw [List.getElem?_map] at ha
    rw [hb] at ha
    simp at ha; subst ha; rfl⟩

theorem allVals_map (cs : List Value) : allVals (cs.map At.val) = some cs := by
  induction cs with
  | nil => rfl
  | cons c t ih => simp [allVals, ih]

theorem valOf_rel {σ : Nat → Value} {s : SV} {u v : Value} (h : valOf s = some u) (hr : s.rel σ v) : v = u := by
  match s with
  | .one (.at (.val x)) => simp [valOf] at h; subst h; exact hr
  | .one (.agg l) =>
    simp only [valOf, Option.map_eq_some_iff] at h
    obtain ⟨cs, h1, rfl⟩ := h
    obtain ⟨vs, rfl, h2⟩ := hr
    rw [allVals_rel h1 h2]
  | .one (.at .any) | .one (.at (.ptr _ _)) | .one (.at (.eptr _ _ _ _)) | .one (.at (.slc _)) | .one (.at (.fn _ _)) | .tup _ => simp [valOf] at h

theorem lift_rel {σ : Nat → Value} (v : Value) : (lift v).rel σ v := by
  cases v with
  | agg cs => exact ⟨cs.toList, rfl, rels_vals _⟩
  | tuple vs => trivial
  | _ => rfl

theorem lift_names (v : Value) : (lift v).names = [] := by
  cases v with
  | agg cs => simp [lift, SV.names, TV.names, At.names]
  | _ => rfl

section
variable {C : Ctx}

theorem opnd_rel {σ : Nat → Value} {T : List SV} {a : Act} (h : Rels (SV.rel σ) T a.tmps.toList) (x : Operand) : (opnd T x).rel σ (a.eval x) := by
  cases x with
  | tmp t =>
    simp only [opnd, List.getD_eq_getElem?_getD, Act.eval]
    cases hT : T[t]? with
    | none => trivial
    | some s =>
      obtain ⟨v, hv, hr⟩ := h.get hT
      rw [Array.getElem?_toList] at hv
      simp only [Array.getD_eq_getD_getElem?, hv]
      exact hr
  | const v => exact lift_rel v
  | global g => trivial
  | func f => exact ⟨rfl, fun c hc => by cases hc⟩

theorem opnd_names {n : Nat} {T : List SV} (h : ∀ s ∈ T, ∀ m ∈ s.names, m < n) (x : Operand) : ∀ m ∈ (opnd T x).names, m < n := by
  cases x with
  | tmp t =>
    simp only [opnd, List.getD_eq_getElem?_getD]
    cases hT : T[t]? with
    | none => intro m hm; simp [SV.names, TV.names, At.names] at hm
    | some s => exact h s (List.mem_of_getElem? hT)
  | const v => intro m hm; simp only [opnd, lift_names] at hm; cases hm
  | global g => intro m hm; simp [opnd, SV.names, TV.names, At.names] at hm
  | func f => intro m hm; simp [opnd, SV.names, TV.names, At.names] at hm

/-- The blocks that a load of a name may read. -/
def Rdb (H : List (Chunk C)) (σ : Nat → Value) (n b : Nat) : Prop := (σ n = .pointer (some ⟨b, 0, none⟩) ∧ ∃ cells, H[n]? = some (.box cells)) ∨ ((σ n).ownBlock = some b ∧ ∃ own e l, H[n]? = some (.row own e l) ∧ 0 < l.length)

/-- Chunks are added, or lose their owner; the world stands. -/
structure Grows (C : Ctx) (σ : Nat → Value) (φ : Nat → Nat → Prop) (H : List (Chunk C)) (σ' : Nat → Value) (φ' : Nat → Nat → Prop) (H' : List (Chunk C)) (w : World) : Prop where
  sat : Sat C σ' φ' w H'
  agree : ∀ n, n < H.length → σ' n = σ n
  sub : ∀ n b, φ' n b → φ n b
  len : H.length ≤ H'.length
  own : ∀ n, n < H.length → isOwn H' n = true → isOwn H n = true
  rdb : ∀ n, n < H.length → ∀ b, Rdb H' σ' n b ↔ Rdb H σ n b

theorem Grows.refl {σ : Nat → Value} {φ : Nat → Nat → Prop} {H : List (Chunk C)} {w : World} (h : Sat C σ φ w H) : Grows C σ φ H σ φ H w :=
  ⟨h, fun _ _ => rfl, fun _ _ h => h, Nat.le_refl _, fun _ _ h => h, fun _ _ _ => Iff.rfl⟩
theorem Grows.trans {σ σ' σ'' : Nat → Value} {φ φ' φ'' : Nat → Nat → Prop} {H H' H'' : List (Chunk C)} {w : World} (h : Grows C σ φ H σ' φ' H' w) (h' : Grows C σ' φ' H' σ'' φ'' H'' w) : Grows C σ φ H σ'' φ'' H'' w :=
  ⟨h'.sat, fun n hn => (h'.agree n (Nat.lt_of_lt_of_le hn h.len)).trans (h.agree n hn), fun n b hb => h.sub n b (h'.sub n b hb), Nat.le_trans h.len h'.len,
    fun n hn ho => h.own n hn (h'.own n (Nat.lt_of_lt_of_le hn h.len) ho), fun n hn b => (h'.rdb n (Nat.lt_of_lt_of_le hn h.len) b).trans (h.rdb n hn b)⟩

theorem isOwn_append {H : List (Chunk C)} {l : List (Chunk C)} {n : Nat} (hn : n < H.length) : isOwn (H ++ l) n = isOwn H n := by
  simp [isOwn, List.getElem?_append_left hn]

/-- A new name without memory. -/
theorem Grows.view (hC : C.OK) {σ : Nat → Value} {φ : Nat → Nat → Prop} {w : World} {H : List (Chunk C)} (h : Sat C σ φ w H) (c : Chunk C) (v : Value)
    (hc : ∀ σ', Holds w σ' v (fun _ => False) c) (hnm : c.names = [])
    (himm : ∀ e l, c = .row false e l → 0 < l.length → ∀ b, v.ownBlock = some b → (∀ m, ¬ φ m b)) :
    Grows C σ φ H (fun k => if k = H.length then v else σ k) (fun k => if k = H.length then (fun _ => False) else φ k) (H ++ [c]) w where
  sat := h.new hC c v (fun _ => False) (Nat.le_refl _) (fun _ _ => rfl) (fun n _ => hc _) (by rw [hnm]; simp) (fun _ h => h.elim) himm (fun _ _ _ _ h => h)
  agree n hn := by simp [Nat.ne_of_lt hn]
  sub n b hb := by
    by_cases e : n = H.length
    · subst e; simp at hb
    · simpa [e] using hb
  len := by simp
  own n hn ho := by rwa [isOwn_append hn] at ho
  rdb n hn b := by
    unfold Rdb
    simp [Nat.ne_of_lt hn, List.getElem?_append_left hn]

theorem nilFix_sound (hC : C.OK) {σ : Nat → Value} {φ : Nat → Nat → Prop} {w : World} {H : List (Chunk C)} (h : Sat C σ φ w H) (t : TypeId) {s : SV} {v : Value} (hr : s.rel σ v) (hn : ∀ m ∈ s.names, m < H.length) :
    ∃ σ' φ', Grows C σ φ H σ' φ' (nilFix C H t s).2 w ∧ (nilFix C H t s).1.rel σ' v ∧ (∀ m ∈ (nilFix C H t s).1.names, m < (nilFix C H t s).2.length) := by
  unfold nilFix
  split
  · split
    · rename_i e he
      refine ⟨_, _, Grows.view hC h (.row true e []) (.slice none 0 0) (fun σ' => ⟨World.ownsRow_nil _ _ _ _, fun k => by simp [Value.ownBlock]⟩) rfl (fun e l h => by cases h), ?_, ?_⟩
      · show v = _
        simp only [if_true]
        exact hr
      · intro m hm; simp [SV.names, TV.names, At.names] at hm; subst hm; simp
    · exact ⟨σ, φ, Grows.refl h, hr, hn⟩
  · exact ⟨σ, φ, Grows.refl h, hr, hn⟩

theorem nilFix_one {H : List (Chunk C)} {t : TypeId} {a : At} : ∃ b, (nilFix C H t (.one (.at a))).1 = .one (.at b) := by
  unfold nilFix
  split
  · split <;> exact ⟨_, rfl⟩
  · exact ⟨_, rfl⟩

theorem nilCells_sound (hC : C.OK) {w : World} : ∀ (l : List At) (ts : List TypeId) {σ : Nat → Value} {φ : Nat → Nat → Prop} {H : List (Chunk C)} {cs : List Value}, Sat C σ φ w H → Rels (At.rel σ) l cs → (∀ a ∈ l, ∀ m ∈ a.names, m < H.length) →
    ∃ σ' φ', Grows C σ φ H σ' φ' (nilCells C H l ts).2 w ∧ Rels (At.rel σ') (nilCells C H l ts).1 cs ∧ (∀ a ∈ (nilCells C H l ts).1, ∀ m ∈ a.names, m < (nilCells C H l ts).2.length) := by
  intro l
  induction l with
  | nil => intro ts σ φ H cs h hr hn; cases ts <;> exact ⟨σ, φ, Grows.refl h, hr, hn⟩
  | cons a l ih =>
    intro ts σ φ H cs h hr hn
    cases ts with
    | nil => exact ⟨σ, φ, Grows.refl h, hr, hn⟩
    | cons t ts =>
      match cs, hr with
      | [], hr => exact absurd hr.1 (by simp)
      | c :: cs, hr =>
        have hrc : At.rel σ a c := hr.2 0 _ _ rfl rfl
        have hrt : Rels (At.rel σ) l cs := ⟨by simpa using hr.1, fun i x y hx hy => hr.2 (i + 1) x y (by simpa using hx) (by simpa using hy)⟩
        obtain ⟨σ1, φ1, g1, r1, n1⟩ := nilFix_sound hC h t (s := .one (.at a)) (v := c) hrc (hn a (by simp))
        obtain ⟨b, hb⟩ := nilFix_one (C := C) (H := H) (t := t) (a := a)
        have hrt1 : Rels (At.rel σ1) l cs := hrt.mono fun x y hx hxy => At.rel_of hxy fun m hm => g1.agree m (hn x (by simp [hx]) m hm)
        obtain ⟨σ2, φ2, g2, r2, n2⟩ := ih ts g1.sat hrt1 (fun x hx m hm => Nat.lt_of_lt_of_le (hn x (by simp [hx]) m hm) g1.len)
        have he : nilCells C H (a :: l) (t :: ts) = (b :: (nilCells C (nilFix C H t (.one (.at a))).2 l ts).1, (nilCells C (nilFix C H t (.one (.at a))).2 l ts).2) := by
          rw [nilCells]
          generalize nilFix C H t (.one (.at a)) = q at *
          obtain ⟨q1, q2⟩ := q
          simp only at hb
          subst hb
          rfl
        rw [he]
        rw [hb] at r1 n1
        refine ⟨σ2, φ2, g1.trans g2, Rels.cons (At.rel_of r1 fun m hm => g2.agree m (n1 m hm)) r2, fun x hx m hm => ?_⟩
        rcases List.mem_cons.1 hx with rfl | hx
        · exact Nat.lt_of_lt_of_le (n1 m hm) g2.len
        · exact n2 x hx m hm

/-- What a quiet operation comes to. -/
def QOut (C : Ctx) (T : List SV) (H : List (Chunk C)) (o : Oper) (σ : Nat → Value) (φ : Nat → Nat → Prop) (a : Act) (w : World) (s : SV) (H' : List (Chunk C)) : Prop :=
  ∃ v σ' φ', Grows C σ φ H σ' φ' H' w ∧ s.rel σ' v ∧ (∀ m ∈ s.names, m < H'.length) ∧
    ∀ w', (∀ n, readName T o = some n → ∀ b, Rdb H σ n b → w'.heap[b]? = w.heap[b]?) → (execOp a.eval o).run C.P w' = .ok (.value v) w'

theorem QOut.same {T : List SV} {H : List (Chunk C)} {o : Oper} {σ : Nat → Value} {φ : Nat → Nat → Prop} {a : Act} {w : World} {s : SV} (hs : Sat C σ φ w H) (v : Value) (hv : s.rel σ v) (hn : ∀ m ∈ s.names, m < H.length)
    (hrun : ∀ w', (∀ n, readName T o = some n → ∀ b, Rdb H σ n b → w'.heap[b]? = w.heap[b]?) → (execOp a.eval o).run C.P w' = .ok (.value v) w') : QOut C T H o σ φ a w s H :=
  ⟨v, σ, φ, Grows.refl hs, hv, hn, hrun⟩

/-- What is known ahead of a quiet operation. -/
structure Pre (C : Ctx) (T : List SV) (H : List (Chunk C)) (σ : Nat → Value) (φ : Nat → Nat → Prop) (a : Act) (w : World) : Prop where
  ok : C.OK
  tm : Rels (SV.rel σ) T a.tmps.toList
  tcl : ∀ s ∈ T, ∀ m ∈ s.names, m < H.length
  sat : Sat C σ φ w H

variable {T : List SV} {H : List (Chunk C)} {o : Oper} {σ : Nat → Value} {φ : Nat → Nat → Prop} {a : Act} {w : World} {ps : List Prop} {s : SV} {H' : List (Chunk C)}

theorem Pre.rel (h : Pre C T H σ φ a w) (x : Operand) : (opnd T x).rel σ (a.eval x) := opnd_rel h.tm x
theorem Pre.nm (h : Pre C T H σ φ a w) (x : Operand) : ∀ m ∈ (opnd T x).names, m < H.length := opnd_names h.tcl x
theorem Pre.val (h : Pre C T H σ φ a w) {x : Operand} {u : Value} (hx : valOf (opnd T x) = some u) : a.eval x = u := valOf_rel hx (h.rel x)

theorem pureOp_spec {v : Value} (h : pureOp C T o = some v) : ∀ w', (execOp (fun x => (valOf (opnd T x)).getD undef) o).run C.P w' = .ok (.value v) w' := by
  unfold pureOp at h
  split at h
  · rename_i u hu
    simp at h; subst h
    exact pureRun_sound _ _ hu
  · cases h

theorem QOut.pure_ (h : Pre C T H σ φ a w) {v : Value} (hp : pureOp C T o = some v) (he : execOp (fun x => (valOf (opnd T x)).getD undef) o = execOp a.eval o) : QOut C T H o σ φ a w (lift v) H :=
  QOut.same h.sat v (lift_rel v) (by rw [lift_names]; simp) fun w' _ => by rw [← he]; exact pureOp_spec hp w'

theorem q_move {x : Operand} (h : Pre C T H σ φ a w) (ho : o.op = .move x) (hq : quietS C T H o = some (ps, s, H')) : QOut C T H o σ φ a w s H' := by
  simp only [quietS, ho, Option.some.injEq, Prod.mk.injEq] at hq
  obtain ⟨_, rfl, rfl⟩ := hq
  obtain ⟨σ', φ', g, r, n⟩ := nilFix_sound h.ok h.sat o.type (h.rel x) (h.nm x)
  exact ⟨_, σ', φ', g, r, n, fun w' _ => by simp [execOp, ho]⟩
theorem q_assign {x : Operand} (h : Pre C T H σ φ a w) (ho : o.op = .assign x) (hq : quietS C T H o = some (ps, s, H')) : QOut C T H o σ φ a w s H' := by
  simp only [quietS, ho, Option.some.injEq, Prod.mk.injEq] at hq
  obtain ⟨_, rfl, rfl⟩ := hq
  obtain ⟨σ', φ', g, r, n⟩ := nilFix_sound h.ok h.sat o.type (h.rel x) (h.nm x)
  exact ⟨_, σ', φ', g, r, n, fun w' _ => by simp [execOp, ho]⟩

theorem q_pick {c x y : Operand} (h : Pre C T H σ φ a w) (ho : o.op = .pick c x y) (hq : quietS C T H o = some (ps, s, H')) : QOut C T H o σ φ a w s H' := by
  simp only [quietS, ho] at hq
  split at hq
  · rename_i t hc
    have hrc : a.eval c = .bool t := h.val (by rw [hc]; rfl)
    have hx := h.rel x
    have hy := h.rel y
    have nx := h.nm x
    have ny := h.nm y
    unfold pickS at hq
    split at hq
    · rename_i b1 b2 h1 h2
      rw [h1] at hx; rw [h2] at hy
      simp only [Option.some.injEq, Prod.mk.injEq] at hq
      obtain ⟨_, rfl, rfl⟩ := hq
      have e1 : a.eval x = .bool b1 := hx
      have e2 : a.eval y = .bool b2 := hy
      cases t with
      | true => exact QOut.same h.sat (.bool b1) rfl (by simp [vb, SV.names, TV.names, At.names]) fun w' _ => by simp [execOp, ho, hrc, asBool, e1]
      | false => exact QOut.same h.sat (.bool b2) rfl (by simp [vb, SV.names, TV.names, At.names]) fun w' _ => by simp [execOp, ho, hrc, asBool, e2]
    · split at hq
      · simp only [Option.some.injEq, Prod.mk.injEq] at hq
        obtain ⟨_, rfl, rfl⟩ := hq
        exact QOut.same h.sat _ hx nx fun w' _ => by simp [execOp, ho, hrc, asBool]
      · simp only [Option.some.injEq, Prod.mk.injEq] at hq
        obtain ⟨_, rfl, rfl⟩ := hq
        exact QOut.same h.sat _ hy ny fun w' _ => by simp [execOp, ho, hrc, asBool]
  · cases hq

theorem q_nilCheck {x : Operand} (h : Pre C T H σ φ a w) (ho : o.op = .nilCheck x) (hq : quietS C T H o = some (ps, s, H')) : QOut C T H o σ φ a w s H' := by
  have hx := h.rel x
  have nx := h.nm x
  simp only [quietS, ho] at hq
  split at hq <;> first | (cases hq; done) | skip
  · rename_i n k hc
    rw [hc] at hx nx
    simp only [Option.some.injEq, Prod.mk.injEq] at hq
    obtain ⟨_, rfl, rfl⟩ := hq
    obtain ⟨b, h1, h2⟩ := (show At.rel σ (.ptr n k) _ from hx)
    exact QOut.same h.sat _ hx nx fun w' _ => by simp [execOp, ho, h2]
  · rename_i n i sz k hc
    rw [hc] at hx nx
    simp only [Option.some.injEq, Prod.mk.injEq] at hq
    obtain ⟨_, rfl, rfl⟩ := hq
    obtain ⟨b, o', len, cap, h1, h2, h3⟩ := (show At.rel σ (.eptr n i sz k) _ from hx)
    exact QOut.same h.sat _ hx nx fun w' _ => by simp [execOp, ho, h3]
  · rename_i f cs hc
    rw [hc] at hx nx
    simp only [Option.some.injEq, Prod.mk.injEq] at hq
    obtain ⟨_, rfl, rfl⟩ := hq
    have h2 : a.eval x = _ := hx.1
    exact QOut.same h.sat _ hx nx fun w' _ => by simp [execOp, ho, h2]

theorem q_unOp {op : UnOp} {t : TypeId} {x : Operand} (h : Pre C T H σ φ a w) (ho : o.op = .unOp op t x) (hq : quietS C T H o = some (ps, s, H')) : QOut C T H o σ φ a w s H' := by
  simp only [quietS, ho] at hq
  split at hq
  · rename_i u hu
    simp only [Option.map_eq_some_iff, Prod.mk.injEq] at hq
    obtain ⟨v, hp, _, rfl, rfl⟩ := hq
    exact QOut.pure_ h hp (by unfold execOp; rw [ho]; simp only [hu, Option.getD_some, h.val hu])
  · cases hq
theorem q_convert {t t' : TypeId} {x : Operand} (h : Pre C T H σ φ a w) (ho : o.op = .convert t t' x) (hq : quietS C T H o = some (ps, s, H')) : QOut C T H o σ φ a w s H' := by
  simp only [quietS, ho] at hq
  split at hq
  · rename_i u hu
    simp only [Option.map_eq_some_iff, Prod.mk.injEq] at hq
    obtain ⟨v, hp, _, rfl, rfl⟩ := hq
    exact QOut.pure_ h hp (by unfold execOp; rw [ho]; simp only [hu, Option.getD_some, h.val hu])
  · cases hq
end
end Go.Proofs.Ytacdmmomkngpkaa.Sx
