/- The symbolic run is sound: slices, lengths, binary operations; all quiet operations. No program in sight. -/
import Derived.Test.YtacdmmomkngpkaaSxE
namespace Go.Proofs.Ytacdmmomkngpkaa.Sx
open Go

section
variable {C : Ctx}
variable {T : List SV} {H : List (Chunk C)} {o : Oper} {σ : Nat → Value} {φ : Nat → Nat → Prop} {a : Act} {w : World} {ps : List Prop} {s : SV} {H' : List (Chunk C)}

theorem trueInt_val (h : Pre C T H σ φ a w) {x : Operand} {n : Int} (hx : trueInt (opnd T x) = some n) : ∃ k, a.eval x = .int k n := by
  have hr := h.rel x
  unfold trueInt at hx
  split at hx
  · rename_i k m hc
    rw [hc] at hr
    simp only [Option.some.injEq] at hx
    subst hx
    exact ⟨k, hr⟩
  · cases hx

theorem run_bounds {P : Program} {len cap : Nat} {low high : Option Value} {i j : Int} (hl : (low = none ∧ i = 0) ∨ ∃ k, low = some (.int k i)) (hh : (high = none ∧ j = len) ∨ ∃ k, high = some (.int k j))
    (h0 : 0 ≤ i) (h1 : i ≤ j) (h2 : j ≤ cap) (w : World) : (Instr.sliceBounds true len cap low high none).run P w = .ok (i.toNat, j.toNat, cap) w := by
  have hj : (j.toNat : Int) = j := by omega
  rcases hl with ⟨rfl, rfl⟩ | ⟨k, rfl⟩ <;> rcases hh with ⟨rfl, rfl⟩ | ⟨k', rfl⟩
  · simp [Instr.sliceBounds]
  · have e1 := run_sliceBound (P := P) w k' j cap .sliceAcap (by omega) h2
    simp [Instr.sliceBounds, e1]
  · have e1 := run_sliceBound (P := P) w k i len .sliceB h0 h1
    simp [Instr.sliceBounds, e1]
  · have e1 := run_sliceBound (P := P) w k' j cap .sliceAcap (by omega) h2
    have e2 := run_sliceBound (P := P) w k i j.toNat .sliceB h0 (by omega)
    simp [Instr.sliceBounds, e1, e2]

theorem run_sliceAt {P : Program} {t e : TypeId} {ti : TypeInfo} {A : Option Addr} {len cap : Nat} {low high : Option Value} {i j : Int} (ht : P.underlying t = some (.slice e)) (he : P.info? e = some ti)
    (hl : (low = none ∧ i = 0) ∨ ∃ k, low = some (.int k i)) (hh : (high = none ∧ j = len) ∨ ∃ k, high = some (.int k j))
    (h0 : 0 ≤ i) (h1 : i ≤ j) (h2 : j ≤ cap) (w : World) : (Instr.sliceAt t (.slice A len cap) low high none).run P w = .ok (.slice (if cap = i.toNat then A else A.map (·.add (i.toNat * ti.size))) (j.toNat - i.toNat) (cap - i.toNat)) w := by
  have hb := run_bounds (P := P) hl hh h0 h1 h2 w
  simp [Instr.sliceAt, Instr.slice, run_underlying ht, hb, run_sizeOf he]

/-- An owner gives up. -/
theorem freeze_sound (hC : C.OK) (hs : Sat C σ φ w H) {n : Nat} {e : C.EC} {l : List (C.α e)} (hH : H[n]? = some (.row true e l)) :
    Grows C σ φ H σ (fun k => if k = n then (fun _ => False) else φ k) (H.set n (.row false e l)) w := by
  have hn : n < H.length := (List.getElem?_eq_some_iff.1 hH).1
  have hh := hs.holds n _ hH
  refine ⟨hs.step hC (fun k => k = n) (Nat.le_refl _) (fun _ _ _ => rfl) (fun k hk => ?_) (fun _ _ _ _ _ _ => rfl) (fun k c hk hc => ?_) (fun k b hk hb => ?_) (fun k m b hk hm hb _ => hk.trans hm.symm) (fun k b hk hb => ?_)
    (fun k e' l' hk hc hpos b hb m hm => ?_) (fun k hk b hb => ?_) (by simp) (fun k c hk hc m hm => ?_), fun _ _ => rfl, fun k b hb => ?_, by simp, fun k hk ho => ?_, fun k hk b => ?_⟩
  · have : ¬ k = n := hk
    exact ⟨by rw [List.getElem?_set_ne (Ne.symm this)], rfl, fun b => by simp [this]⟩
  · have hk' : k = n := hk
    subst hk'
    rw [List.getElem?_set_self hn] at hc
    simp only [Option.some.injEq] at hc
    subst hc
    obtain ⟨A, c, h1, h2⟩ := hh.rd hC
    exact ⟨⟨A, c, h1, h2⟩, fun b hb => by simp at hb⟩
  · have hk' : k = n := hk
    subst hk'
    simp at hb
  · have hk' : k = n := hk
    subst hk'
    simp at hb
  · have hk' : k = n := hk
    subst hk'
    by_cases e : m = k
    · subst e; simp at hm
    · simp only [if_neg e] at hm
      exact e (hs.dis m k b hm ((hh.2 b).2 hb))
  · rw [List.length_set] at hk
    by_cases e : k = n
    · subst e; simp at hb
    · simp only [if_neg e] at hb; exact hs.out k hk b hb
  · have hk' : k = n := hk
    subst hk'
    rw [List.getElem?_set_self hn] at hc
    simp only [Option.some.injEq] at hc
    subst hc
    simp [Chunk.names] at hm
  · by_cases e : k = n
    · subst e; simp at hb
    · simpa [e] using hb
  · by_cases e : k = n
    · subst e; simp [isOwn, List.getElem?_set_self hn] at ho
    · simpa [isOwn, List.getElem?_set_ne (Ne.symm e)] using ho
  · unfold Rdb
    by_cases e' : k = n
    · subst e'
      rw [List.getElem?_set_self hn, hH]
      simp
    · simp [List.getElem?_set_ne (Ne.symm e')]

/-- A part of a row that is read alone. -/
theorem view_sound (hC : C.OK) (hs : Sat C σ φ w H) {n : Nat} {e : C.EC} {l : List (C.α e)} (hH : H[n]? = some (.row false e l)) {i j : Nat} (hij : i ≤ j) (hj : j ≤ l.length) :
    ∃ A c, σ n = .slice A l.length c ∧ l.length ≤ c ∧ Grows C σ φ H (fun k => if k = H.length then .slice (if c = i then A else A.map (·.add (i * C.sz e))) (j - i) (c - i) else σ k) (fun k => if k = H.length then (fun _ => False) else φ k)
      (H ++ [.row false e ((l.take j).drop i)]) w := by
  obtain ⟨⟨A, c, h1, h2⟩, _⟩ := hs.holds n _ hH
  have hcap := h2.cap
  have hlen : ((l.take j).drop i).length = j - i := by simp; omega
  refine ⟨A, c, h1, hcap, Grows.view hC hs _ _ (fun σ' => ⟨⟨_, c - i, by rw [hlen], by rw [hlen]; exact (h2.head hj).cut hij⟩, fun _ h => h⟩) rfl (fun e' l' he hpos b hb m hm => ?_)⟩
  · injection he with _ he1 he2
    subst he1
    have he2 := eq_of_heq he2
    subst he2
    rw [hlen] at hpos
    have : ¬ c = i := by omega
    rw [if_neg this] at hb
    cases A with
    | none => simp [Value.ownBlock] at hb
    | some ad =>
      simp only [Option.map_some, Value.ownBlock, Option.some.injEq] at hb
      refine hs.imm n e l hH (by omega) b ?_ m hm
      rw [h1]
      simp only [Value.ownBlock, Option.some.injEq]
      rw [← hb]
      unfold Addr.add
      split <;> rfl

theorem isEC_spec (hC : C.OK) {t : TypeId} {e : C.EC} (h : isEC C t e = true) : C.P.underlying t = some (.slice (C.tid e)) := by
  unfold isEC at h
  split at h
  · rename_i e' he
    split at h
    · rename_i hee _
      subst hee
      exact elemEC_spec hC he
    · cases h
  · cases h

theorem q_slice {t : TypeId} {x : Operand} {lo hi mx : Option Operand} (h : Pre C T H σ φ a w) (ho : o.op = .slice t x lo hi mx) (hps : ∀ p ∈ ps, p) (hq : quietS C T H o = some (ps, s, H')) : QOut C T H o σ φ a w s H' := by
  have hx := h.rel x
  simp only [quietS, ho] at hq
  split at hq <;> try (cases hq; done)
  rename_i n hc
  split at hq <;> try (cases hq; done)
  rename_i own e l hH
  split at hq <;> try (cases hq; done)
  rename_i he
  split at hq <;> try (cases hq; done)
  rename_i i j hlo hhi
  rw [hc] at hx
  have ex : a.eval x = σ n := hx
  have ht := isEC_spec h.ok he
  have hl : (lo.map a.eval = none ∧ i = 0) ∨ ∃ k, lo.map a.eval = some (.int k i) := by
    cases lo with
    | none => simp at hlo; exact .inl ⟨rfl, hlo.symm⟩
    | some p => obtain ⟨k, hk⟩ := trueInt_val h hlo; exact .inr ⟨k, by simp [hk]⟩
  have hh : (hi.map a.eval = none ∧ j = (l.length : Int)) ∨ ∃ k, hi.map a.eval = some (.int k j) := by
    cases hi with
    | none => simp at hhi; exact .inl ⟨rfl, hhi.symm⟩
    | some p => obtain ⟨k, hk⟩ := trueInt_val h hhi; exact .inr ⟨k, by simp [hk]⟩
  have key : ∀ (φ1 : Nat → Nat → Prop) (H1 : List (Chunk C)), Grows C σ φ H σ φ1 H1 w → H1[n]? = some (.row false e l) → H1.length = H.length → 0 ≤ i → i ≤ j → j ≤ (l.length : Int) →
      QOut C T H o σ φ a w (.one (.at (.slc H.length))) (H1 ++ [.row false e ((l.take j.toNat).drop i.toNat)]) := by
    intro φ1 H1 g1 hH1 hlen h0 h1 h2
    obtain ⟨A, c, e1, e2, g2⟩ := view_sound h.ok g1.sat hH1 (i := i.toNat) (j := j.toNat) (by omega) (by omega)
    obtain ⟨ti, z, hti, _, hsz, _⟩ := h.ok.info e
    refine ⟨.slice (if c = i.toNat then A else A.map (·.add (i.toNat * C.sz e))) (j.toNat - i.toNat) (c - i.toNat), _, _, g1.trans g2, ?_, fun m hm => ?_, fun w' _ => ?_⟩
    · show _ = _
      simp only [hlen, if_true]
    · simp [SV.names, TV.names, At.names] at hm
      subst hm
      simp [hlen]
    · have hrun := run_sliceAt (P := C.P) (A := A) (len := l.length) (cap := c) ht hti hl hh h0 h1 (by omega) w'
      rw [hsz] at hrun
      simp [execOp, ho, ex, e1, hrun]
  split at hq
  · simp only [Option.some.injEq, Prod.mk.injEq] at hq
    obtain ⟨rfl, rfl, rfl⟩ := hq
    exact key φ H (Grows.refl h.sat) hH rfl (hps _ (by simp)) (hps _ (by simp)) (hps _ (by simp))
  · simp only [Option.some.injEq, Prod.mk.injEq] at hq
    obtain ⟨rfl, rfl, rfl⟩ := hq
    have hn : n < H.length := (List.getElem?_eq_some_iff.1 hH).1
    have := key _ _ (freeze_sound h.ok h.sat hH) (by rw [List.getElem?_set_self hn]) (by simp) (hps _ (by simp)) (hps _ (by simp)) (hps _ (by simp))
    exact this

theorem map_eval2 {c : Call} {x y : Operand} (h : c.args.toList = [x, y]) (f : Operand → Value) : c.args.map f = #[f x, f y] := by
  apply Array.ext'
  simp [h]
theorem map_eval1 {c : Call} {x : Operand} (h : c.args.toList = [x]) (f : Operand → Value) : c.args.map f = #[f x] := by
  apply Array.ext'
  simp [h]

theorem execOp_builtin {c : Call} {b : Builtin} {ρ ρ' : Operand → Value} (ho : o.op = .call c) (hc : c.callee = .builtin b) (hm : c.args.map ρ = c.args.map ρ') : execOp ρ o = execOp ρ' o := by
  unfold execOp
  rw [ho]
  simp only [resolve, hc, hm]

theorem q_call {c : Call} (h : Pre C T H σ φ a w) (ho : o.op = .call c) (hq : quietS C T H o = some (ps, s, H')) : QOut C T H o σ φ a w s H' := by
  simp only [quietS, ho] at hq
  split at hq <;> try (cases hq; done)
  · rename_i hcal
    split at hq <;> try (cases hq; done)
    rename_i x hargs
    have hx := h.rel x
    split at hq
    · rename_i n hc
      rw [hc] at hx
      have ex : a.eval x = σ n := hx
      split at hq <;> try (cases hq; done)
      rename_i own e l et hH het
      simp only [Option.some.injEq, Prod.mk.injEq] at hq
      obtain ⟨_, rfl, rfl⟩ := hq
      obtain ⟨A, cp, h1, h2⟩ := (h.sat.holds n _ hH).rd h.ok
      refine QOut.same h.sat (.int .i64 l.length) rfl (by simp [vi, SV.names, TV.names, At.names]) fun w' _ => ?_
      cases ht : c.argTypes[0]? with
      | none => rw [ht] at het; cases het
      | some t =>
        rw [ht] at het
        have het : C.P.underlying t = some (.slice et) := het
        simp [execOp, ho, resolve, hcal, invoke, builtin, map_eval1 hargs, ex, h1, Builtin.len_, ht, run_underlying het, goInt]
    · split at hq <;> try (cases hq; done)
      rename_i u hu
      simp only [Option.map_eq_some_iff, Prod.mk.injEq] at hq
      obtain ⟨v, hp, _, rfl, rfl⟩ := hq
      exact QOut.pure_ h hp (execOp_builtin ho hcal (by rw [map_eval1 hargs, map_eval1 hargs, hu, h.val hu]; rfl))
  · rename_i hcal
    split at hq <;> try (cases hq; done)
    rename_i x y hargs
    split at hq <;> try (cases hq; done)
    rename_i k1 n1 k2 n2 hx hy
    simp only [Option.map_eq_some_iff, Prod.mk.injEq] at hq
    obtain ⟨v, hp, _, rfl, rfl⟩ := hq
    exact QOut.pure_ h hp (execOp_builtin ho hcal (by rw [map_eval2 hargs, map_eval2 hargs, hx, h.val hx, hy, h.val hy]; rfl))
  · rename_i hcal
    split at hq <;> try (cases hq; done)
    rename_i x y hargs
    split at hq <;> try (cases hq; done)
    rename_i k1 n1 k2 n2 hx hy
    simp only [Option.map_eq_some_iff, Prod.mk.injEq] at hq
    obtain ⟨v, hp, _, rfl, rfl⟩ := hq
    exact QOut.pure_ h hp (execOp_builtin ho hcal (by rw [map_eval2 hargs, map_eval2 hargs, hx, h.val hx, hy, h.val hy]; rfl))

theorem execOp_bin {op : BinOp} {t yt : TypeId} {x y : Operand} {ρ ρ' : Operand → Value} (ho : o.op = .binOp op t x y yt) (hx : ρ x = ρ' x) (hy : ρ y = ρ' y) : execOp ρ o = execOp ρ' o := by
  unfold execOp
  rw [ho]
  simp only [hx, hy]

theorem run_partV {P : Program} {t : TypeId} {cs : Array Value} {off : Nat} {v : Value} (h : partV P t cs off = some v) (w : World) : (part t cs off).run P w = .ok v w := by
  unfold partV at h
  split at h
  · rename_i d i hd hi
    split at h
    · rename_i ha
      simp only [Option.some.injEq] at h
      subst h
      simp [part, run_isAggD hd, ha, run_sizeOf hi]
    · rename_i ha
      simp [part, run_isAggD hd, ha, h]
  · cases h

theorem run_eqFs {P : Program} {d : Nat} {rec_ : TypeId → Value → Value → Option Bool} (hrec : ∀ t x y b, rec_ t x y = some b → ∀ w, (Op.equalIn d t x y).run P w = .ok b w) {xs ys : Array Value} : ∀ {fs : List Field} {b : Bool}, eqFs rec_ P xs ys fs = some b → ∀ w, (Op.eqFields d xs ys fs).run P w = .ok b w := by
  intro fs
  induction fs with
  | nil => intro b h w; simp [eqFs] at h; subst h; simp [Op.eqFields]
  | cons f fs ih =>
    intro b h w
    simp only [eqFs] at h
    split at h
    · cases h
    · rename_i hf
      split at h <;> try (cases h; done)
      rename_i u v hu hv
      split at h <;> try (cases h; done)
      rename_i r1 r2 h1 h2
      simp only [Option.some.injEq] at h
      subst h
      have e1 := run_partV hu w
      have e2 := run_partV hv w
      have e3 := hrec _ _ _ _ h1 w
      have e4 := ih h2 w
      cases r1 <;> simp [Op.eqFields, hf, e1, e2, e3, e4]

theorem run_eqT {P : Program} : ∀ (d : Nat) (t : TypeId) (x y : Value) (b : Bool), eqT P d t x y = some b → ∀ w, (Op.equalIn d t x y).run P w = .ok b w := by
  intro d
  induction d with
  | zero => intro t x y b h; simp [eqT] at h
  | succ d ih =>
    intro t x y b h w
    unfold eqT at h
    split at h <;> try (cases h; done)
    · rename_i k0 k a' k' b' hd
      split at h
      · rename_i hk
        subst hk
        simp only [Option.some.injEq] at h
        subst h
        exact run_equalIn_int w d t k k0 a' b' hd
      · cases h
    · rename_i a' b' hd
      simp only [Option.some.injEq] at h
      subst h
      exact run_equalIn_bool' w d t a' b' hd
    · rename_i fs xs ys hd
      split at h
      · cases h
      · rename_i hp
        have hfo : P.fieldsOf t = fs := by simp [Program.fieldsOf, hd]
        rw [run_equalIn_struct w d t xs ys (by rw [hfo]; exact hd) (by simpa using hp), hfo]
        exact run_eqFs ih h w

theorem run_eqTop {P : Program} {t : TypeId} {x y : Value} {b : Bool} (h : eqTop P t x y = some b) (w : World) : (Op.equal t x y).run P w = .ok b w := run_eqT Op.maxDepth t x y b h w

theorem binOp_eql_agg (t : TypeId) (xs ys : Array Value) : binOp .eql t (.agg xs) (.agg ys) = (do pure (.bool (← Op.equal t (.agg xs) (.agg ys)))) := by simp only [binOp]
theorem binOp_neq_agg (t : TypeId) (xs ys : Array Value) : binOp .neq t (.agg xs) (.agg ys) = (do pure (.bool (!(← Op.equal t (.agg xs) (.agg ys))))) := by simp only [binOp]

theorem run_equalIn_ptr_nil {P : Program} {t el : TypeId} (hd : P.underlying t = some (.pointer el)) (d : Nat) (ad : Addr) (w : World) : (Op.equalIn (d + 1) t (.pointer (some ad)) (.pointer none)).run P w = .ok false w := by
  simp [Op.equalIn, run_underlying hd]
theorem run_equalIn_nil_ptr {P : Program} {t el : TypeId} (hd : P.underlying t = some (.pointer el)) (d : Nat) (ad : Addr) (w : World) : (Op.equalIn (d + 1) t (.pointer none) (.pointer (some ad))).run P w = .ok false w := by
  simp [Op.equalIn, run_underlying hd]
theorem binOp_eql_ptr (t : TypeId) (p q : Option Addr) : binOp .eql t (.pointer p) (.pointer q) = (do pure (.bool (← Op.equal t (.pointer p) (.pointer q)))) := by simp only [binOp]
theorem binOp_neq_ptr (t : TypeId) (p q : Option Addr) : binOp .neq t (.pointer p) (.pointer q) = (do pure (.bool (!(← Op.equal t (.pointer p) (.pointer q))))) := by simp only [binOp]

theorem eqS_sound (h : Pre C T H σ φ a w) {t : TypeId} {x y : Operand} {b : Bool} (he : eqS C t (opnd T x) (opnd T y) = some b) :
    ∀ w', (do eqGuard .eql t x y (a.eval x) (a.eval y); binOp .eql t (a.eval x) (a.eval y) : Sem Value).run C.P w' = .ok (.bool b) w' ∧
      (do eqGuard .neq t x y (a.eval x) (a.eval y); binOp .neq t (a.eval x) (a.eval y) : Sem Value).run C.P w' = .ok (.bool (!b)) w' := by
  intro w'
  have hx := h.rel x
  have hy := h.rel y
  unfold eqS at he
  split at he
  · rename_i n k h1 h2
    split at he <;> try (cases he; done)
    rename_i el hd
    rw [h1] at hx; rw [h2] at hy
    simp only [Option.some.injEq] at he
    subst he
    obtain ⟨b', _, e1⟩ := (show At.rel σ (.ptr n k) _ from hx)
    have e2 : a.eval y = .pointer none := hy
    rw [e1, e2]
    have hr : (Op.equal t (.pointer (some ⟨b', k, none⟩)) (.pointer none)).run C.P w' = .ok false w' := run_equalIn_ptr_nil hd 9999 _ w'
    constructor
    · rw [eqGuard_at_pointer, binOp_eql_ptr, Sem.run_bind, Sem.run_pure, Result.andThen_ok, Sem.run_bind, hr]; rfl
    · rw [eqGuard_at_pointer, binOp_neq_ptr, Sem.run_bind, Sem.run_pure, Result.andThen_ok, Sem.run_bind, hr]; rfl
  · rename_i n k h1 h2
    split at he <;> try (cases he; done)
    rename_i el hd
    rw [h1] at hx; rw [h2] at hy
    simp only [Option.some.injEq] at he
    subst he
    obtain ⟨b', _, e1⟩ := (show At.rel σ (.ptr n k) _ from hy)
    have e2 : a.eval x = .pointer none := hx
    rw [e1, e2]
    have hr : (Op.equal t (.pointer none) (.pointer (some ⟨b', k, none⟩))).run C.P w' = .ok false w' := run_equalIn_nil_ptr hd 9999 _ w'
    constructor
    · rw [eqGuard_at_pointer, binOp_eql_ptr, Sem.run_bind, Sem.run_pure, Result.andThen_ok, Sem.run_bind, hr]; rfl
    · rw [eqGuard_at_pointer, binOp_neq_ptr, Sem.run_bind, Sem.run_pure, Result.andThen_ok, Sem.run_bind, hr]; rfl
  · rename_i l m h1 h2
    split at he <;> try (cases he; done)
    rename_i xs ys hxs hys
    split at he <;> try (cases he; done)
    rename_i hg
    rw [h1] at hx; rw [h2] at hy
    obtain ⟨vs, e1, r1⟩ := hx
    obtain ⟨us, e2, r2⟩ := hy
    rw [e1, e2, allVals_rel hxs r1, allVals_rel hys r2]
    have hr := run_eqTop he w'
    have hg' : C.P.eqGuardType C.P.depth t = false := by simpa using hg
    constructor
    · rw [Sem.run_bind, run_eqGuard_agg w' .eql t x y _ _ hg', Result.andThen_ok, binOp_eql_agg, Sem.run_bind, hr]
      rfl
    · rw [Sem.run_bind, run_eqGuard_agg w' .neq t x y _ _ hg', Result.andThen_ok, binOp_neq_agg, Sem.run_bind, hr]
      rfl
  · cases he

theorem q_binOp {op : BinOp} {t yt : TypeId} {x y : Operand} (h : Pre C T H σ φ a w) (ho : o.op = .binOp op t x y yt) (hps : ∀ p ∈ ps, p) (hq : quietS C T H o = some (ps, s, H')) : QOut C T H o σ φ a w s H' := by
  simp only [quietS, ho] at hq
  have hpure : ∀ {u u' v : Value}, valOf (opnd T x) = some u → valOf (opnd T y) = some u' → pureOp C T o = some v → QOut C T H o σ φ a w (lift v) H := fun hu hu' hp =>
    QOut.pure_ h hp (execOp_bin ho (by rw [hu, h.val hu]; rfl) (by rw [hu', h.val hu']; rfl))
  have heq : ∀ {b : Bool} {l : List (Chunk C)}, op = .eql → eqS C t (opnd T x) (opnd T y) = some b → QOut C T H o σ φ a w (vb b) H := fun hop he =>
    QOut.same h.sat (.bool _) rfl (by simp [vb, SV.names, TV.names, At.names]) fun w' _ => by
      subst hop
      have e : execOp a.eval o = (do pure (.value (← (do eqGuard .eql t x y (a.eval x) (a.eval y); binOp .eql t (a.eval x) (a.eval y) : Sem Value))) : Sem Next) := by unfold execOp; rw [ho]
      rw [e, Sem.run_bind, (eqS_sound h he w').1]; rfl
  have hneq : ∀ {b : Bool} {l : List (Chunk C)}, op = .neq → eqS C t (opnd T x) (opnd T y) = some b → QOut C T H o σ φ a w (vb (!b)) H := fun hop he =>
    QOut.same h.sat (.bool _) rfl (by simp [vb, SV.names, TV.names, At.names]) fun w' _ => by
      subst hop
      have e : execOp a.eval o = (do pure (.value (← (do eqGuard .neq t x y (a.eval x) (a.eval y); binOp .neq t (a.eval x) (a.eval y) : Sem Value))) : Sem Next) := by unfold execOp; rw [ho]
      rw [e, Sem.run_bind, (eqS_sound h he w').2]; rfl
  unfold binS at hq
  split at hq
  · rename_i k n k' m hx hy
    split at hq <;> try (cases hq; done)
    rename_i hk
    subst hk
    split at hq
    · simp only [Option.map_eq_some_iff, Prod.mk.injEq] at hq
      obtain ⟨v, hp, _, rfl, rfl⟩ := hq
      exact hpure hx hy hp
    · simp only [Option.some.injEq, Prod.mk.injEq] at hq
      obtain ⟨rfl, rfl, rfl⟩ := hq
      have hm : m ≠ 0 := hps _ (by simp)
      exact QOut.same h.sat _ rfl (by simp [vi, SV.names, TV.names, At.names]) fun w' _ => by simp [execOp, ho, h.val hx, h.val hy, eqGuard_quo, binOp_quo, Op.intDiv, hm]
  · rename_i k n k' m hx hy
    split at hq <;> try (cases hq; done)
    rename_i hk
    subst hk
    split at hq
    · simp only [Option.map_eq_some_iff, Prod.mk.injEq] at hq
      obtain ⟨v, hp, _, rfl, rfl⟩ := hq
      exact hpure hx hy hp
    · simp only [Option.some.injEq, Prod.mk.injEq] at hq
      obtain ⟨rfl, rfl, rfl⟩ := hq
      have hm : m ≠ 0 := hps _ (by simp)
      exact QOut.same h.sat _ rfl (by simp [vi, SV.names, TV.names, At.names]) fun w' _ => by simp [execOp, ho, h.val hx, h.val hy, eqGuard_rem, binOp_rem, Op.intDiv, hm]
  · rename_i k n k' m hx hy
    split at hq
    · simp only [Option.map_eq_some_iff, Prod.mk.injEq] at hq
      obtain ⟨v, hp, _, rfl, rfl⟩ := hq
      exact hpure hx hy hp
    · simp only [Option.some.injEq, Prod.mk.injEq] at hq
      obtain ⟨rfl, rfl, rfl⟩ := hq
      have hm : 0 ≤ m := hps _ (by simp)
      exact QOut.same h.sat _ rfl (by simp [vi, SV.names, TV.names, At.names]) fun w' _ => by simp [execOp, ho, h.val hx, h.val hy, eqGuard_shl, binOp_shl, Op.shift, show ¬ m < 0 by omega]
  · rename_i k n k' m hx hy
    split at hq
    · simp only [Option.map_eq_some_iff, Prod.mk.injEq] at hq
      obtain ⟨v, hp, _, rfl, rfl⟩ := hq
      exact hpure hx hy hp
    · simp only [Option.some.injEq, Prod.mk.injEq] at hq
      obtain ⟨rfl, rfl, rfl⟩ := hq
      have hm : 0 ≤ m := hps _ (by simp)
      exact QOut.same h.sat _ rfl (by simp [vi, SV.names, TV.names, At.names]) fun w' _ => by simp [execOp, ho, h.val hx, h.val hy, eqGuard_shr, binOp_shr, Op.shift, show ¬ m < 0 by omega]
  · simp only [Option.map_eq_some_iff, Prod.mk.injEq] at hq
    obtain ⟨v, hp, _, rfl, rfl⟩ := hq
    exact heq (l := H) rfl hp
  · simp only [Option.map_eq_some_iff, Prod.mk.injEq] at hq
    obtain ⟨v, hp, _, rfl, rfl⟩ := hq
    exact hneq (l := H) rfl hp
  · rename_i u u' hx hy _ _ _ _ _ _
    simp only [Option.map_eq_some_iff, Prod.mk.injEq] at hq
    obtain ⟨v, hp, _, rfl, rfl⟩ := hq
    exact hpure hx hy hp
  · simp only [Option.map_eq_some_iff, Prod.mk.injEq] at hq
    obtain ⟨v, hp, _, rfl, rfl⟩ := hq
    exact heq (l := H) rfl hp
  · simp only [Option.map_eq_some_iff, Prod.mk.injEq] at hq
    obtain ⟨v, hp, _, rfl, rfl⟩ := hq
    exact hneq (l := H) rfl hp
  · cases hq

/-- Every quiet operation. -/
theorem quietS_sound (h : Pre C T H σ φ a w) (hps : ∀ p ∈ ps, p) (hq : quietS C T H o = some (ps, s, H')) : QOut C T H o σ φ a w s H' := by
  cases ho : o.op with
  | move x => exact q_move h ho hq
  | assign x => exact q_assign h ho hq
  | pick c x y => exact q_pick h ho hq
  | nilCheck x => exact q_nilCheck h ho hq
  | binOp op t x y yt => exact q_binOp h ho hps hq
  | unOp op t x => exact q_unOp h ho hq
  | convert t t' x => exact q_convert h ho hq
  | load t x => exact q_load h ho hq
  | fieldAddr t x f => exact q_fieldAddr h ho hq
  | field t x f => exact q_field h ho hq
  | index t x i => exact q_index h ho hps hq
  | indexAddr t x i => exact q_indexAddr h ho hps hq
  | slice t x lo hi mx => exact q_slice h ho hps hq
  | extract x k => exact q_extract h ho hq
  | build t parts => exact q_build h ho hq
  | makeFunc fn fs cs => exact q_makeFunc h ho hq
  | call c => exact q_call h ho hq
  | _ => simp [quietS, ho] at hq
end
end Go.Proofs.Ytacdmmomkngpkaa.Sx
