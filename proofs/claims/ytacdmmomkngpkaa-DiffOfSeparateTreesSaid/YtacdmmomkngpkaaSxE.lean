/- The symbolic run is sound: the other quiet operations. No program in sight. -/
import Derived.Test.YtacdmmomkngpkaaSxD
namespace Go.Proofs.Ytacdmmomkngpkaa.Sx
open Go

section
variable {C : Ctx}
variable {T : List SV} {H : List (Chunk C)} {o : Oper} {σ : Nat → Value} {φ : Nat → Nat → Prop} {a : Act} {w : World} {ps : List Prop} {s : SV} {H' : List (Chunk C)}

/-- What okAt says. -/
theorem okAt_one (hC : C.OK) (hs : Sat C σ φ w H) {x : At} {v : Value} (h : okAt H x = true) (hr : x.rel σ v) : v.oneCell' = true := by
  cases x with
  | any => simp [okAt] at h
  | val u =>
    have : v = u := hr
    subst this
    cases v <;> simp_all [okAt, Value.oneCell']
  | ptr n off => obtain ⟨b, _, rfl⟩ := hr; rfl
  | eptr n i sz off => obtain ⟨b, o, len, cap, _, _, rfl⟩ := hr; rfl
  | slc n =>
    simp only [okAt] at h
    split at h
    · rename_i own e l hH
      obtain ⟨A, c, h1, _⟩ := (hs.holds n _ hH).rd hC
      have : v = σ n := hr
      rw [this, h1]; rfl
    · cases h
  | fn f cs => have : v = _ := hr.1; subst this; rfl

theorem oneCell_cells {v : Value} (h : v.oneCell' = true) : v.cells.toList = [v] := by
  cases v <;> simp_all [Value.oneCell', Value.cells]

theorem svCells_sound (hC : C.OK) (hs : Sat C σ φ w H) {x : SV} {v : Value} {cs : List At} (h : svCells H x = some cs) (hr : x.rel σ v) : Rels (At.rel σ) cs v.cells.toList ∧ ∀ c ∈ cs, ∀ m ∈ c.names, m ∈ x.names := by
  match x with
  | .one (.at y) =>
    simp only [svCells] at h
    split at h
    · rename_i hy
      simp only [Option.some.injEq] at h
      subst h
      have h1 := okAt_one hC hs hy hr
      rw [oneCell_cells h1]
      exact ⟨Rels.cons hr Rels.nil, fun c hc m hm => by simp at hc; subst hc; exact hm⟩
    · cases h
  | .one (.agg l) =>
    simp only [svCells, Option.some.injEq] at h
    subst h
    obtain ⟨vs, rfl, hr'⟩ := hr
    exact ⟨hr', fun c hc m hm => List.mem_flatMap.2 ⟨c, hc, hm⟩⟩
  | .tup l => simp [svCells] at h

theorem splice_rels {α β : Type} {R : α → β → Prop} {l : List α} {m : List β} {l' : List α} {m' : List β} (h : Rels R l m) (h' : Rels R l' m') (off : Nat) : Rels R (splice l off l') (splice m off m') := by
  unfold splice
  rw [← h'.1]
  exact (h.take off).append (h'.append (h.drop _))

theorem splice_len {α : Type} {l l' : List α} {off : Nat} (h : off + l'.length ≤ l.length) : (splice l off l').length = l.length := by
  simp [splice]; omega

theorem splice_set {α : Type} {l vs : List α} {v : α} {p : Nat} (h : p + (vs.length + 1) ≤ l.length) : splice (l.set p v) (p + 1) vs = splice l p (v :: vs) := by
  have hA : (l.take p).length = p := by simp; omega
  have e : l.set p v = l.take p ++ v :: l.drop (p + 1) := by rw [List.set_eq_take_append_cons_drop, if_pos (by omega)]
  unfold splice
  rw [e, List.take_append, List.drop_append, hA, List.take_of_length_le (by omega), show p + 1 - p = 1 by omega, List.drop_eq_nil_of_le (by omega : (l.take p).length ≤ p + 1 + vs.length)]
  simp only [List.take_succ_cons, List.take_zero, List.nil_append, List.length_cons, List.append_assoc, List.cons_append]
  rw [show p + 1 + vs.length - p = vs.length + 1 by omega, List.drop_succ_cons, List.drop_drop]
  rw [show p + 1 + vs.length = p + (vs.length + 1) by omega]

theorem foldl_set (off : Nat) : ∀ (vs : List Value) (k : Nat) (cs : Array Value), off + k + vs.length ≤ cs.size →
    ((vs.zipIdx k).foldl (fun cs (x : Value × Nat) => cs.setIfInBounds (off + x.2) x.1) cs).toList = splice cs.toList (off + k) vs := by
  intro vs
  induction vs with
  | nil => intro k cs h; simp [splice]
  | cons v vs ih =>
    intro k cs h
    simp only [List.length_cons] at h
    rw [List.zipIdx_cons, List.foldl_cons, ih (k + 1) _ (by simp; omega)]
    simp only [Array.toList_setIfInBounds]
    exact splice_set (by simp; omega)

theorem fill_sound (place : Nat → Option (Nat × Nat)) (hC : C.OK) (hs : Sat C σ φ w H) : ∀ (parts : List (Nat × SV)) (vs : List (Nat × Value)) (z : List At) (cs : Array Value) {cells : List At},
    parts.map (·.1) = vs.map (·.1) → Rels (SV.rel σ) (parts.map (·.2)) (vs.map (·.2)) → Rels (At.rel σ) z cs.toList → buildS C H place z parts = some cells →
    (∀ p ∈ parts, ∀ m ∈ p.2.names, m < H.length) → (∀ c ∈ z, ∀ m ∈ c.names, m < H.length) →
    ∃ cs', Instr.fill place cs vs = some cs' ∧ Rels (At.rel σ) cells cs'.toList ∧ ∀ c ∈ cells, ∀ m ∈ c.names, m < H.length := by
  intro parts
  induction parts with
  | nil =>
    intro vs z cs cells hk hr hz hb _ hn
    cases vs with
    | nil => simp [buildS] at hb; subst hb; exact ⟨cs, rfl, hz, hn⟩
    | cons v vs => simp at hk
  | cons p parts ih =>
    intro vs z cs cells hk hr hz hb hn hzn
    obtain ⟨i, x⟩ := p
    cases vs with
    | nil => simp at hk
    | cons q vs =>
      obtain ⟨i', v⟩ := q
      simp only [List.map_cons, List.cons.injEq] at hk
      obtain ⟨rfl, hk⟩ := hk
      have hrx : x.rel σ v := hr.2 0 _ _ rfl rfl
      have hrt : Rels (SV.rel σ) (parts.map (·.2)) (vs.map (·.2)) := ⟨by simpa using hr.1, fun i a b ha hb => hr.2 (i + 1) a b (by simpa using ha) (by simpa using hb)⟩
      simp only [buildS] at hb
      split at hb <;> try (cases hb; done)
      rename_i off size cl hp hc
      split at hb <;> try (cases hb; done)
      rename_i hle
      obtain ⟨h1, h2⟩ := svCells_sound hC hs hc hrx
      have hsz : v.cells.size = cl.length := by rw [h1.1]; simp
      have hzs : z.length = cs.size := by rw [hz.1]; simp
      have hf := foldl_set off v.cells.toList 0 cs (by simp; omega)
      rw [Nat.add_zero] at hf
      have hset : v.cells.zipIdx.foldl (fun cs (x : Value × Nat) => cs.setIfInBounds (off + x.2) x.1) cs = (v.cells.toList.zipIdx).foldl (fun cs (x : Value × Nat) => cs.setIfInBounds (off + x.2) x.1) cs := by
        rw [← Array.foldl_toList, Array.toList_zipIdx]
      obtain ⟨cs', g1, g2, g3⟩ := ih vs (splice z off cl) (v.cells.zipIdx.foldl (fun cs (x : Value × Nat) => cs.setIfInBounds (off + x.2) x.1) cs) hk hrt (by rw [hset, hf]; exact splice_rels hz h1 off) hb
        (fun p hp => hn p (List.mem_cons_of_mem _ hp)) (fun c hc m hm => by
          simp only [splice, List.mem_append] at hc
          rcases hc with hc | hc | hc
          · exact hzn c (List.mem_of_mem_take hc) m hm
          · exact hn (i, x) List.mem_cons_self m (h2 c hc m hm)
          · exact hzn c (List.mem_of_mem_drop hc) m hm)
      refine ⟨cs', ?_, g2, g3⟩
      rw [Instr.fill]
      simp only [hp]
      rw [if_neg (by simp only [Bool.or_eq_true, decide_eq_true_eq, not_or]; omega)]
      exact g1

theorem zeroS_sound (hC : C.OK) {t : TypeId} {z : List At} (h : zeroS C t = some z) : ∃ i v, C.P.info? t = some i ∧ i.zero = some v ∧ z = v.cells.toList.map .val := by
  unfold zeroS at h
  split at h
  · rename_i i hi
    simp only [Option.map_eq_some_iff] at h
    obtain ⟨v, h1, rfl⟩ := h
    exact ⟨i, v, hi, h1, rfl⟩
  · cases h

theorem run_places {P : Program} : ∀ (fs : List Field), (∀ f ∈ fs, (P.info? f.type).isSome = true) → ∀ w, (fs.mapM (m := Sem) fun f => do pure (f.offset, ← sizeOf f.type)).run P w = .ok (fs.map fun f => (f.offset, ((P.info? f.type).map (·.size)).getD 0)) w := by
  intro fs
  induction fs with
  | nil => intro _ w; simp
  | cons f fs ih =>
    intro h w
    obtain ⟨i, hi⟩ := Option.isSome_iff_exists.1 (h f (by simp))
    have := ih (fun g hg => h g (by simp [hg])) w
    simp only [List.mapM_cons, Sem.run_bind, run_sizeOf hi, Result.andThen_ok, Sem.run_pure, this, List.map_cons, hi, Option.map_some, Option.getD_some]

theorem run_build (hC : C.OK) {t : TypeId} {i : TypeInfo} {v : Value} (hb : buildOK C t = true) (hi : C.P.info? t = some i) (hz : i.zero = some v) {vs : Array (Nat × Value)} {cs : Array Value} (hf : Instr.fill (placeS C t) v.cells vs.toList = some cs) (w : World) :
    (Instr.build t vs).run C.P w = .ok (.agg cs) w := by
  unfold buildOK at hb
  have hzr : (zeroValue t).run C.P w = .ok v w := by simp [zeroValue, typeInfo, hi, hz]
  split at hb
  · rename_i fs hfs
    have hpl : placeS C t = fun i => (fs.toList.map fun f => (f.offset, ((C.P.info? f.type).map (·.size)).getD 0)).toArray[i]? := by
      funext k
      unfold placeS
      rw [hfs]
      simp only [List.getElem?_toArray, List.getElem?_map, Array.getElem?_toList]
      cases hk : fs[k]? with
      | none => rfl
      | some f =>
        have hm : f ∈ fs.toList := by
          have := Array.mem_of_getElem? hk
          simpa using this
        obtain ⟨j, hj⟩ := Option.isSome_iff_exists.1 (List.all_eq_true.1 hb f hm)
        simp [hj]
    have hrun := run_places (P := C.P) fs.toList (fun f hf => List.all_eq_true.1 hb f hf) w
    rw [hpl] at hf
    unfold Instr.build
    have hm : (fs.mapM (m := Sem) fun f => do pure (f.offset, ← sizeOf f.type)).run C.P w = .ok (fs.toList.map fun f => (f.offset, ((C.P.info? f.type).map (·.size)).getD 0)).toArray w := by
      rw [Array.mapM_eq_mapM_toList, Sem.run_map, hrun]
      rfl
    simp only [Sem.run_bind, hzr, Result.andThen_ok, run_underlying hfs, hm, hf, Sem.run_pure]
  · rename_i n e he
    obtain ⟨j, hj⟩ := Option.isSome_iff_exists.1 hb
    have hpl : placeS C t = fun i => some (i * j.size, j.size) := by funext k; simp [placeS, he, hj]
    rw [hpl] at hf
    unfold Instr.build
    simp [hzr, run_underlying he, run_sizeOf hj, hf]
  · cases hb

theorem parts_rel (h : Pre C T H σ φ a w) (parts : List (Nat × Operand)) :
    (parts.map fun p => (p.1, opnd T p.2)).map (·.1) = (parts.map fun p => (p.1, a.eval p.2)).map (·.1) ∧ Rels (SV.rel σ) ((parts.map fun p => (p.1, opnd T p.2)).map (·.2)) ((parts.map fun p => (p.1, a.eval p.2)).map (·.2)) := by
  constructor
  · simp [Function.comp_def]
  · have := rels_map_eval h (parts.map (·.2))
    simpa [Function.comp_def] using this

theorem q_build {t : TypeId} {parts : Array (Nat × Operand)} (h : Pre C T H σ φ a w) (ho : o.op = .build t parts) (hq : quietS C T H o = some (ps, s, H')) : QOut C T H o σ φ a w s H' := by
  simp only [quietS, ho] at hq
  split at hq <;> try (cases hq; done)
  rename_i z hz
  split at hz <;> try (cases hz; done)
  rename_i hok
  split at hq <;> try (cases hq; done)
  rename_i cells hb
  simp only [Option.some.injEq, Prod.mk.injEq] at hq
  obtain ⟨_, rfl, rfl⟩ := hq
  obtain ⟨i, v, hi, hiz, rfl⟩ := zeroS_sound h.ok hz
  obtain ⟨e1, e2⟩ := parts_rel h parts.toList
  obtain ⟨cs', g1, g2, g3⟩ := fill_sound (placeS C t) h.ok h.sat _ _ _ v.cells e1 e2 (rels_vals _) hb (fun p hp m hm => by
    obtain ⟨q, _, rfl⟩ := List.mem_map.1 hp
    exact h.nm q.2 m hm) (fun c hc m hm => by
    obtain ⟨u, _, rfl⟩ := List.mem_map.1 hc
    simp [At.names] at hm)
  obtain ⟨σ', φ', g, r, n⟩ := nilCells_sound h.ok cells (cellTs C.P 20 t) h.sat g2 g3
  refine ⟨.agg cs', σ', φ', g, ⟨cs'.toList, by simp, r⟩, fun m hm => ?_, fun w' _ => ?_⟩
  · obtain ⟨c, hc, hm⟩ := List.mem_flatMap.1 hm
    exact n c hc m hm
  · have hrun := run_build h.ok hok hi hiz (vs := parts.map fun p => (p.1, a.eval p.2)) (cs := cs') (by simpa using g1) w'
    simp [execOp, ho, hrun]
end
end Go.Proofs.Ytacdmmomkngpkaa.Sx
