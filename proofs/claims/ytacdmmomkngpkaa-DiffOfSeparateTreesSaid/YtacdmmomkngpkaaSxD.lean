/- The symbolic run is sound: loads, addresses, parts. No program in sight. -/
import Derived.Test.YtacdmmomkngpkaaSxC
namespace Go.Proofs.Ytacdmmomkngpkaa.Sx
open Go

section
variable {C : Ctx}
variable {T : List SV} {H : List (Chunk C)} {o : Oper} {σ : Nat → Value} {φ : Nat → Nat → Prop} {a : Act} {w : World} {ps : List Prop} {s : SV} {H' : List (Chunk C)}

theorem run_isAggD {P : Program} {t : TypeId} {d : TypeDesc} (h : P.underlying t = some d) (w : World) : (isAgg t).run P w = .ok (isAggD d) w := by
  unfold isAgg
  rw [Sem.run_bind, run_underlying h]
  cases d <;> rfl
theorem run_sizeOf {P : Program} {t : TypeId} {i : TypeInfo} (h : P.info? t = some i) (w : World) : (sizeOf t).run P w = .ok i.size w := by
  simp [sizeOf, typeInfo, h]

theorem run_loadVar_agg {P : Program} {t : TypeId} {d : TypeDesc} {i : TypeInfo} {ad : Addr} {w : World} (hd : P.underlying t = some d) (ha : isAggD d = true) (hi : P.info? t = some i) (vs : List Value) (hl : vs.length = i.size)
    (hc : ∀ j u, vs[j]? = some u → w.cell? (ad.add j) = some u) : (loadVar t ad).run P w = .ok (.agg vs.toArray) w := by
  have h1 := run_loadCells_list (P := P) w ad vs hc
  rw [hl] at h1
  simp [loadVar, run_isAggD hd, ha, run_sizeOf hi, h1]
theorem run_loadVar_one {P : Program} {t : TypeId} {d : TypeDesc} {ad : Addr} {w : World} {u : Value} (hd : P.underlying t = some d) (ha : isAggD d = false) (hc : w.cell? ad = some u) : (loadVar t ad).run P w = .ok u w := by
  simp [loadVar, run_isAggD hd, ha, hc]

/-- A row reads as its list. -/
theorem Holds.rd (hC : C.OK) {w : World} {v : Value} {f : Nat → Prop} {own : Bool} {e : C.EC} {l : List (C.α e)} (h : Holds w σ v f (.row own e l)) : ∃ A c, v = .slice A l.length c ∧ Rd (C.enc e) (C.sz e) w A l.length c l := by
  cases own with
  | false => exact h.1
  | true =>
    obtain ⟨A, c, h1, h2, _⟩ := Own.form (f := C.enc e) (sz := C.sz e) (e := C.tid e) (B := 0) (l := l) ⟨hC.len e, h.1⟩
    exact ⟨A, c, h1, h2⟩

theorem getD_some {α : Type} {l : List α} {i : Nat} {d : α} (h : i < l.length) : l[i]? = some (l.getD i d) := by
  simp [List.getD_eq_getElem?_getD, List.getElem?_eq_getElem h]

/-- What an address leads to. -/
theorem cellAt_sound (hC : C.OK) (hs : Sat C σ φ w H) {x : SV} {v : Value} {cells : List At} {off : Nat} (hx : x.rel σ v) (hc : cellAt H x = some (cells, off)) :
    ∃ n b k vs, (x.names = [n]) ∧ v = .pointer (some ⟨b, k + off, none⟩) ∧ Rdb H σ n b ∧ Rels (At.rel σ) cells vs ∧ (∀ c ∈ cells, ∀ m ∈ c.names, m < H.length) ∧
      ((∃ i, x = .one (.at (.ptr i off))) ∨ ∃ i j sz, x = .one (.at (.eptr i j sz off))) ∧
      ∀ (w' : World), w'.heap[b]? = w.heap[b]? → ∀ (j : Nat) (u : Value), vs[j]? = some u → w'.cell? ⟨b, k + j, none⟩ = some u := by
  unfold cellAt at hc
  split at hc
  · rename_i n off'
    split at hc
    · rename_i cells' hH
      simp only [Option.some.injEq, Prod.mk.injEq] at hc
      obtain ⟨rfl, rfl⟩ := hc
      obtain ⟨b, h1, h2⟩ := (show At.rel σ (.ptr n off') v from hx)
      obtain ⟨b', t, cs, h3, h4, h5, h6⟩ := hs.holds n _ hH
      rw [h1] at h3
      obtain rfl : b = b' := by simpa using h3
      refine ⟨n, b, 0, cs.toList, rfl, by simpa using h2, .inl ⟨h1, _, hH⟩, h6, fun c hc m hm => hs.cl n _ hH m (List.mem_flatMap.2 ⟨c, hc, hm⟩), .inl ⟨n, rfl⟩, fun w' hw' j u hu => ?_⟩
      rw [Nat.zero_add, cell_of_row w' b j cs t (0, 0) (hw'.trans h5)]
      simpa using hu
    · cases hc
  · rename_i n i sz off'
    split at hc
    · rename_i own e l hH
      split at hc
      · rename_i hsz
        simp only [Option.some.injEq, Prod.mk.injEq] at hc
        obtain ⟨rfl, rfl⟩ := hc
        obtain ⟨b, o', len, cap, h1, h2, h3⟩ := (show At.rel σ (.eptr n i sz off') v from hx)
        obtain ⟨A, c, h4, h5⟩ := (hs.holds n _ hH).rd hC
        rw [h1] at h4
        obtain ⟨rfl, rfl, rfl⟩ : A = some ⟨b, o', none⟩ ∧ len = l.length ∧ cap = c := by
          injection h4 with e1 e2 e3
          exact ⟨e1.symm, e2, e3⟩
        obtain ⟨b2, o2, e2, hlt, hcl⟩ := h5.get (by omega)
        obtain ⟨rfl, rfl⟩ : b = b2 ∧ o' = o2 := by simpa using e2
        refine ⟨n, b, o' + i * sz, C.enc e (l.getD i (C.dft e)), rfl, by rw [h3], .inr ⟨by rw [h1]; rfl, own, e, l, hH, by omega⟩, rels_vals _, fun c hc m hm => ?_, .inr ⟨n, i, sz, rfl⟩, fun w' hw' j u hu => ?_⟩
        · obtain ⟨u, _, rfl⟩ := List.mem_map.1 hc
          simp [At.names] at hm
        · rw [hsz]
          exact (World.cell?_of_block (w := w) (w' := w') (a := ⟨b, o' + i * C.sz e + j, none⟩) hw').trans (hcl i _ (getD_some h2) j u hu)
      · cases hc
    · cases hc
  · cases hc

theorem rels_one {x : At} {l : List At} {vs : List Value} (hr : Rels (At.rel σ) l vs) {k : Nat} (hk : l[k]? = some x) : ∃ u, vs[k]? = some u ∧ x.rel σ u := hr.get hk

theorem names_sub {l : List At} {n k j : Nat} (h : ∀ c ∈ l, ∀ m ∈ c.names, m < n) : ∀ m ∈ (SV.one (.agg ((l.drop k).take j))).names, m < n := by
  intro m hm
  simp only [SV.names, TV.names, List.mem_flatMap] at hm
  obtain ⟨c, hc, hm⟩ := hm
  exact h c (List.mem_of_mem_drop (List.mem_of_mem_take hc)) m hm

theorem loadS_sound (hC : C.OK) (hs : Sat C σ φ w H) {t : TypeId} {x : SV} {v : Value} (hx : x.rel σ v) (h : loadS C H t x = some s) :
    ∃ u n b ad, x.names = [n] ∧ v = .pointer (some ad) ∧ Rdb H σ n b ∧ s.rel σ u ∧ (∀ m ∈ s.names, m < H.length) ∧
      ((∃ i k, x = .one (.at (.ptr i k))) ∨ ∃ i j sz k, x = .one (.at (.eptr i j sz k))) ∧ ∀ (w' : World), w'.heap[b]? = w.heap[b]? → (loadVar t ad).run C.P w' = .ok u w' := by
  unfold loadS at h
  split at h
  · rename_i cells off d i hc hd hi
    obtain ⟨n, b, k, vs, h1, h2, h3, h4, h5, h6, h7⟩ := cellAt_sound hC hs hx hc
    have hkind : (∃ i k, x = .one (.at (.ptr i k))) ∨ ∃ i j sz k, x = .one (.at (.eptr i j sz k)) := by
      rcases h6 with ⟨i, rfl⟩ | ⟨i, j, sz, rfl⟩
      · exact .inl ⟨_, _, rfl⟩
      · exact .inr ⟨_, _, _, _, rfl⟩
    split at h
    · rename_i ha
      split at h
      · rename_i hle
        simp only [Option.some.injEq] at h
        subst h
        refine ⟨.agg ((vs.drop off).take i.size).toArray, n, b, _, h1, h2, h3, ⟨_, rfl, (h4.drop off).take i.size⟩, names_sub h5, hkind, fun w' hw' => ?_⟩
        refine run_loadVar_agg hd ha hi _ ?_ fun j u hu => ?_
        · rw [List.length_take, List.length_drop, ← h4.1]; omega
        · rw [List.getElem?_take] at hu
          split at hu
          · rw [List.getElem?_drop] at hu
            rw [Addr.add_lit, Nat.add_assoc]
            exact h7 w' hw' _ u hu
          · cases hu
      · cases h
    · rename_i ha
      split at h
      · rename_i x' hx'
        simp only [Option.some.injEq] at h
        subst h
        obtain ⟨u, hu, hr⟩ := h4.get hx'
        refine ⟨u, n, b, _, h1, h2, h3, hr, fun m hm => h5 x' (List.mem_of_getElem? hx') m hm, hkind, fun w' hw' => run_loadVar_one hd (by simpa using ha) (h7 w' hw' _ u hu)⟩
      · cases h
  · cases h

theorem q_load {t : TypeId} {x : Operand} (h : Pre C T H σ φ a w) (ho : o.op = .load t x) (hq : quietS C T H o = some (ps, s, H')) : QOut C T H o σ φ a w s H' := by
  simp only [quietS, ho, Option.map_eq_some_iff, Prod.mk.injEq] at hq
  obtain ⟨s', hl, _, rfl, rfl⟩ := hq
  obtain ⟨u, n, b, ad, h1, h2, h3, h4, h5, h6, h7⟩ := loadS_sound h.ok h.sat (h.rel x) hl
  refine QOut.same h.sat u h4 h5 fun w' hw' => ?_
  have hn : readName T o = some n := by
    unfold readName
    rw [ho]
    rcases h6 with ⟨i, k, e⟩ | ⟨i, j, sz, k, e⟩
    · rw [e] at h1; simp [SV.names, TV.names, At.names] at h1; subst h1; simp [e]
    · rw [e] at h1; simp [SV.names, TV.names, At.names] at h1; subst h1; simp [e]
  have := h7 w' (hw' n hn b h3)
  simp [execOp, ho, Instr.loadAt, h2, Instr.sureAddr, this]

theorem q_fieldAddr {t : TypeId} {x : Operand} {f : Nat} (h : Pre C T H σ φ a w) (ho : o.op = .fieldAddr t x f) (hq : quietS C T H o = some (ps, s, H')) : QOut C T H o σ φ a w s H' := by
  have hx := h.rel x
  have nx := h.nm x
  simp only [quietS, ho] at hq
  have key : ∀ {d : Nat}, fieldS C t f = some d → ∀ (b k : Nat) w', (Instr.fieldAt t (.pointer (some ⟨b, k, none⟩)) f).run C.P w' = .ok (.pointer (some ⟨b, k + d, none⟩)) w' := by
    intro d hd b k w'
    unfold fieldS at hd
    split at hd <;> try (cases hd; done)
    rename_i fs hfs
    split at hd <;> try (cases hd; done)
    rename_i fd hfd
    split at hd <;> try (cases hd; done)
    rename_i i hi
    split at hd <;> try (cases hd; done)
    rename_i hz
    simp only [Option.some.injEq] at hd
    subst hd
    simp [Instr.fieldAt, run_underlying hfs, hfd, Instr.sureAddr, fieldPlace, run_sizeOf hi, hz, Addr.add_lit]
  split at hq <;> try (cases hq; done)
  · rename_i d n k hd hc
    rw [hc] at hx nx
    simp only [Option.some.injEq, Prod.mk.injEq] at hq
    obtain ⟨_, rfl, rfl⟩ := hq
    obtain ⟨b, h1, h2⟩ := (show At.rel σ (.ptr n k) _ from hx)
    exact QOut.same h.sat (.pointer (some ⟨b, k + d, none⟩)) ⟨b, h1, rfl⟩ (by simpa [SV.names, TV.names, At.names] using nx) fun w' _ => by
      have := key hd b k w'
      simp [execOp, ho, h2, this]
  · rename_i d n i sz k hd hc
    rw [hc] at hx nx
    simp only [Option.some.injEq, Prod.mk.injEq] at hq
    obtain ⟨_, rfl, rfl⟩ := hq
    obtain ⟨b, o', len, cap, h1, h2, h3⟩ := (show At.rel σ (.eptr n i sz k) _ from hx)
    exact QOut.same h.sat (.pointer (some ⟨b, o' + i * sz + k + d, none⟩)) ⟨b, o', len, cap, h1, h2, by rw [Nat.add_assoc _ k d]⟩ (by simpa [SV.names, TV.names, At.names] using nx) fun w' _ => by
      have := key hd b (o' + i * sz + k) w'
      simp [execOp, ho, h3, this]

theorem extract_toList (cs : Array Value) (i j : Nat) : cs.extract i (i + j) = ((cs.toList.drop i).take j).toArray := by
  apply Array.ext'
  simp [Array.toList_extract, List.extract_eq_take_drop]

theorem partS_sound {t : TypeId} {l : List At} {off n : Nat} {vs : List Value} (hr : Rels (At.rel σ) l vs) (hn : ∀ c ∈ l, ∀ m ∈ c.names, m < n) (h : partS C t l off = some s) :
    ∃ u, s.rel σ u ∧ (∀ m ∈ s.names, m < n) ∧ ∀ (w' : World), (part t vs.toArray off).run C.P w' = .ok u w' := by
  unfold partS at h
  split at h
  · rename_i d i hd hi
    split at h
    · rename_i ha
      split at h
      · simp only [Option.some.injEq] at h
        subst h
        refine ⟨.agg ((vs.drop off).take i.size).toArray, ⟨_, rfl, (hr.drop off).take i.size⟩, names_sub hn, fun w' => ?_⟩
        simp [part, run_isAggD hd, ha, run_sizeOf hi, extract_toList]
      · cases h
    · rename_i ha
      split at h
      · rename_i x' hx'
        simp only [Option.some.injEq] at h
        subst h
        obtain ⟨u, hu, hr'⟩ := hr.get hx'
        exact ⟨u, hr', fun m hm => hn x' (List.mem_of_getElem? hx') m hm, fun w' => by simp [part, run_isAggD hd, ha, hu]⟩
      · cases h
  · cases h

theorem q_field {t : TypeId} {x : Operand} {f : Nat} (h : Pre C T H σ φ a w) (ho : o.op = .field t x f) (hq : quietS C T H o = some (ps, s, H')) : QOut C T H o σ φ a w s H' := by
  have hx := h.rel x
  have nx := h.nm x
  simp only [quietS, ho] at hq
  split at hq <;> try (cases hq; done)
  rename_i fs l hfs hc
  split at hq <;> try (cases hq; done)
  rename_i fd hfd
  simp only [Option.map_eq_some_iff, Prod.mk.injEq] at hq
  obtain ⟨s', hp, _, rfl, rfl⟩ := hq
  rw [hc] at hx nx
  obtain ⟨vs, e, hr⟩ := (show TV.rel σ (.agg l) _ from hx)
  obtain ⟨u, h1, h2, h3⟩ := partS_sound hr (fun c hc m hm => nx m (List.mem_flatMap.2 ⟨c, hc, hm⟩)) hp
  exact QOut.same h.sat u h1 h2 fun w' _ => by simp [execOp, ho, e, Instr.field, run_underlying hfs, hfd, asAgg, h3 w']

theorem q_index {t : TypeId} {x i : Operand} (h : Pre C T H σ φ a w) (ho : o.op = .index t x i) (hps : ∀ p ∈ ps, p) (hq : quietS C T H o = some (ps, s, H')) : QOut C T H o σ φ a w s H' := by
  have hx := h.rel x
  have nx := h.nm x
  have hi := h.rel i
  simp only [quietS, ho] at hq
  split at hq <;> try (cases hq; done)
  rename_i n e l k j hd hc hci
  split at hq <;> try (cases hq; done)
  rename_i ei hei
  simp only [Option.map_eq_some_iff, Prod.mk.injEq] at hq
  obtain ⟨s', hp, rfl, rfl, rfl⟩ := hq
  rw [hc] at hx nx
  rw [hci] at hi
  have hj0 : 0 ≤ j := hps _ (by simp)
  have hj1 : j < (n : Int) := hps _ (by simp)
  have ei' : a.eval i = .int k j := hi
  obtain ⟨vs, e', hr⟩ := (show TV.rel σ (.agg l) _ from hx)
  obtain ⟨u, h1, h2, h3⟩ := partS_sound hr (fun c hc m hm => nx m (List.mem_flatMap.2 ⟨c, hc, hm⟩)) hp
  exact QOut.same h.sat u h1 h2 fun w' _ => by
    have := h3 w'
    simp [execOp, ho, e', ei', Instr.index, asIntOf, run_underlying hd, hj0, hj1, run_sizeOf hei, this]

theorem elemEC_spec (hC : C.OK) {t : TypeId} {e : C.EC} (h : elemEC C t = some e) : C.P.underlying t = some (.slice (C.tid e)) := by
  unfold elemEC at h
  split at h
  · rename_i x hx
    rw [hx, hC.byT _ _ h]
  · cases h

theorem q_indexAddr {t : TypeId} {x i : Operand} (h : Pre C T H σ φ a w) (ho : o.op = .indexAddr t x i) (hps : ∀ p ∈ ps, p) (hq : quietS C T H o = some (ps, s, H')) : QOut C T H o σ φ a w s H' := by
  have hx := h.rel x
  have nx := h.nm x
  have hi := h.rel i
  simp only [quietS, ho] at hq
  split at hq <;> try (cases hq; done)
  · rename_i n k j hc hci
    split at hq <;> try (cases hq; done)
    rename_i own e l e' hH he
    split at hq <;> try (cases hq; done)
    rename_i hee hdq
    subst hee
    simp only [Option.some.injEq, Prod.mk.injEq] at hq
    obtain ⟨rfl, rfl, rfl⟩ := hq
    rw [hc] at hx nx
    rw [hci] at hi
    have hj0 : 0 ≤ j := hps _ (by simp)
    have hj1 : j < (l.length : Int) := hps _ (by simp)
    have ei' : a.eval i = .int k j := hi
    have ex : a.eval x = σ n := hx
    obtain ⟨A, c, h4, h5⟩ := (h.sat.holds n _ hH).rd h.ok
    obtain ⟨b, o', rfl, _, _⟩ := h5.get (by omega)
    obtain ⟨ti, z, hti, _, hsz, _⟩ := h.ok.info e'
    refine QOut.same h.sat (.pointer (some ⟨b, o' + j.toNat * C.sz e' + 0, none⟩)) ⟨b, o', _, _, h4, by omega, rfl⟩ (by simpa [SV.names, TV.names, At.names] using nx) fun w' _ => ?_
    simp [execOp, ho, ei', ex, h4, Instr.indexAt, asIntOf, run_underlying (elemEC_spec h.ok he), hj0, hj1, run_sizeOf hti, hsz, Addr.add_lit]
  · rename_i n k kd j hc hci
    split at hq <;> try (cases hq; done)
    rename_i m e hd
    split at hq <;> try (cases hq; done)
    rename_i ei hei
    simp only [Option.some.injEq, Prod.mk.injEq] at hq
    obtain ⟨rfl, rfl, rfl⟩ := hq
    rw [hc] at hx nx
    rw [hci] at hi
    have hj0 : 0 ≤ j := hps _ (by simp)
    have hj1 : j < (m : Int) := hps _ (by simp)
    have ei' : a.eval i = .int kd j := hi
    obtain ⟨b, h1, h2⟩ := hx
    have ex : a.eval x = .pointer (some ⟨b, k, none⟩) := h2
    refine QOut.same h.sat (.pointer (some ⟨b, k + j.toNat * ei.size, none⟩)) ⟨b, h1, rfl⟩ (by simpa [SV.names, TV.names, At.names] using nx) fun w' _ => ?_
    simp [execOp, ho, ei', ex, Instr.indexAt, Instr.sureAddr, asIntOf, run_underlying hd, hj0, hj1, run_sizeOf hei, Addr.add_lit]

theorem q_extract {x : Operand} {k : Nat} (h : Pre C T H σ φ a w) (ho : o.op = .extract x k) (hq : quietS C T H o = some (ps, s, H')) : QOut C T H o σ φ a w s H' := by
  have hx := h.rel x
  have nx := h.nm x
  simp only [quietS, ho] at hq
  split at hq <;> try (cases hq; done)
  rename_i l hc
  simp only [Option.map_eq_some_iff, Prod.mk.injEq] at hq
  obtain ⟨y, hy, _, rfl, rfl⟩ := hq
  rw [hc] at hx nx
  obtain ⟨vs, e, hr⟩ := hx
  obtain ⟨u, hu, hru⟩ := hr.get hy
  exact QOut.same h.sat u hru (fun m hm => nx m (List.mem_flatMap.2 ⟨y, List.mem_of_getElem? hy, hm⟩)) fun w' _ => by simp [execOp, ho, e, Instr.extract, hu]

theorem caps_sound : ∀ {l : List SV} {cs : List Nat} {vs : List Value}, caps l = some cs → Rels (SV.rel σ) l vs → vs = cs.map σ ∧ (∀ c ∈ cs, ∃ b, σ c = .pointer (some ⟨b, 0, none⟩)) ∧ ∀ n, (∀ s ∈ l, ∀ m ∈ s.names, m < n) → ∀ c ∈ cs, c < n := by
  intro l
  induction l with
  | nil => intro cs vs h hr; simp [caps] at h; subst h; exact ⟨List.eq_nil_of_length_eq_zero hr.1.symm, by simp, by simp⟩
  | cons x l ih =>
    intro cs vs h hr
    unfold caps at h
    split at h
    · cases ‹_ :: _ = []›
    · rename_i n t heq
      obtain ⟨rfl, rfl⟩ : x = .one (.at (.ptr n 0)) ∧ l = t := by simpa using heq
      simp only [Option.map_eq_some_iff] at h
      obtain ⟨cs', h1, rfl⟩ := h
      match vs, hr with
      | [], hr => exact absurd hr.1 (by simp)
      | v :: vs, hr =>
        obtain ⟨b, e1, e2⟩ := (show At.rel σ (.ptr n 0) v from hr.2 0 _ _ rfl rfl)
        obtain ⟨e3, e5, e4⟩ := ih h1 (vs := vs) ⟨by simpa using hr.1, fun i x y hx hy => hr.2 (i + 1) x y (by simpa using hx) (by simpa using hy)⟩
        refine ⟨by rw [e3, e2, List.map_cons, e1], fun c hc => ?_, fun k hk c hc => ?_⟩
        · rcases List.mem_cons.1 hc with rfl | hc
          · exact ⟨b, e1⟩
          · exact e5 c hc
        rcases List.mem_cons.1 hc with rfl | hc
        · exact hk (.one (.at (.ptr c 0))) (by simp) c (by simp [SV.names, TV.names, At.names])
        · exact e4 k (fun s hs => hk s (by simp [hs])) c hc
    · cases h

theorem rels_map_eval (h : Pre C T H σ φ a w) (l : List Operand) : Rels (SV.rel σ) (l.map (opnd T)) (l.map a.eval) :=
  ⟨by simp, fun i x y hx hy => by
    rw [List.getElem?_map] at hx hy
    cases hl : l[i]? with
    | none => rw [hl] at hx; cases hx
    | some p => rw [hl] at hx hy; simp at hx hy; subst hx hy; exact h.rel p⟩

theorem q_makeFunc {fn : Fn} {fs cs : Array Operand} (h : Pre C T H σ φ a w) (ho : o.op = .makeFunc fn fs cs) (hq : quietS C T H o = some (ps, s, H')) : QOut C T H o σ φ a w s H' := by
  cases fn <;> try (simp [quietS, ho] at hq; done)
  rename_i f
  simp only [quietS, ho] at hq
  split at hq <;> try (cases hq; done)
  rename_i hfs
  simp only [Option.map_eq_some_iff, Prod.mk.injEq] at hq
  obtain ⟨l, hl, _, rfl, rfl⟩ := hq
  obtain ⟨e1, e5, e2⟩ := caps_sound hl (rels_map_eval h cs.toList)
  refine QOut.same h.sat (.func (.func f) #[] (l.map σ).toArray) ⟨rfl, e5⟩ (fun m hm => ?_) fun w' _ => ?_
  · simp [SV.names, TV.names, At.names] at hm
    refine e2 H.length (fun s hs m hm => ?_) m hm
    obtain ⟨x, _, rfl⟩ := List.mem_map.1 hs
    exact h.nm x m hm
  · have e3 : fs = #[] := Array.ext' (by simpa using hfs)
    have e4 : cs.map a.eval = (l.map σ).toArray := by
      apply Array.ext'
      simp [← e1]
    rw [← e4]
    simp [execOp, ho, Instr.makeFunc, e3]
end
end Go.Proofs.Ytacdmmomkngpkaa.Sx
