/- The symbolic run is sound: stores, new rows, appends. No program in sight. -/
import Derived.Test.YtacdmmomkngpkaaSxG
namespace Go.Proofs.Ytacdmmomkngpkaa.Sx
open Go

section
variable {C : Ctx}
variable {T : List SV} {H : List (Chunk C)} {o : Oper} {σ : Nat → Value} {φ : Nat → Nat → Prop} {a : Act} {w : World} {ps : List Prop} {s : SV} {H' : List (Chunk C)}
variable {K : EK C} {Γ : List (FuncId × Tfm C)} {trunc : Nat → Bool} {Q : Exit → Act → World → Prop}

theorem At.kill_rel {n : Nat} {x : At} {v : Value} (h : x.rel σ v) : (x.kill n).rel σ v := by
  unfold At.kill
  split
  · trivial
  · exact h
theorem At.kill_names {n : Nat} {x : At} : ∀ m ∈ (x.kill n).names, m ∈ x.names ∧ m ≠ n := by
  unfold At.kill
  split
  · intro m hm; simp [At.names] at hm
  · rename_i hn
    intro m hm
    refine ⟨hm, fun e => hn ?_⟩
    subst e
    simpa using hm
theorem rels_kill {n : Nat} {l : List At} {vs : List Value} (h : Rels (At.rel σ) l vs) : Rels (At.rel σ) (l.map (At.kill n)) vs :=
  ⟨by simp [h.1], fun i x v hx hv => by
    rw [List.getElem?_map] at hx
    cases hl : l[i]? with
    | none => rw [hl] at hx; cases hx
    | some y => rw [hl] at hx; simp at hx; subst hx; exact At.kill_rel (h.2 i y v hl hv)⟩
theorem TV.kill_rel {n : Nat} {x : TV} {v : Value} (h : x.rel σ v) : (x.kill n).rel σ v := by
  cases x with
  | «at» y => exact At.kill_rel h
  | agg l => obtain ⟨cs, e, hr⟩ := h; exact ⟨cs, e, rels_kill hr⟩
theorem TV.kill_names {n : Nat} {x : TV} : ∀ m ∈ (x.kill n).names, m ∈ x.names ∧ m ≠ n := by
  cases x with
  | «at» y => exact At.kill_names
  | agg l =>
    intro m hm
    simp only [TV.kill, TV.names, List.mem_flatMap, List.mem_map] at hm
    obtain ⟨_, ⟨y, hy, rfl⟩, hm⟩ := hm
    have := At.kill_names m hm
    exact ⟨List.mem_flatMap.2 ⟨y, hy, this.1⟩, this.2⟩
theorem SV.kill_rel {n : Nat} {x : SV} {v : Value} (h : x.rel σ v) : (x.kill n).rel σ v := by
  cases x with
  | one y => exact TV.kill_rel h
  | tup l =>
    obtain ⟨vs, e, hr⟩ := h
    refine ⟨vs, e, by simp [hr.1], fun i x v hx hv => ?_⟩
    rw [List.getElem?_map] at hx
    cases hl : l[i]? with
    | none => rw [hl] at hx; cases hx
    | some y => rw [hl] at hx; simp at hx; subst hx; exact TV.kill_rel (hr.2 i y v hl hv)
theorem SV.kill_names {n : Nat} {x : SV} : ∀ m ∈ (x.kill n).names, m ∈ x.names ∧ m ≠ n := by
  cases x with
  | one y => exact TV.kill_names
  | tup l =>
    intro m hm
    simp only [SV.kill, SV.names, List.mem_flatMap, List.mem_map] at hm
    obtain ⟨_, ⟨y, hy, rfl⟩, hm⟩ := hm
    have := TV.kill_names m hm
    exact ⟨List.mem_flatMap.2 ⟨y, hy, this.1⟩, this.2⟩
theorem rels_killS {n : Nat} {vs : List Value} (h : Rels (SV.rel σ) T vs) : Rels (SV.rel σ) (T.map (SV.kill n)) vs :=
  ⟨by simp [h.1], fun i x v hx hv => by
    rw [List.getElem?_map] at hx
    cases hl : T[i]? with
    | none => rw [hl] at hx; cases hx
    | some y => rw [hl] at hx; simp at hx; subst hx; exact SV.kill_rel (h.2 i y v hl hv)⟩

theorem Chunk.kill_names {n : Nat} {c : Chunk C} : ∀ m ∈ (c.kill n).names, m ∈ c.names ∧ m ≠ n := by
  cases c with
  | box cells =>
    intro m hm
    simp only [Chunk.kill, Chunk.names, List.mem_flatMap, List.mem_map] at hm
    obtain ⟨_, ⟨y, hy, rfl⟩, hm⟩ := hm
    have := At.kill_names m hm
    exact ⟨List.mem_flatMap.2 ⟨y, hy, this.1⟩, this.2⟩
  | _ => intro m hm; simp [Chunk.kill, Chunk.names] at hm

theorem Holds.kill {n : Nat} {v : Value} {f : Nat → Prop} {c : Chunk C} (h : Holds w σ v f c) : Holds w σ v f (c.kill n) := by
  match c with
  | .gone => exact h
  | .box cells => obtain ⟨b, t, cs, h1, h2, h3, h4⟩ := h; exact ⟨b, t, cs, h1, h2, h3, rels_kill h4⟩
  | .row true e l => exact h
  | .row false e l => exact h
  | .abs x => exact h

theorem kill_row {n k : Nat} {own : Bool} {e : C.EC} {l : List (C.α e)} (h : (H.map (Chunk.kill n))[k]? = some (.row own e l)) : H[k]? = some (.row own e l) := by
  rw [List.getElem?_map] at h
  cases hl : H[k]? with
  | none => rw [hl] at h; cases h
  | some c =>
    rw [hl] at h
    simp only [Option.map_some, Option.some.injEq] at h
    cases c <;> simp_all [Chunk.kill]

theorem isOwn_kill {n k : Nat} : isOwn (H.map (Chunk.kill n)) k = isOwn H k := by
  simp only [isOwn, List.getElem?_map]
  cases H[k]? with
  | none => rfl
  | some c =>
    cases c with
    | row own e l => cases own <;> rfl
    | _ => rfl

theorem Sat.kill (h : Sat C σ φ w H) (n : Nat) : Sat C σ φ w (H.map (Chunk.kill n)) where
  holds k c hc := by
    rw [List.getElem?_map] at hc
    cases hl : H[k]? with
    | none => rw [hl] at hc; cases hc
    | some d => rw [hl] at hc; simp at hc; subst hc; exact (h.holds k d hl).kill
  dis := h.dis
  bd := h.bd
  imm k e l hk := h.imm k e l (kill_row hk)
  out k hk := h.out k (by simpa using hk)
  cl k c hc m hm := by
    rw [List.getElem?_map] at hc
    cases hl : H[k]? with
    | none => rw [hl] at hc; cases hc
    | some d =>
      rw [hl] at hc; simp at hc; subst hc
      simpa using h.cl k d hl m (Chunk.kill_names m hm).1

theorem rdb_apart (h : Sat C σ φ w H) {k n b : Nat} (hb : Rdb H σ k b) (hφ : φ n b) : k = n := by
  rcases hb with ⟨hb, cells, hl⟩ | ⟨hb, own, e, l, hl, hpos⟩
  · obtain ⟨b', t, cs, h1, h2, _⟩ := h.holds k _ hl
    rw [hb] at h1
    obtain rfl : b = b' := by simpa using h1
    exact h.dis k n b ((h2 b).2 rfl) hφ
  · have hh := h.holds k _ hl
    cases own with
    | true => exact h.dis k n b ((hh.2 b).2 hb) hφ
    | false => exact absurd hφ (h.imm k e l hl hpos b hb n)

/-- One chunk is written; its place stays. -/
theorem upd_sound (hC : C.OK) (h : Pre C T H σ φ a w) {n : Nat} (hn : n < H.length) (c : Chunk C) {w' : World} (dst : Option Nat)
    (hsz : w'.heap.size = w.heap.size) (hos : w'.os = w.os) (htp : w'.tape = w.tape) (hop : w'.output = w.output) (hfr : ∀ k, ¬ φ n k → w'.heap[k]? = w.heap[k]?)
    (hc : Holds w' σ (σ n) (φ n) c) (hnm : ∀ m ∈ c.names, m < H.length) (hrow : ∀ e l, c ≠ .row false e l) (hown : isOwn (H.set n c) n = true → isOwn H n = true) :
    EOut C H σ φ a w [n] (setT T dst (.one (.at .any))) (H.set n c) σ φ (a.put dst undef) w' where
  tm := put_rel h.tm (s := .one (.at .any)) trivial dst
  tcl x hx m hm := by
    rcases setT_mem hx with hx | rfl
    · simpa using h.tcl x hx m hm
    · simp [SV.names, TV.names, At.names] at hm
  sat := by
    refine h.sat.step hC (fun k => k = n) (by omega) (fun k _ hk => hfr k (hk n rfl)) (fun k hk => ?_) (fun _ _ _ _ _ _ => rfl) (fun k d hk hd => ?_) (fun k b hk hb => .inl ⟨n, rfl, by have : k = n := hk; subst this; exact hb⟩) (fun k m b hk hm _ _ => hk.trans hm.symm)
      (fun k b _ hb => by have := h.sat.bd k b hb; omega) (fun k e l hk hd hpos b hb m hm => ?_) (fun k hk b => h.sat.out k (by simpa using hk) b) (by simp) (fun k d hk hd m hm => ?_)
    · have : ¬ k = n := hk
      exact ⟨by rw [List.getElem?_set_ne (Ne.symm this)], rfl, fun _ => Iff.rfl⟩
    · have hk' : k = n := hk
      subst hk'
      rw [List.getElem?_set_self hn] at hd
      simp only [Option.some.injEq] at hd
      subst hd
      exact hc
    · have hk' : k = n := hk
      subst hk'
      rw [List.getElem?_set_self hn] at hd
      simp only [Option.some.injEq] at hd
      exact absurd hd (hrow e l)
    · have hk' : k = n := hk
      subst hk'
      rw [List.getElem?_set_self hn] at hd
      simp only [Option.some.injEq] at hd
      subst hd
      simpa using hnm m hm
  adv := ⟨hos, htp, hop, by omega, fun k _ hk => hfr k (hk n), fun k b hb => .inl ⟨k, hb⟩⟩
  len := by simp
  dfs := put_defers _ _
  agree _ _ _ := rfl
  still _ _ _ := rfl
  own k hk ho := by
    by_cases e : k = n
    · subst e; exact hown ho
    · simpa [isOwn, List.getElem?_set_ne (Ne.symm e)] using ho
  touch k hk hkn := by
    have hne : k ≠ n := fun e => hkn (by simp [e])
    refine ⟨fun b => ?_, fun b hb hlt => hfr b fun hφ => ?_⟩
    · unfold Rdb
      simp [List.getElem?_set_ne (Ne.symm hne)]
    · exact hne (rdb_apart h.sat hb hφ)

theorem all_ok (hC : C.OK) (hs : Sat C σ φ w H) {l : List At} {vs : List Value} (hr : Rels (At.rel σ) l vs) (h : l.all (okAt H) = true) : ∀ v ∈ vs, v.oneCell' = true := by
  intro v hv
  obtain ⟨i, hi, rfl⟩ := List.mem_iff_getElem.1 hv
  have hil : i < l.length := by rw [hr.1]; exact hi
  exact okAt_one hC hs (List.all_eq_true.1 h _ (List.getElem_mem hil)) (hr.2 i _ _ (List.getElem?_eq_getElem hil) (List.getElem?_eq_getElem hi))

theorem run_storeAt {P : Program} {t t' : TypeId} {i : TypeInfo} {b off : Nat} {cur : Array Value} {v : Value} (hi : P.info? t = some i) (hsz : v.cells.size = i.size) (hb : w.heap[b]? = some (.cells cur t' (0, 0))) (hle : off + v.cells.toList.length ≤ cur.size)
    (h1 : ∀ u ∈ v.cells.toList, u.oneCell' = true) : (Instr.storeAt t (.pointer (some ⟨b, off, none⟩)) v).run P w = .ok () (w.setRow b (splice cur.toList off v.cells.toList).toArray) := by
  have h := run_storeCells_at P b off t' v.cells.toList 0 cur w hb (by simpa using hle) h1
  rw [Nat.add_zero] at h
  simp only [Instr.storeAt, Instr.sureAddr, storeVar, Sem.run_bind, Sem.run_pure, Result.andThen_ok, run_sizeOf hi]
  rw [if_neg (by simpa using hsz), h, splice_eq]

theorem setRow_tape (w : World) (g : Nat) (cs : Array Value) : (w.setRow g cs).tape = w.tape := rfl
theorem setRow_output (w : World) (g : Nat) (cs : Array Value) : (w.setRow g cs).output = w.output := rfl

theorem e_store {t : TypeId} {x y : Operand} (h : Pre C T H σ φ a w) (ho : o.op = .store t x y) (he : effS C Γ trunc T H o K) : o.wp C.P a w (After C H σ φ a w K) Q := by
  have hx := h.rel x
  have hy := h.rel y
  have ny := h.nm y
  simp only [effS, ho] at he
  split at he <;> try (exact he.elim)
  · rename_i n off vs i hcx hcs hi
    rw [hcx] at hx
    split at he <;> try (exact he.elim)
    rename_i cells hH
    split at he <;> try (exact he.elim)
    rename_i hcond
    obtain ⟨hl, hle, hok⟩ := hcond
    obtain ⟨r, nn⟩ := svCells_sound h.ok h.sat hcs hy
    have hn : n < H.length := (List.getElem?_eq_some_iff.1 hH).1
    obtain ⟨b, h1, h2⟩ := (show At.rel σ (.ptr n off) _ from hx)
    obtain ⟨b', t', cs, h3, h4, h5, h6⟩ := h.sat.holds n _ hH
    rw [h1] at h3
    obtain rfl : b = b' := by simpa using h3
    have hvs : (a.eval y).cells.toList.length = vs.length := r.1.symm
    have hcl : cells.length = cs.size := by rw [h6.1]; simp
    have hrun := run_storeAt (w := w) (P := C.P) (v := a.eval y) (t' := t') hi (by rw [← Array.length_toList, hvs, hl]) h5 (by rw [hvs, ← hcl]; exact hle) (all_ok h.ok h.sat r hok)
    refine wp_skip_ (w' := w.setRow b (splice cs.toList off (a.eval y).cells.toList).toArray) (by simp [execOp, ho, h2, hrun]) ⟨_, _, _, _, _, upd_sound h.ok h hn (.box (splice cells off vs)) o.dst (by simp) rfl rfl rfl (fun k hk => setRow_other w b k _ fun e => hk ((h4 k).2 e)) ?_ (fun m hm => ?_) (fun _ _ e => by cases e) (fun ho => ?_), he⟩
    · refine ⟨b, t', _, h1, h4, setRow_heap w b cs _ t' _ h5, ?_⟩
      simpa using splice_rels h6 r off
    · obtain ⟨c, hc, hm⟩ := List.mem_flatMap.1 hm
      simp only [splice, List.mem_append] at hc
      rcases hc with hc | hc | hc
      · exact h.sat.cl n _ hH m (List.mem_flatMap.2 ⟨c, List.mem_of_mem_take hc, hm⟩)
      · exact ny m (nn c hc m hm)
      · exact h.sat.cl n _ hH m (List.mem_flatMap.2 ⟨c, List.mem_of_mem_drop hc, hm⟩)
    · simp [isOwn, List.getElem?_set_self hn] at ho
  · rename_i n j sz off vs i hcx hcs hi
    rw [hcx] at hx
    split at he <;> try (exact he.elim)
    rename_i e l us hH hus
    split at he <;> try (exact he.elim)
    rename_i hcond
    obtain ⟨hsz, hl, hle, hok⟩ := hcond
    split at he <;> try (exact he.elim)
    rename_i z hz
    subst hsz
    obtain ⟨r, nn⟩ := svCells_sound h.ok h.sat hcs hy
    have hev : (a.eval y).cells.toList = us := allVals_rel hus r
    have hn : n < H.length := (List.getElem?_eq_some_iff.1 hH).1
    obtain ⟨b, o', len, cap, h1, h2, h3⟩ := (show At.rel σ (.eptr n j (C.sz e) off) _ from hx)
    obtain ⟨⟨q1, q2⟩, q3⟩ := h.sat.holds n _ hH
    rcases q2 with ⟨q2, _⟩ | ⟨g, cp, cur, q2, _, hg, hnc, hcm, hcs', htk⟩
    · rw [h1] at q2; cases q2
    · rw [h1] at q2
      obtain ⟨rfl, rfl, rfl, rfl⟩ : b = g ∧ o' = 0 ∧ len = l.length ∧ cap = cp := by
        injection q2 with e1 e2 e3
        injection e1 with e1
        injection e1 with e4 e5
        exact ⟨e4, e5, e2, e3⟩
      have hus_len : us.length = vs.length := by rw [← hev]; exact r.1.symm
      have hjl : j * C.sz e + C.sz e ≤ l.length * C.sz e := by rw [← Nat.succ_mul]; exact Nat.mul_le_mul_right _ h2
      have hlc : l.length * C.sz e ≤ cap * C.sz e := Nat.mul_le_mul_right _ hnc
      have hrun := run_storeAt (w := w) (P := C.P) (v := a.eval y) (b := b) (off := 0 + j * C.sz e + off) (t' := C.tid e) hi (by rw [← Array.length_toList, hev, hus_len, hl]) hg (by rw [hev, hus_len, hcs']; omega) (all_ok h.ok h.sat r hok)
      rw [hev, Nat.zero_add] at hrun
      rw [Nat.zero_add] at h3
      have hblk : ∀ k, ¬ φ n k → k ≠ b := fun k hk e => hk ((q3 k).2 (by rw [h1, e]; rfl))
      have hez : C.enc e z = splice (C.enc e (l.getD j (C.dft e))) off us := h.ok.dcd e _ _ hz
      refine wp_skip_ (w' := w.setRow b (splice cur.toList (j * C.sz e + off) us).toArray) (by simp [execOp, ho, h3, hrun]) ⟨_, _, _, _, _, upd_sound h.ok h hn (.row true e (l.set j z)) o.dst (by simp) rfl rfl rfl (fun k hk => setRow_other w b k _ (hblk k hk)) ?_ (fun m hm => by simp [Chunk.names] at hm) (fun _ _ e => by cases e) (fun _ => by simp [isOwn, hH]), he⟩
      refine ⟨⟨?_, .inr ⟨b, cap, _, by rw [h1]; simp, Nat.zero_le _, setRow_heap w b cur _ (C.tid e) _ hg, by simpa using hnc, hcm, ?_, ?_⟩⟩, fun k => by rw [q3 k]⟩
      · rw [flat_len h.ok]
      · simp only [List.size_toArray]
        rw [splice_len (by simp; omega)]
        simpa using hcs'
      · rw [flat_set h.ok h2, hez, splice_splice (by rw [h.ok.len]; omega) (by rw [h.ok.len, flat_len h.ok]; exact hjl) (fun k hk => by rw [h.ok.len] at hk; exact flat_at h.ok (getD_some h2) hk), ← htk]
        simp only [List.length_set]
        apply List.ext_getElem?
        intro k
        rw [splice_get (by rw [List.length_take]; simp; omega), List.getElem?_take, splice_get (by simp; omega)]
        by_cases c : j * C.sz e + off ≤ k ∧ k < j * C.sz e + off + us.length
        · rw [if_pos c, if_pos (by omega), if_pos c]
        · rw [if_neg c, if_neg c, List.getElem?_take]

theorem row_new_sound (hC : C.OK) (h : Pre C T H σ φ a w) (e : C.EC) (l : List (C.α e)) (cur : Array Value) (cap : Nat) (dst : Option Nat) (hcap : l.length ≤ cap) (hmax : cap ≤ maxLen) (hsz : cur.size = cap * C.sz e) (htk : cur.toList.take (l.length * C.sz e) = flat C e l) :
    EOut C H σ φ a w [] (setT T dst (.one (.at (.slc H.length)))) (H ++ [.row true e l]) (fun k => if k = H.length then .slice (some ⟨w.heap.size, 0, none⟩) l.length cap else σ k) (fun k => if k = H.length then (fun b => b = w.heap.size) else φ k)
      (a.put dst (.slice (some ⟨w.heap.size, 0, none⟩) l.length cap)) (w.alloc (.cells cur (C.tid e))) :=
  new_sound hC h (Grows.refl h.sat) (.row true e l) (.slice (some ⟨w.heap.size, 0, none⟩) l.length cap) (.slc H.length) (.cells cur (C.tid e)) dst
    (fun σ' _ => ⟨⟨flat_len hC e l, .inr ⟨w.heap.size, cap, cur, rfl, Nat.zero_le _, heap_alloc_new w _, hcap, hmax, hsz, htk⟩⟩, fun k => by simp [Value.ownBlock, eq_comm]⟩)
    (fun m hm => by simp [Chunk.names] at hm) (fun _ _ e => by cases e) (fun σ' hs => hs.symm) (fun m hm => by simpa [At.names] using hm)

theorem bytesOf_spec {e : C.EC} {i : TypeInfo} (hi : C.P.info? (C.tid e) = some i) : bytesOf C e = i.bytes := by simp [bytesOf, hi]

theorem e_makeSlice {t : TypeId} {l c : Operand} (h : Pre C T H σ φ a w) (ho : o.op = .makeSlice t l c) (he : effS C Γ trunc T H o K) : o.wp C.P a w (After C H σ φ a w K) Q := by
  have hl := h.rel l
  have hc := h.rel c
  simp only [effS, ho] at he
  split at he <;> try (exact he.elim)
  rename_i e k1 n k2 m hec hcl hcc
  rw [hcl] at hl; rw [hcc] at hc
  obtain ⟨h0, h1, h2, hK⟩ := he
  have el : a.eval l = .int k1 n := hl
  have ec : a.eval c = .int k2 m := hc
  obtain ⟨i, z, hi, hz, hsz, hzc, hbp⟩ := h.ok.info e
  rw [bytesOf_spec hi] at h2
  have hmb : m ≤ 140737488355328 := by
    have : m * 1 ≤ m * (i.bytes : Int) := Int.mul_le_mul_of_nonneg_left (by omega) (by omega)
    omega
  have hrun := run_make (P := C.P) w t (C.tid e) i z (elemEC_spec h.ok hec) hi hz k1 k2 n m h0 h1 (by rw [Int.mul_comm]; omega) (by omega)
  have hcap : (List.replicate n.toNat (C.dft e)).length ≤ m.toNat := by simp; omega
  have hE := row_new_sound h.ok h e (List.replicate n.toNat (C.dft e)) (madeCells z.cells (m.toNat * i.size)) m.toNat o.dst hcap (by unfold maxLen; omega) (by rw [size_madeCells, hsz]) (by
    rw [hsz, made_flat h.ok hzc]
    have : (List.replicate n.toNat (C.dft e)) = (List.replicate m.toNat (C.dft e)).take n.toNat := by rw [List.take_replicate]; congr 1; omega
    rw [List.length_replicate, this]
    have hfl := flat_len h.ok e (List.replicate m.toNat (C.dft e))
    conv => rhs; rw [flat]
    have hsplit : List.replicate m.toNat (C.dft e) = (List.replicate m.toNat (C.dft e)).take n.toNat ++ (List.replicate m.toNat (C.dft e)).drop n.toNat := (List.take_append_drop _ _).symm
    conv => lhs; rw [hsplit, flat, List.flatMap_append]
    apply List.take_left'
    have := flat_len h.ok e ((List.replicate m.toNat (C.dft e)).take n.toNat)
    rw [flat] at this
    rw [this, List.length_take, List.length_replicate, Nat.min_eq_left (by omega)])
  rw [List.length_replicate] at hE
  exact wp_value (by simp [execOp, ho, el, ec, hrun]) ⟨_, _, _, _, _, hE, hK⟩

theorem buildS_len (place : Nat → Option (Nat × Nat)) : ∀ (parts : List (Nat × SV)) {z cells : List At}, buildS C H place z parts = some cells → cells.length = z.length := by
  intro parts
  induction parts with
  | nil => intro z cells h; simp [buildS] at h; rw [h]
  | cons p parts ih =>
    obtain ⟨i, x⟩ := p
    intro z cells h
    simp only [buildS] at h
    split at h <;> try (cases h; done)
    split at h <;> try (cases h; done)
    rename_i hc
    rw [ih h, splice_len hc.2]

theorem e_buildSlice {t : TypeId} {n : Nat} {parts : Array (Nat × Operand)} (h : Pre C T H σ φ a w) (ho : o.op = .buildSlice t n parts) (he : effS C Γ trunc T H o K) : o.wp C.P a w (After C H σ φ a w K) Q := by
  simp only [effS, ho] at he
  split at he <;> try (exact he.elim)
  rename_i e hec
  split at he <;> try (exact he.elim)
  rename_i cells hb
  split at hb <;> try (cases hb; done)
  rename_i hsmall
  split at he <;> try (exact he.elim)
  rename_i vs hvs
  split at he <;> try (exact he.elim)
  rename_i xs hxs
  obtain ⟨i, z, hi, hz, hsz, hzc, hbp⟩ := h.ok.info e
  obtain ⟨e1, e2⟩ := parts_rel h parts.toList
  have hmc := made_flat h.ok hzc n
  obtain ⟨cs', g1, g2, g3⟩ := fill_sound (fun k => some (k * C.sz e, C.sz e)) h.ok h.sat _ _ _ (madeCells z.cells (n * C.sz e)) e1 e2 (by rw [hmc]; exact rels_vals _) hb (fun p hp m hm => by
    obtain ⟨q, _, rfl⟩ := List.mem_map.1 hp
    exact h.nm q.2 m hm) (fun c hc m hm => by
    obtain ⟨u, _, rfl⟩ := List.mem_map.1 hc
    simp [At.names] at hm)
  have hcs : cs'.toList = vs := allVals_rel hvs g2
  have hlen : cs'.toList.length = n * C.sz e := by rw [← g2.1, buildS_len _ _ hb, List.length_map, flat_len h.ok, List.length_replicate]
  obtain ⟨f1, f2⟩ := dcdN_sound h.ok n vs hxs (by rw [← hcs]; exact hlen)
  subst f2
  have hp := h.ok.pos e
  have hE := row_new_sound h.ok h e xs cs' xs.length o.dst (Nat.le_refl _) (by
    have : xs.length * 1 ≤ xs.length * C.sz e := Nat.mul_le_mul_left _ hp
    unfold maxLen; omega) (by rw [← Array.length_toList, hlen]) (by rw [f1, ← hcs, List.take_of_length_le (by omega)])
  refine wp_value ?_ ⟨_, _, _, _, _, hE, he⟩
  have hrun : (Instr.buildSlice t xs.length (parts.map fun p => (p.1, a.eval p.2))).run C.P w = .ok (.slice (some ⟨w.heap.size, 0, none⟩) xs.length xs.length) (w.alloc (.cells cs' (C.tid e))) := by
    have hf : Instr.fill (fun k => some (k * C.sz e, C.sz e)) (madeCells z.cells (xs.length * C.sz e)) (parts.map fun p => (p.1, a.eval p.2)).toList = some cs' := by simpa using g1
    have hns : ¬ 16777216 < xs.length * i.size := by rw [hsz]; omega
    by_cases h0 : xs.length * i.size = 0
    · have h0' : xs.length * C.sz e = 0 := by rw [← hsz]; exact h0
      rw [h0'] at hf
      have hm0 : madeCells z.cells 0 = #[] := by simp [madeCells, Array.range_zero']
      rw [hm0, ← hsz] at hf
      simp [Instr.buildSlice, run_underlying (elemEC_spec h.ok hec), run_sizeOf hi, h0, Array.range_zero', newRow]
      simp at hf
      rw [hf]
      simp
    · have hzr : (zeroValue (C.tid e)).run C.P w = .ok z w := by simp [zeroValue, typeInfo, hi, hz]
      rw [← hsz] at hf
      simp [Instr.buildSlice, run_underlying (elemEC_spec h.ok hec), run_sizeOf hi, h0, hns, hzr, newRow]
      unfold madeCells at hf
      simp at hf
      rw [hf]
      simp
  simp [execOp, ho, hrun]
end
end Go.Proofs.Ytacdmmomkngpkaa.Sx
