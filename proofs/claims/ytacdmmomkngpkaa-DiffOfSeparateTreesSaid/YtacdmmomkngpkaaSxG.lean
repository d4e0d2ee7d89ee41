/- The symbolic run is sound: operations that make memory or write it. No program in sight. -/
import Derived.Test.YtacdmmomkngpkaaSxF
namespace Go.Proofs.Ytacdmmomkngpkaa.Sx
open Go

theorem append_block {P : Program} {w w' : World} {t ty e : TypeId} {i : TypeInfo} {z : Value} {size bytes : Nat} (ht : P.underlying t = some (.slice e)) (hi : P.info? e = some i) (hz : i.zero = some z)
    (hsize : i.size = size) (hby : i.bytes = bytes) (hsz : 0 < size)
    {v v' : Value} {n : Nat} {xs : List Value} (hown : w.ownsRow 0 e size v n xs)
    {a : Addr} {m c : Nat} {news : List Value} (hl : news.length = m * size) (hnews : ∀ (j : Nat) (u : Value), news[j]? = some u → w.cell? (a.add j) = some u) (h1 : ∀ u ∈ news, u.oneCell' = true)
    (h63 : n + m ≤ maxLen) (hbytes : (n + m) * bytes ≤ 140737488355328) (hr : (Builtin.append_ #[t, t] ty #[v, .slice (some a) m c]).run P w = .ok v' w') :
    ∀ k, v'.ownBlock = some k → v.ownBlock = some k ∨ w.heap.size ≤ k := by
  subst hsize hby
  have hb63 : n + m ≤ 9223372036854775807 := by simp only [maxLen] at h63; omega
  intro k hk
  rcases hown.2 with ⟨rfl, rfl⟩ | ⟨g, cap, cur, rfl, _, hg, hnc, _, hcs, _⟩
  · by_cases hm : m = 0
    · subst hm
      have hn : news = [] := List.eq_nil_of_length_eq_zero (by simpa using hl)
      have e : (Builtin.append_ #[t, t] ty #[.slice none 0 0, .slice (some a) 0 c]).run P w = .ok (.slice none 0 0) w := by
        simp [Builtin.append_, run_underlying ht, sizeOf, typeInfo, hi, Builtin.lenOf, Builtin.firstCells, loadCells, loadCellsFrom]
      rw [e] at hr
      injection hr with h2 _
      subst h2
      simp [Value.ownBlock] at hk
    · have e := run_append_nil (P := P) w t ty e i z ht hi hz a m c news hl hnews (by omega) (by omega) (by have hb := hbytes; simp only [Nat.zero_add] at hb; omega)
      rw [e] at hr
      injection hr with h2 _
      subst h2
      simp only [Value.ownBlock, Option.some.injEq] at hk
      exact .inr (by omega)
  · by_cases hroom : n + m ≤ cap
    · have hfit : n * i.size + news.length ≤ cur.size := by rw [hl, hcs, ← Nat.add_mul]; exact Nat.mul_le_mul_right _ hroom
      have e := run_append_room (P := P) w t ty e i ht hi g n cap cur hg a m c news hl hnews h1 hroom hfit
      rw [e] at hr
      injection hr with h2 _
      subst h2
      exact .inl hk
    · have holds : ∀ (j : Nat) (u : Value), xs[j]? = some u → w.cell? ((⟨g, 0, none⟩ : Addr).add j) = some u := hown.cells (g := g) rfl
      have e := run_append_grow (P := P) w t ty e i z ht hi hz ⟨g, 0, none⟩ n cap xs hown.1 holds a m c news hl hnews (by omega) (by omega) (growslice_fits (by omega) hbytes)
      rw [e] at hr
      injection hr with h2 _
      subst h2
      simp only [Value.ownBlock, Option.some.injEq] at hk
      exact .inr (by omega)

theorem splice_get {α : Type} {l m : List α} {p : Nat} (h : p + m.length ≤ l.length) (k : Nat) : (splice l p m)[k]? = if p ≤ k ∧ k < p + m.length then m[k - p]? else l[k]? := by
  unfold splice
  rcases Nat.lt_or_ge k p with h1 | h1
  · rw [List.getElem?_append_left (by simp; omega), List.getElem?_take, if_pos h1, if_neg (by omega)]
  · rw [List.getElem?_append_right (by simp; omega)]
    have e : (l.take p).length = p := by simp; omega
    rw [e]
    rcases Nat.lt_or_ge k (p + m.length) with h2 | h2
    · rw [List.getElem?_append_left (by omega), if_pos ⟨h1, h2⟩]
    · rw [List.getElem?_append_right (by omega), if_neg (by omega), List.getElem?_drop]
      congr 1; omega

theorem splice_eq {α : Type} {l m : List α} {p : Nat} : splice l p m = l.take p ++ m ++ l.drop (p + m.length) := by simp [splice]

theorem splice_splice {α : Type} {l m k : List α} {p q : Nat} (h1 : q + k.length ≤ m.length) (h2 : p + m.length ≤ l.length) (hm : ∀ j, j < m.length → l[p + j]? = m[j]?) : splice l p (splice m q k) = splice l (p + q) k := by
  apply List.ext_getElem?
  intro i
  have e1 := splice_get (l := l) (m := splice m q k) (p := p) (by rw [splice_len h1]; exact h2) i
  have e2 := splice_get (l := l) (m := k) (p := p + q) (by omega) i
  rw [splice_len h1] at e1
  rw [e1, e2]
  by_cases c : p ≤ i ∧ i < p + m.length
  · rw [if_pos c, splice_get h1]
    by_cases d : q ≤ i - p ∧ i - p < q + k.length
    · rw [if_pos d, if_pos (by omega)]
      congr 1; omega
    · rw [if_neg d, if_neg (by omega), ← hm (i - p) (by omega)]
      congr 1; omega
  · rw [if_neg c, if_neg (by omega)]

section
variable {C : Ctx}
variable {T : List SV} {H : List (Chunk C)} {o : Oper} {σ : Nat → Value} {φ : Nat → Nat → Prop} {a : Act} {w : World} {ps : List Prop} {s : SV} {H' : List (Chunk C)}

theorem flat_len (hC : C.OK) (e : C.EC) (l : List (C.α e)) : (flat C e l).length = l.length * C.sz e := length_flat (hC.len e) l
theorem flat_at (hC : C.OK) {e : C.EC} {l : List (C.α e)} {k : Nat} {x : C.α e} (hx : l[k]? = some x) {j : Nat} (hj : j < C.sz e) : (flat C e l)[k * C.sz e + j]? = (C.enc e x)[j]? := by
  have hj' : j < (C.enc e x).length := by rw [hC.len]; exact hj
  rw [List.getElem?_eq_getElem hj']
  exact flat_get (hC.len e) l k x hx j _ (List.getElem?_eq_getElem hj')

theorem flat_set (hC : C.OK) {e : C.EC} {l : List (C.α e)} {k : Nat} (hk : k < l.length) (y : C.α e) : flat C e (l.set k y) = splice (flat C e l) (k * C.sz e) (C.enc e y) := by
  have hp := hC.pos e
  have hle : k * C.sz e + C.sz e ≤ l.length * C.sz e := by rw [← Nat.succ_mul]; exact Nat.mul_le_mul_right _ hk
  apply List.ext_getElem?
  intro i
  rw [splice_get (by rw [hC.len, flat_len hC]; exact hle), hC.len]
  rcases Nat.lt_or_ge i (l.length * C.sz e) with hi | hi
  · have hq : i / C.sz e < l.length := Nat.div_lt_of_lt_mul (by rw [Nat.mul_comm]; exact hi)
    have hr : i % C.sz e < C.sz e := Nat.mod_lt _ hp
    have hd : i = i / C.sz e * C.sz e + i % C.sz e := by rw [Nat.mul_comm]; exact (Nat.div_add_mod i (C.sz e)).symm
    have e1 := flat_at hC (l := l) (List.getElem?_eq_getElem hq) hr
    have hq' : i / C.sz e < (l.set k y).length := by simpa using hq
    have e2 := flat_at hC (l := l.set k y) (List.getElem?_eq_getElem hq') hr
    rw [← hd] at e1 e2
    rw [e1, e2]
    by_cases c : k = i / C.sz e
    · rw [if_pos (by rw [c]; omega)]
      simp only [List.getElem_set, c, if_true]
      congr 1
      omega
    · rw [if_neg ?_]
      · simp [List.getElem_set, c]
      · intro hh
        apply c
        have : i / C.sz e = k := by
          apply Nat.div_eq_of_lt_le
          · exact hh.1
          · rw [Nat.succ_mul]; exact hh.2
        exact this.symm
  · rw [List.getElem?_eq_none (by rw [flat_len hC]; simpa using hi), if_neg (by omega), List.getElem?_eq_none (by rw [flat_len hC]; exact hi)]

theorem flat_one (hC : C.OK) (e : C.EC) (l : List (C.α e)) : ∀ u ∈ flat C e l, u.oneCell' = true := fun u hu => by
  obtain ⟨x, _, hx⟩ := List.mem_flatMap.1 hu
  exact hC.one e x u hx

theorem made_flat (hC : C.OK) {e : C.EC} {z : Value} (hz : z.cells.toList = C.enc e (C.dft e)) (n : Nat) : (madeCells z.cells (n * C.sz e)).toList = flat C e (List.replicate n (C.dft e)) := by
  have hp := hC.pos e
  have hzs : z.cells.size = C.sz e := by rw [← Array.length_toList, hz, hC.len]
  apply List.ext_getElem?
  intro i
  rcases Nat.lt_or_ge i (n * C.sz e) with hi | hi
  · have hq : i / C.sz e < n := Nat.div_lt_of_lt_mul (by rw [Nat.mul_comm]; exact hi)
    have hr : i % C.sz e < C.sz e := Nat.mod_lt _ hp
    have hd : i = i / C.sz e * C.sz e + i % C.sz e := by rw [Nat.mul_comm]; exact (Nat.div_add_mod i (C.sz e)).symm
    have e1 := flat_at hC (l := List.replicate n (C.dft e)) (k := i / C.sz e) (x := C.dft e) (by simp [List.getElem?_replicate, hq]) hr
    rw [← hd] at e1
    rw [e1, ← hz]
    have hlt : i % C.sz e < z.cells.size := by omega
    simp [madeCells, hi, hzs]
    rw [getElem!_pos z.cells _ hlt, Array.getElem?_eq_getElem hlt]
  · rw [List.getElem?_eq_none (by simp [madeCells]; exact hi), List.getElem?_eq_none (by rw [flat_len hC]; simpa using hi)]

theorem dcdN_sound (hC : C.OK) {e : C.EC} : ∀ (n : Nat) (vs : List Value) {xs : List (C.α e)}, dcdN C e n vs = some xs → vs.length = n * C.sz e → flat C e xs = vs ∧ xs.length = n := by
  intro n
  induction n with
  | zero => intro vs xs h hl; simp [dcdN] at h; subst h; exact ⟨(List.eq_nil_of_length_eq_zero (by simpa using hl)).symm, rfl⟩
  | succ n ih =>
    intro vs xs h hl
    simp only [dcdN] at h
    split at h <;> try (cases h; done)
    rename_i x xs' h1 h2
    simp only [Option.some.injEq] at h
    subst h
    obtain ⟨e1, e2⟩ := ih _ h2 (by rw [List.length_drop, hl, Nat.succ_mul]; omega)
    refine ⟨?_, by simp [e2]⟩
    have := hC.dcd e _ _ h1
    show C.enc e x ++ flat C e xs' = vs
    rw [this, e1, List.take_append_drop]

/-- What an operation with an effect comes to. -/
structure EOut (C : Ctx) (H : List (Chunk C)) (σ : Nat → Value) (φ : Nat → Nat → Prop) (a : Act) (w : World) (ts : List Nat) (T' : List SV) (H' : List (Chunk C)) (σ' : Nat → Value) (φ' : Nat → Nat → Prop) (a' : Act) (w' : World) : Prop where
  tm : Rels (SV.rel σ') T' a'.tmps.toList
  tcl : ∀ s ∈ T', ∀ m ∈ s.names, m < H'.length
  sat : Sat C σ' φ' w' H'
  adv : Adv φ w φ' w'
  len : H.length ≤ H'.length
  dfs : a'.defers = a.defers
  agree : ∀ n, n < H.length → isOwn H n = false → σ' n = σ n
  own : ∀ n, n < H.length → isOwn H' n = true → isOwn H n = true
  touch : ∀ n, n < H.length → n ∉ ts → (∀ b, Rdb H' σ' n b ↔ Rdb H σ n b) ∧ ∀ b, Rdb H σ n b → b < w.heap.size → w'.heap[b]? = w.heap[b]?
  still : ∀ n, n < H.length → n ∉ ts → σ' n = σ n

theorem put_rel (h : Rels (SV.rel σ) T a.tmps.toList) {v : Value} (hs : s.rel σ v) (dst : Option Nat) : Rels (SV.rel σ) (setT T dst s) (a.put dst v).tmps.toList := by
  cases dst with
  | none => exact h
  | some d =>
    simp only [setT, Act.put, Array.toList_setIfInBounds]
    exact h.set d hs

theorem setT_mem {x : SV} {dst : Option Nat} (h : x ∈ setT T dst s) : x ∈ T ∨ x = s := by
  cases dst with
  | none => exact .inl h
  | some d => exact List.mem_or_eq_of_mem_set h

theorem rel_agree {σ' : Nat → Value} (h : Rels (SV.rel σ) T a.tmps.toList) (hcl : ∀ s ∈ T, ∀ m ∈ s.names, m < H.length) (hag : ∀ n, n < H.length → σ' n = σ n) : Rels (SV.rel σ') T a.tmps.toList :=
  h.mono fun x v hx hr => SV.rel_of hr fun m hm => hag m (hcl x hx m hm)

theorem put_defers (dst : Option Nat) (v : Value) : (a.put dst v).defers = a.defers := by cases dst <;> rfl

/-- A new block under a new name, behind chunks that were added. -/
theorem new_sound (hC : C.OK) (h : Pre C T H σ φ a w) {σ1 : Nat → Value} {φ1 : Nat → Nat → Prop} {H1 : List (Chunk C)} (g : Grows C σ φ H σ1 φ1 H1 w) (c : Chunk C) (v : Value) (at_ : At) (o' : Obj) (dst : Option Nat)
    (hc : ∀ σ' : Nat → Value, (∀ n ∈ c.names, σ' n = σ1 n) → Holds (w.alloc o') σ' v (fun b => b = w.heap.size) c) (hnm : ∀ n ∈ c.names, n < H1.length) (hrow : ∀ e l, c ≠ .row false e l)
    (hat : ∀ σ' : Nat → Value, σ' H1.length = v → at_.rel σ' v) (hatn : ∀ m ∈ at_.names, m = H1.length) :
    EOut C H σ φ a w [] (setT T dst (.one (.at at_))) (H1 ++ [c]) (fun k => if k = H1.length then v else σ1 k) (fun k => if k = H1.length then (fun b => b = w.heap.size) else φ1 k) (a.put dst v) (w.alloc o') := by
  have hag : ∀ n, n < H.length → (if n = H1.length then v else σ1 n) = σ n := fun n hn => by
    rw [if_neg (by have := g.len; omega)]; exact g.agree n hn
  have hsat : Sat C (fun k => if k = H1.length then v else σ1 k) (fun k => if k = H1.length then (fun b => b = w.heap.size) else φ1 k) (w.alloc o') (H1 ++ [c]) :=
    g.sat.new hC c v (fun b => b = w.heap.size) (by simp) (fun k hk => heap_alloc_old w o' hk)
      (fun n hn => hc _ fun m hm => by
        have : ¬ m = n := fun e => hn (e ▸ hm)
        simp [this]) hnm (fun b hb => by subst hb; simp) (fun e l he => absurd he (hrow e l)) (fun e l he => absurd he (hrow e l))
  refine ⟨put_rel (rel_agree h.tm h.tcl hag) (show SV.rel _ (.one (.at at_)) v from hat _ (by simp)) dst, fun x hx m hm => ?_, hsat, ⟨rfl, rfl, rfl, by simp, fun k hk _ => heap_alloc_old w o' hk, fun n b hb => ?_⟩, by have := g.len; simp; omega, put_defers _ _, fun n hn _ => hag n hn, fun n hn ho => ?_, fun n hn _ => ⟨fun b => ?_, fun b _ hlt => heap_alloc_old w o' hlt⟩, fun n hn _ => hag n hn⟩
  · have := g.len
    rcases setT_mem hx with hx | rfl
    · have := h.tcl x hx m hm; simp; omega
    · have := hatn m hm; simp; omega
  · by_cases e : n = H1.length
    · subst e
      simp only [if_true] at hb
      exact .inr (by omega)
    · simp only [if_neg e] at hb
      exact .inl ⟨n, g.sub n b hb⟩
  · rw [isOwn_append (by have := g.len; omega)] at ho
    exact g.own n hn ho
  · rw [← g.rdb n hn b]
    have hn1 : n < H1.length := by have := g.len; omega
    have hne : n ≠ H1.length := by omega
    unfold Rdb
    simp [hne, List.getElem?_append_left hn1]

theorem wp_value {P : Program} {v : Value} {w' : World} {K : Act → World → Prop} {Q : Exit → Act → World → Prop} (hr : (execOp a.eval o).run P w = .ok (.value v) w') (h : K (a.put o.dst v) w') : o.wp P a w K Q := by
  unfold Oper.wp
  rw [hr]
  exact h
theorem wp_skip_ {P : Program} {w' : World} {K : Act → World → Prop} {Q : Exit → Act → World → Prop} (hr : (execOp a.eval o).run P w = .ok .skip w') (h : K (a.put o.dst undef) w') : o.wp P a w K Q := by
  unfold Oper.wp
  rw [hr]
  exact h

abbrev EK (C : Ctx) := List Nat → List SV → List (Chunk C) → Prop
variable {K : EK C} {Γ : List (FuncId × Tfm C)} {trunc : Nat → Bool} {Q : Exit → Act → World → Prop}

/-- What is behind an operation. -/
def After (C : Ctx) (H : List (Chunk C)) (σ : Nat → Value) (φ : Nat → Nat → Prop) (a : Act) (w : World) (K : EK C) (a' : Act) (w' : World) : Prop :=
  ∃ ts T' H' σ' φ', EOut C H σ φ a w ts T' H' σ' φ' a' w' ∧ K ts T' H'

theorem e_alloc {t : TypeId} (h : Pre C T H σ φ a w) (ho : o.op = .alloc t) (he : effS C Γ trunc T H o K) : o.wp C.P a w (After C H σ φ a w K) Q := by
  simp only [effS, ho] at he
  split at he <;> try (exact he.elim)
  rename_i z hz
  obtain ⟨i, v, hi, hiz, rfl⟩ := zeroS_sound h.ok hz
  obtain ⟨σ1, φ1, g, r, n⟩ := nilCells_sound h.ok (v.cells.toList.map .val) (cellTs C.P 20 t) h.sat (rels_vals _) (fun c hc m hm => by
    obtain ⟨u, _, rfl⟩ := List.mem_map.1 hc
    simp [At.names] at hm)
  refine wp_value (v := .pointer (some ⟨w.heap.size, 0, none⟩)) (w' := w.alloc (.cells v.cells t)) ?_ ⟨_, _, _, _, _, new_sound h.ok h g _ (.pointer (some ⟨w.heap.size, 0, none⟩)) (.ptr _ 0) _ o.dst (fun σ' hs => ?_) (fun m hm => ?_) (fun _ _ e => by cases e) (fun σ' hs => ⟨w.heap.size, hs, rfl⟩) (fun m hm => ?_), he⟩
  · simp [execOp, ho, Instr.alloc, zeroValue, typeInfo, hi, hiz, newVar, newRow]
  · refine ⟨w.heap.size, t, v.cells, rfl, fun _ => Iff.rfl, heap_alloc_new w _, r.mono fun x u hx hr => At.rel_of hr fun m hm => hs m (List.mem_flatMap.2 ⟨x, hx, hm⟩)⟩
  · obtain ⟨x, hx, hm⟩ := List.mem_flatMap.1 hm
    exact n x hx m hm
  · simpa [At.names] using hm

theorem e_box {t : TypeId} {x : Operand} (h : Pre C T H σ φ a w) (ho : o.op = .box t x) (he : effS C Γ trunc T H o K) : o.wp C.P a w (After C H σ φ a w K) Q := by
  simp only [effS, ho] at he
  split at he <;> try (exact he.elim)
  rename_i cs hcs
  obtain ⟨r, n⟩ := svCells_sound h.ok h.sat hcs (h.rel x)
  have nx := h.nm x
  refine wp_value (v := .pointer (some ⟨w.heap.size, 0, none⟩)) (w' := w.alloc (.cells (a.eval x).cells t)) ?_ ⟨_, _, _, _, _, new_sound h.ok h (Grows.refl h.sat) _ (.pointer (some ⟨w.heap.size, 0, none⟩)) (.ptr _ 0) _ o.dst (fun σ' hs => ?_) (fun m hm => ?_) (fun _ _ e => by cases e) (fun σ' hs => ⟨w.heap.size, hs, rfl⟩) (fun m hm => ?_), he⟩
  · simp [execOp, ho, Instr.box, newVar, newRow]
  · refine ⟨w.heap.size, t, (a.eval x).cells, rfl, fun _ => Iff.rfl, heap_alloc_new w _, r.mono fun y u hy hr => At.rel_of hr fun m hm => hs m (List.mem_flatMap.2 ⟨y, hy, hm⟩)⟩
  · obtain ⟨y, hy, hm⟩ := List.mem_flatMap.1 hm
    exact nx m (n y hy m hm)
  · simpa [At.names] using hm
end
end Go.Proofs.Ytacdmmomkngpkaa.Sx
