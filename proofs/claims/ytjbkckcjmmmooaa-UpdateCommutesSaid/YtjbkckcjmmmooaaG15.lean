/- A part of the proof. -/
import Derived.Test.YtjbkckcjmmmooaaG13
import Derived.Test.YtjbkckcjmmmooaaG9
import Derived.Test.YtjbkckcjmmmooaaG7
import Derived.Test.YtjbkckcjmmmooaaG6
section
/- The reference's trees over a dump: nodes, balance, height, list, order, Check, Tree. -/
namespace Go.Proofs.Ytjbkckcjmmmooaa.Sx
open Go

/-KEEP Wf exW inU alcD slotsOf orderOf ndD RepD Asc Tr.Bal Tr.size Tr.list ht balB lastK anyK gtL ShpT-/
def ndD (d : List SlotT) (i : Int) : NodeT := if alcD d i = true then (sltD d i).node else NodeT.zero
def lastK : Tr → Int → Int
  | .nil, x => x
  | .node _ k _ r, _ => lastK r k
def anyK : Tr → Bool → Bool
  | .nil, b => b
  | .node _ _ _ _, _ => true
def gtL (x : Int) (l : List Ent) : Prop := ∀ y ∈ l, x < y.1
/-- An index of a dump stands for a tree. -/
def RepD (d : List SlotT) : Tr → Int → Prop
  | .nil, i => i = 0
  | .node l k v r, i => alcD d i = true ∧ (ndD d i).key = k ∧ (ndD d i).value = v ∧ (ndD d i).size = 1 + l.size + r.size ∧ RepD d l (ndD d i).left ∧ RepD d r (ndD d i).right
noncomputable def aAlcG : Ann C0 := { Γ := [(110, frameT [] tAlc)] }
def tNd : Tfm C0 := fun args H K => match args, H with
  | [.agg [.slc 0, .slc 1], .at (.val (.int .u32 i))], [.row false .slot d, .row false .u32 fl] => inU i ∧ d.length ≤ 1000000 ∧ ∀ n, n = ndD d i → K (.one (nodeA n)) [.row false EC.slot d, .row false EC.u32 fl] []
  | _, _ => False
def tBl7 (n : Nat) : Tfm C0 := fun args H K => match args, H with
  | [.agg [.slc 0, .slc 1], .at (.val (.int .u32 i))], [.row false .slot d, .row false .u32 fl] => d.length ≤ 1000000 ∧ (∃ t, RepD d t i ∧ t.Bal ∧ t.size < n ∧ t.size ≤ 1000000) ∧ K (.one (.at (vB true))) [.row false EC.slot d, .row false EC.u32 fl] []
  | _, _ => False
noncomputable def aBl7 (n : Nat) : Ann C0 := { quiet := [82, 48, 112], Γ := [(82, frameT [] tNd), (48, frameT [] tBal), (112, frameT [] (tBl7 n))] }
def tHt7 (n : Nat) : Tfm C0 := fun args H K => match args, H with
  | [.agg [.slc 0, .slc 1], .at (.val (.int .u32 i))], [.row false .slot d, .row false .u32 fl] => d.length ≤ 1000000 ∧ ∃ t, RepD d t i ∧ t.size < n ∧ t.size ≤ 1000000 ∧ ∀ h, h = (ht t : Int) → K (.one (.at (vI h))) [.row false EC.slot d, .row false EC.u32 fl] []
  | _, _ => False
def tLi7 (n : Nat) : Tfm C0 := fun args H K => match args, H with
  | [.agg [.slc 0, .slc 1], .at (.val (.int .u32 i))], [.row false .slot d, .row false .u32 fl] => d.length ≤ 1000000 ∧ ∃ t, RepD d t i ∧ t.size < n ∧ t.size ≤ 1000000 ∧ ∀ r, r = t.list → K (.one (.at (.slc 2))) [.row false EC.slot d, .row false EC.u32 fl, .row true EC.ent r] []
  | _, _ => False
noncomputable def aLi7 (n : Nat) : Ann C0 := { quiet := [82, 36], Γ := [(82, frameT [] tNd), (36, frameT [] (tLi7 n))] }
def tOr7 (n : Nat) : Tfm C0 := fun args H K => match args, H with
  | [.at (.ptr 0 0), .at (.val (.int .u32 i))], [.box [.slc 1, .slc 2, .val (.int .i64 last), .val (.bool any), .val (.int .i64 most)], .row false .slot d, .row false .u32 fl] => d.length ≤ 1000000 ∧ ∃ t, RepD d t i ∧ Asc t.list ∧ t.size < n ∧ (t.size : Int) ≤ most ∧ most ≤ 10000000 ∧ (any = true → gtL last t.list) ∧
    ∀ la an mo, la = lastK t last → an = anyK t any → mo = most - t.size → K (.one (.at (vB true))) [.box [.slc 1, .slc 2, vI la, vB an, vI mo], .row false EC.slot d, .row false EC.u32 fl] [0]
  | _, _ => False
noncomputable def aOr7 (n : Nat) : Ann C0 := { Γ := [(82, frameT [] tNd), (111, frameT [] (tOr7 n))] }
noncomputable def aCk7 (n : Nat) : Ann C0 := { Γ := [(110, frameT [] tAlc), (111, frameT [] (tOr7 n)), (112, frameT [] (tBl7 n))] }
def tCk7 : Tfm C0 := fun args H K => match args, H with
  | [.agg [.slc 0, .slc 1], .at (.val (.int .u32 i))], [.row false .slot d, .row false .u32 fl] => d.length ≤ 1000000 ∧ (∃ t, RepD d t i ∧ Asc t.list ∧ t.Bal ∧ t.size ≤ 2 * d.length + 2 ∧ t.size ≤ 1000000) ∧ K (.one (.at (vI 0))) [.row false EC.slot d, .row false EC.u32 fl] []
  | _, _ => False
noncomputable def aTr7 (n : Nat) (l : List Ent) (d : List SlotT) (fl : List Int) : Ann C0 := { Γ := [(81, frameT [] tCk7), (82, frameT [] tNd), (36, frameT [] (tLi7 n))], inv := fun k => match k with
  | 7 => some { X := XIx l.length, sl := [8, 3, 7], tf := fun x => [vi .i64 x.i, .one (.at (.ptr 3 0)), .one (.at (.slc 4))], hf := fun _ => [.row false EC.slot d, .row false EC.u32 fl, .row false EC.ent l, .box [.slc 0, .slc 1], .row true EC.ent l], μ := fun x => l.length - x.i }
  | _ => none }
def tTr7 : Tfm C0 := fun args H K => match args, H with
  | [.agg [.slc 0, .slc 1], .at (.val (.int .u32 i)), .at (.slc 2)], [.row false .slot d, .row false .u32 fl, .row false .ent l] => d.length ≤ 1000000 ∧ (∃ t, RepD d t i ∧ Asc t.list ∧ t.Bal ∧ t.size ≤ 2 * d.length + 2 ∧ t.size ≤ 1000000 ∧ t.list = l) ∧ K (.one (.at (vB true))) [.row false EC.slot d, .row false EC.u32 fl, .row false EC.ent l] []
  | _, _ => False
theorem bt7 {b : Bool} {t f : Prop} (h : b = true) (ht : t) : brS b t f := by rw [h]; exact ht
theorem bf7 {b : Bool} {t f : Prop} (h : b = false) (hf : f) : brS b t f := by rw [h]; exact hf
theorem RepD.inU {d : List SlotT} {t : Tr} {i : Int} (h : RepD d t i) (hl : d.length ≤ 1000000) : inU i := by
  cases t with
  | nil => have : i = 0 := h; rw [this]; exact ⟨by omega, by omega⟩
  | node l k v r => have := alcD_rng h.1; exact ⟨by omega, by omega⟩
theorem RepD.sz {d : List SlotT} {t : Tr} {i : Int} (h : RepD d t i) : (ndD d i).size = t.size := by
  cases t with
  | nil =>
    have : i = 0 := h
    unfold ndD
    rw [this, alcD_lo (by omega)]; rfl
  | node l k v r => rw [h.2.2.2.1]; simp [Tr.size]
theorem RepD.ne {d : List SlotT} {l r : Tr} {k v i : Int} (h : RepD d (.node l k v r) i) : i ≠ 0 := by have := alcD_rng h.1; omega
theorem s_nd7 : SoundT C0 82 tNd := by
  refine .of Try.func82 (by decide) rfl fun args H K h hB => ?_
  unfold tNd at h
  split at h <;> try exact h.elim
  rename_i i d fl
  obtain ⟨h1, h2, h⟩ := h
  have key : ∀ d : List SlotT, d.length ≤ 1000000 → (∀ n, n = ndD d i → K (.one (nodeA n)) [.row false EC.slot d, .row false EC.u32 fl] []) → vc C0 aAlcG Try.f82 [.agg [.slc 0, .slc 1], .at (vU i)] [.row false EC.slot d, .row false EC.u32 fl] (normK 2 K) := fun d h2 h => by
    refine Eq.mp (show ((inU i) ∧
(d.length ≤ 1000000) ∧
(brS (!alcD d i)
  ((K (SV.one (TV.agg [(At.val (Value.int IntKind.i64 0)), (At.val (Value.int IntKind.i64 0)), (At.val (Value.int IntKind.u32 0)), (At.val (Value.int IntKind.u32 0)), (At.val (Value.int IntKind.i64 0)), (At.val (Value.int IntKind.i64 0)), (At.val (Value.int IntKind.i64 0)), (At.val (Value.int IntKind.i64 0))])) [(Chunk.row false (EC.slot) (d)), (Chunk.row false (EC.u32) (fl))] []))
  (((0 ≤ IntKind.u32.wrap (i - 1)) ∧
  (IntKind.u32.wrap (i - 1) < (↑d.length : Int)) ∧
  (K (SV.one (TV.agg [(At.val (Value.int IntKind.i64 ((eS d (IntKind.u32.wrap (i - 1)).toNat).node.key))), (At.val (Value.int IntKind.i64 ((eS d (IntKind.u32.wrap (i - 1)).toNat).node.value))), (At.val (Value.int IntKind.u32 ((eS d (IntKind.u32.wrap (i - 1)).toNat).node.left))), (At.val (Value.int IntKind.u32 ((eS d (IntKind.u32.wrap (i - 1)).toNat).node.right))), (At.val (Value.int IntKind.i64 ((eS d (IntKind.u32.wrap (i - 1)).toNat).node.size))), (At.val (Value.int IntKind.i64 ((eS d (IntKind.u32.wrap (i - 1)).toNat).node.sum))), (At.val (Value.int IntKind.i64 ((eS d (IntKind.u32.wrap (i - 1)).toNat).node.min))), (At.val (Value.int IntKind.i64 ((eS d (IntKind.u32.wrap (i - 1)).toNat).node.max)))])) [(Chunk.row false (EC.slot) (d)), (Chunk.row false (EC.u32) (fl))] []))))) = _ by kernel_rfl) ?_
    refine ⟨h1, h2, brS_of (fun c => ?_) fun c => ?_⟩
    · have c : alcD d i = false := by simpa using c
      exact h NodeT.zero (by unfold ndD; rw [c]; rfl)
    · have c : alcD d i = true := by simpa using c
      obtain ⟨a, b⟩ := alcD_rng c
      obtain ⟨u1, u2⟩ := h1
      rw [wrap_u32 (x := i - 1) (by omega) (by omega)]
      exact ⟨by omega, by omega, h (eS d (i - 1).toNat).node (by unfold ndD; rw [if_pos c]; rfl)⟩
  exact ⟨aAlcG, ⟨frame C0.ok s_alc _, trivial⟩, key d h2 h⟩
theorem vc_bl7 (n : Nat) (d : List SlotT) (fl : List Int) (i : Int) (K : KT) (hl : d.length ≤ 1000000) (t : Tr) (rp : RepD d t i) (bal : t.Bal) (hn : t.size < n + 1) (hs : t.size ≤ 1000000) (h : K (.one (.at (vB true))) [.row false EC.slot d, .row false EC.u32 fl] []) :
    vc C0 (aBl7 n) Try.f112 [.agg [.slc 0, .slc 1], .at (vU i)] [.row false EC.slot d, .row false EC.u32 fl] (normK 2 K) := by
  refine Eq.mp (show (brS (i == 0)
  ((K (SV.one (TV.at (At.val (Value.bool true)))) [(Chunk.row false (EC.slot) (d)), (Chunk.row false (EC.u32) (fl))] []))
  (((inU i) ∧
  (d.length ≤ 1000000) ∧
  (∀ n1 : NodeT,
    (((n1) = (ndD d i)) →
    ((inU n1.left) ∧
    (d.length ≤ 1000000) ∧
    (∀ n2 : NodeT,
      (((n2) = (ndD d n1.left)) →
      ((inU n1.right) ∧
      (d.length ≤ 1000000) ∧
      (∀ n3 : NodeT,
        (((n3) = (ndD d n1.right)) →
        ((0 ≤ n2.size) ∧
        (n2.size ≤ 1000000) ∧
        (0 ≤ n3.size) ∧
        (n3.size ≤ 1000000) ∧
        (∀ b : Bool,
          (((b) = (balB n2.size n3.size)) →
          (brS (b)
            (((d.length ≤ 1000000) ∧
            (∃ t : Tr,
              ((RepD d t n1.left) ∧
              (t.Bal) ∧
              (t.size < n) ∧
              (t.size ≤ 1000000))) ∧
            (d.length ≤ 1000000) ∧
            (∃ t : Tr,
              ((RepD d t n1.right) ∧
              (t.Bal) ∧
              (t.size < n) ∧
              (t.size ≤ 1000000))) ∧
            (K (SV.one (TV.at (At.val (Value.bool true)))) [(Chunk.row false (EC.slot) (d)), (Chunk.row false (EC.u32) (fl))] [])))
            ((K (SV.one (TV.at (At.val (Value.bool false)))) [(Chunk.row false (EC.slot) (d)), (Chunk.row false (EC.u32) (fl))] []))))))))))))))))) = _ by kernel_rfl) ?_
  cases t with
  | nil => have e : i = 0 := rp; exact bt7 (by rw [e]; rfl) h
  | node l k v r =>
    have hi := rp.inU hl
    have hne := rp.ne
    obtain ⟨h1, h2, h3, h4, h5, h6⟩ := rp
    obtain ⟨b0, bl, br⟩ := bal
    have hz : (Tr.node l k v r).size = 1 + l.size + r.size := rfl
    refine bf7 (by simp [hne]) ⟨hi, hl, fun n1 e1 => ?_⟩
    subst e1
    refine ⟨h5.inU hl, hl, fun n2 e2 => ⟨h6.inU hl, hl, fun n3 e3 => ?_⟩⟩
    have s2 : n2.size = l.size := by rw [e2, h5.sz]
    have s3 : n3.size = r.size := by rw [e3, h6.sz]
    refine ⟨by omega, by omega, by omega, by omega, fun b eb => bt7 (by rw [eb, s2, s3]; exact decide_eq_true b0) ⟨hl, ⟨l, h5, bl, by omega, by omega⟩, hl, ⟨r, h6, br, by omega, by omega⟩, h⟩⟩
theorem s_bl7 : ∀ n : Nat, SoundT C0 112 (tBl7 n)
  | 0 => by
    refine .of Try.func112 (by decide) rfl fun args H K h hB => ?_
    unfold tBl7 at h
    split at h <;> try exact h.elim
    obtain ⟨_, ⟨t, _, _, hn, _⟩, _⟩ := h
    omega
  | n + 1 => by
    refine .of Try.func112 (by decide) rfl fun args H K h hB => ?_
    unfold tBl7 at h
    split at h <;> try exact h.elim
    rename_i i d fl
    obtain ⟨hl, ⟨t, rp, bal, hn, hs⟩, h⟩ := h
    exact ⟨aBl7 n, ⟨frame C0.ok s_nd7 _, frame C0.ok s_bal _, frame C0.ok (s_bl7 n) _, trivial⟩, vc_bl7 n d fl i K hl t rp bal hn hs h⟩
theorem ht_size : ∀ t : Tr, ht t ≤ t.size
  | .nil => Nat.le_refl _
  | .node l k v r => by
    have := ht_size l
    have := ht_size r
    rw [ht]; simp only [Tr.size]
    split <;> omega
theorem vc_li7 (n : Nat) (d : List SlotT) (fl : List Int) (i : Int) (K : KT) (hl : d.length ≤ 1000000) (t : Tr) (rp : RepD d t i) (hn : t.size < n + 1) (hs : t.size ≤ 1000000) (h : ∀ r, r = t.list → K (.one (.at (.slc 2))) [.row false EC.slot d, .row false EC.u32 fl, .row true EC.ent r] []) :
    vc C0 (aLi7 n) Try.f36 [.agg [.slc 0, .slc 1], .at (vU i)] [.row false EC.slot d, .row false EC.u32 fl] (normK 2 K) := by
  refine Eq.mp (show (brS (i == 0)
  ((K (SV.one (TV.at (At.slc 2))) [(Chunk.row false (EC.slot) (d)), (Chunk.row false (EC.u32) (fl)), (Chunk.row true (EC.ent) [])] []))
  (((inU i) ∧
  (d.length ≤ 1000000) ∧
  (∀ n1 : NodeT,
    (((n1) = (ndD d i)) →
    (((d.length ≤ 1000000) ∧
    (∃ t : Tr,
      ((RepD d t n1.left) ∧
      (t.size < n) ∧
      (t.size ≤ 1000000) ∧
      (∀ r : List Ent,
        (((r) = (t.list)) →
        (((r.length + [(n1.key, n1.value)].length) * bytesOf C0 EC.ent ≤ 140737488355328) ∧
        (d.length ≤ 1000000) ∧
        (∃ t1 : Tr,
          ((RepD d t1 n1.right) ∧
          (t1.size < n) ∧
          (t1.size ≤ 1000000) ∧
          (∀ r1 : List Ent,
            (((r1) = (t1.list)) →
            ((((r ++ [(n1.key, n1.value)]).length + r1.length) * bytesOf C0 EC.ent ≤ 140737488355328) ∧
            (K (SV.one (TV.at (At.slc 2))) [(Chunk.row false (EC.slot) (d)), (Chunk.row false (EC.u32) (fl)), (Chunk.row true (EC.ent) (r ++ [(n1.key, n1.value)] ++ r1))] [])))))))))))) ∧
    (d.length ≤ 1000000) ∧
    (∃ t : Tr,
      ((RepD d t n1.left) ∧
      (t.size < n) ∧
      (t.size ≤ 1000000) ∧
      (∀ r : List Ent,
        (((r) = (t.list)) →
        (((r.length + [(n1.key, n1.value)].length) * bytesOf C0 EC.ent ≤ 140737488355328) ∧
        (d.length ≤ 1000000) ∧
        (∃ t1 : Tr,
          ((RepD d t1 n1.right) ∧
          (t1.size < n) ∧
          (t1.size ≤ 1000000) ∧
          (∀ r1 : List Ent,
            (((r1) = (t1.list)) →
            ((((r ++ [(n1.key, n1.value)]).length + r1.length) * bytesOf C0 EC.ent ≤ 140737488355328) ∧
            (K (SV.one (TV.at (At.slc 2))) [(Chunk.row false (EC.slot) (d)), (Chunk.row false (EC.u32) (fl)), (Chunk.row true (EC.ent) (r ++ [(n1.key, n1.value)] ++ r1))] []))))))))))))))))) = _ by kernel_rfl) ?_
  rw [bytes_ent]
  cases t with
  | nil => have e : i = 0 := rp; exact bt7 (by rw [e]; rfl) (h [] rfl)
  | node l k v r =>
    have hi := rp.inU hl
    have hne := rp.ne
    obtain ⟨h1, h2, h3, h4, h5, h6⟩ := rp
    have hz : (Tr.node l k v r).size = 1 + l.size + r.size := rfl
    refine bf7 (by simp [hne]) ⟨hi, hl, fun n1 e1 => ?_⟩
    subst e1
    have ll := l.list_len
    have lr := r.list_len
    constructor
    all_goals
      refine ⟨hl, l, h5, by omega, by omega, fun a ea => ⟨?_, hl, r, h6, by omega, by omega, fun b eb => ⟨?_, h _ ?_⟩⟩⟩
      · rw [ea, ll]; show (l.size + 1) * 16 ≤ 140737488355328; omega
      · rw [List.length_append, ea, eb, ll, lr]; show (l.size + 1 + r.size) * 16 ≤ 140737488355328; omega
      · rw [ea, eb, h2, h3]; simp [Tr.list]
theorem s_li7 : ∀ n : Nat, SoundT C0 36 (tLi7 n)
  | 0 => by
    refine .of Try.func36 (by decide) rfl fun args H K h hB => ?_
    unfold tLi7 at h
    split at h <;> try exact h.elim
    obtain ⟨_, t, _, hn, _⟩ := h
    omega
  | n + 1 => by
    refine .of Try.func36 (by decide) rfl fun args H K h hB => ?_
    unfold tLi7 at h
    split at h <;> try exact h.elim
    rename_i i d fl
    obtain ⟨hl, t, rp, hn, hs, h⟩ := h
    exact ⟨aLi7 n, ⟨frame C0.ok s_nd7 _, frame C0.ok (s_li7 n) _, trivial⟩, vc_li7 n d fl i K hl t rp hn hs h⟩
theorem lastK_mem : ∀ (t : Tr) (x : Int), lastK t x = x ∨ ∃ y ∈ t.list, y.1 = lastK t x
  | .nil, x => .inl rfl
  | .node l k v r, x => by
    rcases lastK_mem r k with e | ⟨y, hy, e⟩
    · exact .inr ⟨(k, v), by simp [Tr.list], e.symm⟩
    · exact .inr ⟨y, by simp [Tr.list, hy], e⟩
theorem lastK_lt {t : Tr} {any : Bool} {last k : Int} (h1 : any = true → last < k) (h2 : ∀ x ∈ t.list, x.1 < k) (h3 : anyK t any = true) : lastK t last < k := by
  cases t with
  | nil => exact h1 h3
  | node l k' v r =>
    show lastK r k' < k
    rcases lastK_mem r k' with e | ⟨y, hy, e⟩
    · rw [e]; exact h2 (k', v) (by simp [Tr.list])
    · rw [← e]; exact h2 y (by simp [Tr.list, hy])
theorem anyK_true (t : Tr) : anyK t true = true := by cases t <;> rfl
theorem vc_or7 (n : Nat) (d : List SlotT) (fl : List Int) (last most i : Int) (any : Bool) (K : KT) (hl : d.length ≤ 1000000) (t : Tr) (rp : RepD d t i) (hasc : Asc t.list) (hn : t.size < n + 1) (hm : (t.size : Int) ≤ most) (hm2 : most ≤ 10000000) (hg : any = true → gtL last t.list)
    (h : ∀ la an mo, la = lastK t last → an = anyK t any → mo = most - t.size → K (.one (.at (vB true))) [.box [.slc 1, .slc 2, vI la, vB an, vI mo], .row false EC.slot d, .row false EC.u32 fl] [0]) :
    vc C0 (aOr7 n) Try.f111 [.at (.ptr 0 0), .at (vU i)] [.box [.slc 1, .slc 2, vI last, vB any, vI most], .row false EC.slot d, .row false EC.u32 fl] (normK 3 (wideK [0] K)) := by
  refine Eq.mp (show (brS (i == 0)
  ((K (SV.one (TV.at (At.val (Value.bool true)))) [(Chunk.box [(At.slc 1), (At.slc 2), (At.val (Value.int IntKind.i64 (last))), (At.val (Value.bool (any))), (At.val (Value.int IntKind.i64 (most)))]), (Chunk.row false (EC.slot) (d)), (Chunk.row false (EC.u32) (fl))] [0]))
  ((brS (most == 0)
    ((K (SV.one (TV.at (At.val (Value.bool false)))) [(Chunk.box [(At.slc 1), (At.slc 2), (At.val (Value.int IntKind.i64 (last))), (At.val (Value.bool (any))), (At.val (Value.int IntKind.i64 (most)))]), (Chunk.row false (EC.slot) (d)), (Chunk.row false (EC.u32) (fl))] [0]))
    (((inU i) ∧
    (d.length ≤ 1000000) ∧
    (∀ n1 : NodeT,
      (((n1) = (ndD d i)) →
      ((d.length ≤ 1000000) ∧
      (∃ t : Tr,
        ((RepD d t n1.left) ∧
        (Asc t.list) ∧
        (t.size < n) ∧
        ((↑t.size : Int) ≤ IntKind.i64.wrap (most - 1)) ∧
        (IntKind.i64.wrap (most - 1) ≤ 10000000) ∧
        (((any) = true) →
        (gtL last t.list)) ∧
        (∀ la : Int,
          (∀ an : Bool,
            (∀ mo : Int,
              (((la) = (lastK t last)) →
              (((an) = (anyK t any)) →
              (((mo) = (IntKind.i64.wrap (most - 1) - (↑t.size : Int))) →
              (brS (an)
                ((brS (decide (n1.key ≤ la))
                  ((K (SV.one (TV.at (At.val (Value.bool false)))) [(Chunk.box [(At.slc 1), (At.slc 2), (At.val (Value.int IntKind.i64 (la))), (At.val (Value.bool (an))), (At.val (Value.int IntKind.i64 (mo)))]), (Chunk.row false (EC.slot) (d)), (Chunk.row false (EC.u32) (fl))] [0]))
                  (((d.length ≤ 1000000) ∧
                  (∃ t1 : Tr,
                    ((RepD d t1 n1.right) ∧
                    (Asc t1.list) ∧
                    (t1.size < n) ∧
                    ((↑t1.size : Int) ≤ mo) ∧
                    (mo ≤ 10000000) ∧
                    ((true = true) →
                    (gtL n1.key t1.list)) ∧
                    (∀ la1 : Int,
                      (∀ an1 : Bool,
                        (∀ mo1 : Int,
                          (((la1) = (lastK t1 n1.key)) →
                          (((an1) = (anyK t1 true)) →
                          (((mo1) = (mo - (↑t1.size : Int))) →
                          (K (SV.one (TV.at (At.val (Value.bool true)))) [(Chunk.box [(At.slc 1), (At.slc 2), (At.val (Value.int IntKind.i64 (la1))), (At.val (Value.bool (an1))), (At.val (Value.int IntKind.i64 (mo1)))]), (Chunk.row false (EC.slot) (d)), (Chunk.row false (EC.u32) (fl))] [0])))))))))))))
                (((d.length ≤ 1000000) ∧
                (∃ t1 : Tr,
                  ((RepD d t1 n1.right) ∧
                  (Asc t1.list) ∧
                  (t1.size < n) ∧
                  ((↑t1.size : Int) ≤ mo) ∧
                  (mo ≤ 10000000) ∧
                  ((true = true) →
                  (gtL n1.key t1.list)) ∧
                  (∀ la1 : Int,
                    (∀ an1 : Bool,
                      (∀ mo1 : Int,
                        (((la1) = (lastK t1 n1.key)) →
                        (((an1) = (anyK t1 true)) →
                        (((mo1) = (mo - (↑t1.size : Int))) →
                        (K (SV.one (TV.at (At.val (Value.bool true)))) [(Chunk.box [(At.slc 1), (At.slc 2), (At.val (Value.int IntKind.i64 (la1))), (At.val (Value.bool (an1))), (At.val (Value.int IntKind.i64 (mo1)))]), (Chunk.row false (EC.slot) (d)), (Chunk.row false (EC.u32) (fl))] [0])))))))))))))))))))))))))))) = _ by kernel_rfl) ?_
  cases t with
  | nil => have e : i = 0 := rp; exact bt7 (by rw [e]; rfl) (h last any most rfl rfl (by simp [Tr.size]))
  | node l k v r =>
    have hi := rp.inU hl
    have hne := rp.ne
    obtain ⟨h1, h2, h3, h4, h5, h6⟩ := rp
    have hz : (Tr.node l k v r).size = 1 + l.size + r.size := rfl
    obtain ⟨al, ar, lk, kr⟩ := node_asc hasc
    have mz : most ≠ 0 := by omega
    refine bf7 (by simp [hne]) (bf7 (by simp [mz]) ⟨hi, hl, fun n1 e1 => ?_⟩)
    subst e1
    rw [wrap_id (x := most - 1) (by omega) (by omega)]
    refine ⟨hl, l, h5, al, by omega, by omega, by omega, fun a x hx => hg a x (by simp [Tr.list, hx]), fun la an mo e1 e2 e3 => ?_⟩
    have gr : gtL (ndD d i).key r.list := fun x hx => by rw [h2]; exact kr x hx
    have fin : ∀ la1 an1 mo1, la1 = lastK r (ndD d i).key → an1 = anyK r true → mo1 = mo - r.size → K (.one (.at (vB true))) [.box [.slc 1, .slc 2, vI la1, vB an1, vI mo1], .row false EC.slot d, .row false EC.u32 fl] [0] := fun la1 an1 mo1 f1 f2 f3 => h la1 an1 mo1 (by rw [f1, h2]; rfl) (by rw [f2, anyK_true]; rfl) (by omega)
    refine brS_of (fun ha => bf7 ?_ ⟨hl, r, h6, ar, by omega, by omega, by omega, fun _ => gr, fin⟩) fun _ => ⟨hl, r, h6, ar, by omega, by omega, by omega, fun _ => gr, fin⟩
    have hlt : la < k := by
      rw [e1]
      refine lastK_lt (any := any) (fun a => ?_) lk (by rw [← e2]; exact ha)
      exact hg a (k, v) (by simp [Tr.list])
    rw [h2]
    exact decide_eq_false (by omega)
theorem s_or7 : ∀ n : Nat, SoundT C0 111 (tOr7 n)
  | 0 => by
    refine .ofW [0] Try.func111 (by decide) rfl fun args H K h hB => ?_
    unfold tOr7 at h
    split at h <;> try exact h.elim
    obtain ⟨_, t, _, _, hn, _⟩ := h
    omega
  | n + 1 => by
    refine .ofW [0] Try.func111 (by decide) rfl fun args H K h hB => ?_
    unfold tOr7 at h
    split at h <;> try exact h.elim
    rename_i i last any most d fl
    obtain ⟨hl, t, rp, hasc, hn, hm, hm2, hg, h⟩ := h
    exact ⟨aOr7 n, ⟨frame C0.ok s_nd7 _, frame C0.ok (s_or7 n) _, trivial⟩, vc_or7 n d fl last most i any K hl t rp hasc hn hm hm2 hg h⟩
theorem vc_ck7 (d : List SlotT) (fl : List Int) (i : Int) (K : KT) (hl : d.length ≤ 1000000) (t : Tr) (rp : RepD d t i) (hasc : Asc t.list) (bal : t.Bal) (h2 : t.size ≤ 2 * d.length + 2) (hs : t.size ≤ 1000000) (h : K (.one (.at (vI 0))) [.row false EC.slot d, .row false EC.u32 fl] []) :
    vc C0 (aCk7 1000001) Try.f81 [.agg [.slc 0, .slc 1], .at (vU i)] [.row false EC.slot d, .row false EC.u32 fl] (normK 2 K) := by
  generalize hn : 1000001 = n
  refine Eq.mp (show (brS (i != 0)
  (((inU i) ∧
  (d.length ≤ 1000000) ∧
  (brS (!alcD d i)
    ((K (SV.one (TV.at (At.val (Value.int IntKind.i64 1)))) [(Chunk.row false (EC.slot) (d)), (Chunk.row false (EC.u32) (fl))] []))
    (((d.length ≤ 1000000) ∧
    (∃ t : Tr,
      ((RepD d t i) ∧
      (Asc t.list) ∧
      (t.size < n) ∧
      ((↑t.size : Int) ≤ IntKind.i64.wrap (IntKind.i64.wrap (2 * (↑d.length : Int)) + 2)) ∧
      (IntKind.i64.wrap (IntKind.i64.wrap (2 * (↑d.length : Int)) + 2) ≤ 10000000) ∧
      ((false = true) →
      (gtL 0 t.list)) ∧
      (∀ la : Int,
        (∀ an : Bool,
          (∀ mo : Int,
            (((la) = (lastK t 0)) →
            (((an) = (anyK t false)) →
            (((mo) = (IntKind.i64.wrap (IntKind.i64.wrap (2 * (↑d.length : Int)) + 2) - (↑t.size : Int))) →
            ((d.length ≤ 1000000) ∧
            (∃ t1 : Tr,
              ((RepD d t1 i) ∧
              (t1.Bal) ∧
              (t1.size < n) ∧
              (t1.size ≤ 1000000))) ∧
            (K (SV.one (TV.at (At.val (Value.int IntKind.i64 0)))) [(Chunk.row false (EC.slot) (d)), (Chunk.row false (EC.u32) (fl))] [])))))))))))))))
  (((d.length ≤ 1000000) ∧
  (∃ t : Tr,
    ((RepD d t i) ∧
    (Asc t.list) ∧
    (t.size < n) ∧
    ((↑t.size : Int) ≤ IntKind.i64.wrap (IntKind.i64.wrap (2 * (↑d.length : Int)) + 2)) ∧
    (IntKind.i64.wrap (IntKind.i64.wrap (2 * (↑d.length : Int)) + 2) ≤ 10000000) ∧
    ((false = true) →
    (gtL 0 t.list)) ∧
    (∀ la : Int,
      (∀ an : Bool,
        (∀ mo : Int,
          (((la) = (lastK t 0)) →
          (((an) = (anyK t false)) →
          (((mo) = (IntKind.i64.wrap (IntKind.i64.wrap (2 * (↑d.length : Int)) + 2) - (↑t.size : Int))) →
          ((d.length ≤ 1000000) ∧
          (∃ t1 : Tr,
            ((RepD d t1 i) ∧
            (t1.Bal) ∧
            (t1.size < n) ∧
            (t1.size ≤ 1000000))) ∧
          (K (SV.one (TV.at (At.val (Value.int IntKind.i64 0)))) [(Chunk.row false (EC.slot) (d)), (Chunk.row false (EC.u32) (fl))] []))))))))))))) = _ by kernel_rfl) ?_
  have hi := rp.inU hl
  rw [wrap_id (x := 2 * (d.length : Int)) (by omega) (by omega), wrap_id (x := 2 * (d.length : Int) + 2) (by omega) (by omega)]
  have hz : i ≠ 0 → alcD d i = true := fun z => by
    cases t with
    | nil => exact absurd rp z
    | node l k v r => exact rp.1
  refine brS_of (fun c => ?_) fun _ => ⟨hl, t, rp, hasc, by omega, by omega, by omega, (fun z => by cases z), fun _ _ _ _ _ _ => ⟨hl, ⟨t, rp, bal, by omega, hs⟩, h⟩⟩
  have c : i ≠ 0 := by simpa using c
  exact ⟨hi, hl, bf7 (by rw [hz c]; rfl) ⟨hl, t, rp, hasc, by omega, by omega, by omega, (fun z => by cases z), fun _ _ _ _ _ _ => ⟨hl, ⟨t, rp, bal, by omega, hs⟩, h⟩⟩⟩
theorem s_ck7 : SoundT C0 81 tCk7 := by
  refine .of Try.func81 (by decide) rfl fun args H K h hB => ?_
  unfold tCk7 at h
  split at h <;> try exact h.elim
  rename_i i d fl
  obtain ⟨hl, ⟨t, rp, hasc, bal, h2, hs⟩, h⟩ := h
  exact ⟨aCk7 1000001, ⟨frame C0.ok s_alc _, frame C0.ok (s_or7 _) _, frame C0.ok (s_bl7 _) _, trivial⟩, vc_ck7 d fl i K hl t rp hasc bal h2 hs h⟩
theorem vc_tr7 (d : List SlotT) (fl : List Int) (i : Int) (l : List Ent) (K : KT) (hl : d.length ≤ 1000000) (t : Tr) (rp : RepD d t i) (hasc : Asc t.list) (bal : t.Bal) (h2 : t.size ≤ 2 * d.length + 2) (hs : t.size ≤ 1000000) (e : t.list = l) (h : K (.one (.at (vB true))) [.row false EC.slot d, .row false EC.u32 fl, .row false EC.ent l] []) :
    vc C0 (aTr7 1000001 l d fl) Try.f32 [.agg [.slc 0, .slc 1], .at (vU i), .at (.slc 2)] [.row false EC.slot d, .row false EC.u32 fl, .row false EC.ent l] (normK 3 K) := by
  generalize hn : 1000001 = n
  refine Eq.mp (show ((d.length ≤ 1000000) ∧
(∃ t : Tr,
  ((RepD d t i) ∧
  (Asc t.list) ∧
  (t.Bal) ∧
  (t.size ≤ 2 * d.length + 2) ∧
  (t.size ≤ 1000000))) ∧
(inU i) ∧
(d.length ≤ 1000000) ∧
(∀ n1 : NodeT,
  (((n1) = (ndD d i)) →
  (brS (n1.size != (↑l.length : Int))
    ((K (SV.one (TV.at (At.val (Value.bool false)))) [(Chunk.row false (EC.slot) (d)), (Chunk.row false (EC.u32) (fl)), (Chunk.row false (EC.ent) (l))] []))
    (((d.length ≤ 1000000) ∧
    (∃ t : Tr,
      ((RepD d t i) ∧
      (t.size < n) ∧
      (t.size ≤ 1000000) ∧
      (∀ r : List Ent,
        (((r) = (t.list)) →
        (brS ((↑r.length : Int) != (↑l.length : Int))
          ((K (SV.one (TV.at (At.val (Value.bool false)))) [(Chunk.row false (EC.slot) (d)), (Chunk.row false (EC.u32) (fl)), (Chunk.row false (EC.ent) (l))] []))
          (((∃ x : XIx l.length,
            (True ∧
            (True ∧
            True ∧
            True ∧
            ((Value.int IntKind.i64 0) = (Value.int IntKind.i64 ((↑x.i : Int)))) ∧
            True) ∧
            ((d) = (d)) ∧
            ((fl) = (fl)) ∧
            ((l) = (l)) ∧
            (True ∧
            True ∧
            True) ∧
            ((r) = (l)) ∧
            True)) ∧
          (∀ x : XIx l.length,
            (True →
            (brS (decide ((↑x.i : Int) < (↑l.length : Int)))
              (((0 ≤ (↑x.i : Int)) ∧
              ((↑x.i : Int) < (↑l.length : Int)) ∧
              (0 ≤ (↑x.i : Int)) ∧
              ((↑x.i : Int) < (↑l.length : Int)) ∧
              (brS (!((eA l x.i).fst == (eA l x.i).fst && ((eA l x.i).snd == (eA l x.i).snd && true)))
                ((K (SV.one (TV.at (At.val (Value.bool false)))) [(Chunk.row false (EC.slot) (d)), (Chunk.row false (EC.u32) (fl)), (Chunk.row false (EC.ent) (l))] []))
                ((∃ x' : XIx l.length,
                  (True ∧
                  ((True ∧
                  True ∧
                  True ∧
                  ((Value.int IntKind.i64 (IntKind.i64.wrap ((↑x.i : Int) + 1))) = (Value.int IntKind.i64 ((↑x'.i : Int)))) ∧
                  True) ∧
                  ((d) = (d)) ∧
                  ((fl) = (fl)) ∧
                  ((l) = (l)) ∧
                  (True ∧
                  True ∧
                  True) ∧
                  ((l) = (l)) ∧
                  True) ∧
                  (l.length - x'.i < l.length - x.i)))))))
              ((K (SV.one (TV.at (At.val (Value.bool true)))) [(Chunk.row false (EC.slot) (d)), (Chunk.row false (EC.u32) (fl)), (Chunk.row false (EC.ent) (l))] [])))))))))))))))))) = _ by kernel_rfl) ?_
  have hi := rp.inU hl
  have sz : t.size = l.length := by rw [← e, t.list_len]
  refine ⟨hl, ⟨t, rp, hasc, bal, h2, hs⟩, hi, hl, fun n1 e1 => bf7 (by rw [e1, rp.sz, sz]; simp) ⟨hl, t, rp, by omega, hs, fun r er => bf7 (by rw [er, e]; simp) ⟨⟨⟨0, Nat.zero_le _⟩, ?_⟩, fun x _ => brS_of (fun c => ?_) fun _ => h⟩⟩⟩
  · have er : r = l := er.trans e
    (repeat' first | exact trivial | exact rfl | exact er | refine And.intro ?_ ?_)
  have c : x.i < l.length := by have := of_decide_eq_true c; omega
  refine ⟨by omega, by omega, by omega, by omega, bf7 (by simp) ⟨⟨x.i + 1, c⟩, ?_⟩⟩
  have v : IntKind.i64.wrap ((x.i : Int) + 1) = ((x.i + 1 : Nat) : Int) := by rw [wrap_id (by omega) (by omega)]; rfl
  (repeat' first | exact trivial | exact rfl | exact congrArg (Value.int IntKind.i64) v | refine And.intro ?_ ?_)
  show l.length - (x.i + 1) < l.length - x.i
  omega
theorem s_tr7 : SoundT C0 32 tTr7 := by
  refine .of Try.func32 (by decide) rfl fun args H K h hB => ?_
  unfold tTr7 at h
  split at h <;> try exact h.elim
  rename_i i d fl l
  obtain ⟨hl, ⟨t, rp, hasc, bal, h2, hs, e⟩, h⟩ := h
  exact ⟨aTr7 1000001 l d fl, ⟨frame C0.ok s_ck7 _, frame C0.ok s_nd7 _, frame C0.ok (s_li7 _) _, trivial⟩, vc_tr7 d fl i l K hl t rp hasc bal h2 hs e h⟩

/-! ### From the arena to its dump -/
theorem ndD_slots {S : Arn} {hs : List Int} (w : Wf S hs) (i : Int) : ndD (slotsOf S) i = S.nd i := by
  unfold ndD
  rw [alcD_slots w]
  cases hb : S.us i with
  | false => rw [w.zero i hb]; rfl
  | true => rw [if_pos rfl, sltD_slots w hb]
theorem repD_of {S : Arn} {hs : List Int} (w : Wf S hs) : ∀ {t : Tr} {i : Int}, Rep S t i → RepD (slotsOf S) t i
  | .nil, i, h => h
  | .node l k v r, i, h => by
    have sz := Rep.size w h
    obtain ⟨h1, h2, h3, h4, h5⟩ := h
    refine ⟨by rw [alcD_slots w]; exact h1, ?_⟩
    rw [ndD_slots w]
    exact ⟨h2, h3, by rw [sz]; simp [Tr.size], repD_of w h4, repD_of w h5⟩
theorem len_of_nodup {α : Type} [DecidableEq α] : ∀ (a b : List α), a.Nodup → (∀ x ∈ a, x ∈ b) → a.length ≤ b.length
  | [], _, _, _ => Nat.zero_le _
  | x :: a, b, hn, hs => by
    obtain ⟨h1, h2⟩ := List.pairwise_cons.1 hn
    have hx := hs x (by simp)
    have := len_of_nodup a (b.erase x) h2 fun y hy => (List.mem_erase_of_ne (Ne.symm (h1 y hy))).2 (hs y (by simp [hy]))
    rw [List.length_erase_of_mem hx] at this
    have : 0 < b.length := List.length_pos_of_mem hx
    simp; omega
theorem rep_keys {S : Arn} {hs : List Int} (w : Wf S hs) : ∀ {t : Tr} {i : Int}, Rep S t i → ∀ x ∈ t.list, x.1 ∈ (slotsOf S).map fun s => s.node.key
  | .nil, _, _, x, hx => by simp [Tr.list] at hx
  | .node l k v r, i, h, x, hx => by
    obtain ⟨h1, h2, h3, h4, h5⟩ := h
    simp only [Tr.list, List.mem_append, List.mem_cons] at hx
    rcases hx with hx | rfl | hx
    · exact rep_keys w h4 x hx
    · have hp := w.pos h1
      have hi : (i - 1).toNat < ncap S := by unfold ncap; omega
      refine List.mem_map.2 ⟨slotAt S (i - 1).toNat, ?_, ?_⟩
      · unfold slotsOf; exact List.mem_map.2 ⟨_, List.mem_range.2 hi, rfl⟩
      · show (S.nd (((i - 1).toNat : Int) + 1)).key = k
        rw [show (((i - 1).toNat : Nat) : Int) + 1 = i by omega]; exact h2
    · exact rep_keys w h5 x hx
/-- A tree in order has no more nodes than there are slots. -/
theorem rep_few {S : Arn} {hs : List Int} (w : Wf S hs) {t : Tr} {i : Int} (h : Rep S t i) (hasc : Asc t.list) : t.size ≤ (slotsOf S).length := by
  have := len_of_nodup (t.list.map Prod.fst) ((slotsOf S).map fun s => s.node.key) (List.pairwise_map.2 ((show List.Pairwise (fun (a b : Ent) => a.1 < b.1) t.list from hasc).imp fun c e => by omega)) (fun x hx => by
    obtain ⟨y, hy, rfl⟩ := List.mem_map.1 hx
    exact rep_keys w h y hy)
  rw [List.length_map, List.length_map, t.list_len] at this
  exact this
end Go.Proofs.Ytjbkckcjmmmooaa.Sx
end
section
/- Listing trees. -/
namespace Go.Proofs.Ytjbkckcjmmmooaa.Sx
open Go

/-KEEP Wf exW inU live Arn.cap Arn.free maxSize mkNode makeS relA nxt NodeR BuildR Rep lk pl rdS Tr.size-/
abbrev chL (lim : Int) (S : Arn) (out : List Ent) : List (Chunk C0) := [.box [.ptr 1 0, .slc 2, vI lim], .box [.ptr 3 0, .slc 4, .slc 5, vU64 S.reads], .row true EC.ent out, .box [.slc 6, .slc 7, .slc 8, vU S.fresh], .row true EC.node S.nodes, .row true EC.int S.counts, .row true EC.bool S.used, .row true EC.u32 S.gen, .row true EC.u32 S.rel]
def lsM (H : List (Chunk C0)) (k : Int → Arn → List Ent → Prop) : Prop := match H with
  | [.box [.ptr 1 0, .slc 2, .val (.int .i64 lim)], .box [.ptr 3 0, .slc 4, .slc 5, .val (.int .u64 rd)], .row true .ent out, .box [.slc 6, .slc 7, .slc 8, .val (.int .u32 fr)], .row true .node nd, .row true .int ct, .row true .bool us, .row true .u32 gn, .row true .u32 rl] => k lim ⟨us, gn, rl, fr, nd, ct, rd⟩ out
  | _ => False
theorem fold_nd' (S : Arn) (i : Int) : S.nodes.getD i.toNat ⟨0, 0, 0, 0, 0, 0, 0, 0⟩ = S.nd i := rfl
def tFull : Tfm C0 := fun args H K => match args with
  | [.at (.ptr 0 0)] => lsM H fun lim S out => K (.one (.at (vB (decide (lim ≤ (out.length : Int)))))) (chL lim S out) []
  | _ => False
def room (lim : Int) (out : List Ent) : Nat := (lim - out.length).toNat
def tLk (n : Nat) : Tfm C0 := fun args H K => match args with
  | [.at (.ptr 0 0), .at (.val (.int .u32 i)), .at (.val (.int .i64 lo)), .at (.val (.int .i64 hi))] => lsM H fun lim S out => ∃ hs t, Wf S hs ∧ Rep S t i ∧ t.size < n ∧ t.size ≤ 1000000 ∧ out.length + t.size ≤ 3000000 ∧ S.reads + t.size ≤ 3000000000000000000 ∧
    ∀ S' out', S' = rdS S (lk t lo hi (room lim out)).2 → out' = out ++ (lk t lo hi (room lim out)).1 → K (.tup []) (chL lim S' out') [0, 1, 2]
  | _ => False
structure XSt (P : Arn → List Ent → Prop) where
  S : Arn
  out : List Ent
  h : P S out
noncomputable def aLk (n : Nat) (lim : Int) (nd : NodeT) (P1 P2 : Arn → List Ent → Prop) : Ann C0 := { Γ := [(136, frameT [] tFull), (49, frameT [] tNode), (124, frameT [] (tLk n))], inv := fun k => match k with
  | 1005 => some { X := XSt P1, sl := [8], tf := fun _ => [.one (.at (.ptr 9 0))], hf := fun x => chL lim x.S x.out ++ [bxN nd], wr := [0, 1, 2] }
  | 1007 => some { X := XSt P2, sl := [8], tf := fun _ => [.one (.at (.ptr 9 0))], hf := fun x => chL lim x.S x.out ++ [bxN nd], wr := [0, 1, 2] }
  | _ => none }
def tPl (n : Nat) : Tfm C0 := fun args H K => match args with
  | [.at (.ptr 0 0), .at (.val (.int .u32 i)), .at (.val (.int .i64 x)), .at (.val (.int .i64 y))] => lsM H fun lim S out => ∃ hs t, Wf S hs ∧ Rep S t i ∧ t.size < n ∧ t.size ≤ 1000000 ∧ out.length + t.size ≤ 3000000 ∧ S.reads + 2 * t.size ≤ 3000000000000000000 ∧ 0 ≤ x ∧ y ≤ t.size ∧
    ∀ S' out', S' = rdS S (pl t x y).2 → out' = out ++ (pl t x y).1 → K (.tup []) (chL lim S' out') [0, 1, 2]
  | _ => False
theorem vc_full (lim : Int) (S : Arn) (out : List Ent) (K : KT) (h : K (.one (.at (vB (decide (lim ≤ (out.length : Int)))))) (chL lim S out) []) :
    vc C0 A0 Try.f136 [.at (.ptr 0 0)] (chL lim S out) (normK 9 K) := Eq.mp (show (K (SV.one (TV.at (At.val (Value.bool (decide ((↑out.length : Int) ≥ lim)))))) [(Chunk.box [(At.ptr 1 0), (At.slc 2), (At.val (Value.int IntKind.i64 (lim)))]), (Chunk.box [(At.ptr 3 0), (At.slc 4), (At.slc 5), (At.val (Value.int IntKind.u64 (S.reads)))]), (Chunk.row true (EC.ent) (out)), (Chunk.box [(At.slc 6), (At.slc 7), (At.slc 8), (At.val (Value.int IntKind.u32 (S.fresh)))]), (Chunk.row true (EC.node) (S.nodes)), (Chunk.row true (EC.int) (S.counts)), (Chunk.row true (EC.bool) (S.used)), (Chunk.row true (EC.u32) (S.gen)), (Chunk.row true (EC.u32) (S.rel))] []) = _ by kernel_rfl) h
theorem s_full : SoundT C0 136 tFull := by
  refine .of Try.func136 (by decide) rfl fun args H K h hB => ?_
  unfold tFull at h
  split at h <;> try exact h.elim
  unfold lsM at h
  split at h <;> try exact h.elim
  rename_i lim rd out fr nd ct us gn rl
  exact ⟨A0, trivial, vc_full lim ⟨us, gn, rl, fr, nd, ct, rd⟩ out K h⟩
def lkA (t : Tr) (lo hi : Int) (rm : Nat) : List Ent × Nat := match t with
  | .nil => ([], 0)
  | .node l k _ _ => if lo < k then lk l lo hi rm else ([], 0)
def lkB (t : Tr) (lo hi : Int) (rm : Nat) : List Ent := match t with
  | .nil => []
  | .node _ k v _ => if lo ≤ k ∧ k ≤ hi ∧ (lkA t lo hi rm).1.length < rm then [(k, v)] else []
theorem vc_lk (n : Nat) (lim : Int) (S : Arn) (out : List Ent) (i lo hi : Int) (K : KT) (hs : List Int) (t : Tr) (hw : Wf S hs) (hr : Rep S t i) (h1 : t.size < n + 1) (h2 : t.size ≤ 1000000) (h3 : out.length + t.size ≤ 3000000) (h4 : S.reads + t.size ≤ 3000000000000000000)
    (h : ∀ S' out', S' = rdS S (lk t lo hi (room lim out)).2 → out' = out ++ (lk t lo hi (room lim out)).1 → K (.tup []) (chL lim S' out') [0, 1, 2]) :
    vc C0 (aLk n lim (S.nd i) (fun S1 o1 => S1 = rdS S (1 + (lkA t lo hi (room lim out)).2) ∧ o1 = out ++ (lkA t lo hi (room lim out)).1) (fun S1 o1 => S1 = rdS S (1 + (lkA t lo hi (room lim out)).2) ∧ o1 = out ++ ((lkA t lo hi (room lim out)).1 ++ lkB t lo hi (room lim out))))
      Try.f124 [.at (.ptr 0 0), .at (vU i), .at (vI lo), .at (vI hi)] (chL lim S out) (normK 9 (wideK [0, 1, 2] K)) := by
  generalize hP1 : (fun S1 o1 => S1 = rdS S (1 + (lkA t lo hi (room lim out)).2) ∧ o1 = out ++ (lkA t lo hi (room lim out)).1) = P1
  generalize hP2 : (fun S1 o1 => S1 = rdS S (1 + (lkA t lo hi (room lim out)).2) ∧ o1 = out ++ ((lkA t lo hi (room lim out)).1 ++ lkB t lo hi (room lim out))) = P2
  refine Eq.mp (show (brS (i == 0)
  ((K (SV.tup []) [(Chunk.box [(At.ptr 1 0), (At.slc 2), (At.val (Value.int IntKind.i64 (lim)))]), (Chunk.box [(At.ptr 3 0), (At.slc 4), (At.slc 5), (At.val (Value.int IntKind.u64 (S.reads)))]), (Chunk.row true (EC.ent) (out)), (Chunk.box [(At.slc 6), (At.slc 7), (At.slc 8), (At.val (Value.int IntKind.u32 (S.fresh)))]), (Chunk.row true (EC.node) (S.nodes)), (Chunk.row true (EC.int) (S.counts)), (Chunk.row true (EC.bool) (S.used)), (Chunk.row true (EC.u32) (S.gen)), (Chunk.row true (EC.u32) (S.rel))] [0, 1, 2]))
  ((brS (decide (lim ≤ (↑out.length : Int)))
    ((K (SV.tup []) [(Chunk.box [(At.ptr 1 0), (At.slc 2), (At.val (Value.int IntKind.i64 (lim)))]), (Chunk.box [(At.ptr 3 0), (At.slc 4), (At.slc 5), (At.val (Value.int IntKind.u64 (S.reads)))]), (Chunk.row true (EC.ent) (out)), (Chunk.box [(At.slc 6), (At.slc 7), (At.slc 8), (At.val (Value.int IntKind.u32 (S.fresh)))]), (Chunk.row true (EC.node) (S.nodes)), (Chunk.row true (EC.int) (S.counts)), (Chunk.row true (EC.bool) (S.used)), (Chunk.row true (EC.u32) (S.gen)), (Chunk.row true (EC.u32) (S.rel))] [0, 1, 2]))
    (((inU i) ∧
    (exW S) ∧
    (S.reads < 4000000000000000000) ∧
    (∀ S' : Arn,
      (((S') = (rdS S (S.us i).toNat)) →
      (brS (!S.us i)
        ((K (SV.tup []) [(Chunk.box [(At.ptr 1 0), (At.slc 2), (At.val (Value.int IntKind.i64 (lim)))]), (Chunk.box [(At.ptr 3 0), (At.slc 4), (At.slc 5), (At.val (Value.int IntKind.u64 (S'.reads)))]), (Chunk.row true (EC.ent) (out)), (Chunk.box [(At.slc 6), (At.slc 7), (At.slc 8), (At.val (Value.int IntKind.u32 (S'.fresh)))]), (Chunk.row true (EC.node) (S'.nodes)), (Chunk.row true (EC.int) (S'.counts)), (Chunk.row true (EC.bool) (S'.used)), (Chunk.row true (EC.u32) (S'.gen)), (Chunk.row true (EC.u32) (S'.rel))] [0, 1, 2]))
        (((brS (decide ((S.nd i).key > lo))
          ((∃ hs : List Int,
            (∃ t : Tr,
              ((Wf S' hs) ∧
              (Rep S' t (S.nd i).left) ∧
              (t.size < n) ∧
              (t.size ≤ 1000000) ∧
              (out.length + t.size ≤ 3000000) ∧
              (S'.reads + (↑t.size : Int) ≤ 3000000000000000000) ∧
              (∀ S'1 : Arn,
                (∀ out' : List Ent,
                  (((S'1) = (rdS S' (lk t lo hi (room lim out)).snd)) →
                  (((out') = (out ++ (lk t lo hi (room lim out)).fst)) →
                  (∃ x : XSt P1,
                    (True ∧
                    (True ∧
                    ((Value.int IntKind.i64 (lo)) = (Value.int IntKind.i64 (lo))) ∧
                    ((Value.int IntKind.i64 (hi)) = (Value.int IntKind.i64 (hi))) ∧
                    True ∧
                    True) ∧
                    (True ∧
                    True ∧
                    ((Value.int IntKind.i64 (lim)) = (Value.int IntKind.i64 (lim))) ∧
                    True) ∧
                    (True ∧
                    True ∧
                    True ∧
                    ((Value.int IntKind.u64 (S'1.reads)) = (Value.int IntKind.u64 (x.S.reads))) ∧
                    True) ∧
                    ((out') = (x.out)) ∧
                    (True ∧
                    True ∧
                    True ∧
                    ((Value.int IntKind.u32 (S'1.fresh)) = (Value.int IntKind.u32 (x.S.fresh))) ∧
                    True) ∧
                    ((S'1.nodes) = (x.S.nodes)) ∧
                    ((S'1.counts) = (x.S.counts)) ∧
                    ((S'1.used) = (x.S.used)) ∧
                    ((S'1.gen) = (x.S.gen)) ∧
                    ((S'1.rel) = (x.S.rel)) ∧
                    (((Value.int IntKind.i64 ((S.nd i).key)) = (Value.int IntKind.i64 ((S.nd i).key))) ∧
                    ((Value.int IntKind.i64 ((S.nd i).value)) = (Value.int IntKind.i64 ((S.nd i).value))) ∧
                    ((Value.int IntKind.u32 ((S.nd i).left)) = (Value.int IntKind.u32 ((S.nd i).left))) ∧
                    ((Value.int IntKind.u32 ((S.nd i).right)) = (Value.int IntKind.u32 ((S.nd i).right))) ∧
                    ((Value.int IntKind.i64 ((S.nd i).size)) = (Value.int IntKind.i64 ((S.nd i).size))) ∧
                    ((Value.int IntKind.i64 ((S.nd i).sum)) = (Value.int IntKind.i64 ((S.nd i).sum))) ∧
                    ((Value.int IntKind.i64 ((S.nd i).min)) = (Value.int IntKind.i64 ((S.nd i).min))) ∧
                    ((Value.int IntKind.i64 ((S.nd i).max)) = (Value.int IntKind.i64 ((S.nd i).max))) ∧
                    True) ∧
                    True))))))))))
          ((∃ x : XSt P1,
            (True ∧
            (True ∧
            ((Value.int IntKind.i64 (lo)) = (Value.int IntKind.i64 (lo))) ∧
            ((Value.int IntKind.i64 (hi)) = (Value.int IntKind.i64 (hi))) ∧
            True ∧
            True) ∧
            (True ∧
            True ∧
            ((Value.int IntKind.i64 (lim)) = (Value.int IntKind.i64 (lim))) ∧
            True) ∧
            (True ∧
            True ∧
            True ∧
            ((Value.int IntKind.u64 (S'.reads)) = (Value.int IntKind.u64 (x.S.reads))) ∧
            True) ∧
            ((out) = (x.out)) ∧
            (True ∧
            True ∧
            True ∧
            ((Value.int IntKind.u32 (S'.fresh)) = (Value.int IntKind.u32 (x.S.fresh))) ∧
            True) ∧
            ((S'.nodes) = (x.S.nodes)) ∧
            ((S'.counts) = (x.S.counts)) ∧
            ((S'.used) = (x.S.used)) ∧
            ((S'.gen) = (x.S.gen)) ∧
            ((S'.rel) = (x.S.rel)) ∧
            (((Value.int IntKind.i64 ((S.nd i).key)) = (Value.int IntKind.i64 ((S.nd i).key))) ∧
            ((Value.int IntKind.i64 ((S.nd i).value)) = (Value.int IntKind.i64 ((S.nd i).value))) ∧
            ((Value.int IntKind.u32 ((S.nd i).left)) = (Value.int IntKind.u32 ((S.nd i).left))) ∧
            ((Value.int IntKind.u32 ((S.nd i).right)) = (Value.int IntKind.u32 ((S.nd i).right))) ∧
            ((Value.int IntKind.i64 ((S.nd i).size)) = (Value.int IntKind.i64 ((S.nd i).size))) ∧
            ((Value.int IntKind.i64 ((S.nd i).sum)) = (Value.int IntKind.i64 ((S.nd i).sum))) ∧
            ((Value.int IntKind.i64 ((S.nd i).min)) = (Value.int IntKind.i64 ((S.nd i).min))) ∧
            ((Value.int IntKind.i64 ((S.nd i).max)) = (Value.int IntKind.i64 ((S.nd i).max))) ∧
            True) ∧
            True)))) ∧
        (∀ x : XSt P1,
          (True →
          ((brS (decide ((S.nd i).key ≥ lo))
            ((brS (decide ((S.nd i).key ≤ hi))
              ((brS (!decide (lim ≤ (↑x.out.length : Int)))
                (((((x.out.length + [((S.nd i).key, (S.nd i).value)].length) * bytesOf C0 EC.ent ≤ 140737488355328) ∧
                (∃ x1 : XSt P2,
                  (True ∧
                  (True ∧
                  ((Value.int IntKind.i64 (lo)) = (Value.int IntKind.i64 (lo))) ∧
                  ((Value.int IntKind.i64 (hi)) = (Value.int IntKind.i64 (hi))) ∧
                  True ∧
                  True) ∧
                  (True ∧
                  True ∧
                  ((Value.int IntKind.i64 (lim)) = (Value.int IntKind.i64 (lim))) ∧
                  True) ∧
                  (True ∧
                  True ∧
                  True ∧
                  ((Value.int IntKind.u64 (x.S.reads)) = (Value.int IntKind.u64 (x1.S.reads))) ∧
                  True) ∧
                  ((x.out ++ [((S.nd i).key, (S.nd i).value)]) = (x1.out)) ∧
                  (True ∧
                  True ∧
                  True ∧
                  ((Value.int IntKind.u32 (x.S.fresh)) = (Value.int IntKind.u32 (x1.S.fresh))) ∧
                  True) ∧
                  ((x.S.nodes) = (x1.S.nodes)) ∧
                  ((x.S.counts) = (x1.S.counts)) ∧
                  ((x.S.used) = (x1.S.used)) ∧
                  ((x.S.gen) = (x1.S.gen)) ∧
                  ((x.S.rel) = (x1.S.rel)) ∧
                  (((Value.int IntKind.i64 ((S.nd i).key)) = (Value.int IntKind.i64 ((S.nd i).key))) ∧
                  ((Value.int IntKind.i64 ((S.nd i).value)) = (Value.int IntKind.i64 ((S.nd i).value))) ∧
                  ((Value.int IntKind.u32 ((S.nd i).left)) = (Value.int IntKind.u32 ((S.nd i).left))) ∧
                  ((Value.int IntKind.u32 ((S.nd i).right)) = (Value.int IntKind.u32 ((S.nd i).right))) ∧
                  ((Value.int IntKind.i64 ((S.nd i).size)) = (Value.int IntKind.i64 ((S.nd i).size))) ∧
                  ((Value.int IntKind.i64 ((S.nd i).sum)) = (Value.int IntKind.i64 ((S.nd i).sum))) ∧
                  ((Value.int IntKind.i64 ((S.nd i).min)) = (Value.int IntKind.i64 ((S.nd i).min))) ∧
                  ((Value.int IntKind.i64 ((S.nd i).max)) = (Value.int IntKind.i64 ((S.nd i).max))) ∧
                  True) ∧
                  True))) ∧
                ((x.out.length + [((S.nd i).key, (S.nd i).value)].length) * bytesOf C0 EC.ent ≤ 140737488355328) ∧
                (∃ x1 : XSt P2,
                  (True ∧
                  (True ∧
                  ((Value.int IntKind.i64 (lo)) = (Value.int IntKind.i64 (lo))) ∧
                  ((Value.int IntKind.i64 (hi)) = (Value.int IntKind.i64 (hi))) ∧
                  True ∧
                  True) ∧
                  (True ∧
                  True ∧
                  ((Value.int IntKind.i64 (lim)) = (Value.int IntKind.i64 (lim))) ∧
                  True) ∧
                  (True ∧
                  True ∧
                  True ∧
                  ((Value.int IntKind.u64 (x.S.reads)) = (Value.int IntKind.u64 (x1.S.reads))) ∧
                  True) ∧
                  ((x.out ++ [((S.nd i).key, (S.nd i).value)]) = (x1.out)) ∧
                  (True ∧
                  True ∧
                  True ∧
                  ((Value.int IntKind.u32 (x.S.fresh)) = (Value.int IntKind.u32 (x1.S.fresh))) ∧
                  True) ∧
                  ((x.S.nodes) = (x1.S.nodes)) ∧
                  ((x.S.counts) = (x1.S.counts)) ∧
                  ((x.S.used) = (x1.S.used)) ∧
                  ((x.S.gen) = (x1.S.gen)) ∧
                  ((x.S.rel) = (x1.S.rel)) ∧
                  (((Value.int IntKind.i64 ((S.nd i).key)) = (Value.int IntKind.i64 ((S.nd i).key))) ∧
                  ((Value.int IntKind.i64 ((S.nd i).value)) = (Value.int IntKind.i64 ((S.nd i).value))) ∧
                  ((Value.int IntKind.u32 ((S.nd i).left)) = (Value.int IntKind.u32 ((S.nd i).left))) ∧
                  ((Value.int IntKind.u32 ((S.nd i).right)) = (Value.int IntKind.u32 ((S.nd i).right))) ∧
                  ((Value.int IntKind.i64 ((S.nd i).size)) = (Value.int IntKind.i64 ((S.nd i).size))) ∧
                  ((Value.int IntKind.i64 ((S.nd i).sum)) = (Value.int IntKind.i64 ((S.nd i).sum))) ∧
                  ((Value.int IntKind.i64 ((S.nd i).min)) = (Value.int IntKind.i64 ((S.nd i).min))) ∧
                  ((Value.int IntKind.i64 ((S.nd i).max)) = (Value.int IntKind.i64 ((S.nd i).max))) ∧
                  True) ∧
                  True))))
                ((∃ x1 : XSt P2,
                  (True ∧
                  (True ∧
                  ((Value.int IntKind.i64 (lo)) = (Value.int IntKind.i64 (lo))) ∧
                  ((Value.int IntKind.i64 (hi)) = (Value.int IntKind.i64 (hi))) ∧
                  True ∧
                  True) ∧
                  (True ∧
                  True ∧
                  ((Value.int IntKind.i64 (lim)) = (Value.int IntKind.i64 (lim))) ∧
                  True) ∧
                  (True ∧
                  True ∧
                  True ∧
                  ((Value.int IntKind.u64 (x.S.reads)) = (Value.int IntKind.u64 (x1.S.reads))) ∧
                  True) ∧
                  ((x.out) = (x1.out)) ∧
                  (True ∧
                  True ∧
                  True ∧
                  ((Value.int IntKind.u32 (x.S.fresh)) = (Value.int IntKind.u32 (x1.S.fresh))) ∧
                  True) ∧
                  ((x.S.nodes) = (x1.S.nodes)) ∧
                  ((x.S.counts) = (x1.S.counts)) ∧
                  ((x.S.used) = (x1.S.used)) ∧
                  ((x.S.gen) = (x1.S.gen)) ∧
                  ((x.S.rel) = (x1.S.rel)) ∧
                  (((Value.int IntKind.i64 ((S.nd i).key)) = (Value.int IntKind.i64 ((S.nd i).key))) ∧
                  ((Value.int IntKind.i64 ((S.nd i).value)) = (Value.int IntKind.i64 ((S.nd i).value))) ∧
                  ((Value.int IntKind.u32 ((S.nd i).left)) = (Value.int IntKind.u32 ((S.nd i).left))) ∧
                  ((Value.int IntKind.u32 ((S.nd i).right)) = (Value.int IntKind.u32 ((S.nd i).right))) ∧
                  ((Value.int IntKind.i64 ((S.nd i).size)) = (Value.int IntKind.i64 ((S.nd i).size))) ∧
                  ((Value.int IntKind.i64 ((S.nd i).sum)) = (Value.int IntKind.i64 ((S.nd i).sum))) ∧
                  ((Value.int IntKind.i64 ((S.nd i).min)) = (Value.int IntKind.i64 ((S.nd i).min))) ∧
                  ((Value.int IntKind.i64 ((S.nd i).max)) = (Value.int IntKind.i64 ((S.nd i).max))) ∧
                  True) ∧
                  True)))))
              ((∃ x1 : XSt P2,
                (True ∧
                (True ∧
                ((Value.int IntKind.i64 (lo)) = (Value.int IntKind.i64 (lo))) ∧
                ((Value.int IntKind.i64 (hi)) = (Value.int IntKind.i64 (hi))) ∧
                True ∧
                True) ∧
                (True ∧
                True ∧
                ((Value.int IntKind.i64 (lim)) = (Value.int IntKind.i64 (lim))) ∧
                True) ∧
                (True ∧
                True ∧
                True ∧
                ((Value.int IntKind.u64 (x.S.reads)) = (Value.int IntKind.u64 (x1.S.reads))) ∧
                True) ∧
                ((x.out) = (x1.out)) ∧
                (True ∧
                True ∧
                True ∧
                ((Value.int IntKind.u32 (x.S.fresh)) = (Value.int IntKind.u32 (x1.S.fresh))) ∧
                True) ∧
                ((x.S.nodes) = (x1.S.nodes)) ∧
                ((x.S.counts) = (x1.S.counts)) ∧
                ((x.S.used) = (x1.S.used)) ∧
                ((x.S.gen) = (x1.S.gen)) ∧
                ((x.S.rel) = (x1.S.rel)) ∧
                (((Value.int IntKind.i64 ((S.nd i).key)) = (Value.int IntKind.i64 ((S.nd i).key))) ∧
                ((Value.int IntKind.i64 ((S.nd i).value)) = (Value.int IntKind.i64 ((S.nd i).value))) ∧
                ((Value.int IntKind.u32 ((S.nd i).left)) = (Value.int IntKind.u32 ((S.nd i).left))) ∧
                ((Value.int IntKind.u32 ((S.nd i).right)) = (Value.int IntKind.u32 ((S.nd i).right))) ∧
                ((Value.int IntKind.i64 ((S.nd i).size)) = (Value.int IntKind.i64 ((S.nd i).size))) ∧
                ((Value.int IntKind.i64 ((S.nd i).sum)) = (Value.int IntKind.i64 ((S.nd i).sum))) ∧
                ((Value.int IntKind.i64 ((S.nd i).min)) = (Value.int IntKind.i64 ((S.nd i).min))) ∧
                ((Value.int IntKind.i64 ((S.nd i).max)) = (Value.int IntKind.i64 ((S.nd i).max))) ∧
                True) ∧
                True)))))
            ((∃ x1 : XSt P2,
              (True ∧
              (True ∧
              ((Value.int IntKind.i64 (lo)) = (Value.int IntKind.i64 (lo))) ∧
              ((Value.int IntKind.i64 (hi)) = (Value.int IntKind.i64 (hi))) ∧
              True ∧
              True) ∧
              (True ∧
              True ∧
              ((Value.int IntKind.i64 (lim)) = (Value.int IntKind.i64 (lim))) ∧
              True) ∧
              (True ∧
              True ∧
              True ∧
              ((Value.int IntKind.u64 (x.S.reads)) = (Value.int IntKind.u64 (x1.S.reads))) ∧
              True) ∧
              ((x.out) = (x1.out)) ∧
              (True ∧
              True ∧
              True ∧
              ((Value.int IntKind.u32 (x.S.fresh)) = (Value.int IntKind.u32 (x1.S.fresh))) ∧
              True) ∧
              ((x.S.nodes) = (x1.S.nodes)) ∧
              ((x.S.counts) = (x1.S.counts)) ∧
              ((x.S.used) = (x1.S.used)) ∧
              ((x.S.gen) = (x1.S.gen)) ∧
              ((x.S.rel) = (x1.S.rel)) ∧
              (((Value.int IntKind.i64 ((S.nd i).key)) = (Value.int IntKind.i64 ((S.nd i).key))) ∧
              ((Value.int IntKind.i64 ((S.nd i).value)) = (Value.int IntKind.i64 ((S.nd i).value))) ∧
              ((Value.int IntKind.u32 ((S.nd i).left)) = (Value.int IntKind.u32 ((S.nd i).left))) ∧
              ((Value.int IntKind.u32 ((S.nd i).right)) = (Value.int IntKind.u32 ((S.nd i).right))) ∧
              ((Value.int IntKind.i64 ((S.nd i).size)) = (Value.int IntKind.i64 ((S.nd i).size))) ∧
              ((Value.int IntKind.i64 ((S.nd i).sum)) = (Value.int IntKind.i64 ((S.nd i).sum))) ∧
              ((Value.int IntKind.i64 ((S.nd i).min)) = (Value.int IntKind.i64 ((S.nd i).min))) ∧
              ((Value.int IntKind.i64 ((S.nd i).max)) = (Value.int IntKind.i64 ((S.nd i).max))) ∧
              True) ∧
              True)))) ∧
          (∀ x1 : XSt P2,
            (True →
            (brS (decide ((S.nd i).key < hi))
              ((∃ hs : List Int,
                (∃ t : Tr,
                  ((Wf x1.S hs) ∧
                  (Rep x1.S t (S.nd i).right) ∧
                  (t.size < n) ∧
                  (t.size ≤ 1000000) ∧
                  (x1.out.length + t.size ≤ 3000000) ∧
                  (x1.S.reads + (↑t.size : Int) ≤ 3000000000000000000) ∧
                  (∀ S'1 : Arn,
                    (∀ out' : List Ent,
                      (((S'1) = (rdS x1.S (lk t lo hi (room lim x1.out)).snd)) →
                      (((out') = (x1.out ++ (lk t lo hi (room lim x1.out)).fst)) →
                      (K (SV.tup []) [(Chunk.box [(At.ptr 1 0), (At.slc 2), (At.val (Value.int IntKind.i64 (lim)))]), (Chunk.box [(At.ptr 3 0), (At.slc 4), (At.slc 5), (At.val (Value.int IntKind.u64 (S'1.reads)))]), (Chunk.row true (EC.ent) (out')), (Chunk.box [(At.slc 6), (At.slc 7), (At.slc 8), (At.val (Value.int IntKind.u32 (S'1.fresh)))]), (Chunk.row true (EC.node) (S'1.nodes)), (Chunk.row true (EC.int) (S'1.counts)), (Chunk.row true (EC.bool) (S'1.used)), (Chunk.row true (EC.u32) (S'1.gen)), (Chunk.row true (EC.u32) (S'1.rel))] [0, 1, 2])))))))))
              ((K (SV.tup []) [(Chunk.box [(At.ptr 1 0), (At.slc 2), (At.val (Value.int IntKind.i64 (lim)))]), (Chunk.box [(At.ptr 3 0), (At.slc 4), (At.slc 5), (At.val (Value.int IntKind.u64 (x1.S.reads)))]), (Chunk.row true (EC.ent) (x1.out)), (Chunk.box [(At.slc 6), (At.slc 7), (At.slc 8), (At.val (Value.int IntKind.u32 (x1.S.fresh)))]), (Chunk.row true (EC.node) (x1.S.nodes)), (Chunk.row true (EC.int) (x1.S.counts)), (Chunk.row true (EC.bool) (x1.S.used)), (Chunk.row true (EC.u32) (x1.S.gen)), (Chunk.row true (EC.u32) (x1.S.rel))] [0, 1, 2])))))))))))))))))) = _ by kernel_rfl) ?_
  subst hP1 hP2
  rw [bytes_ent]
  cases t with
  | nil =>
    have e : i = 0 := hr
    subst e
    exact brS_of (fun _ => h S out (by simp [lk, rdS_zero]) (by simp [lk])) fun c => by simp at c
  | node l k v r =>
    obtain ⟨r1, r2, r3, r4, r5⟩ := hr
    have hp := hw.pos r1
    have hn2 := hw.n2
    have hrd := hw.rds
    have hsz : l.size + r.size + 1 = (Tr.node l k v r).size := by simp [Tr.size]; omega
    refine brS_of (fun c => ?_) fun _ => brS_of (fun c => ?_) fun c => ⟨inU_of hw (.inr r1), ⟨_, hw⟩, by omega, fun S1 e1 => brS_of (fun d => ?_) fun _ => ?_⟩
    · have : i = 0 := by simpa using c
      omega
    · have c : lim ≤ (out.length : Int) := of_decide_eq_true c
      have e : room lim out = 0 := by unfold room; omega
      exact h S out (by rw [e]; simp [lk, rdS_zero]) (by rw [e]; simp [lk])
    · rw [r1] at d; cases d
    · have c : ¬ lim ≤ (out.length : Int) := of_decide_eq_false c
      have hrm : room lim out ≠ 0 := by unfold room; omega
      rw [r1] at e1
      have e1 : S1 = rdS S 1 := e1
      have hw1 : Wf S1 hs := by rw [e1]; exact hw.rd (by omega)
      have hl := lk_len l lo hi (room lim out)
      rw [r2, r3]
      refine ⟨brS_of (fun d => ?_) fun d => ?_, fun x _ => ?_⟩
      · have d : lo < k := of_decide_eq_true d
        refine ⟨hs, l, hw1, by rw [e1]; exact rep_rd r4 1, by omega, by omega, by omega, by rw [e1]; show S.reads + ((1 : Nat) : Int) + _ ≤ _; omega, fun S2 o2 e2 e3 => ⟨⟨S2, o2, ?_⟩, ?_⟩⟩
        · rw [e2, e1, rdS_rdS]
          simp only [lkA, if_pos d]
          exact ⟨trivial, e3⟩
        · (repeat' first | exact trivial | exact rfl | refine And.intro ?_ ?_)
      · have d : ¬ lo < k := of_decide_eq_false d
        refine ⟨⟨S1, out, ?_⟩, ?_⟩
        · simp only [lkA, if_neg d]
          exact ⟨e1, by simp⟩
        · (repeat' first | exact trivial | exact rfl | refine And.intro ?_ ?_)
      · obtain ⟨x1, x2⟩ := x.h
        have la : (lkA (.node l k v r) lo hi (room lim out)).1.length ≤ l.size ∧ (lkA (.node l k v r) lo hi (room lim out)).2 ≤ l.size := by
          simp only [lkA]; split
          · exact ⟨hl.2.1, hl.2.2⟩
          · simp
        have hxl : x.out.length = out.length + (lkA (.node l k v r) lo hi (room lim out)).1.length := by rw [x2, List.length_append]
        have lb : lkB (.node l k v r) lo hi (room lim out) = if lo ≤ k ∧ k ≤ hi ∧ (lkA (.node l k v r) lo hi (room lim out)).1.length < room lim out then [(k, v)] else [] := rfl
        have hroom : (lkA (.node l k v r) lo hi (room lim out)).1.length < room lim out ↔ ¬ lim ≤ (x.out.length : Int) := by
          have e0 : room lim out = (lim - out.length).toNat := rfl
          omega
        refine ⟨brS_of (fun d1 => brS_of (fun d2 => brS_of (fun d3 => ⟨⟨by simp; omega, ⟨x.S, x.out ++ [(k, v)], ?_⟩, ?_⟩, by simp; omega, ⟨x.S, x.out ++ [(k, v)], ?_⟩, ?_⟩) fun d3 => ⟨⟨x.S, x.out, ?_⟩, ?_⟩) fun d2 => ⟨⟨x.S, x.out, ?_⟩, ?_⟩) fun d1 => ⟨⟨x.S, x.out, ?_⟩, ?_⟩, fun y _ => ?fin⟩
        case fin =>
          obtain ⟨y1, y2⟩ := y.h
          have lb1 : (lkB (.node l k v r) lo hi (room lim out)).length ≤ 1 := by rw [lb]; split <;> simp
          have hyl : y.out.length = out.length + ((lkA (.node l k v r) lo hi (room lim out)).1.length + (lkB (.node l k v r) lo hi (room lim out)).length) := by rw [y2]; simp
          have hwy : Wf y.S hs := by rw [y1]; exact hw.rd (by omega)
          have hry : room lim y.out = room lim out - ((lkA (.node l k v r) lo hi (room lim out)).1.length + (lkB (.node l k v r) lo hi (room lim out)).length) := by
            have e0 : room lim out = (lim - out.length).toNat := rfl
            have e1 : room lim y.out = (lim - y.out.length).toNat := rfl
            omega
          have hlk : lk (.node l k v r) lo hi (room lim out) = ((lkA (.node l k v r) lo hi (room lim out)).1 ++ (lkB (.node l k v r) lo hi (room lim out) ++ (if k < hi then lk r lo hi (room lim y.out) else ([], 0)).1), 1 + (lkA (.node l k v r) lo hi (room lim out)).2 + (if k < hi then lk r lo hi (room lim y.out) else ([], 0)).2) := by
            rw [hry]
            simp only [lk, if_neg hrm, lkA, lkB]
            rfl
          rw [hlk] at h
          refine brS_of (fun d => ?_) fun d => ?_
          · have d : k < hi := of_decide_eq_true d
            rw [if_pos d] at h
            refine ⟨hs, r, hwy, by rw [y1]; exact rep_rd r5 _, by omega, by omega, by omega, by rw [y1]; show S.reads + ((1 + (lkA (.node l k v r) lo hi (room lim out)).2 : Nat) : Int) + _ ≤ _; omega, fun S2 o2 e2 e3 => h S2 o2 ?_ ?_⟩
            · rw [e2, y1, rdS_rdS]
            · rw [e3, y2]; simp
          · have d : ¬ k < hi := of_decide_eq_false d
            rw [if_neg d] at h
            exact h y.S y.out (by rw [y1]; rfl) (by rw [y2]; simp)
        all_goals first
          | ((repeat' first | exact trivial | exact rfl | refine And.intro ?_ ?_); done)
          | (refine ⟨x1, ?_⟩
             rw [x2, lb]
             first
               | (rw [if_pos ⟨of_decide_eq_true d1, of_decide_eq_true d2, hroom.2 (by simpa using d3)⟩, List.append_assoc]; done)
               | (rw [if_neg (fun q => absurd (of_decide_eq_false d1) (by simpa using q.1))]; simp; done)
               | (rw [if_neg (fun q => absurd (of_decide_eq_false d2) (by simpa using q.2.1))]; simp; done)
               | (rw [if_neg (fun q => absurd (hroom.1 q.2.2) (by simpa using d3))]; simp; done))
theorem s_lk : ∀ n, SoundT C0 124 (tLk n) := by
  intro n
  induction n with
  | zero =>
    refine .of Try.func124 (by decide) rfl fun args H K h hB => ?_
    exfalso
    unfold tLk at h
    split at h <;> try exact h.elim
    unfold lsM at h
    split at h <;> try exact h.elim
    obtain ⟨_, _, _, _, h1, _⟩ := h
    omega
  | succ n ih =>
    refine .ofW [0, 1, 2] Try.func124 (by decide) rfl fun args H K h hB => ?_
    unfold tLk at h
    split at h <;> try exact h.elim
    unfold lsM at h
    split at h <;> try exact h.elim
    rename_i i lo hi _ lim rd out fr nd ct us gn rl
    obtain ⟨hs, t, h1, h2, h3, h4, h5, h6, h7⟩ := h
    refine ⟨_, ?_, vc_lk n lim ⟨us, gn, rl, fr, nd, ct, rd⟩ out i lo hi K hs t h1 h2 h3 h4 h5 h6 h7⟩
    exact ⟨frame C0.ok s_full _, frame C0.ok s_node _, frame C0.ok ih _, trivial⟩
def plS (t : Tr) : Int := match t with
  | .nil => 0
  | .node l _ _ _ => l.size
def plA (t : Tr) (x y : Int) : List Ent × Nat := match t with
  | .nil => ([], 0)
  | .node l _ _ _ => if x < (l.size : Int) then pl l x (if (l.size : Int) < y then (l.size : Int) else y) else ([], 0)
def plB (t : Tr) (x y : Int) : List Ent := match t with
  | .nil => []
  | .node l k v _ => if x ≤ (l.size : Int) ∧ (l.size : Int) < y then [(k, v)] else []
end Go.Proofs.Ytjbkckcjmmmooaa.Sx
end
section
/- Range, Slice and List; Build. -/
namespace Go.Proofs.Ytjbkckcjmmmooaa.Sx
open Go

/-KEEP Wf exW inU live Arn.cap Arn.free maxSize mkNode makeS relA nxt NodeR BuildR Rep lk pl rdS Tr.size rangeR sliceR ne0-/
def tLkA : Tfm C0 := fun args H K => match args with
  | [.at (.ptr 0 0), .at (.val (.int .u32 i)), .at (.val (.int .i64 lo)), .at (.val (.int .i64 hi))] => lsM H fun lim S out => ∃ hs t, Wf S hs ∧ Rep S t i ∧ t.size ≤ 1000000 ∧ out.length + t.size ≤ 3000000 ∧ S.reads + t.size ≤ 3000000000000000000 ∧
    ∀ S' out', S' = rdS S (lk t lo hi (room lim out)).2 → out' = out ++ (lk t lo hi (room lim out)).1 → K (.tup []) (chL lim S' out') [0, 1, 2]
  | _ => False
theorem s_lkA : SoundT C0 124 tLkA := (s_lk 1000001).weak fun args H K h => by
  unfold tLkA at h
  unfold tLk
  split at h <;> try exact h.elim
  unfold lsM at h ⊢
  split at h <;> try exact h.elim
  obtain ⟨hs, t, h1, h2, h3, h4⟩ := h
  exact ⟨hs, t, h1, h2, by omega, h3, h4⟩
def tPlA : Tfm C0 := fun args H K => match args with
  | [.at (.ptr 0 0), .at (.val (.int .u32 i)), .at (.val (.int .i64 x)), .at (.val (.int .i64 y))] => lsM H fun lim S out => ∃ hs t, Wf S hs ∧ Rep S t i ∧ t.size ≤ 1000000 ∧ out.length + t.size ≤ 3000000 ∧ S.reads + 2 * t.size ≤ 3000000000000000000 ∧ 0 ≤ x ∧ y ≤ t.size ∧
    ∀ S' out', S' = rdS S (pl t x y).2 → out' = out ++ (pl t x y).1 → K (.tup []) (chL lim S' out') [0, 1, 2]
  | _ => False
def rangeR (t : Tr) (lo hi lim : Int) : List Ent × Nat := if lim ≤ 0 ∨ hi < lo then ([], 0) else lk t lo hi lim.toNat
def sliceR (t : Tr) (x y : Int) : List Ent × Nat := if x < 0 ∨ y < x then ([], 0) else if (t.size : Int) < y then ([], ne0 t) else ((pl t x y).1, ne0 t + (pl t x y).2)
noncomputable def aRange : Ann C0 := { Γ := [(124, frameT [] tLkA)] }
def tRange : Tfm C0 := fun args H K => match args with
  | [.at (.ptr 0 0), .at (.val (.int .u32 i)), .at (.val (.int .i64 lo)), .at (.val (.int .i64 hi)), .at (.val (.int .i64 lim))] => arM H fun S => ∃ hs t, Wf S hs ∧ Rep S t i ∧ t.size ≤ 1000000 ∧ S.reads + t.size ≤ 3000000000000000000 ∧
    ∀ S' (out : List Ent), S' = rdS S (rangeR t lo hi lim).2 → out = (rangeR t lo hi lim).1 → K (.one (.at (.slc 7))) (chS S' ++ [.row true EC.ent out]) [0]
  | _ => False
def tSlice : Tfm C0 := fun args H K => match args with
  | [.at (.ptr 0 0), .at (.val (.int .u32 i)), .at (.val (.int .i64 x)), .at (.val (.int .i64 y))] => arM H fun S => ∃ hs t, Wf S hs ∧ Rep S t i ∧ t.size ≤ 1000000 ∧ S.reads + 2 * t.size ≤ 2000000000000000000 ∧
    ∀ S' (out : List Ent), S' = rdS S (sliceR t x y).2 → out = (sliceR t x y).1 → K (.one (.at (.slc 7))) (chS S' ++ [.row true EC.ent out]) [0]
  | _ => False
noncomputable def aList : Ann C0 := { Γ := [(99, frameT [] tRange)] }
def tList : Tfm C0 := fun args H K => match args with
  | [.at (.ptr 0 0), .at (.val (.int .u32 i))] => arM H fun S => ∃ hs t, Wf S hs ∧ Rep S t i ∧ t.size ≤ 1000000 ∧ S.reads + t.size ≤ 3000000000000000000 ∧
    ∀ S' (out : List Ent), S' = rdS S (rangeR t (-9223372036854775808) 9223372036854775807 2147483647).2 → out = (rangeR t (-9223372036854775808) 9223372036854775807 2147483647).1 → K (.one (.at (.slc 7))) (chS S' ++ [.row true EC.ent out]) [0]
  | _ => False
def tNodeW : Tfm C0 := fun args H K => match args with
  | [.at (.ptr 0 0), .at (.val (.int .u32 l)), .agg [.val (.int .i64 k), .val (.int .i64 v)], .at (.val (.int .u32 r))] => arM H fun S => ∃ hs tl tr, Wf S (l :: r :: hs) ∧ Rep S tl l ∧ Rep S tr r ∧ tl.size + tr.size ≤ 1000000 ∧ 0 < S.free ∧ hs.length ≤ 900000000 ∧
    ∀ S' i, NodeR S hs k v tl tr S' i → K (.one (.at (vU i))) (chS S') W7
  | _ => False
noncomputable def aNodeW : Ann C0 := { Γ := [(101, frameT [] tMakeOk), (29, frameT [] tGive)] }
def tBld (n : Nat) : Tfm C0 := fun args H K => match args with
  | [.at (.ptr 0 0), .at (.slc 7)] => arMr H fun S rest => match rest with
    | [.row false .ent l] => ∃ hs, Wf S hs ∧ l.length < n ∧ l.length ≤ 100000 ∧ (l.length : Int) ≤ S.free ∧ hs.length + l.length ≤ 800000000 ∧ ∀ S' i, BuildR S hs l S' i → K (.one (.at (vU i))) (chS S' ++ [.row false EC.ent l]) W7
    | _ => False
  | _ => False
structure XBld (P : Arn → Int → Prop) where
  S : Arn
  i : Int
  h : P S i
noncomputable def aBld (n : Nat) (l : List Ent) (P : Arn → Int → Prop) : Ann C0 := { Γ := [(120, frameT [] (tBld n)), (106, frameT [] tNodeW)], inv := fun k => match k with
  | 1005 => some { X := XBld P, sl := [6], tf := fun x => [vi .u32 x.i], hf := fun x => chS x.S ++ [.row false EC.ent l], wr := W7 }
  | _ => none }
theorem vc_range (S : Arn) (i lo hi lim : Int) (K : KT) (hs : List Int) (t : Tr) (hw : Wf S hs) (hr : Rep S t i) (h1 : t.size ≤ 1000000) (h2 : S.reads + t.size ≤ 3000000000000000000)
    (h : ∀ S' (out : List Ent), S' = rdS S (rangeR t lo hi lim).2 → out = (rangeR t lo hi lim).1 → K (.one (.at (.slc 7))) (chS S' ++ [.row true EC.ent out]) [0]) :
    vc C0 aRange Try.f99 [.at (.ptr 0 0), .at (vU i), .at (vI lo), .at (vI hi), .at (vI lim)] (chS S) (normK 7 (wideK [0] K)) := by
  refine Eq.mp (show (brS (decide (lim ≤ 0))
  ((K (SV.one (TV.at (At.slc 7))) [(Chunk.box [(At.ptr 1 0), (At.slc 2), (At.slc 3), (At.val (Value.int IntKind.u64 (S.reads)))]), (Chunk.box [(At.slc 4), (At.slc 5), (At.slc 6), (At.val (Value.int IntKind.u32 (S.fresh)))]), (Chunk.row true (EC.node) (S.nodes)), (Chunk.row true (EC.int) (S.counts)), (Chunk.row true (EC.bool) (S.used)), (Chunk.row true (EC.u32) (S.gen)), (Chunk.row true (EC.u32) (S.rel)), (Chunk.row true (EC.ent) [])] [0]))
  ((brS (decide (lo > hi))
    ((K (SV.one (TV.at (At.slc 7))) [(Chunk.box [(At.ptr 1 0), (At.slc 2), (At.slc 3), (At.val (Value.int IntKind.u64 (S.reads)))]), (Chunk.box [(At.slc 4), (At.slc 5), (At.slc 6), (At.val (Value.int IntKind.u32 (S.fresh)))]), (Chunk.row true (EC.node) (S.nodes)), (Chunk.row true (EC.int) (S.counts)), (Chunk.row true (EC.bool) (S.used)), (Chunk.row true (EC.u32) (S.gen)), (Chunk.row true (EC.u32) (S.rel)), (Chunk.row true (EC.ent) [])] [0]))
    ((∃ hs : List Int,
      (∃ t : Tr,
        ((Wf S hs) ∧
        (Rep S t i) ∧
        (t.size ≤ 1000000) ∧
        (([] : List Ent).length + t.size ≤ 3000000) ∧
        (S.reads + (↑t.size : Int) ≤ 3000000000000000000) ∧
        (∀ S' : Arn,
          (∀ out' : List Ent,
            (((S') = (rdS S (lk t lo hi (room lim [])).snd)) →
            (((out') = ([] ++ (lk t lo hi (room lim [])).fst)) →
            (K (SV.one (TV.at (At.slc 7))) [(Chunk.box [(At.ptr 1 0), (At.slc 2), (At.slc 3), (At.val (Value.int IntKind.u64 (S'.reads)))]), (Chunk.box [(At.slc 4), (At.slc 5), (At.slc 6), (At.val (Value.int IntKind.u32 (S'.fresh)))]), (Chunk.row true (EC.node) (S'.nodes)), (Chunk.row true (EC.int) (S'.counts)), (Chunk.row true (EC.bool) (S'.used)), (Chunk.row true (EC.u32) (S'.gen)), (Chunk.row true (EC.u32) (S'.rel)), (Chunk.row true (EC.ent) (out'))] [0])))))))))))) = _ by kernel_rfl) ?_
  refine brS_of (fun c => ?_) fun c => brS_of (fun d => ?_) fun d => ?_
  · have c : lim ≤ 0 := of_decide_eq_true c
    exact h S [] (by rw [rangeR, if_pos (.inl c)]; exact (rdS_zero S).symm) (by rw [rangeR, if_pos (.inl c)])
  · have d : hi < lo := of_decide_eq_true d
    exact h S [] (by rw [rangeR, if_pos (.inr d)]; exact (rdS_zero S).symm) (by rw [rangeR, if_pos (.inr d)])
  · have c : ¬ lim ≤ 0 := of_decide_eq_false c
    have d : ¬ hi < lo := of_decide_eq_false d
    have e : rangeR t lo hi lim = lk t lo hi (room lim []) := by rw [rangeR, if_neg (by omega)]; unfold room; simp
    rw [e] at h
    exact ⟨hs, t, hw, hr, h1, by simp; omega, h2, fun S' out e1 e2 => h S' out e1 (by simpa using e2)⟩
theorem s_range : SoundT C0 99 tRange := by
  refine .ofW [0] Try.func99 (by decide) rfl fun args H K h hB => ?_
  unfold tRange at h
  split at h <;> try exact h.elim
  unfold arM at h
  split at h <;> try exact h.elim
  rename_i i lo hi lim _ rd fr nd ct us gn rl
  obtain ⟨hs, t, h1, h2, h3, h4, h5⟩ := h
  exact ⟨aRange, ⟨frame C0.ok s_lkA _, trivial⟩, vc_range ⟨us, gn, rl, fr, nd, ct, rd⟩ i lo hi lim K hs t h1 h2 h3 h4 h5⟩
theorem s_list : SoundT C0 62 tList := by
  refine .ofW [0] Try.func62 (by decide) rfl fun args H K h hB => ?_
  unfold tList at h
  split at h <;> try exact h.elim
  unfold arM at h
  split at h <;> try exact h.elim
  rename_i i _ rd fr nd ct us gn rl
  generalize hS : (⟨us, gn, rl, fr, nd, ct, rd⟩ : Arn) = S at h
  have e : [Chunk.box [At.ptr 1 0, At.slc 2, At.slc 3, vU64 rd], .box [.slc 4, .slc 5, .slc 6, vU fr], .row true EC.node nd, .row true EC.int ct, .row true EC.bool us, .row true EC.u32 gn, .row true EC.u32 rl] = chS S := by rw [← hS]
  refine ⟨aList, ⟨frame C0.ok s_range _, trivial⟩, ?_⟩
  show vc C0 aList _ _ [Chunk.box [At.ptr 1 0, At.slc 2, At.slc 3, vU64 rd], .box [.slc 4, .slc 5, .slc 6, vU fr], .row true EC.node nd, .row true EC.int ct, .row true EC.bool us, .row true EC.u32 gn, .row true EC.u32 rl] (normK 7 (wideK [0] K))
  rw [e]
  exact Eq.mp (show (∃ hs : List Int,
  (∃ t : Tr,
    ((Wf S hs) ∧
    (Rep S t i) ∧
    (t.size ≤ 1000000) ∧
    (S.reads + (↑t.size : Int) ≤ 3000000000000000000) ∧
    (∀ S' : Arn,
      (∀ out : List Ent,
        (((S') = (rdS S (rangeR t (-9223372036854775808) 9223372036854775807 2147483647).snd)) →
        (((out) = ((rangeR t (-9223372036854775808) 9223372036854775807 2147483647).fst)) →
        (K (SV.one (TV.at (At.slc 7))) [(Chunk.box [(At.ptr 1 0), (At.slc 2), (At.slc 3), (At.val (Value.int IntKind.u64 (S'.reads)))]), (Chunk.box [(At.slc 4), (At.slc 5), (At.slc 6), (At.val (Value.int IntKind.u32 (S'.fresh)))]), (Chunk.row true (EC.node) (S'.nodes)), (Chunk.row true (EC.int) (S'.counts)), (Chunk.row true (EC.bool) (S'.used)), (Chunk.row true (EC.u32) (S'.gen)), (Chunk.row true (EC.u32) (S'.rel)), (Chunk.row true (EC.ent) (out))] [0])))))))) = _ by kernel_rfl) h
theorem vc_nodeW (S : Arn) (l k v r : Int) (K : KT) (hs : List Int) (tl tr : Tr) (hw : Wf S (l :: r :: hs)) (h1 : Rep S tl l) (h2 : Rep S tr r) (h3 : tl.size + tr.size ≤ 1000000) (h4 : 0 < S.free) (h5 : hs.length ≤ 900000000)
    (h : ∀ S' i, NodeR S hs k v tl tr S' i → K (.one (.at (vU i))) (chS S') W7) :
    vc C0 aNodeW Try.f106 [.at (.ptr 0 0), .at (vU l), .agg [vI k, vI v], .at (vU r)] (chS S) (normK 7 (wideK W7 K)) := by
  refine Eq.mp (show ((exW S) ∧
(live S l) ∧
(live S r) ∧
((mkNode S k v l r).size ≤ maxSize) ∧
(0 < S.free) ∧
(∀ S' : Arn,
  (∀ i : Int,
    (((S') = (makeS S k v l r)) →
    (((i) = (nxt S)) →
    (∃ hs : List Int,
      ((Wf S' (l :: hs)) ∧
      (((S'.us l) = true) →
      (1 ≤ S'.indeg l)) ∧
      (∀ S'1 : Arn,
        (((S'1) = (relA S' l)) →
        (∃ hs1 : List Int,
          ((Wf S'1 (r :: hs1)) ∧
          (((S'1.us r) = true) →
          (1 ≤ S'1.indeg r)) ∧
          (∀ S'2 : Arn,
            (((S'2) = (relA S'1 r)) →
            (K (SV.one (TV.at (At.val (Value.int IntKind.u32 (i))))) [(Chunk.box [(At.ptr 1 0), (At.slc 2), (At.slc 3), (At.val (Value.int IntKind.u64 (S'2.reads)))]), (Chunk.box [(At.slc 4), (At.slc 5), (At.slc 6), (At.val (Value.int IntKind.u32 (S'2.fresh)))]), (Chunk.row true (EC.node) (S'2.nodes)), (Chunk.row true (EC.int) (S'2.counts)), (Chunk.row true (EC.bool) (S'2.used)), (Chunk.row true (EC.u32) (S'2.gen)), (Chunk.row true (EC.u32) (S'2.rel))] [0, 1, 2, 3, 4, 5, 6])))))))))))))) = _ by kernel_rfl) ?_
  have hz : (mkNode S k v l r).size ≤ maxSize := by rw [mk_size hw h1 h2]; unfold maxSize; omega
  obtain ⟨t1, t2, t3, t4⟩ := node_two (k := k) (v := v) hw h4 hz (by omega)
  refine ⟨⟨_, hw⟩, hw.held l (by simp), hw.held r (by simp), hz, h4, fun S1 i e1 e2 => ?_⟩
  subst e1
  refine ⟨_, t1, t2, fun S2 e3 => ?_⟩
  subst e3
  refine ⟨_, t3, t4, fun S3 e4 => h S3 i ?_⟩
  rw [e4, e2]
  exact node_ok hw h4 hz (by omega) h1 h2
theorem s_nodeW : SoundT C0 106 tNodeW := by
  refine .ofW W7 Try.func106 (by decide) rfl fun args H K h hB => ?_
  unfold tNodeW at h
  split at h <;> try exact h.elim
  unfold arM at h
  split at h <;> try exact h.elim
  rename_i l k v r _ rd fr nd ct us gn rl
  obtain ⟨hs, tl, tr, h1, h2, h3, h4, h5, h6, h7⟩ := h
  exact ⟨aNodeW, ⟨frame C0.ok s_makeOk _, frame C0.ok s_give _, trivial⟩, vc_nodeW ⟨us, gn, rl, fr, nd, ct, rd⟩ l k v r K hs tl tr h1 h2 h3 h4 h5 h6 h7⟩
theorem vc_bld (n : Nat) (S : Arn) (l : List Ent) (K : KT) (hs : List Int) (hw : Wf S hs) (h1 : l.length < n + 1) (h2 : l.length ≤ 100000) (h3 : (l.length : Int) ≤ S.free) (h4 : hs.length + l.length ≤ 800000000) (h : ∀ S' i, BuildR S hs l S' i → K (.one (.at (vU i))) (chS S' ++ [.row false EC.ent l]) W7) :
    vc C0 (aBld n l (BuildR S hs (l.take (l.length / 2)))) Try.f120 [.at (.ptr 0 0), .at (.slc 7)] (chS S ++ [.row false EC.ent l]) (normK 8 (wideK W7 K)) := by
  generalize hP : BuildR S hs (l.take (l.length / 2)) = P
  refine Eq.mp (show (brS ((↑l.length : Int) == 0)
  ((K (SV.one (TV.at (At.val (Value.int IntKind.u32 0)))) [(Chunk.box [(At.ptr 1 0), (At.slc 2), (At.slc 3), (At.val (Value.int IntKind.u64 (S.reads)))]), (Chunk.box [(At.slc 4), (At.slc 5), (At.slc 6), (At.val (Value.int IntKind.u32 (S.fresh)))]), (Chunk.row true (EC.node) (S.nodes)), (Chunk.row true (EC.int) (S.counts)), (Chunk.row true (EC.bool) (S.used)), (Chunk.row true (EC.u32) (S.gen)), (Chunk.row true (EC.u32) (S.rel)), (Chunk.row false (EC.ent) (l))] [0, 1, 2, 3, 4, 5, 6]))
  (((((0 : Int) ≤ 0) ∧
  (0 ≤ IntKind.i64.wrap ((↑l.length : Int).tdiv 2)) ∧
  (IntKind.i64.wrap ((↑l.length : Int).tdiv 2) ≤ (↑l.length : Int)) ∧
  (∃ hs : List Int,
    ((Wf S hs) ∧
    ((List.drop (Int.toNat 0) (List.take (IntKind.i64.wrap ((↑l.length : Int).tdiv 2)).toNat l)).length < n) ∧
    ((List.drop (Int.toNat 0) (List.take (IntKind.i64.wrap ((↑l.length : Int).tdiv 2)).toNat l)).length ≤ 100000) ∧
    ((↑(List.drop (Int.toNat 0) (List.take (IntKind.i64.wrap ((↑l.length : Int).tdiv 2)).toNat l)).length : Int) ≤ S.free) ∧
    (hs.length + (List.drop (Int.toNat 0) (List.take (IntKind.i64.wrap ((↑l.length : Int).tdiv 2)).toNat l)).length ≤ 800000000) ∧
    (∀ S' : Arn,
      (∀ i : Int,
        ((BuildR S hs (List.drop (Int.toNat 0) (List.take (IntKind.i64.wrap ((↑l.length : Int).tdiv 2)).toNat l)) S' i) →
        (∃ x : XBld P,
          (True ∧
          (True ∧
          True ∧
          ((Value.int IntKind.i64 (IntKind.i64.wrap ((↑l.length : Int).tdiv 2))) = (Value.int IntKind.i64 (IntKind.i64.wrap ((↑l.length : Int).tdiv 2)))) ∧
          ((Value.int IntKind.u32 (i)) = (Value.int IntKind.u32 (x.i))) ∧
          True) ∧
          (True ∧
          True ∧
          True ∧
          ((Value.int IntKind.u64 (S'.reads)) = (Value.int IntKind.u64 (x.S.reads))) ∧
          True) ∧
          (True ∧
          True ∧
          True ∧
          ((Value.int IntKind.u32 (S'.fresh)) = (Value.int IntKind.u32 (x.S.fresh))) ∧
          True) ∧
          ((S'.nodes) = (x.S.nodes)) ∧
          ((S'.counts) = (x.S.counts)) ∧
          ((S'.used) = (x.S.used)) ∧
          ((S'.gen) = (x.S.gen)) ∧
          ((S'.rel) = (x.S.rel)) ∧
          ((l) = (l)) ∧
          True)))))))) ∧
  (∀ x : XBld P,
    (True →
    ((0 ≤ IntKind.i64.wrap ((↑l.length : Int).tdiv 2)) ∧
    (IntKind.i64.wrap ((↑l.length : Int).tdiv 2) < (↑l.length : Int)) ∧
    (0 ≤ IntKind.i64.wrap (IntKind.i64.wrap ((↑l.length : Int).tdiv 2) + 1)) ∧
    (IntKind.i64.wrap (IntKind.i64.wrap ((↑l.length : Int).tdiv 2) + 1) ≤ (↑l.length : Int)) ∧
    ((↑l.length : Int) ≤ (↑l.length : Int)) ∧
    (∃ hs : List Int,
      ((Wf x.S hs) ∧
      ((List.drop (IntKind.i64.wrap (IntKind.i64.wrap ((↑l.length : Int).tdiv 2) + 1)).toNat (List.take (↑l.length : Int).toNat l)).length < n) ∧
      ((List.drop (IntKind.i64.wrap (IntKind.i64.wrap ((↑l.length : Int).tdiv 2) + 1)).toNat (List.take (↑l.length : Int).toNat l)).length ≤ 100000) ∧
      ((↑(List.drop (IntKind.i64.wrap (IntKind.i64.wrap ((↑l.length : Int).tdiv 2) + 1)).toNat (List.take (↑l.length : Int).toNat l)).length : Int) ≤ x.S.free) ∧
      (hs.length + (List.drop (IntKind.i64.wrap (IntKind.i64.wrap ((↑l.length : Int).tdiv 2) + 1)).toNat (List.take (↑l.length : Int).toNat l)).length ≤ 800000000) ∧
      (∀ S' : Arn,
        (∀ i : Int,
          ((BuildR x.S hs (List.drop (IntKind.i64.wrap (IntKind.i64.wrap ((↑l.length : Int).tdiv 2) + 1)).toNat (List.take (↑l.length : Int).toNat l)) S' i) →
          (∃ hs1 : List Int,
            (∃ tl : Tr,
              (∃ tr : Tr,
                ((Wf S' (x.i :: i :: hs1)) ∧
                (Rep S' tl x.i) ∧
                (Rep S' tr i) ∧
                (tl.size + tr.size ≤ 1000000) ∧
                (0 < S'.free) ∧
                (hs1.length ≤ 900000000) ∧
                (∀ S'1 : Arn,
                  (∀ i1 : Int,
                    ((NodeR S' hs1 (l.getD (IntKind.i64.wrap ((↑l.length : Int).tdiv 2)).toNat (0, 0)).fst (l.getD (IntKind.i64.wrap ((↑l.length : Int).tdiv 2)).toNat (0, 0)).snd tl tr S'1 i1) →
                    (K (SV.one (TV.at (At.val (Value.int IntKind.u32 (i1))))) [(Chunk.box [(At.ptr 1 0), (At.slc 2), (At.slc 3), (At.val (Value.int IntKind.u64 (S'1.reads)))]), (Chunk.box [(At.slc 4), (At.slc 5), (At.slc 6), (At.val (Value.int IntKind.u32 (S'1.fresh)))]), (Chunk.row true (EC.node) (S'1.nodes)), (Chunk.row true (EC.int) (S'1.counts)), (Chunk.row true (EC.bool) (S'1.used)), (Chunk.row true (EC.u32) (S'1.gen)), (Chunk.row true (EC.u32) (S'1.rel)), (Chunk.row false (EC.ent) (l))] [0, 1, 2, 3, 4, 5, 6]))))))))))))))))))) = _ by kernel_rfl) ?_
  subst hP
  refine brS_of (fun c => ?_) fun c => ?_
  · have e : l = [] := List.length_eq_zero_iff.1 (by simpa using c)
    have hr : BuildR S hs l S 0 := by rw [e]; exact ⟨hw.zero_cons (by omega), ⟨.nil, rfl, rfl⟩, Stay.refl _ _, rfl, rfl, rfl⟩
    exact h S 0 hr
  have c : ¬ (l.length : Int) = 0 := by simpa using c
  have hm : IntKind.i64.wrap ((l.length : Int).tdiv 2) = ((l.length / 2 : Nat) : Int) := by rw [Int.tdiv_eq_ediv_of_nonneg (by omega), wrap_id (by omega) (by omega)]; omega
  have hm1 : IntKind.i64.wrap (((l.length / 2 : Nat) : Int) + 1) = ((l.length / 2 + 1 : Nat) : Int) := by rw [wrap_id (by omega) (by omega)]; omega
  rw [hm, hm1]
  have ea : List.drop (Int.toNat 0) (List.take ((l.length / 2 : Nat) : Int).toNat l) = l.take (l.length / 2) := rfl
  have eb : List.drop ((l.length / 2 + 1 : Nat) : Int).toNat (List.take ((l.length : Nat) : Int).toNat l) = l.drop (l.length / 2 + 1) := by
    rw [show ((l.length : Nat) : Int).toNat = l.length by omega, List.take_length]; rfl
  rw [ea, eb]
  have la : (l.take (l.length / 2)).length = l.length / 2 := by simp; omega
  have lb : (l.drop (l.length / 2 + 1)).length = l.length - (l.length / 2 + 1) := by simp
  have hf := hw.free_nonneg
  refine ⟨⟨by decide, by omega, by omega, hs, hw, by omega, by omega, by omega, by omega, fun S1 i r1 => ⟨⟨S1, i, r1⟩, ?_⟩⟩, fun x _ => ?_⟩
  · (repeat' first | exact trivial | exact rfl | refine And.intro ?_ ?_)
  · have r1 := x.h
    have hf1 := r1.wf.free_nonneg
    have n1 := r1.nu
    have c1 : x.S.cap = S.cap := by unfold Arn.cap; rw [r1.len]
    refine ⟨by omega, by omega, by omega, by omega, by omega, x.i :: hs, r1.wf, by omega, by omega, by omega, by simp; omega, fun S2 ir r2 => ?_⟩
    have hf2 := r2.wf.free_nonneg
    have n2 := r2.nu
    have c2 : S2.cap = x.S.cap := by unfold Arn.cap; rw [r2.len]
    have hw2 : Wf S2 (x.i :: ir :: hs) := r2.wf.perm (List.Perm.swap _ _ _)
    obtain ⟨tl, q1, q2⟩ := r1.rep
    obtain ⟨tr, q3, q4⟩ := r2.rep
    have q1' : Rep S2 tl x.i := q1.held r1.wf r2.stay (.inr (by simp))
    have s1 : tl.size = l.length / 2 := by rw [← tl.list_len, q2.list, la]
    have s2 : tr.size = l.length - (l.length / 2 + 1) := by rw [← tr.list_len, q4.list, lb]
    refine ⟨hs, tl, tr, hw2, q1', q3, by omega, by omega, by omega, fun S3 i nr => h S3 i ⟨nr.wf, ⟨_, nr.rep, by omega, rfl, q2, q4⟩, ?_, ?_, ?_, ?_⟩⟩
    · exact (r1.stay.trans (r2.stay.mono (by simp_all))).trans nr.stay
    · rw [nr.len, r2.len, r1.len]
    · rw [nr.rds, r2.rds, r1.rds]
    · rw [nr.nu, n2, n1]; omega
theorem s_bld : ∀ n, SoundT C0 120 (tBld n) := by
  intro n
  induction n with
  | zero =>
    refine .of Try.func120 (by decide) rfl fun args H K h hB => ?_
    exfalso
    unfold tBld at h
    split at h <;> try exact h.elim
    unfold arMr at h
    split at h <;> try exact h.elim
    split at h <;> try exact h.elim
    obtain ⟨_, _, h1, _⟩ := h
    omega
  | succ n ih =>
    refine .ofW W7 Try.func120 (by decide) rfl fun args H K h hB => ?_
    unfold tBld at h
    split at h <;> try exact h.elim
    unfold arMr at h
    split at h <;> try exact h.elim
    split at h <;> try exact h.elim
    rename_i _ rd fr nd ct us gn rl _ l
    obtain ⟨hs, h1, h2, h3, h4, h5, h6⟩ := h
    refine ⟨_, ?_, vc_bld n ⟨us, gn, rl, fr, nd, ct, rd⟩ l K hs h1 h2 h3 h4 h5 h6⟩
    exact ⟨frame C0.ok ih _, frame C0.ok s_nodeW _, trivial⟩
end Go.Proofs.Ytjbkckcjmmmooaa.Sx
end
