/- What stays of an arena, trees in it, a new arena. No program in sight. -/
import Derived.Test.YtacdmmomkngpkaaAr
namespace Go.Proofs.Ytacdmmomkngpkaa
open Go

variable {S S' S'' : Arn} {hs : List Int}

structure Kept (S S' : Arn) : Prop where
  len : S'.used.length = S.used.length
  gen : S'.gen = S.gen
  rds : S'.reads = S.reads
  kp : ∀ i, S'.us i = true → S.us i = true ∧ S'.nd i = S.nd i
theorem Kept.refl (S : Arn) : Kept S S := ⟨rfl, rfl, rfl, fun _ h => ⟨h, rfl⟩⟩
theorem Kept.trans (h : Kept S S') (h' : Kept S' S'') : Kept S S'' :=
  ⟨h'.len.trans h.len, h'.gen.trans h.gen, h'.rds.trans h.rds, fun i hi => by
    obtain ⟨a, b⟩ := h'.kp i hi
    obtain ⟨c, d⟩ := h.kp i a
    exact ⟨c, b.trans d⟩⟩
theorem kept_dec (S : Arn) (i : Int) : Kept S (decS S i) := ⟨rfl, rfl, rfl, fun _ h => ⟨h, rfl⟩⟩
theorem kept_free {k : Int} (h : Wf S (k :: hs)) (hk : S.us k = true) (hc : S.ct k = 1) : Kept S (freeS S k) := by
  obtain ⟨_, _, hus, hnd⟩ := h.freed hk hc
  refine ⟨by simp [freeS], rfl, rfl, fun i hi => ?_⟩
  obtain ⟨e, hu⟩ := (hus i).1 hi
  exact ⟨hu, by rw [hnd, if_neg e]⟩

/-! ### What can be reached -/
inductive Rch (S : Arn) (hs : List Int) : Int → Prop where
  | root {i : Int} : i ∈ hs → S.us i = true → Rch S hs i
  | left {i : Int} : Rch S hs i → S.us (S.nd i).left = true → Rch S hs (S.nd i).left
  | right {i : Int} : Rch S hs i → S.us (S.nd i).right = true → Rch S hs (S.nd i).right
theorem Rch.us {i : Int} (h : Rch S hs i) : S.us i = true := by cases h <;> assumption
theorem Rch.mono {hs' : List Int} (hh : ∀ i ∈ hs, i ∈ hs') {i : Int} (h : Rch S hs i) : Rch S hs' i := by
  induction h with
  | root h1 h2 => exact .root (hh _ h1) h2
  | left _ h2 ih => exact .left ih h2
  | right _ h2 ih => exact .right ih h2
theorem indeg_parent {i : Int} (h : Wf S hs) (hi : 1 ≤ i) (hd : 1 ≤ S.indeg i) : ∃ j, S.us j = true ∧ ((S.nd j).left = i ∨ (S.nd j).right = i) := by
  have : ∃ n ∈ S.nodes, n.left = i ∨ n.right = i := by
    unfold Arn.indeg at hd
    by_cases e : S.nodes.countP (fun x => x.left == i) = 0
    · have : 0 < S.nodes.countP (fun x => x.right == i) := by omega
      obtain ⟨n, hn, hp⟩ := List.countP_pos_iff.1 this
      exact ⟨n, hn, .inr (by simpa using hp)⟩
    · obtain ⟨n, hn, hp⟩ := List.countP_pos_iff.1 (Nat.pos_of_ne_zero e)
      exact ⟨n, hn, .inl (by simpa using hp)⟩
  obtain ⟨n, hn, hp⟩ := this
  obtain ⟨j, hj⟩ := List.mem_iff_getElem?.1 hn
  have e : S.nd (j : Int) = n := by unfold Arn.nd; simp [List.getD_eq_getElem?_getD, hj]
  refine ⟨j, ?_, by rw [e]; exact hp⟩
  cases hb : S.us (j : Int) with
  | true => rfl
  | false =>
    have := h.zero _ hb
    rw [e] at this
    rw [this] at hp
    simp [NodeT.zero] at hp
    omega
/-- All that is in use can be reached from what is held. -/
theorem Wf.reach (h : Wf S hs) : ∀ (n : Nat) (i : Int), S.us i = true → (maxSize - (S.nd i).size).toNat ≤ n → Rch S hs i := by
  intro n
  induction n with
  | zero =>
    intro i hi hn
    have hsz := h.siz i hi
    obtain ⟨c1, c2⟩ := h.cnt i hi
    have hp := h.pos hi
    by_cases hm : 0 < hs.count i
    · exact .root (List.count_pos_iff.1 hm) hi
    · obtain ⟨j, hj, hor⟩ := indeg_parent h hp.1 (by omega)
      have hz := h.siz j hj
      have := h.size_nonneg (S.nd j).left
      have := h.size_nonneg (S.nd j).right
      rcases hor with e | e <;> rw [e] at hz <;> omega
  | succ n ih =>
    intro i hi hn
    have hsz := h.siz i hi
    obtain ⟨c1, c2⟩ := h.cnt i hi
    have hp := h.pos hi
    by_cases hm : 0 < hs.count i
    · exact .root (List.count_pos_iff.1 hm) hi
    · obtain ⟨j, hj, hor⟩ := indeg_parent h hp.1 (by omega)
      have hz := h.siz j hj
      have := h.size_nonneg (S.nd j).left
      have := h.size_nonneg (S.nd j).right
      have hr : Rch S hs j := ih j hj (by rcases hor with e | e <;> rw [e] at hz <;> omega)
      rcases hor with e | e
      · rw [← e]; exact .left hr (by rw [e]; exact hi)
      · rw [← e]; exact .right hr (by rw [e]; exact hi)
theorem Wf.reached (h : Wf S hs) {i : Int} (hi : S.us i = true) : Rch S hs i := h.reach _ i hi (Nat.le_refl _)
theorem Wf.empty (h : Wf S []) : S.nu = 0 ∧ S.free = S.cap := by
  have key : ∀ i, S.us i = false := by
    intro i
    cases hb : S.us i with
    | false => rfl
    | true =>
      exfalso
      have hr := h.reached hb
      clear hb
      induction hr with
      | root h1 _ => simp at h1
      | left _ _ ih => exact ih
      | right _ _ ih => exact ih
  have hn : S.nu = 0 := by
    unfold Arn.nu
    refine List.countP_eq_zero.2 fun b hb => ?_
    obtain ⟨j, hj⟩ := List.mem_iff_getElem?.1 hb
    have := key (j : Int)
    unfold Arn.us at this
    simp [List.getD_eq_getElem?_getD, hj] at this
    simp [this]
  have := h.free_nonneg
  exact ⟨hn, by omega⟩

/-- What is reached from hs stays as it is. -/
def Stay (S S' : Arn) (hs : List Int) : Prop := ∀ i, Rch S hs i → S'.us i = true ∧ S'.nd i = S.nd i ∧ S'.gn i = S.gn i
theorem Stay.refl (S : Arn) (hs : List Int) : Stay S S hs := fun _ h => ⟨h.us, rfl, rfl⟩
theorem Stay.reach (h : Stay S S' hs) {i : Int} (hr : Rch S hs i) : Rch S' hs i := by
  induction hr with
  | root h1 h2 => exact .root h1 (h _ (.root h1 h2)).1
  | left h1 h2 ih =>
    have e := (h _ h1).2.1
    rw [← e]
    exact .left ih (by rw [e]; exact (h _ (.left h1 h2)).1)
  | right h1 h2 ih =>
    have e := (h _ h1).2.1
    rw [← e]
    exact .right ih (by rw [e]; exact (h _ (.right h1 h2)).1)
theorem Stay.trans (h : Stay S S' hs) (h' : Stay S' S'' hs) : Stay S S'' hs := fun i hi => by
  obtain ⟨a, b, c⟩ := h i hi
  obtain ⟨a', b', c'⟩ := h' i (h.reach hi)
  exact ⟨a', b'.trans b, c'.trans c⟩
theorem Stay.mono {hs' : List Int} (h : Stay S S' hs) (hh : ∀ i ∈ hs', i ∈ hs) : Stay S S' hs' := fun i hi => h i (hi.mono hh)
theorem Kept.stay {hs' : List Int} (k : Kept S S') (h0 : Wf S hs') (h : Wf S' hs) : Stay S S' hs := fun i hi => by
  have key : S'.us i = true := by
    induction hi with
    | root h1 h2 =>
      have := (h0.pos h2).1
      exact (h.held _ h1).resolve_left (by omega)
    | left h1 h2 ih =>
      have e := (k.kp _ ih).2
      have := (h0.pos h2).1
      have hk := (h.kid _ ih).1
      rw [e] at hk
      exact hk.resolve_left (by omega)
    | right h1 h2 ih =>
      have e := (k.kp _ ih).2
      have := (h0.pos h2).1
      have hk := (h.kid _ ih).2
      rw [e] at hk
      exact hk.resolve_left (by omega)
  exact ⟨key, (k.kp i key).2, by unfold Arn.gn; rw [k.gen]⟩
theorem stay_rd (S : Arn) (n : Nat) (hs : List Int) : Stay S (rdS S n) hs := fun _ h => ⟨h.us, rfl, rfl⟩
theorem stay_ret (S : Arn) (i : Int) (hs : List Int) : Stay S (retA S i) hs := fun _ h => ⟨h.us, rfl, rfl⟩
theorem stay_make {hs' : List Int} (h : Wf S hs') (hf : 0 < S.free) {k v l r : Int} (hs : List Int) : Stay S (makeS S k v l r) hs := fun i hi => by
  have hu := hi.us
  have h3 := (h.nxt_spec hf).2.2.1
  have e : i ≠ nxt S := fun e => by rw [e, h3] at hu; cases hu
  have hp := h.pos hu
  have h1 := (h.nxt_spec hf).1
  refine ⟨(make_us h hf i).2 (.inr hu), by rw [make_nd h hf, if_neg e], ?_⟩
  unfold Arn.gn makeS
  simp only []
  rw [getD_set, if_neg (by omega)]

/-! ### Trees -/
inductive Tr where
  | nil
  | node (l : Tr) (k v : Int) (r : Tr)
def Tr.size : Tr → Nat
  | .nil => 0
  | .node l _ _ r => 1 + l.size + r.size
def Tr.list : Tr → List Ent
  | .nil => []
  | .node l k v r => l.list ++ (k, v) :: r.list
theorem Tr.list_len : ∀ t : Tr, t.list.length = t.size
  | .nil => rfl
  | .node l k v r => by simp [Tr.list, Tr.size, l.list_len, r.list_len]; omega
def Rep (S : Arn) : Tr → Int → Prop
  | .nil, i => i = 0
  | .node l k v r, i => S.us i = true ∧ (S.nd i).key = k ∧ (S.nd i).value = v ∧ Rep S l (S.nd i).left ∧ Rep S r (S.nd i).right
theorem Rep.size (h : Wf S hs) : ∀ {t : Tr} {i : Int}, Rep S t i → (S.nd i).size = t.size
  | .nil, i, hr => by have : i = 0 := hr; rw [this, h.nd0]; rfl
  | .node l k v r, i, hr => by
    obtain ⟨h1, _, _, h4, h5⟩ := hr
    rw [(h.siz i h1).2.2, Rep.size h h4, Rep.size h h5]
    simp [Tr.size]
theorem Rep.us {t : Tr} {i : Int} (hr : Rep S t i) : i = 0 ∨ S.us i = true := by
  cases t with
  | nil => exact .inl hr
  | node l k v r => exact .inr hr.1
theorem Rep.zero (h : Wf S hs) {t : Tr} (hr : Rep S t 0) : t = .nil := by
  cases t with
  | nil => rfl
  | node l k v r => have := hr.1; rw [h.us0 (Int.le_refl 0)] at this; cases this
theorem Rep.stay (h0 : S.us 0 = false) (st : Stay S S' hs) : ∀ {t : Tr} {i : Int}, Rep S t i → (i = 0 ∨ Rch S hs i) → Rep S' t i
  | .nil, i, hr, _ => hr
  | .node l k v r, i, hr, hi => by
    obtain ⟨h1, h2, h3, h4, h5⟩ := hr
    have e0 : Rch S hs i := hi.resolve_left fun e => by rw [e, h0] at h1; cases h1
    obtain ⟨a, b, _⟩ := st i e0
    refine ⟨a, by rw [b]; exact h2, by rw [b]; exact h3, ?_, ?_⟩
    · rw [b]; exact Rep.stay h0 st h4 (h4.us.imp id fun z => .left e0 z)
    · rw [b]; exact Rep.stay h0 st h5 (h5.us.imp id fun z => .right e0 z)
theorem Rep.held {hs' : List Int} (h : Wf S hs') (st : Stay S S' hs) {t : Tr} {i : Int} (hr : Rep S t i) (hm : i = 0 ∨ i ∈ hs) : Rep S' t i := by
  cases t with
  | nil => exact hr
  | node l k v r =>
    have h1 := hr.1
    have hp := (h.pos h1).1
    exact hr.stay (h.us0 (Int.le_refl 0)) st (.inr (.root (hm.resolve_left (by omega)) h1))
/-- Each index stands for one tree. -/
theorem Wf.tree (h : Wf S hs) : ∀ (n : Nat) (i : Int), (i = 0 ∨ S.us i = true) → (S.nd i).size.toNat ≤ n → ∃ t, Rep S t i := by
  intro n
  induction n with
  | zero =>
    intro i hi hn
    rcases hi with rfl | hi
    · exact ⟨.nil, rfl⟩
    · have := h.siz i hi; omega
  | succ n ih =>
    intro i hi hn
    rcases hi with rfl | hi
    · exact ⟨.nil, rfl⟩
    · have hz := h.siz i hi
      have hk := h.kid i hi
      have h1 := h.size_nonneg (S.nd i).left
      have h2 := h.size_nonneg (S.nd i).right
      obtain ⟨l, hl⟩ := ih _ hk.1 (by omega)
      obtain ⟨r, hr⟩ := ih _ hk.2 (by omega)
      exact ⟨.node l _ _ r, hi, rfl, rfl, hl, hr⟩
theorem Rep.inj : ∀ {t u : Tr} {i : Int}, S.us 0 = false → Rep S t i → Rep S u i → t = u
  | .nil, .nil, _, _, _, _ => rfl
  | .nil, .node _ _ _ _, i, h0, h1, h2 => by have e : i = 0 := h1; have := h2.1; rw [e, h0] at this; cases this
  | .node _ _ _ _, .nil, i, h0, h1, h2 => by have e : i = 0 := h2; have := h1.1; rw [e, h0] at this; cases this
  | .node l k v r, .node l' k' v' r', i, h0, h1, h2 => by
    obtain ⟨_, a2, a3, a4, a5⟩ := h1
    obtain ⟨_, b2, b3, b4, b5⟩ := h2
    rw [← a2, ← a3, ← b2, ← b3, Rep.inj h0 a4 b4, Rep.inj h0 a5 b5]

/-! ### A new arena -/
def newS (c : Nat) : Arn := { used := List.replicate (c + 1) false, gen := List.replicate (c + 1) 0, rel := [], fresh := 0, nodes := List.replicate (c + 1) NodeT.zero, counts := List.replicate (c + 1) 0, reads := 0 }
theorem getD_replicate {α : Type} (n i : Nat) (x : α) : (List.replicate n x).getD i x = x := by
  simp only [List.getD_eq_getElem?_getD, List.getElem?_replicate]
  split <;> rfl
theorem new_us (c : Nat) (i : Int) : (newS c).us i = false := getD_replicate _ _ _
theorem new_nd (c : Nat) (i : Int) : (newS c).nd i = NodeT.zero := getD_replicate _ _ _
theorem Wf.new {c : Nat} (h1 : 1 ≤ c) (h2 : c ≤ 65536) : Wf (newS c) [] where
  n1 := by simp [newS]; omega
  n2 := by simp [newS]; omega
  ngen := by simp [newS]
  nnod := by simp [newS]
  ncnt := by simp [newS]
  fr := by simp [newS]
  rel i hi := by simp [newS] at hi
  dup := by simp [newS]
  use i := by rw [new_us]; simp [newS]; omega
  zero i _ := new_nd c i
  kid i hi := by rw [new_us] at hi; cases hi
  agg i hi := by rw [new_us] at hi; cases hi
  siz i hi := by rw [new_us] at hi; cases hi
  cnt i hi := by rw [new_us] at hi; cases hi
  held i hi := by simp at hi
  few := by simp [Arn.nu, newS, List.countP_replicate]
  nus := by simp [Arn.nu, newS, List.countP_replicate]
  rds := by simp [newS]
end Go.Proofs.Ytacdmmomkngpkaa
