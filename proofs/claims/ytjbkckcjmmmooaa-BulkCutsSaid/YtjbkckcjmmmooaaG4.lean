/- A part of the proof. -/
import Derived.Test.YtjbkckcjmmmooaaG3
import Derived.Test.YtjbkckcjmmmooaaProg
import Derived.Test.YtjbkckcjmmmooaaChecked
import Derived.Conc.MuLone
section
/- What stays of an arena, trees in it, a new arena. No program in sight. -/
namespace Go.Proofs.Ytjbkckcjmmmooaa
open Go

variable {S S' S'' : Arn} {hs : List Int}

structure Kept (S S' : Arn) : Prop where
  len : S'.used.length = S.used.length
  gen : S'.gen = S.gen
  rds : S'.reads = S.reads
  kp : ∀ i, S'.us i = true → S.us i = true ∧ S'.nd i = S.nd i
theorem Kept.refl (S : Arn) : Kept S S := ⟨rfl, rfl, rfl, fun _ h => ⟨h, rfl⟩⟩
theorem Kept.trans (h : Kept S S') (h' : Kept S' S'') : Kept S S'' :=
  ⟨h'.len.trans h.len, h'.gen.trans h.gen, h'.rds.trans h.rds, fun i hi => by
    obtain ⟨a, b⟩ := h'.kp i hi
    obtain ⟨c, d⟩ := h.kp i a
    exact ⟨c, b.trans d⟩⟩
theorem kept_dec (S : Arn) (i : Int) : Kept S (decS S i) := ⟨rfl, rfl, rfl, fun _ h => ⟨h, rfl⟩⟩
theorem kept_free {k : Int} (h : Wf S (k :: hs)) (hk : S.us k = true) (hc : S.ct k = 1) : Kept S (freeS S k) := by
  obtain ⟨_, _, hus, hnd⟩ := h.freed hk hc
  refine ⟨by simp [freeS], rfl, rfl, fun i hi => ?_⟩
  obtain ⟨e, hu⟩ := (hus i).1 hi
  exact ⟨hu, by rw [hnd, if_neg e]⟩

/-! ### What can be reached -/
inductive Rch (S : Arn) (hs : List Int) : Int → Prop where
  | root {i : Int} : i ∈ hs → S.us i = true → Rch S hs i
  | left {i : Int} : Rch S hs i → S.us (S.nd i).left = true → Rch S hs (S.nd i).left
  | right {i : Int} : Rch S hs i → S.us (S.nd i).right = true → Rch S hs (S.nd i).right
theorem Rch.us {i : Int} (h : Rch S hs i) : S.us i = true := by cases h <;> assumption
theorem Rch.mono {hs' : List Int} (hh : ∀ i ∈ hs, i ∈ hs') {i : Int} (h : Rch S hs i) : Rch S hs' i := by
  induction h with
  | root h1 h2 => exact .root (hh _ h1) h2
  | left _ h2 ih => exact .left ih h2
  | right _ h2 ih => exact .right ih h2
theorem indeg_parent {i : Int} (h : Wf S hs) (hi : 1 ≤ i) (hd : 1 ≤ S.indeg i) : ∃ j, S.us j = true ∧ ((S.nd j).left = i ∨ (S.nd j).right = i) := by
  have : ∃ n ∈ S.nodes, n.left = i ∨ n.right = i := by
    unfold Arn.indeg at hd
    by_cases e : S.nodes.countP (fun x => x.left == i) = 0
    · have : 0 < S.nodes.countP (fun x => x.right == i) := by omega
      obtain ⟨n, hn, hp⟩ := List.countP_pos_iff.1 this
      exact ⟨n, hn, .inr (by simpa using hp)⟩
    · obtain ⟨n, hn, hp⟩ := List.countP_pos_iff.1 (Nat.pos_of_ne_zero e)
      exact ⟨n, hn, .inl (by simpa using hp)⟩
  obtain ⟨n, hn, hp⟩ := this
  obtain ⟨j, hj⟩ := List.mem_iff_getElem?.1 hn
  have e : S.nd (j : Int) = n := by unfold Arn.nd; simp [List.getD_eq_getElem?_getD, hj]
  refine ⟨j, ?_, by rw [e]; exact hp⟩
  cases hb : S.us (j : Int) with
  | true => rfl
  | false =>
    have := h.zero _ hb
    rw [e] at this
    rw [this] at hp
    simp [NodeT.zero] at hp
    omega
/-- All that is in use can be reached from what is held. -/
theorem Wf.reach (h : Wf S hs) : ∀ (n : Nat) (i : Int), S.us i = true → (maxSize - (S.nd i).size).toNat ≤ n → Rch S hs i := by
  intro n
  induction n with
  | zero =>
    intro i hi hn
    have hsz := h.siz i hi
    obtain ⟨c1, c2⟩ := h.cnt i hi
    have hp := h.pos hi
    by_cases hm : 0 < hs.count i
    · exact .root (List.count_pos_iff.1 hm) hi
    · obtain ⟨j, hj, hor⟩ := indeg_parent h hp.1 (by omega)
      have hz := h.siz j hj
      have := h.size_nonneg (S.nd j).left
      have := h.size_nonneg (S.nd j).right
      rcases hor with e | e <;> rw [e] at hz <;> omega
  | succ n ih =>
    intro i hi hn
    have hsz := h.siz i hi
    obtain ⟨c1, c2⟩ := h.cnt i hi
    have hp := h.pos hi
    by_cases hm : 0 < hs.count i
    · exact .root (List.count_pos_iff.1 hm) hi
    · obtain ⟨j, hj, hor⟩ := indeg_parent h hp.1 (by omega)
      have hz := h.siz j hj
      have := h.size_nonneg (S.nd j).left
      have := h.size_nonneg (S.nd j).right
      have hr : Rch S hs j := ih j hj (by rcases hor with e | e <;> rw [e] at hz <;> omega)
      rcases hor with e | e
      · rw [← e]; exact .left hr (by rw [e]; exact hi)
      · rw [← e]; exact .right hr (by rw [e]; exact hi)
theorem Wf.reached (h : Wf S hs) {i : Int} (hi : S.us i = true) : Rch S hs i := h.reach _ i hi (Nat.le_refl _)
theorem Wf.empty (h : Wf S []) : S.nu = 0 ∧ S.free = S.cap := by
  have key : ∀ i, S.us i = false := by
    intro i
    cases hb : S.us i with
    | false => rfl
    | true =>
      exfalso
      have hr := h.reached hb
      clear hb
      induction hr with
      | root h1 _ => simp at h1
      | left _ _ ih => exact ih
      | right _ _ ih => exact ih
  have hn : S.nu = 0 := by
    unfold Arn.nu
    refine List.countP_eq_zero.2 fun b hb => ?_
    obtain ⟨j, hj⟩ := List.mem_iff_getElem?.1 hb
    have := key (j : Int)
    unfold Arn.us at this
    simp [List.getD_eq_getElem?_getD, hj] at this
    simp [this]
  have := h.free_nonneg
  exact ⟨hn, by omega⟩

/-- What is reached from hs stays as it is. -/
def Stay (S S' : Arn) (hs : List Int) : Prop := ∀ i, Rch S hs i → S'.us i = true ∧ S'.nd i = S.nd i ∧ S'.gn i = S.gn i
theorem Stay.refl (S : Arn) (hs : List Int) : Stay S S hs := fun _ h => ⟨h.us, rfl, rfl⟩
theorem Stay.reach (h : Stay S S' hs) {i : Int} (hr : Rch S hs i) : Rch S' hs i := by
  induction hr with
  | root h1 h2 => exact .root h1 (h _ (.root h1 h2)).1
  | left h1 h2 ih =>
    have e := (h _ h1).2.1
    rw [← e]
    exact .left ih (by rw [e]; exact (h _ (.left h1 h2)).1)
  | right h1 h2 ih =>
    have e := (h _ h1).2.1
    rw [← e]
    exact .right ih (by rw [e]; exact (h _ (.right h1 h2)).1)
theorem Stay.trans (h : Stay S S' hs) (h' : Stay S' S'' hs) : Stay S S'' hs := fun i hi => by
  obtain ⟨a, b, c⟩ := h i hi
  obtain ⟨a', b', c'⟩ := h' i (h.reach hi)
  exact ⟨a', b'.trans b, c'.trans c⟩
theorem Stay.mono {hs' : List Int} (h : Stay S S' hs) (hh : ∀ i ∈ hs', i ∈ hs) : Stay S S' hs' := fun i hi => h i (hi.mono hh)
theorem Kept.stay {hs' : List Int} (k : Kept S S') (h0 : Wf S hs') (h : Wf S' hs) : Stay S S' hs := fun i hi => by
  have key : S'.us i = true := by
    induction hi with
    | root h1 h2 =>
      have := (h0.pos h2).1
      exact (h.held _ h1).resolve_left (by omega)
    | left h1 h2 ih =>
      have e := (k.kp _ ih).2
      have := (h0.pos h2).1
      have hk := (h.kid _ ih).1
      rw [e] at hk
      exact hk.resolve_left (by omega)
    | right h1 h2 ih =>
      have e := (k.kp _ ih).2
      have := (h0.pos h2).1
      have hk := (h.kid _ ih).2
      rw [e] at hk
      exact hk.resolve_left (by omega)
  exact ⟨key, (k.kp i key).2, by unfold Arn.gn; rw [k.gen]⟩
theorem stay_rd (S : Arn) (n : Nat) (hs : List Int) : Stay S (rdS S n) hs := fun _ h => ⟨h.us, rfl, rfl⟩
theorem stay_ret (S : Arn) (i : Int) (hs : List Int) : Stay S (retA S i) hs := fun _ h => ⟨h.us, rfl, rfl⟩
theorem stay_make {hs' : List Int} (h : Wf S hs') (hf : 0 < S.free) {k v l r : Int} (hs : List Int) : Stay S (makeS S k v l r) hs := fun i hi => by
  have hu := hi.us
  have h3 := (h.nxt_spec hf).2.2.1
  have e : i ≠ nxt S := fun e => by rw [e, h3] at hu; cases hu
  have hp := h.pos hu
  have h1 := (h.nxt_spec hf).1
  refine ⟨(make_us h hf i).2 (.inr hu), by rw [make_nd h hf, if_neg e], ?_⟩
  unfold Arn.gn makeS
  simp only []
  rw [getD_set, if_neg (by omega)]

/-! ### Trees -/
inductive Tr where
  | nil
  | node (l : Tr) (k v : Int) (r : Tr)
def Tr.size : Tr → Nat
  | .nil => 0
  | .node l _ _ r => 1 + l.size + r.size
def Tr.list : Tr → List Ent
  | .nil => []
  | .node l k v r => l.list ++ (k, v) :: r.list
theorem Tr.list_len : ∀ t : Tr, t.list.length = t.size
  | .nil => rfl
  | .node l k v r => by simp [Tr.list, Tr.size, l.list_len, r.list_len]; omega
def Rep (S : Arn) : Tr → Int → Prop
  | .nil, i => i = 0
  | .node l k v r, i => S.us i = true ∧ (S.nd i).key = k ∧ (S.nd i).value = v ∧ Rep S l (S.nd i).left ∧ Rep S r (S.nd i).right
theorem Rep.size (h : Wf S hs) : ∀ {t : Tr} {i : Int}, Rep S t i → (S.nd i).size = t.size
  | .nil, i, hr => by have : i = 0 := hr; rw [this, h.nd0]; rfl
  | .node l k v r, i, hr => by
    obtain ⟨h1, _, _, h4, h5⟩ := hr
    rw [(h.siz i h1).2.2, Rep.size h h4, Rep.size h h5]
    simp [Tr.size]
theorem Rep.us {t : Tr} {i : Int} (hr : Rep S t i) : i = 0 ∨ S.us i = true := by
  cases t with
  | nil => exact .inl hr
  | node l k v r => exact .inr hr.1
theorem Rep.zero (h : Wf S hs) {t : Tr} (hr : Rep S t 0) : t = .nil := by
  cases t with
  | nil => rfl
  | node l k v r => have := hr.1; rw [h.us0 (Int.le_refl 0)] at this; cases this
theorem Rep.stay (h0 : S.us 0 = false) (st : Stay S S' hs) : ∀ {t : Tr} {i : Int}, Rep S t i → (i = 0 ∨ Rch S hs i) → Rep S' t i
  | .nil, i, hr, _ => hr
  | .node l k v r, i, hr, hi => by
    obtain ⟨h1, h2, h3, h4, h5⟩ := hr
    have e0 : Rch S hs i := hi.resolve_left fun e => by rw [e, h0] at h1; cases h1
    obtain ⟨a, b, _⟩ := st i e0
    refine ⟨a, by rw [b]; exact h2, by rw [b]; exact h3, ?_, ?_⟩
    · rw [b]; exact Rep.stay h0 st h4 (h4.us.imp id fun z => .left e0 z)
    · rw [b]; exact Rep.stay h0 st h5 (h5.us.imp id fun z => .right e0 z)
theorem Rep.held {hs' : List Int} (h : Wf S hs') (st : Stay S S' hs) {t : Tr} {i : Int} (hr : Rep S t i) (hm : i = 0 ∨ i ∈ hs) : Rep S' t i := by
  cases t with
  | nil => exact hr
  | node l k v r =>
    have h1 := hr.1
    have hp := (h.pos h1).1
    exact hr.stay (h.us0 (Int.le_refl 0)) st (.inr (.root (hm.resolve_left (by omega)) h1))
/-- Each index stands for one tree. -/
theorem Wf.tree (h : Wf S hs) : ∀ (n : Nat) (i : Int), (i = 0 ∨ S.us i = true) → (S.nd i).size.toNat ≤ n → ∃ t, Rep S t i := by
  intro n
  induction n with
  | zero =>
    intro i hi hn
    rcases hi with rfl | hi
    · exact ⟨.nil, rfl⟩
    · have := h.siz i hi; omega
  | succ n ih =>
    intro i hi hn
    rcases hi with rfl | hi
    · exact ⟨.nil, rfl⟩
    · have hz := h.siz i hi
      have hk := h.kid i hi
      have h1 := h.size_nonneg (S.nd i).left
      have h2 := h.size_nonneg (S.nd i).right
      obtain ⟨l, hl⟩ := ih _ hk.1 (by omega)
      obtain ⟨r, hr⟩ := ih _ hk.2 (by omega)
      exact ⟨.node l _ _ r, hi, rfl, rfl, hl, hr⟩
theorem Rep.inj : ∀ {t u : Tr} {i : Int}, S.us 0 = false → Rep S t i → Rep S u i → t = u
  | .nil, .nil, _, _, _, _ => rfl
  | .nil, .node _ _ _ _, i, h0, h1, h2 => by have e : i = 0 := h1; have := h2.1; rw [e, h0] at this; cases this
  | .node _ _ _ _, .nil, i, h0, h1, h2 => by have e : i = 0 := h2; have := h1.1; rw [e, h0] at this; cases this
  | .node l k v r, .node l' k' v' r', i, h0, h1, h2 => by
    obtain ⟨_, a2, a3, a4, a5⟩ := h1
    obtain ⟨_, b2, b3, b4, b5⟩ := h2
    rw [← a2, ← a3, ← b2, ← b3, Rep.inj h0 a4 b4, Rep.inj h0 a5 b5]

/-! ### A new arena -/
def newS (c : Nat) : Arn := { used := List.replicate (c + 1) false, gen := List.replicate (c + 1) 0, rel := [], fresh := 0, nodes := List.replicate (c + 1) NodeT.zero, counts := List.replicate (c + 1) 0, reads := 0 }
theorem getD_replicate {α : Type} (n i : Nat) (x : α) : (List.replicate n x).getD i x = x := by
  simp only [List.getD_eq_getElem?_getD, List.getElem?_replicate]
  split <;> rfl
theorem new_us (c : Nat) (i : Int) : (newS c).us i = false := getD_replicate _ _ _
theorem new_nd (c : Nat) (i : Int) : (newS c).nd i = NodeT.zero := getD_replicate _ _ _
theorem Wf.new {c : Nat} (h1 : 1 ≤ c) (h2 : c ≤ 65536) : Wf (newS c) [] where
  n1 := by simp [newS]; omega
  n2 := by simp [newS]; omega
  ngen := by simp [newS]
  nnod := by simp [newS]
  ncnt := by simp [newS]
  fr := by simp [newS]
  rel i hi := by simp [newS] at hi
  dup := by simp [newS]
  use i := by rw [new_us]; simp [newS]; omega
  zero i _ := new_nd c i
  kid i hi := by rw [new_us] at hi; cases hi
  agg i hi := by rw [new_us] at hi; cases hi
  siz i hi := by rw [new_us] at hi; cases hi
  cnt i hi := by rw [new_us] at hi; cases hi
  held i hi := by simp at hi
  few := by simp [Arn.nu, newS, List.countP_replicate]
  nus := by simp [Arn.nu, newS, List.countP_replicate]
  rds := by simp [newS]
end Go.Proofs.Ytjbkckcjmmmooaa
end
section
/- The kinds of elements of the arena's programs, and the logic over them. -/
namespace Go.Proofs.Ytjbkckcjmmmooaa.Sx
open Go

structure SlotT where
  alloc : Bool
  count : Int
  gen : Int
  node : NodeT
  deriving DecidableEq
structure FindT where
  kind : Int
  slot : Int
  want : Int
  have_ : Int
  deriving DecidableEq
structure ItemT where
  index : Int
  size : Int
  key : Int
  value : Int
  single : Bool
  deriving DecidableEq
structure PStepT where
  index : Int
  open_ : Bool
  deriving DecidableEq
structure LStepT where
  drop : Bool
  key : Int
  value : Int
  left : Int
  right : Int
  deriving DecidableEq
structure MoveT where
  kind : Int
  key : Int
  at_ : Int
  deriving DecidableEq

inductive EC where
  | ent
  | i64
  | int
  | u32
  | bool
  | node
  | slot
  | find
  deriving DecidableEq

def EC.α : EC → Type
  | .ent => Ent
  | .i64 => Int
  | .int => Int
  | .u32 => Int
  | .bool => Bool
  | .node => NodeT
  | .slot => SlotT
  | .find => FindT

def EC.enc : (e : EC) → e.α → List Value
  | .ent, x => [.int .i64 x.1, .int .i64 x.2]
  | .i64, x => [.int .i64 x]
  | .int, x => [.int .i64 x]
  | .u32, x => [.int .u32 x]
  | .bool, x => [.bool x]
  | .node, x => [.int .i64 x.key, .int .i64 x.value, .int .u32 x.left, .int .u32 x.right, .int .i64 x.size, .int .i64 x.sum, .int .i64 x.min, .int .i64 x.max]
  | .slot, x => [.bool x.alloc, .int .i64 x.count, .int .u32 x.gen, .int .i64 x.node.key, .int .i64 x.node.value, .int .u32 x.node.left, .int .u32 x.node.right, .int .i64 x.node.size, .int .i64 x.node.sum, .int .i64 x.node.min, .int .i64 x.node.max]
  | .find, x => [.int .i64 x.kind, .int .u32 x.slot, .int .i64 x.want, .int .i64 x.have_]

def dcd_ent : List Value → Option Ent := fun l => match l with | [.int .i64 x0, .int .i64 x1] => some (x0, x1) | _ => none
def dcd_i64 : List Value → Option Int := fun l => match l with | [.int .i64 x0] => some x0 | _ => none
def dcd_int : List Value → Option Int := fun l => match l with | [.int .i64 x0] => some x0 | _ => none
def dcd_u32 : List Value → Option Int := fun l => match l with | [.int .u32 x0] => some x0 | _ => none
def dcd_bool : List Value → Option Bool := fun l => match l with | [.bool x0] => some x0 | _ => none
def dcd_node : List Value → Option NodeT := fun l => match l with | [.int .i64 x0, .int .i64 x1, .int .u32 x2, .int .u32 x3, .int .i64 x4, .int .i64 x5, .int .i64 x6, .int .i64 x7] => some ⟨x0, x1, x2, x3, x4, x5, x6, x7⟩ | _ => none
def dcd_slot : List Value → Option SlotT := fun l => match l with | [.bool x0, .int .i64 x1, .int .u32 x2, .int .i64 x3, .int .i64 x4, .int .u32 x5, .int .u32 x6, .int .i64 x7, .int .i64 x8, .int .i64 x9, .int .i64 x10] => some ⟨x0, x1, x2, ⟨x3, x4, x5, x6, x7, x8, x9, x10⟩⟩ | _ => none
def dcd_find : List Value → Option FindT := fun l => match l with | [.int .i64 x0, .int .u32 x1, .int .i64 x2, .int .i64 x3] => some ⟨x0, x1, x2, x3⟩ | _ => none
def EC.dcd : (e : EC) → List Value → Option e.α
  | .ent => dcd_ent
  | .i64 => dcd_i64
  | .int => dcd_int
  | .u32 => dcd_u32
  | .bool => dcd_bool
  | .node => dcd_node
  | .slot => dcd_slot
  | .find => dcd_find

def EC.dft : (e : EC) → e.α
  | .ent => ((0 : Int), (0 : Int))
  | .i64 => (0 : Int)
  | .int => (0 : Int)
  | .u32 => (0 : Int)
  | .bool => false
  | .node => ⟨0, 0, 0, 0, 0, 0, 0, 0⟩
  | .slot => ⟨false, 0, 0, ⟨0, 0, 0, 0, 0, 0, 0, 0⟩⟩
  | .find => ⟨0, 0, 0, 0⟩

def EC.sz : EC → Nat
  | .ent => 2
  | .i64 => 1
  | .int => 1
  | .u32 => 1
  | .bool => 1
  | .node => 8
  | .slot => 11
  | .find => 4

def EC.tid : EC → TypeId
  | .ent => 26
  | .i64 => 2
  | .int => 3
  | .u32 => 29
  | .bool => 4
  | .node => 82
  | .slot => 117
  | .find => 168

def EC.byT (t : TypeId) : Option EC :=
  if t = 26 then some .ent else
  if t = 2 then some .i64 else
  if t = 3 then some .int else
  if t = 29 then some .u32 else
  if t = 4 then some .bool else
  if t = 82 then some .node else
  if t = 117 then some .slot else
  if t = 168 then some .find else
  none

noncomputable def C0 : Ctx where
  P := Try.prog
  EC := EC
  deq := inferInstance
  α := EC.α
  enc := EC.enc
  dcd := EC.dcd
  dft := EC.dft
  sz := EC.sz
  tid := EC.tid
  byT := EC.byT
  X := Empty
  I := fun _ _ _ _ => False

theorem dcd_ent_spec {cs : List Value} {x : Ent} (h : dcd_ent cs = some x) : EC.enc .ent x = cs := by unfold dcd_ent at h; split at h <;> simp at h; subst h; rfl
theorem dcd_i64_spec {cs : List Value} {x : Int} (h : dcd_i64 cs = some x) : EC.enc .i64 x = cs := by unfold dcd_i64 at h; split at h <;> simp at h; subst h; rfl
theorem dcd_int_spec {cs : List Value} {x : Int} (h : dcd_int cs = some x) : EC.enc .int x = cs := by unfold dcd_int at h; split at h <;> simp at h; subst h; rfl
theorem dcd_u32_spec {cs : List Value} {x : Int} (h : dcd_u32 cs = some x) : EC.enc .u32 x = cs := by unfold dcd_u32 at h; split at h <;> simp at h; subst h; rfl
theorem dcd_bool_spec {cs : List Value} {x : Bool} (h : dcd_bool cs = some x) : EC.enc .bool x = cs := by unfold dcd_bool at h; split at h <;> simp at h; subst h; rfl
theorem dcd_node_spec {cs : List Value} {x : NodeT} (h : dcd_node cs = some x) : EC.enc .node x = cs := by unfold dcd_node at h; split at h <;> simp at h; subst h; rfl
theorem dcd_slot_spec {cs : List Value} {x : SlotT} (h : dcd_slot cs = some x) : EC.enc .slot x = cs := by unfold dcd_slot at h; split at h <;> simp at h; subst h; rfl
theorem dcd_find_spec {cs : List Value} {x : FindT} (h : dcd_find cs = some x) : EC.enc .find x = cs := by unfold dcd_find at h; split at h <;> simp at h; subst h; rfl
theorem byT_spec {t : TypeId} {e : EC} (h : EC.byT t = some e) : t = e.tid := by
  unfold EC.byT at h
  by_cases h_ent : t = 26; (rw [if_pos h_ent] at h; cases h; exact h_ent); rw [if_neg h_ent] at h
  by_cases h_i64 : t = 2; (rw [if_pos h_i64] at h; cases h; exact h_i64); rw [if_neg h_i64] at h
  by_cases h_int : t = 3; (rw [if_pos h_int] at h; cases h; exact h_int); rw [if_neg h_int] at h
  by_cases h_u32 : t = 29; (rw [if_pos h_u32] at h; cases h; exact h_u32); rw [if_neg h_u32] at h
  by_cases h_bool : t = 4; (rw [if_pos h_bool] at h; cases h; exact h_bool); rw [if_neg h_bool] at h
  by_cases h_node : t = 82; (rw [if_pos h_node] at h; cases h; exact h_node); rw [if_neg h_node] at h
  by_cases h_slot : t = 117; (rw [if_pos h_slot] at h; cases h; exact h_slot); rw [if_neg h_slot] at h
  by_cases h_find : t = 168; (rw [if_pos h_find] at h; cases h; exact h_find); rw [if_neg h_find] at h
  cases h
theorem info_of {P : Program} {t : TypeId} {z : Value} {n b : Nat} {l : List Value} (h : (P.info? t).map (fun i => (i.zero, i.size, i.bytes)) = some (some z, n, b)) (hz : z.cells.toList = l) (hb : 0 < b) :
    ∃ i z, P.info? t = some i ∧ i.zero = some z ∧ i.size = n ∧ z.cells.toList = l ∧ 0 < i.bytes := by
  rw [Option.map_eq_some_iff] at h
  obtain ⟨i, h1, h2⟩ := h
  simp only [Prod.mk.injEq] at h2
  exact ⟨i, z, h1, h2.1, h2.2.1, hz, h2.2.2 ▸ hb⟩

theorem C0.ok : C0.OK where
  len e x := by cases e <;> rfl
  one e x := by
    have h : ∀ u ∈ EC.enc e x, u.oneCell' = true := by cases e <;> (intro u hu; simp [EC.enc] at hu; (first | (repeat (rcases hu with rfl | hu; exact rfl)); done | (repeat (rcases hu with rfl | hu; exact rfl)); (subst hu; rfl)))
    exact h
  dcd e cs x h := by
    cases e with
    | ent => exact dcd_ent_spec h
    | i64 => exact dcd_i64_spec h
    | int => exact dcd_int_spec h
    | u32 => exact dcd_u32_spec h
    | bool => exact dcd_bool_spec h
    | node => exact dcd_node_spec h
    | slot => exact dcd_slot_spec h
    | find => exact dcd_find_spec h
  pos e := by cases e <;> decide
  info e := by
    cases e with
    | ent => exact info_of (z := .agg #[.int .i64 0, .int .i64 0]) (n := 2) (b := 16) (by kernel_rfl) rfl (by decide)
    | i64 => exact info_of (z := .int .i64 0) (n := 1) (b := 8) (by kernel_rfl) rfl (by decide)
    | int => exact info_of (z := .int .i64 0) (n := 1) (b := 8) (by kernel_rfl) rfl (by decide)
    | u32 => exact info_of (z := .int .u32 0) (n := 1) (b := 4) (by kernel_rfl) rfl (by decide)
    | bool => exact info_of (z := .bool false) (n := 1) (b := 1) (by kernel_rfl) rfl (by decide)
    | node => exact info_of (z := .agg #[.int .i64 0, .int .i64 0, .int .u32 0, .int .u32 0, .int .i64 0, .int .i64 0, .int .i64 0, .int .i64 0]) (n := 8) (b := 56) (by kernel_rfl) rfl (by decide)
    | slot => exact info_of (z := .agg #[.bool false, .int .i64 0, .int .u32 0, .int .i64 0, .int .i64 0, .int .u32 0, .int .u32 0, .int .i64 0, .int .i64 0, .int .i64 0, .int .i64 0]) (n := 11) (b := 80) (by kernel_rfl) rfl (by decide)
    | find => exact info_of (z := .agg #[.int .i64 0, .int .u32 0, .int .i64 0, .int .i64 0]) (n := 4) (b := 32) (by kernel_rfl) rfl (by decide)
  byT t e h := by
    exact byT_spec h
  local_ x := x.elim
  mixed := Try.checked.mixed

theorem enter_of {f : FuncId} {fn : Func} {c : Code} (hf : Try.prog.funcs[f]? = some fn) (hname : (fn.name == "runtime.NumGoroutine") = false) (hb : fn.body = some c) (args : Array Value) (w : World) :
    (callFunc f args).run C0.P w = .ok (.enter f args) w := MuLone.run_callFunc_enter hf hname hb args w

abbrev vI (x : Int) : At := .val (.int .i64 x)
abbrev vU (x : Int) : At := .val (.int .u32 x)
abbrev vU64 (x : Int) : At := .val (.int .u64 x)
abbrev vB (b : Bool) : At := .val (.bool b)
abbrev KT := SV → List (Chunk C0) → List Nat → Prop
/-- A contract out of a run. -/
theorem SoundT.of {f : FuncId} {fn : Func} {c : Code} {t : Tfm C0} (hf : Try.prog.funcs[f]? = some fn) (hname : (fn.name == "runtime.NumGoroutine") = false) (hb : fn.body = some c)
    (h : ∀ args H K, t args H K → RowB H → ∃ A : Ann C0, GOK C0 A.Γ ∧ vc C0 A fn args H (normK H.length K)) : SoundT C0 f t :=
  ⟨enter_of hf hname hb, fun args H K hk => by
    refine CallOK.rowB C0.ok fun hB => ?_
    obtain ⟨A, hG, hv⟩ := h args H K hk hB
    exact CallOK.norm (call_of_vc C0.ok hG hf hv)⟩
/-- The same names touched, whichever way a run takes. -/
def wideK (W0 : List Nat) (K : KT) : KT := fun r H ts => if ts.all W0.contains then K r H W0 else False
theorem CallOK.wide {f : FuncId} {args : List TV} {H : List (Chunk C0)} {K : KT} (W0 : List Nat) (h : CallOK C0 f args H (wideK W0 K)) : CallOK C0 f args H K := by
  intro σ φ w vs hs hr hn
  refine Calls.mono (h σ φ w vs hs hr hn) fun e w' hh => ?_
  cases e with
  | panicked ch => exact hh.elim
  | outgrown => exact hh.elim
  | returned v =>
    obtain ⟨r, H', ts, σ', φ', hout, hK⟩ := hh
    unfold wideK at hK
    split at hK <;> try exact hK.elim
    rename_i hsub
    have hts : ∀ n, n ∉ W0 → n ∉ ts := fun n hn ht => hn (by simpa using List.all_eq_true.1 hsub n ht)
    exact ⟨r, H', W0, σ', φ', ⟨hout.rel, hout.rcl, hout.sat, hout.adv, hout.len, fun n hn ho => hout.agree n hn (ho.imp id (hts n)), hout.own, fun n hn ht => hout.touch n hn (hts n ht)⟩, hK⟩
theorem SoundT.ofW {f : FuncId} {fn : Func} {c : Code} {t : Tfm C0} (W0 : List Nat) (hf : Try.prog.funcs[f]? = some fn) (hname : (fn.name == "runtime.NumGoroutine") = false) (hb : fn.body = some c)
    (h : ∀ args H K, t args H K → RowB H → ∃ A : Ann C0, GOK C0 A.Γ ∧ vc C0 A fn args H (normK H.length (wideK W0 K))) : SoundT C0 f t :=
  ⟨enter_of hf hname hb, fun args H K hk => by
    refine CallOK.wide W0 (CallOK.rowB C0.ok fun hB => ?_)
    obtain ⟨A, hG, hv⟩ := h args H K hk hB
    exact CallOK.norm (call_of_vc C0.ok hG hf hv)⟩

theorem SoundT.weak {f : FuncId} {t t' : Tfm C0} (h : SoundT C0 f t) (hw : ∀ args H K, t' args H K → t args H K) : SoundT C0 f t' := ⟨h.enter, fun args H K hk => h.call args H K (hw args H K hk)⟩
noncomputable def A0 : Ann C0 := { Γ := [] }
theorem brS_of {b : Bool} {t f : Prop} (ht : b = true → t) (hf : b = false → f) : brS b t f := by cases b <;> simp_all [brS]
theorem bytes_ent : bytesOf C0 EC.ent = 16 := by kernel_rfl
theorem bytes_i64 : bytesOf C0 EC.i64 = 8 := by kernel_rfl
theorem bytes_int : bytesOf C0 EC.int = 8 := by kernel_rfl
theorem bytes_u32 : bytesOf C0 EC.u32 = 4 := by kernel_rfl
theorem bytes_bool : bytesOf C0 EC.bool = 1 := by kernel_rfl
theorem bytes_node : bytesOf C0 EC.node = 56 := by kernel_rfl
theorem bytes_slot : bytesOf C0 EC.slot = 80 := by kernel_rfl
theorem bytes_find : bytesOf C0 EC.find = 32 := by kernel_rfl
end Go.Proofs.Ytjbkckcjmmmooaa.Sx
end
section
/- The slots of an arena. -/
namespace Go.Proofs.Ytjbkckcjmmmooaa.Sx
open Go

def relOK (rl : List Int) (n : Nat) : Prop := ∀ i ∈ rl, 0 ≤ i ∧ i < (n : Int)
def slM (H : List (Chunk C0)) (k : List Bool → List Int → List Int → Int → Prop) : Prop := match H with
  | [.box [.slc 1, .slc 2, .slc 3, .val (.int .u32 fr)], .row true .bool us, .row true .u32 gn, .row true .u32 rl] => k us gn rl fr
  | _ => False
abbrev slC (us : List Bool) (gn rl : List Int) (fr : Int) : List (Chunk C0) := [.box [.slc 1, .slc 2, .slc 3, vU fr], .row true EC.bool us, .row true EC.u32 gn, .row true EC.u32 rl]
def tSlCap : Tfm C0 := fun args H K => match args with
  | [.at (.ptr 0 0)] => slM H fun us gn rl fr => 1 ≤ us.length ∧ us.length ≤ 65537 ∧ K (.one (.at (vI (us.length - 1)))) (slC us gn rl fr) []
  | _ => False
def tSlAllocated : Tfm C0 := fun args H K => match args with
  | [.at (.ptr 0 0), .at (.val (.int .u32 i))] => slM H fun us gn rl fr => 0 ≤ i ∧ i < 4294967296 ∧ us.length ≤ 65537 ∧ K (.one (.at (vB (us.getD i.toNat false)))) (slC us gn rl fr) []
  | _ => False
def tSlGen : Tfm C0 := fun args H K => match args with
  | [.at (.ptr 0 0), .at (.val (.int .u32 i))] => slM H fun us gn rl fr => 0 ≤ i ∧ i < 4294967296 ∧ gn.length ≤ 65537 ∧ K (.one (.at (vU (gn.getD i.toNat 0)))) (slC us gn rl fr) []
  | _ => False
noncomputable def aSlFree : Ann C0 := { Γ := [(83, frameT [] tSlCap)], quiet := [83] }
def tSlFree : Tfm C0 := fun args H K => match args with
  | [.at (.ptr 0 0)] => slM H fun us gn rl fr => 1 ≤ us.length ∧ us.length ≤ 65537 ∧ rl.length ≤ 65537 ∧ 0 ≤ fr ∧ fr ≤ 65537 ∧ K (.one (.at (vI (rl.length + (us.length - 1) - fr)))) (slC us gn rl fr) []
  | _ => False
noncomputable def aSlAlloc : Ann C0 := { trunc := fun n => n == 30, Γ := [(72, frameT [] tSlFree)] }
def tSlAlloc : Tfm C0 := fun args H K => match args with
  | [.at (.ptr 0 0)] => slM H fun us gn rl fr => 1 ≤ us.length ∧ us.length ≤ 65537 ∧ rl.length ≤ 65537 ∧ 0 ≤ fr ∧ fr ≤ 65537 ∧ gn.length = us.length ∧ relOK rl us.length ∧ 0 ≤ (rl.length : Int) + (us.length - 1) - fr ∧
    ((rl.length : Int) + (us.length - 1) - fr = 0 → K (.tup [.at (vU 0), .at (vI 2)]) (slC us gn rl fr) [0, 1, 2, 3]) ∧
    (0 < (rl.length : Int) + (us.length - 1) - fr → ∀ i rl' fr', (i, rl', fr') = fresh3 rl fr → K (.tup [.at (vU i), .at (vI 0)]) (slC (us.set i.toNat true) (gn.set i.toNat (IntKind.u32.wrap (gn.getD i.toNat 0 + 1))) rl' fr') [0, 1, 2, 3])
  | _ => False
noncomputable def aSlRelease : Ann C0 := { Γ := [(75, frameT [] tSlAllocated)] }
def tSlRelease : Tfm C0 := fun args H K => match args with
  | [.at (.ptr 0 0), .at (.val (.int .u32 i))] => slM H fun us gn rl fr => 0 ≤ i ∧ i < 4294967296 ∧ us.length ≤ 65537 ∧ rl.length ≤ 65537 ∧ us.getD i.toNat false = true ∧ K (.one (.at (vI 0))) (slC (us.set i.toNat false) gn (rl ++ [i]) fr) [0, 1, 3]
  | _ => False
theorem vc_slCap (us : List Bool) (gn rl : List Int) (fr : Int) (K : KT) (h1 : 1 ≤ us.length) (h2 : us.length ≤ 65537) (h : K (.one (.at (vI (us.length - 1)))) (slC us gn rl fr) []) :
    vc C0 A0 Try.f83 [.at (.ptr 0 0)] (slC us gn rl fr) (normK 4 K) := by
  refine Eq.mp (show (K (SV.one (TV.at (At.val (Value.int IntKind.i64 (IntKind.i64.wrap ((↑us.length : Int) - 1)))))) [(Chunk.box [(At.slc 1), (At.slc 2), (At.slc 3), (At.val (Value.int IntKind.u32 (fr)))]), (Chunk.row true (EC.bool) (us)), (Chunk.row true (EC.u32) (gn)), (Chunk.row true (EC.u32) (rl))] []) = _ by kernel_rfl) ?_
  rw [wrap_id (by omega) (by omega)]
  exact h
theorem s_slCap : SoundT C0 83 tSlCap := by
  refine .of Try.func83 (by decide) rfl fun args H K h hB => ?_
  unfold tSlCap at h
  split at h <;> try exact h.elim
  unfold slM at h
  split at h <;> try exact h.elim
  rename_i fr us gn rl
  exact ⟨A0, trivial, vc_slCap us gn rl _ K h.1 h.2.1 h.2.2⟩
theorem vc_slAllocated (us : List Bool) (gn rl : List Int) (fr i : Int) (K : KT) (h1 : 0 ≤ i) (h2 : i < 4294967296) (h3 : us.length ≤ 65537) (h : K (.one (.at (vB (us.getD i.toNat false)))) (slC us gn rl fr) []) :
    vc C0 A0 Try.f75 [.at (.ptr 0 0), .at (vU i)] (slC us gn rl fr) (normK 4 K) := by
  refine Eq.mp (show (brS (decide (IntKind.i64.wrap i < (↑us.length : Int))) (((0 ≤ i) ∧ (i < (↑us.length : Int)) ∧ (K (SV.one (TV.at (At.val (Value.bool (us.getD i.toNat false))))) [(Chunk.box [(At.slc 1), (At.slc 2), (At.slc 3), (At.val (Value.int IntKind.u32 (fr)))]), (Chunk.row true (EC.bool) (us)), (Chunk.row true (EC.u32) (gn)), (Chunk.row true (EC.u32) (rl))] []))) ((K (SV.one (TV.at (At.val (Value.bool false)))) [(Chunk.box [(At.slc 1), (At.slc 2), (At.slc 3), (At.val (Value.int IntKind.u32 (fr)))]), (Chunk.row true (EC.bool) (us)), (Chunk.row true (EC.u32) (gn)), (Chunk.row true (EC.u32) (rl))] []))) = _ by kernel_rfl) ?_
  rw [wrap_id (by omega) (by omega)]
  refine brS_of (fun c => ⟨h1, by simpa using c, h⟩) fun c => ?_
  have e : us.getD i.toNat false = false := by
    have c : ¬ i < (us.length : Int) := by simpa using c
    rw [List.getD_eq_getElem?_getD, List.getElem?_eq_none (by omega)]; rfl
  rw [e] at h
  exact h
theorem s_slAllocated : SoundT C0 75 tSlAllocated := by
  refine .of Try.func75 (by decide) rfl fun args H K h hB => ?_
  unfold tSlAllocated at h
  split at h <;> try exact h.elim
  unfold slM at h
  split at h <;> try exact h.elim
  rename_i i _ fr us gn rl
  exact ⟨A0, trivial, vc_slAllocated us gn rl fr i K h.1 h.2.1 h.2.2.1 h.2.2.2⟩
theorem vc_slGen (us : List Bool) (gn rl : List Int) (fr i : Int) (K : KT) (h1 : 0 ≤ i) (h2 : i < 4294967296) (h3 : gn.length ≤ 65537) (h : K (.one (.at (vU (gn.getD i.toNat 0)))) (slC us gn rl fr) []) :
    vc C0 A0 Try.f108 [.at (.ptr 0 0), .at (vU i)] (slC us gn rl fr) (normK 4 K) := by
  refine Eq.mp (show (brS (decide (IntKind.i64.wrap i ≥ (↑gn.length : Int))) ((K (SV.one (TV.at (At.val (Value.int IntKind.u32 0)))) [(Chunk.box [(At.slc 1), (At.slc 2), (At.slc 3), (At.val (Value.int IntKind.u32 (fr)))]), (Chunk.row true (EC.bool) (us)), (Chunk.row true (EC.u32) (gn)), (Chunk.row true (EC.u32) (rl))] [])) (((0 ≤ i) ∧ (i < (↑gn.length : Int)) ∧ (K (SV.one (TV.at (At.val (Value.int IntKind.u32 (gn.getD i.toNat 0))))) [(Chunk.box [(At.slc 1), (At.slc 2), (At.slc 3), (At.val (Value.int IntKind.u32 (fr)))]), (Chunk.row true (EC.bool) (us)), (Chunk.row true (EC.u32) (gn)), (Chunk.row true (EC.u32) (rl))] [])))) = _ by kernel_rfl) ?_
  rw [wrap_id (by omega) (by omega)]
  refine brS_of (fun c => ?_) fun c => ⟨h1, by simp at c; omega, h⟩
  have e : gn.getD i.toNat 0 = 0 := by
    have c : (gn.length : Int) ≤ i := by simpa using c
    rw [List.getD_eq_getElem?_getD, List.getElem?_eq_none (by omega)]; rfl
  rw [e] at h
  exact h
theorem s_slGen : SoundT C0 108 tSlGen := by
  refine .of Try.func108 (by decide) rfl fun args H K h hB => ?_
  unfold tSlGen at h
  split at h <;> try exact h.elim
  unfold slM at h
  split at h <;> try exact h.elim
  rename_i i _ fr us gn rl
  exact ⟨A0, trivial, vc_slGen us gn rl fr i K h.1 h.2.1 h.2.2.1 h.2.2.2⟩
theorem vc_slFree (us : List Bool) (gn rl : List Int) (fr : Int) (K : KT) (h1 : 1 ≤ us.length) (h2 : us.length ≤ 65537) (h3 : rl.length ≤ 65537) (h4 : 0 ≤ fr) (h5 : fr ≤ 65537) (h : K (.one (.at (vI (rl.length + (us.length - 1) - fr)))) (slC us gn rl fr) []) :
    vc C0 aSlFree Try.f72 [.at (.ptr 0 0)] (slC us gn rl fr) (normK 4 K) := by
  refine Eq.mp (show ((1 ≤ us.length) ∧
(us.length ≤ 65537) ∧
(K (SV.one (TV.at (At.val (Value.int IntKind.i64 (IntKind.i64.wrap (IntKind.i64.wrap ((↑rl.length : Int) + ((↑us.length : Int) - 1)) - IntKind.i64.wrap fr)))))) [(Chunk.box [(At.slc 1), (At.slc 2), (At.slc 3), (At.val (Value.int IntKind.u32 (fr)))]), (Chunk.row true (EC.bool) (us)), (Chunk.row true (EC.u32) (gn)), (Chunk.row true (EC.u32) (rl))] [])) = _ by kernel_rfl) ?_
  refine ⟨h1, h2, ?_⟩
  rw [wrap_id (x := fr) (by omega) (by omega), wrap_id (x := (rl.length : Int) + ((us.length : Int) - 1)) (by omega) (by omega), wrap_id (by omega) (by omega)]
  exact h
theorem s_slFree : SoundT C0 72 tSlFree := by
  refine .of Try.func72 (by decide) rfl fun args H K h hB => ?_
  unfold tSlFree at h
  split at h <;> try exact h.elim
  unfold slM at h
  split at h <;> try exact h.elim
  rename_i fr us gn rl
  exact ⟨aSlFree, ⟨frame C0.ok s_slCap _, trivial⟩, vc_slFree us gn rl fr K h.1 h.2.1 h.2.2.1 h.2.2.2.1 h.2.2.2.2.1 h.2.2.2.2.2⟩
theorem wrap_u32 {x : Int} (h1 : 0 ≤ x) (h2 : x < 4294967296) : IntKind.u32.wrap x = x := by
  unfold IntKind.wrap
  simp [IntKind.signed, IntKind.bits]
  omega
theorem vc_slAlloc (us : List Bool) (gn rl : List Int) (fr : Int) (K : KT) (h1 : 1 ≤ us.length) (h2 : us.length ≤ 65537) (h3 : rl.length ≤ 65537) (h4 : 0 ≤ fr) (h5 : fr ≤ 65537) (h6 : gn.length = us.length) (h7 : relOK rl us.length)
    (h8 : 0 ≤ (rl.length : Int) + (us.length - 1) - fr)
    (ha : (rl.length : Int) + (us.length - 1) - fr = 0 → K (.tup [.at (vU 0), .at (vI 2)]) (slC us gn rl fr) [0, 1, 2, 3])
    (hb : 0 < (rl.length : Int) + (us.length - 1) - fr → ∀ i rl' fr', (i, rl', fr') = fresh3 rl fr → K (.tup [.at (vU i), .at (vI 0)]) (slC (us.set i.toNat true) (gn.set i.toNat (IntKind.u32.wrap (gn.getD i.toNat 0 + 1))) rl' fr') [0, 1, 2, 3]) :
    vc C0 aSlAlloc Try.f126 [.at (.ptr 0 0)] (slC us gn rl fr) (normK 4 (wideK [0, 1, 2, 3] K)) := by
  refine Eq.mp (show ((1 ≤ us.length) ∧
(us.length ≤ 65537) ∧
(rl.length ≤ 65537) ∧
(0 ≤ fr) ∧
(fr ≤ 65537) ∧
(brS ((↑rl.length : Int) + ((↑us.length : Int) - 1) - fr == 0) ((K (SV.tup [(TV.at (At.val (Value.int IntKind.u32 0))), (TV.at (At.val (Value.int IntKind.i64 2)))]) [(Chunk.box [(At.slc 1), (At.slc 2), (At.slc 3), (At.val (Value.int IntKind.u32 (fr)))]), (Chunk.row true (EC.bool) (us)), (Chunk.row true (EC.u32) (gn)), (Chunk.row true (EC.u32) (rl))] [0, 1, 2, 3])) ((brS (decide (IntKind.i64.wrap ((↑rl.length : Int) - 1) ≥ 0)) (((0 ≤ IntKind.i64.wrap ((↑rl.length : Int) - 1)) ∧ (IntKind.i64.wrap ((↑rl.length : Int) - 1) < (↑rl.length : Int)) ∧ (0 ≤ IntKind.i64.wrap ((↑rl.length : Int) - 1)) ∧ (IntKind.i64.wrap ((↑rl.length : Int) - 1) ≤ (↑rl.length : Int)) ∧ (0 ≤ rl.getD (IntKind.i64.wrap ((↑rl.length : Int) - 1)).toNat 0) ∧ (rl.getD (IntKind.i64.wrap ((↑rl.length : Int) - 1)).toNat 0 < (↑us.length : Int)) ∧ (0 ≤ rl.getD (IntKind.i64.wrap ((↑rl.length : Int) - 1)).toNat 0) ∧ (rl.getD (IntKind.i64.wrap ((↑rl.length : Int) - 1)).toNat 0 < (↑gn.length : Int)) ∧ (0 ≤ rl.getD (IntKind.i64.wrap ((↑rl.length : Int) - 1)).toNat 0) ∧ (rl.getD (IntKind.i64.wrap ((↑rl.length : Int) - 1)).toNat 0 < (↑gn.length : Int)) ∧
    (K (SV.tup [(TV.at (At.val (Value.int IntKind.u32 (rl.getD (IntKind.i64.wrap ((↑rl.length : Int) - 1)).toNat 0)))), (TV.at (At.val (Value.int IntKind.i64 0)))]) [(Chunk.box [(At.slc 1), (At.slc 2), (At.slc 3), (At.val (Value.int IntKind.u32 (fr)))]), (Chunk.row true (EC.bool) (us.set (rl.getD (IntKind.i64.wrap ((↑rl.length : Int) - 1)).toNat 0).toNat true)), (Chunk.row true (EC.u32) (gn.set (rl.getD (IntKind.i64.wrap ((↑rl.length : Int) - 1)).toNat 0).toNat (IntKind.u32.wrap (gn.getD (rl.getD (IntKind.i64.wrap ((↑rl.length : Int) - 1)).toNat 0).toNat 0 + 1)))), (Chunk.row true (EC.u32) (List.take (IntKind.i64.wrap ((↑rl.length : Int) - 1)).toNat rl))] [0, 1, 2, 3]))) (((0 ≤ IntKind.u32.wrap (fr + 1)) ∧ (IntKind.u32.wrap (fr + 1) < (↑us.length : Int)) ∧ (0 ≤ IntKind.u32.wrap (fr + 1)) ∧ (IntKind.u32.wrap (fr + 1) < (↑gn.length : Int)) ∧ (0 ≤ IntKind.u32.wrap (fr + 1)) ∧ (IntKind.u32.wrap (fr + 1) < (↑gn.length : Int)) ∧ (K (SV.tup [(TV.at (At.val (Value.int IntKind.u32 (IntKind.u32.wrap (fr + 1))))), (TV.at (At.val (Value.int IntKind.i64 0)))]) [(Chunk.box [(At.slc 1), (At.slc 2), (At.slc 3), (At.val (Value.int IntKind.u32 (IntKind.u32.wrap (fr + 1))))]), (Chunk.row true (EC.bool) (us.set (IntKind.u32.wrap (fr + 1)).toNat true)), (Chunk.row true (EC.u32) (gn.set (IntKind.u32.wrap (fr + 1)).toNat (IntKind.u32.wrap (gn.getD (IntKind.u32.wrap (fr + 1)).toNat 0 + 1)))), (Chunk.row true (EC.u32) (rl))] [0, 1, 2, 3]))))))) = _ by kernel_rfl) ?_
  rw [wrap_id (x := (rl.length : Int) - 1) (by omega) (by omega), wrap_u32 (x := fr + 1) (by omega) (by omega)]
  refine ⟨h1, h2, h3, h4, h5, brS_of (fun c => ha (by simpa using c)) fun c => ?_⟩
  have c : ¬ (rl.length : Int) + (us.length - 1) - fr = 0 := by simpa using c
  have hb := hb (by omega)
  refine brS_of (fun d => ?_) fun d => ?_
  · have d : 0 ≤ (rl.length : Int) - 1 := by simpa using d
    have e : ((rl.length : Int) - 1).toNat = rl.length - 1 := by omega
    rw [e]
    have hm : rl.getD (rl.length - 1) 0 ∈ rl := by
      have : rl.length - 1 < rl.length := by omega
      rw [List.getD_eq_getElem?_getD, List.getElem?_eq_getElem this]
      exact List.getElem_mem this
    have hr := h7 _ hm
    exact ⟨by omega, by omega, by omega, by omega, hr.1, hr.2, hr.1, by omega, hr.1, by omega, hb _ _ _ (by unfold fresh3; rw [if_pos (by omega)]; rfl)⟩
  · have d : ¬ 0 ≤ (rl.length : Int) - 1 := by simpa using d
    exact ⟨by omega, by omega, by omega, by omega, by omega, by omega, hb _ _ _ (by unfold fresh3; rw [if_neg (by omega)])⟩
theorem s_slAlloc : SoundT C0 126 tSlAlloc := by
  refine .ofW [0, 1, 2, 3] Try.func126 (by decide) rfl fun args H K h hB => ?_
  unfold tSlAlloc at h
  split at h <;> try exact h.elim
  unfold slM at h
  split at h <;> try exact h.elim
  rename_i fr us gn rl
  exact ⟨aSlAlloc, ⟨frame C0.ok s_slFree _, trivial⟩, vc_slAlloc us gn rl fr K h.1 h.2.1 h.2.2.1 h.2.2.2.1 h.2.2.2.2.1 h.2.2.2.2.2.1 h.2.2.2.2.2.2.1 h.2.2.2.2.2.2.2.1 h.2.2.2.2.2.2.2.2.1 h.2.2.2.2.2.2.2.2.2⟩
theorem vc_slRelease (us : List Bool) (gn rl : List Int) (fr i : Int) (K : KT) (h1 : 0 ≤ i) (h2 : i < 4294967296) (h3 : us.length ≤ 65537) (h4 : rl.length ≤ 65537) (h5 : us.getD i.toNat false = true) (h : K (.one (.at (vI 0))) (slC (us.set i.toNat false) gn (rl ++ [i]) fr) [0, 1, 3]) :
    vc C0 aSlRelease Try.f76 [.at (.ptr 0 0), .at (vU i)] (slC us gn rl fr) (normK 4 K) := by
  refine Eq.mp (show ((0 ≤ i) ∧
(i < 4294967296) ∧
(us.length ≤ 65537) ∧
(brS (!us.getD i.toNat false) ((K (SV.one (TV.at (At.val (Value.int IntKind.i64 3)))) [(Chunk.box [(At.slc 1), (At.slc 2), (At.slc 3), (At.val (Value.int IntKind.u32 (fr)))]), (Chunk.row true (EC.bool) (us)), (Chunk.row true (EC.u32) (gn)), (Chunk.row true (EC.u32) (rl))] [])) (((0 ≤ i) ∧ (i < (↑us.length : Int)) ∧ ((rl.length + [i].length) * bytesOf C0 EC.u32 ≤ 140737488355328) ∧ (K (SV.one (TV.at (At.val (Value.int IntKind.i64 0)))) [(Chunk.box [(At.slc 1), (At.slc 2), (At.slc 3), (At.val (Value.int IntKind.u32 (fr)))]), (Chunk.row true (EC.bool) (us.set i.toNat false)), (Chunk.row true (EC.u32) (gn)), (Chunk.row true (EC.u32) (rl ++ [i]))] [0, 1, 3]))))) = _ by kernel_rfl) ?_
  simp only [bytes_u32]
  refine ⟨h1, h2, h3, brS_of (fun c => ?_) fun c => ⟨h1, ?_, ?_, h⟩⟩
  · rw [h5] at c; cases c
  · rcases Nat.lt_or_ge i.toNat us.length with hh | hh
    · omega
    · rw [List.getD_eq_getElem?_getD, List.getElem?_eq_none hh] at h5; cases h5
  · simp; omega
theorem s_slRelease : SoundT C0 76 tSlRelease := by
  refine .of Try.func76 (by decide) rfl fun args H K h hB => ?_
  unfold tSlRelease at h
  split at h <;> try exact h.elim
  unfold slM at h
  split at h <;> try exact h.elim
  rename_i i _ fr us gn rl
  exact ⟨aSlRelease, ⟨frame C0.ok s_slAllocated _, trivial⟩, vc_slRelease us gn rl fr i K h.1 h.2.1 h.2.2.1 h.2.2.2.1 h.2.2.2.2.1 h.2.2.2.2.2⟩
end Go.Proofs.Ytjbkckcjmmmooaa.Sx
end
section
/- The arena's functions. -/
namespace Go.Proofs.Ytjbkckcjmmmooaa.Sx
open Go

abbrev chS (S : Arn) : List (Chunk C0) := [.box [.ptr 1 0, .slc 2, .slc 3, vU64 S.reads], .box [.slc 4, .slc 5, .slc 6, vU S.fresh], .row true EC.node S.nodes, .row true EC.int S.counts, .row true EC.bool S.used, .row true EC.u32 S.gen, .row true EC.u32 S.rel]
def arM (H : List (Chunk C0)) (k : Arn → Prop) : Prop := match H with
  | [.box [.ptr 1 0, .slc 2, .slc 3, .val (.int .u64 rd)], .box [.slc 4, .slc 5, .slc 6, .val (.int .u32 fr)], .row true .node nd, .row true .int ct, .row true .bool us, .row true .u32 gn, .row true .u32 rl] => k ⟨us, gn, rl, fr, nd, ct, rd⟩
  | _ => False
def arMr (H : List (Chunk C0)) (k : Arn → List (Chunk C0) → Prop) : Prop := match H with
  | .box [.ptr 1 0, .slc 2, .slc 3, .val (.int .u64 rd)] :: .box [.slc 4, .slc 5, .slc 6, .val (.int .u32 fr)] :: .row true .node nd :: .row true .int ct :: .row true .bool us :: .row true .u32 gn :: .row true .u32 rl :: rest => k ⟨us, gn, rl, fr, nd, ct, rd⟩ rest
  | _ => False
abbrev nodeA (n : NodeT) : TV := .agg [vI n.key, vI n.value, vU n.left, vU n.right, vI n.size, vI n.sum, vI n.min, vI n.max]
abbrev W7 : List Nat := [0, 1, 2, 3, 4, 5, 6]
def inU (i : Int) : Prop := 0 ≤ i ∧ i < 4294967296
def exW (S : Arn) : Prop := ∃ hs, Wf S hs
def live (S : Arn) (i : Int) : Prop := i = 0 ∨ S.us i = true

theorem fold_nd (S : Arn) (i : Int) : S.nodes.getD i.toNat ⟨0, 0, 0, 0, 0, 0, 0, 0⟩ = S.nd i := rfl
theorem fold_us (S : Arn) (i : Int) : S.used.getD i.toNat false = S.us i := rfl
theorem fold_ct (S : Arn) (i : Int) : S.counts.getD i.toNat 0 = S.ct i := rfl
theorem fold_gn (S : Arn) (i : Int) : S.gen.getD i.toNat 0 = S.gn i := rfl
noncomputable def aFree : Ann C0 := { Γ := [(72, frameT [] tSlFree)] }
def tFree : Tfm C0 := fun args H K => match args with
  | [.at (.ptr 0 0)] => arM H fun S => exW S ∧ K (.one (.at (vI S.free))) (chS S) []
  | _ => False
noncomputable def aCap : Ann C0 := { Γ := [(83, frameT [] tSlCap)] }
def tCap : Tfm C0 := fun args H K => match args with
  | [.at (.ptr 0 0)] => arM H fun S => exW S ∧ K (.one (.at (vI S.cap))) (chS S) []
  | _ => False
def tReads : Tfm C0 := fun args H K => match args with
  | [.at (.ptr 0 0)] => arM H fun S => K (.one (.at (vU64 S.reads))) (chS S) []
  | _ => False
noncomputable def aAlc : Ann C0 := { Γ := [(75, frameT [] tSlAllocated)] }
def tNode : Tfm C0 := fun args H K => match args with
  | [.at (.ptr 0 0), .at (.val (.int .u32 i))] => arM H fun S => inU i ∧ exW S ∧ S.reads < 4000000000000000000 ∧ ∀ S', S' = rdS S (S.us i).toNat → K (.tup [nodeA (S.nd i), .at (vB (S.us i))]) (chS S') [0]
  | _ => False
def tSize : Tfm C0 := fun args H K => match args with
  | [.at (.ptr 0 0), .at (.val (.int .u32 i))] => arM H fun S => inU i ∧ exW S ∧ S.reads < 4000000000000000000 ∧ ∀ S', S' = rdS S (S.us i).toNat → K (.one (.at (vI (S.nd i).size))) (chS S') [0]
  | _ => False
def tCount : Tfm C0 := fun args H K => match args with
  | [.at (.ptr 0 0), .at (.val (.int .u32 i))] => arM H fun S => inU i ∧ exW S ∧ K (.one (.at (vI (if S.us i then S.ct i else 0)))) (chS S) []
  | _ => False
noncomputable def aGen : Ann C0 := { Γ := [(108, frameT [] tSlGen)] }
def tGen : Tfm C0 := fun args H K => match args with
  | [.at (.ptr 0 0), .at (.val (.int .u32 i))] => arM H fun S => inU i ∧ exW S ∧ K (.one (.at (vU (S.gn i)))) (chS S) []
  | _ => False
def tRetain : Tfm C0 := fun args H K => match args with
  | [.at (.ptr 0 0), .at (.val (.int .u32 i))] => arM H fun S => inU i ∧ exW S ∧ (i = 0 → K (.one (.at (vI 0))) (chS S) [3]) ∧ (i ≠ 0 → S.us i = false → K (.one (.at (vI 3))) (chS S) [3]) ∧ (S.us i = true → ∀ S', S' = retA S i → K (.one (.at (vI 0))) (chS S') [3])
  | _ => False
def newUs (c : Int) : List Bool := List.replicate (c.toNat + 1) false
def newGn (c : Int) : List Int := List.replicate (c.toNat + 1) 0
noncomputable def aSlNew : Ann C0 := { Γ := [] }
def tSlNew : Tfm C0 := fun args H K => match args, H with
  | [.at (.val (.int .i64 c))], [] => (c < 1 ∨ 65536 < c → K (.tup [.at (.val (.pointer none)), .at (vI 1)]) [] []) ∧ (1 ≤ c → c ≤ 65536 → ∀ (us : List Bool) (gn : List Int), us = newUs c → gn = newGn c → K (.tup [.at (.ptr 0 0), .at (vI 0)]) (slC us gn [] 0) [])
  | _, _ => False
noncomputable def aNew : Ann C0 := { Γ := [(74, frameT [] tSlNew)] }
def tNew : Tfm C0 := fun args H K => match args, H with
  | [.at (.val (.int .i64 c))], [] => (c < 1 ∨ 65536 < c → K (.tup [.at (.val (.pointer none)), .at (vI 1)]) [] []) ∧ (1 ≤ c → c ≤ 65536 → ∀ S, S = newS c.toNat → K (.tup [.at (.ptr 0 0), .at (vI 0)]) (chS S) [])
  | _, _ => False
theorem getD_false {l : List Bool} {i : Nat} (h : l.getD i false = true) : i < l.length := by
  rcases Nat.lt_or_ge i l.length with hh | hh
  · exact hh
  · rw [List.getD_eq_getElem?_getD, List.getElem?_eq_none hh] at h; cases h
theorem vc_free (S : Arn) (K : KT) (hw : exW S) (h : K (.one (.at (vI S.free))) (chS S) []) : vc C0 aFree Try.f22 [.at (.ptr 0 0)] (chS S) (normK 7 K) := by
  refine Eq.mp (show ((1 ≤ S.used.length) ∧
(S.used.length ≤ 65537) ∧
(S.rel.length ≤ 65537) ∧
(0 ≤ S.fresh) ∧
(S.fresh ≤ 65537) ∧
(K (SV.one (TV.at (At.val (Value.int IntKind.i64 ((↑S.rel.length : Int) + ((↑S.used.length : Int) - 1) - S.fresh))))) [(Chunk.box [(At.ptr 1 0), (At.slc 2), (At.slc 3), (At.val (Value.int IntKind.u64 (S.reads)))]), (Chunk.box [(At.slc 4), (At.slc 5), (At.slc 6), (At.val (Value.int IntKind.u32 (S.fresh)))]), (Chunk.row true (EC.node) (S.nodes)), (Chunk.row true (EC.int) (S.counts)), (Chunk.row true (EC.bool) (S.used)), (Chunk.row true (EC.u32) (S.gen)), (Chunk.row true (EC.u32) (S.rel))] [])) = _ by kernel_rfl) ?_
  obtain ⟨hs, hw⟩ := hw
  have h1 := hw.n1; have h2 := hw.n2; have h3 := hw.fr; have h4 := hw.free_nonneg
  exact ⟨by omega, by omega, by omega, by omega, by omega, h⟩
theorem s_free : SoundT C0 22 tFree := by
  refine .of Try.func22 (by decide) rfl fun args H K h hB => ?_
  unfold tFree at h
  split at h <;> try exact h.elim
  unfold arM at h
  split at h <;> try exact h.elim
  rename_i rd fr nd ct us gn rl
  exact ⟨aFree, ⟨frame C0.ok s_slFree _, trivial⟩, vc_free ⟨us, gn, rl, fr, nd, ct, rd⟩ K h.1 h.2⟩
theorem vc_cap (S : Arn) (K : KT) (hw : exW S) (h : K (.one (.at (vI S.cap))) (chS S) []) : vc C0 aCap Try.f33 [.at (.ptr 0 0)] (chS S) (normK 7 K) := by
  refine Eq.mp (show ((1 ≤ S.used.length) ∧
(S.used.length ≤ 65537) ∧
(K (SV.one (TV.at (At.val (Value.int IntKind.i64 ((↑S.used.length : Int) - 1))))) [(Chunk.box [(At.ptr 1 0), (At.slc 2), (At.slc 3), (At.val (Value.int IntKind.u64 (S.reads)))]), (Chunk.box [(At.slc 4), (At.slc 5), (At.slc 6), (At.val (Value.int IntKind.u32 (S.fresh)))]), (Chunk.row true (EC.node) (S.nodes)), (Chunk.row true (EC.int) (S.counts)), (Chunk.row true (EC.bool) (S.used)), (Chunk.row true (EC.u32) (S.gen)), (Chunk.row true (EC.u32) (S.rel))] [])) = _ by kernel_rfl) ?_
  obtain ⟨hs, hw⟩ := hw
  have h1 := hw.n1; have h2 := hw.n2
  exact ⟨by omega, by omega, h⟩
theorem s_cap : SoundT C0 33 tCap := by
  refine .of Try.func33 (by decide) rfl fun args H K h hB => ?_
  unfold tCap at h
  split at h <;> try exact h.elim
  unfold arM at h
  split at h <;> try exact h.elim
  rename_i rd fr nd ct us gn rl
  exact ⟨aCap, ⟨frame C0.ok s_slCap _, trivial⟩, vc_cap ⟨us, gn, rl, fr, nd, ct, rd⟩ K h.1 h.2⟩
theorem vc_rds (S : Arn) (K : KT) (h : K (.one (.at (vU64 S.reads))) (chS S) []) : vc C0 A0 Try.f19 [.at (.ptr 0 0)] (chS S) (normK 7 K) :=
  Eq.mp (show (K (SV.one (TV.at (At.val (Value.int IntKind.u64 (S.reads))))) [(Chunk.box [(At.ptr 1 0), (At.slc 2), (At.slc 3), (At.val (Value.int IntKind.u64 (S.reads)))]), (Chunk.box [(At.slc 4), (At.slc 5), (At.slc 6), (At.val (Value.int IntKind.u32 (S.fresh)))]), (Chunk.row true (EC.node) (S.nodes)), (Chunk.row true (EC.int) (S.counts)), (Chunk.row true (EC.bool) (S.used)), (Chunk.row true (EC.u32) (S.gen)), (Chunk.row true (EC.u32) (S.rel))] []) = _ by kernel_rfl) h
theorem s_rds : SoundT C0 19 tReads := by
  refine .of Try.func19 (by decide) rfl fun args H K h hB => ?_
  unfold tReads at h
  split at h <;> try exact h.elim
  unfold arM at h
  split at h <;> try exact h.elim
  rename_i rd fr nd ct us gn rl
  exact ⟨A0, trivial, vc_rds ⟨us, gn, rl, fr, nd, ct, rd⟩ K h⟩
theorem wrap_u64 {x : Int} (h1 : 0 ≤ x) (h2 : x < 18446744073709551616) : IntKind.u64.wrap x = x := by
  unfold IntKind.wrap
  simp [IntKind.signed, IntKind.bits]
  omega
theorem vc_node (S : Arn) (i : Int) (K : KT) (hi : inU i) (hw : exW S) (hr : S.reads < 4000000000000000000) (h : ∀ S', S' = rdS S (S.us i).toNat → K (.tup [nodeA (S.nd i), .at (vB (S.us i))]) (chS S') [0]) :
    vc C0 aAlc Try.f49 [.at (.ptr 0 0), .at (vU i)] (chS S) (normK 7 (wideK [0] K)) := by
  refine Eq.mp (show ((0 ≤ i) ∧
(i < 4294967296) ∧
(S.used.length ≤ 65537) ∧
(brS (!S.us i) ((K (SV.tup [(TV.agg [(At.val (Value.int IntKind.i64 0)), (At.val (Value.int IntKind.i64 0)), (At.val (Value.int IntKind.u32 0)), (At.val (Value.int IntKind.u32 0)), (At.val (Value.int IntKind.i64 0)), (At.val (Value.int IntKind.i64 0)), (At.val (Value.int IntKind.i64 0)), (At.val (Value.int IntKind.i64 0))]), (TV.at (At.val (Value.bool false)))]) [(Chunk.box [(At.ptr 1 0), (At.slc 2), (At.slc 3), (At.val (Value.int IntKind.u64 (S.reads)))]), (Chunk.box [(At.slc 4), (At.slc 5), (At.slc 6), (At.val (Value.int IntKind.u32 (S.fresh)))]), (Chunk.row true (EC.node) (S.nodes)), (Chunk.row true (EC.int) (S.counts)), (Chunk.row true (EC.bool) (S.used)), (Chunk.row true (EC.u32) (S.gen)), (Chunk.row true (EC.u32) (S.rel))] [0])) (((0 ≤ i) ∧ (i < (↑S.nodes.length : Int)) ∧
    (K (SV.tup [(TV.agg [(At.val (Value.int IntKind.i64 ((S.nd i).key))), (At.val (Value.int IntKind.i64 ((S.nd i).value))), (At.val (Value.int IntKind.u32 ((S.nd i).left))), (At.val (Value.int IntKind.u32 ((S.nd i).right))), (At.val (Value.int IntKind.i64 ((S.nd i).size))), (At.val (Value.int IntKind.i64 ((S.nd i).sum))), (At.val (Value.int IntKind.i64 ((S.nd i).min))), (At.val (Value.int IntKind.i64 ((S.nd i).max)))]), (TV.at (At.val (Value.bool true)))]) [(Chunk.box [(At.ptr 1 0), (At.slc 2), (At.slc 3), (At.val (Value.int IntKind.u64 (IntKind.u64.wrap (S.reads + 1))))]), (Chunk.box [(At.slc 4), (At.slc 5), (At.slc 6), (At.val (Value.int IntKind.u32 (S.fresh)))]), (Chunk.row true (EC.node) (S.nodes)), (Chunk.row true (EC.int) (S.counts)), (Chunk.row true (EC.bool) (S.used)), (Chunk.row true (EC.u32) (S.gen)), (Chunk.row true (EC.u32) (S.rel))] [0]))))) = _ by kernel_rfl) ?_
  obtain ⟨hs, hw⟩ := hw
  have h2 := hw.n2; have h3 := hw.nnod; have h4 := hw.rds
  rw [wrap_u64 (by omega) (by omega)]
  refine ⟨hi.1, hi.2, by omega, brS_of (fun c => ?_) fun c => ?_⟩
  · have c : S.us i = false := by simpa using c
    have h5 := h _ rfl
    rw [hw.zero i c, c] at h5
    have e : rdS S (false.toNat) = S := by simp [rdS]
    rw [e] at h5
    exact h5
  · have c : S.us i = true := by simpa using c
    have hp := hw.pos c
    have h5 := h _ rfl
    rw [c] at h5
    exact ⟨hi.1, by omega, h5⟩
theorem s_node : SoundT C0 49 tNode := by
  refine .ofW [0] Try.func49 (by decide) rfl fun args H K h hB => ?_
  unfold tNode at h
  split at h <;> try exact h.elim
  unfold arM at h
  split at h <;> try exact h.elim
  rename_i i _ rd fr nd ct us gn rl
  exact ⟨aAlc, ⟨frame C0.ok s_slAllocated _, trivial⟩, vc_node ⟨us, gn, rl, fr, nd, ct, rd⟩ i K h.1 h.2.1 h.2.2.1 h.2.2.2⟩
theorem vc_size (S : Arn) (i : Int) (K : KT) (hi : inU i) (hw : exW S) (hr : S.reads < 4000000000000000000) (h : ∀ S', S' = rdS S (S.us i).toNat → K (.one (.at (vI (S.nd i).size))) (chS S') [0]) :
    vc C0 aAlc Try.f61 [.at (.ptr 0 0), .at (vU i)] (chS S) (normK 7 (wideK [0] K)) := by
  refine Eq.mp (show ((0 ≤ i) ∧
(i < 4294967296) ∧
(S.used.length ≤ 65537) ∧
(brS (!S.us i) ((K (SV.one (TV.at (At.val (Value.int IntKind.i64 0)))) [(Chunk.box [(At.ptr 1 0), (At.slc 2), (At.slc 3), (At.val (Value.int IntKind.u64 (S.reads)))]), (Chunk.box [(At.slc 4), (At.slc 5), (At.slc 6), (At.val (Value.int IntKind.u32 (S.fresh)))]), (Chunk.row true (EC.node) (S.nodes)), (Chunk.row true (EC.int) (S.counts)), (Chunk.row true (EC.bool) (S.used)), (Chunk.row true (EC.u32) (S.gen)), (Chunk.row true (EC.u32) (S.rel))] [0])) (((0 ≤ i) ∧ (i < (↑S.nodes.length : Int)) ∧ (K (SV.one (TV.at (At.val (Value.int IntKind.i64 ((S.nd i).size))))) [(Chunk.box [(At.ptr 1 0), (At.slc 2), (At.slc 3), (At.val (Value.int IntKind.u64 (IntKind.u64.wrap (S.reads + 1))))]), (Chunk.box [(At.slc 4), (At.slc 5), (At.slc 6), (At.val (Value.int IntKind.u32 (S.fresh)))]), (Chunk.row true (EC.node) (S.nodes)), (Chunk.row true (EC.int) (S.counts)), (Chunk.row true (EC.bool) (S.used)), (Chunk.row true (EC.u32) (S.gen)), (Chunk.row true (EC.u32) (S.rel))] [0]))))) = _ by kernel_rfl) ?_
  obtain ⟨hs, hw⟩ := hw
  have h2 := hw.n2; have h3 := hw.nnod; have h4 := hw.rds
  rw [wrap_u64 (by omega) (by omega)]
  refine ⟨hi.1, hi.2, by omega, brS_of (fun c => ?_) fun c => ?_⟩
  · have c : S.us i = false := by simpa using c
    have h5 := h _ rfl
    rw [hw.zero i c, c] at h5
    have e : rdS S (false.toNat) = S := by simp [rdS]
    rw [e] at h5
    exact h5
  · have c : S.us i = true := by simpa using c
    have hp := hw.pos c
    have h5 := h _ rfl
    rw [c] at h5
    exact ⟨hi.1, by omega, h5⟩
theorem s_size : SoundT C0 61 tSize := by
  refine .ofW [0] Try.func61 (by decide) rfl fun args H K h hB => ?_
  unfold tSize at h
  split at h <;> try exact h.elim
  unfold arM at h
  split at h <;> try exact h.elim
  rename_i i _ rd fr nd ct us gn rl
  exact ⟨aAlc, ⟨frame C0.ok s_slAllocated _, trivial⟩, vc_size ⟨us, gn, rl, fr, nd, ct, rd⟩ i K h.1 h.2.1 h.2.2.1 h.2.2.2⟩
theorem vc_count (S : Arn) (i : Int) (K : KT) (hi : inU i) (hw : exW S) (h : K (.one (.at (vI (if S.us i then S.ct i else 0)))) (chS S) []) :
    vc C0 aAlc Try.f78 [.at (.ptr 0 0), .at (vU i)] (chS S) (normK 7 K) := by
  refine Eq.mp (show ((0 ≤ i) ∧
(i < 4294967296) ∧
(S.used.length ≤ 65537) ∧
(brS (!S.us i) ((K (SV.one (TV.at (At.val (Value.int IntKind.i64 0)))) [(Chunk.box [(At.ptr 1 0), (At.slc 2), (At.slc 3), (At.val (Value.int IntKind.u64 (S.reads)))]), (Chunk.box [(At.slc 4), (At.slc 5), (At.slc 6), (At.val (Value.int IntKind.u32 (S.fresh)))]), (Chunk.row true (EC.node) (S.nodes)), (Chunk.row true (EC.int) (S.counts)), (Chunk.row true (EC.bool) (S.used)), (Chunk.row true (EC.u32) (S.gen)), (Chunk.row true (EC.u32) (S.rel))] [])) (((0 ≤ i) ∧ (i < (↑S.counts.length : Int)) ∧ (K (SV.one (TV.at (At.val (Value.int IntKind.i64 (S.ct i))))) [(Chunk.box [(At.ptr 1 0), (At.slc 2), (At.slc 3), (At.val (Value.int IntKind.u64 (S.reads)))]), (Chunk.box [(At.slc 4), (At.slc 5), (At.slc 6), (At.val (Value.int IntKind.u32 (S.fresh)))]), (Chunk.row true (EC.node) (S.nodes)), (Chunk.row true (EC.int) (S.counts)), (Chunk.row true (EC.bool) (S.used)), (Chunk.row true (EC.u32) (S.gen)), (Chunk.row true (EC.u32) (S.rel))] []))))) = _ by kernel_rfl) ?_
  obtain ⟨hs, hw⟩ := hw
  have h2 := hw.n2; have h3 := hw.ncnt
  refine ⟨hi.1, hi.2, by omega, brS_of (fun c => ?_) fun c => ?_⟩
  · have c : S.us i = false := by simpa using c
    rw [c] at h
    exact h
  · have c : S.us i = true := by simpa using c
    have hp := hw.pos c
    rw [c] at h
    exact ⟨hi.1, by omega, h⟩
theorem s_count : SoundT C0 78 tCount := by
  refine .of Try.func78 (by decide) rfl fun args H K h hB => ?_
  unfold tCount at h
  split at h <;> try exact h.elim
  unfold arM at h
  split at h <;> try exact h.elim
  rename_i i _ rd fr nd ct us gn rl
  exact ⟨aAlc, ⟨frame C0.ok s_slAllocated _, trivial⟩, vc_count ⟨us, gn, rl, fr, nd, ct, rd⟩ i K h.1 h.2.1 h.2.2⟩
theorem vc_gen (S : Arn) (i : Int) (K : KT) (hi : inU i) (hw : exW S) (h : K (.one (.at (vU (S.gn i)))) (chS S) []) :
    vc C0 aGen Try.f79 [.at (.ptr 0 0), .at (vU i)] (chS S) (normK 7 K) := by
  refine Eq.mp (show ((0 ≤ i) ∧
(i < 4294967296) ∧
(S.gen.length ≤ 65537) ∧
(K (SV.one (TV.at (At.val (Value.int IntKind.u32 (S.gn i))))) [(Chunk.box [(At.ptr 1 0), (At.slc 2), (At.slc 3), (At.val (Value.int IntKind.u64 (S.reads)))]), (Chunk.box [(At.slc 4), (At.slc 5), (At.slc 6), (At.val (Value.int IntKind.u32 (S.fresh)))]), (Chunk.row true (EC.node) (S.nodes)), (Chunk.row true (EC.int) (S.counts)), (Chunk.row true (EC.bool) (S.used)), (Chunk.row true (EC.u32) (S.gen)), (Chunk.row true (EC.u32) (S.rel))] [])) = _ by kernel_rfl) ?_
  obtain ⟨hs, hw⟩ := hw
  have h2 := hw.n2; have h3 := hw.ngen
  exact ⟨hi.1, hi.2, by omega, h⟩
theorem s_gen : SoundT C0 79 tGen := by
  refine .of Try.func79 (by decide) rfl fun args H K h hB => ?_
  unfold tGen at h
  split at h <;> try exact h.elim
  unfold arM at h
  split at h <;> try exact h.elim
  rename_i i _ rd fr nd ct us gn rl
  exact ⟨aGen, ⟨frame C0.ok s_slGen _, trivial⟩, vc_gen ⟨us, gn, rl, fr, nd, ct, rd⟩ i K h.1 h.2.1 h.2.2⟩
theorem vc_retain (S : Arn) (i : Int) (K : KT) (hi : inU i) (hw : exW S) (h0 : i = 0 → K (.one (.at (vI 0))) (chS S) [3]) (h1 : i ≠ 0 → S.us i = false → K (.one (.at (vI 3))) (chS S) [3]) (h : S.us i = true → ∀ S', S' = retA S i → K (.one (.at (vI 0))) (chS S') [3]) :
    vc C0 aAlc Try.f105 [.at (.ptr 0 0), .at (vU i)] (chS S) (normK 7 (wideK [3] K)) := by
  refine Eq.mp (show (brS (i == 0) ((K (SV.one (TV.at (At.val (Value.int IntKind.i64 0)))) [(Chunk.box [(At.ptr 1 0), (At.slc 2), (At.slc 3), (At.val (Value.int IntKind.u64 (S.reads)))]), (Chunk.box [(At.slc 4), (At.slc 5), (At.slc 6), (At.val (Value.int IntKind.u32 (S.fresh)))]), (Chunk.row true (EC.node) (S.nodes)), (Chunk.row true (EC.int) (S.counts)), (Chunk.row true (EC.bool) (S.used)), (Chunk.row true (EC.u32) (S.gen)), (Chunk.row true (EC.u32) (S.rel))] [3])) (((0 ≤ i) ∧ (i < 4294967296) ∧ (S.used.length ≤ 65537) ∧ (brS (!S.us i) ((K (SV.one (TV.at (At.val (Value.int IntKind.i64 3)))) [(Chunk.box [(At.ptr 1 0), (At.slc 2), (At.slc 3), (At.val (Value.int IntKind.u64 (S.reads)))]), (Chunk.box [(At.slc 4), (At.slc 5), (At.slc 6), (At.val (Value.int IntKind.u32 (S.fresh)))]), (Chunk.row true (EC.node) (S.nodes)), (Chunk.row true (EC.int) (S.counts)), (Chunk.row true (EC.bool) (S.used)), (Chunk.row true (EC.u32) (S.gen)), (Chunk.row true (EC.u32) (S.rel))] [3])) (((0 ≤ i) ∧ (i < (↑S.counts.length : Int)) ∧ (0 ≤ i) ∧ (i < (↑S.counts.length : Int)) ∧
    (K (SV.one (TV.at (At.val (Value.int IntKind.i64 0)))) [(Chunk.box [(At.ptr 1 0), (At.slc 2), (At.slc 3), (At.val (Value.int IntKind.u64 (S.reads)))]), (Chunk.box [(At.slc 4), (At.slc 5), (At.slc 6), (At.val (Value.int IntKind.u32 (S.fresh)))]), (Chunk.row true (EC.node) (S.nodes)), (Chunk.row true (EC.int) (S.counts.set i.toNat (IntKind.i64.wrap (S.ct i + 1)))), (Chunk.row true (EC.bool) (S.used)), (Chunk.row true (EC.u32) (S.gen)), (Chunk.row true (EC.u32) (S.rel))] [3]))))))) = _ by kernel_rfl) ?_
  obtain ⟨hs, hw⟩ := hw
  have h2 := hw.n2; have h3 := hw.ncnt
  refine brS_of (fun c => h0 (by simpa using c)) fun c => ⟨hi.1, hi.2, by omega, brS_of (fun d => ?_) fun d => ?_⟩
  · exact h1 (by simpa using c) (by simpa using d)
  · have d : S.us i = true := by simpa using d
    have hp := hw.pos d
    exact ⟨hi.1, by omega, hi.1, by omega, h d _ rfl⟩
theorem s_retain : SoundT C0 105 tRetain := by
  refine .ofW [3] Try.func105 (by decide) rfl fun args H K h hB => ?_
  unfold tRetain at h
  split at h <;> try exact h.elim
  unfold arM at h
  split at h <;> try exact h.elim
  rename_i i _ rd fr nd ct us gn rl
  exact ⟨aAlc, ⟨frame C0.ok s_slAllocated _, trivial⟩, vc_retain ⟨us, gn, rl, fr, nd, ct, rd⟩ i K h.1 h.2.1 h.2.2.1 h.2.2.2.1 h.2.2.2.2⟩
theorem vc_slNew (c : Int) (K : KT) (hb : c < 1 ∨ 65536 < c → K (.tup [.at (.val (.pointer none)), .at (vI 1)]) [] []) (h : 1 ≤ c → c ≤ 65536 → ∀ (us : List Bool) (gn : List Int), us = newUs c → gn = newGn c → K (.tup [.at (.ptr 0 0), .at (vI 0)]) (slC us gn [] 0) []) :
    vc C0 aSlNew Try.f74 [.at (vI c)] [] (normK 0 K) := by
  refine Eq.mp (show (brS (decide (c < 1)) ((K (SV.tup [(TV.at (At.val (Value.pointer none))), (TV.at (At.val (Value.int IntKind.i64 1)))]) [] [])) ((brS (decide (c > 65536)) ((K (SV.tup [(TV.at (At.val (Value.pointer none))), (TV.at (At.val (Value.int IntKind.i64 1)))]) [] [])) ((((0 ≤ IntKind.i64.wrap (c + 1)) ∧ (IntKind.i64.wrap (c + 1) ≤ IntKind.i64.wrap (c + 1)) ∧ (IntKind.i64.wrap (c + 1) * (↑(bytesOf C0 EC.bool) : Int) ≤ 140737488355328) ∧ (0 ≤ IntKind.i64.wrap (c + 1)) ∧ (IntKind.i64.wrap (c + 1) ≤ IntKind.i64.wrap (c + 1)) ∧ (IntKind.i64.wrap (c + 1) * (↑(bytesOf C0 EC.u32) : Int) ≤ 140737488355328) ∧ (K (SV.tup [(TV.at (At.ptr 0 0)), (TV.at (At.val (Value.int IntKind.i64 0)))]) [(Chunk.box [(At.slc 1), (At.slc 2), (At.slc 3), (At.val (Value.int IntKind.u32 0))]), (Chunk.row true (EC.bool) (List.replicate (IntKind.i64.wrap (c + 1)).toNat false)), (Chunk.row true (EC.u32) (List.replicate (IntKind.i64.wrap (c + 1)).toNat (0 : Int))), (Chunk.row true (EC.u32) [])] [])) ∧ (0 ≤ IntKind.i64.wrap (c + 1)) ∧ (IntKind.i64.wrap (c + 1) ≤ IntKind.i64.wrap (c + 1)) ∧ (IntKind.i64.wrap (c + 1) * (↑(bytesOf C0 EC.u32) : Int) ≤ 140737488355328) ∧ (0 ≤ IntKind.i64.wrap (c + 1)) ∧ (IntKind.i64.wrap (c + 1) ≤ IntKind.i64.wrap (c + 1)) ∧ (IntKind.i64.wrap (c + 1) * (↑(bytesOf C0 EC.bool) : Int) ≤ 140737488355328) ∧
    (K (SV.tup [(TV.at (At.ptr 0 0)), (TV.at (At.val (Value.int IntKind.i64 0)))]) [(Chunk.box [(At.slc 1), (At.slc 2), (At.slc 3), (At.val (Value.int IntKind.u32 0))]), (Chunk.row true (EC.bool) (List.replicate (IntKind.i64.wrap (c + 1)).toNat false)), (Chunk.row true (EC.u32) (List.replicate (IntKind.i64.wrap (c + 1)).toNat (0 : Int))), (Chunk.row true (EC.u32) [])] [])))))) = _ by kernel_rfl) ?_
  simp only [bytes_bool, bytes_u32]
  refine brS_of (fun d => hb (.inl (by simpa using d))) fun d => brS_of (fun e => hb (.inr (by simpa using e))) fun e => ?_
  have d : 1 ≤ c := by simp at d; omega
  have e : c ≤ 65536 := by simp at e; omega
  have h := h d e _ _ rfl rfl
  unfold newUs newGn at h
  rw [wrap_id (x := c + 1) (by omega) (by omega), show (c + 1).toNat = c.toNat + 1 by omega]
  exact ⟨⟨by omega, by omega, by omega, by omega, by omega, by omega, h⟩, by omega, by omega, by omega, by omega, by omega, by omega, h⟩
theorem s_slNew : SoundT C0 74 tSlNew := by
  refine .of Try.func74 (by decide) rfl fun args H K h hB => ?_
  unfold tSlNew at h
  split at h <;> try exact h.elim
  rename_i c
  exact ⟨aSlNew, trivial, vc_slNew c K h.1 h.2⟩
theorem vc_new (c : Int) (K : KT) (hb : c < 1 ∨ 65536 < c → K (.tup [.at (.val (.pointer none)), .at (vI 1)]) [] []) (h : 1 ≤ c → c ≤ 65536 → ∀ S, S = newS c.toNat → K (.tup [.at (.ptr 0 0), .at (vI 0)]) (chS S) []) :
    vc C0 aNew Try.f25 [.at (vI c)] [] (normK 0 K) := by
  refine Eq.mp (show (((c < 1 ∨ 65536 < c) →
(K (SV.tup [(TV.at (At.val (Value.pointer none))), (TV.at (At.val (Value.int IntKind.i64 1)))]) [] [])) ∧
((1 ≤ c) →
((c ≤ 65536) →
(∀ us : List Bool, (∀ gn : List Int, (((us) = (newUs c)) → (((gn) = (newGn c)) → (((0 ≤ IntKind.i64.wrap (c + 1)) ∧ (IntKind.i64.wrap (c + 1) ≤ IntKind.i64.wrap (c + 1)) ∧ (IntKind.i64.wrap (c + 1) * (↑(bytesOf C0 EC.node) : Int) ≤ 140737488355328) ∧ (0 ≤ IntKind.i64.wrap (c + 1)) ∧ (IntKind.i64.wrap (c + 1) ≤ IntKind.i64.wrap (c + 1)) ∧ (IntKind.i64.wrap (c + 1) * (↑(bytesOf C0 EC.int) : Int) ≤ 140737488355328) ∧ (K (SV.tup [(TV.at (At.ptr 0 0)), (TV.at (At.val (Value.int IntKind.i64 0)))]) [(Chunk.box [(At.ptr 1 0), (At.slc 2), (At.slc 3), (At.val (Value.int IntKind.u64 0))]), (Chunk.box [(At.slc 4), (At.slc 5), (At.slc 6), (At.val (Value.int IntKind.u32 0))]), (Chunk.row true (EC.node) (List.replicate (IntKind.i64.wrap (c + 1)).toNat { key := 0, value := 0, left := 0, right := 0, size := 0, sum := 0, min := 0, max := 0 : NodeT })), (Chunk.row true (EC.int) (List.replicate (IntKind.i64.wrap (c + 1)).toNat (0 : Int))), (Chunk.row true (EC.bool) (us)), (Chunk.row true (EC.u32) (gn)), (Chunk.row true (EC.u32) [])] [])) ∧ (0 ≤ IntKind.i64.wrap (c + 1)) ∧ (IntKind.i64.wrap (c + 1) ≤ IntKind.i64.wrap (c + 1)) ∧ (IntKind.i64.wrap (c + 1) * (↑(bytesOf C0 EC.int) : Int) ≤ 140737488355328) ∧ (0 ≤ IntKind.i64.wrap (c + 1)) ∧ (IntKind.i64.wrap (c + 1) ≤ IntKind.i64.wrap (c + 1)) ∧
    (IntKind.i64.wrap (c + 1) * (↑(bytesOf C0 EC.node) : Int) ≤ 140737488355328) ∧ (K (SV.tup [(TV.at (At.ptr 0 0)), (TV.at (At.val (Value.int IntKind.i64 0)))]) [(Chunk.box [(At.ptr 1 0), (At.slc 2), (At.slc 3), (At.val (Value.int IntKind.u64 0))]), (Chunk.box [(At.slc 4), (At.slc 5), (At.slc 6), (At.val (Value.int IntKind.u32 0))]), (Chunk.row true (EC.node) (List.replicate (IntKind.i64.wrap (c + 1)).toNat { key := 0, value := 0, left := 0, right := 0, size := 0, sum := 0, min := 0, max := 0 : NodeT })), (Chunk.row true (EC.int) (List.replicate (IntKind.i64.wrap (c + 1)).toNat (0 : Int))), (Chunk.row true (EC.bool) (us)), (Chunk.row true (EC.u32) (gn)), (Chunk.row true (EC.u32) [])] []))))))))) = _ by kernel_rfl) ?_
  simp only [bytes_node, bytes_int]
  refine ⟨hb, fun d e us gn hu hg => ?_⟩
  have h := h d e _ rfl
  subst hu hg
  unfold newUs newGn
  rw [wrap_id (x := c + 1) (by omega) (by omega), show (c + 1).toNat = c.toNat + 1 by omega]
  exact ⟨⟨by omega, by omega, by omega, by omega, by omega, by omega, h⟩, by omega, by omega, by omega, by omega, by omega, by omega, h⟩
theorem s_new : SoundT C0 25 tNew := by
  refine .of Try.func25 (by decide) rfl fun args H K h hB => ?_
  unfold tNew at h
  split at h <;> try exact h.elim
  rename_i c
  exact ⟨aNew, ⟨frame C0.ok s_slNew _, trivial⟩, vc_new c K h.1 h.2⟩
end Go.Proofs.Ytjbkckcjmmmooaa.Sx
end
section
/- Plain laws of patches: what is carried through the loop of a check. No program in sight. -/
namespace Go.Proofs.Ytjbkckcjmmmooaa.Sx
open Go

def cA (p : List Chg) (n : Nat) : Chg := p.getD n ⟨0, 0, 0, 0⟩
def eA (p : List Ent) (n : Nat) : Ent := p.getD n (0, 0)
theorem cA_get {p : List Chg} {n : Nat} (h : n < p.length) : p[n]? = some (cA p n) := by simp [cA, List.getD_eq_getElem?_getD, List.getElem?_eq_getElem h]
theorem eA_get {p : List Ent} {n : Nat} (h : n < p.length) : p[n]? = some (eA p n) := by simp [eA, List.getD_eq_getElem?_getD, List.getElem?_eq_getElem h]
theorem drop_cons {α : Type} {l : List α} {n : Nat} {x : α} (h : l[n]? = some x) : l.drop n = x :: l.drop (n + 1) := by
  obtain ⟨h1, h2⟩ := List.getElem?_eq_some_iff.1 h
  rw [List.drop_eq_getElem_cons h1, h2]
theorem take_snoc {α : Type} {l : List α} {n : Nat} {x : α} (h : l[n]? = some x) : l.take (n + 1) = l.take n ++ [x] := by
  rw [List.take_add_one, h]; rfl

def prevK (p : List Chg) : Nat → Option Int
  | 0 => none
  | k + 1 => (p[k]?).map Chg.key
/-- The key is not greater than the one before. -/
def lowB (p : List Chg) (k : Nat) (ky : Int) : Bool := match prevK p k with
  | none => false
  | some q => decide (ky ≤ q)
theorem lowB_zero (p : List Chg) (ky : Int) : lowB p 0 ky = false := rfl
theorem lowB_succ {p : List Chg} {k : Nat} {x : Chg} (h : p[k]? = some x) (ky : Int) : lowB p (k + 1) ky = decide (ky ≤ x.key) := by simp [lowB, prevK, h]
theorem valGo_step {p : List Chg} {k : Nat} {c : Chg} (hx : p[k]? = some c) :
    valGo (prevK p k) (p.drop k) = (!lowB p k c.key && decide c.ok && valGo (prevK p (k + 1)) (p.drop (k + 1))) := by
  rw [drop_cons hx, show prevK p (k + 1) = some c.key by simp [prevK, hx]]
  simp only [valGo, lowB]
  congr 2
  cases prevK p k with
  | none => rfl
  | some q => by_cases h : q < c.key
              · simp [h, show ¬ c.key ≤ q by omega]
              · simp [h, show c.key ≤ q by omega]

/-- What 'change' answers of a change's own values. -/
def CmpR (c d : Chg) (ok : Bool) : Prop := ok = (mkChg c.key c.before c.after).isSome ∧ ∀ e, mkChg c.key c.before c.after = some e → d = e
theorem CmpR.ok {c d : Chg} {ok : Bool} (h : CmpR c d ok) : decide c.ok = (ok && decide (d = c)) := by
  obtain ⟨h1, h2⟩ := h
  cases hm : mkChg c.key c.before c.after with
  | none => rw [hm] at h1; subst h1; simp [Chg.ok, hm]
  | some e => rw [hm] at h1; subst h1; simp [Chg.ok, hm, h2 e hm]
theorem chg_eqB (c d : Chg) : (d.kind == c.kind && (d.key == c.key && (d.old == c.old && (d.new == c.new && true)))) = decide (d = c) := by
  cases c; cases d; simp [Bool.decide_and]; rfl
end Go.Proofs.Ytjbkckcjmmmooaa.Sx
end
section
/- The arena's Make and Release. -/
namespace Go.Proofs.Ytjbkckcjmmmooaa.Sx
open Go

structure XMk (S : Arn) (k v l r : Int) where
  i : Nat
  n : NodeT
  h : n = if i = 0 then addC S ⟨k, v, l, r, 1, v, v, v⟩ l else mkNode S k v l r
abbrev bxN (n : NodeT) : Chunk C0 := .box [vI n.key, vI n.value, vU n.left, vU n.right, vI n.size, vI n.sum, vI n.min, vI n.max]
noncomputable def aMake (S : Arn) (k v l r : Int) : Ann C0 := { rounds := fun n => if n = 3 then 3 else 0, Γ := [(75, frameT [] tSlAllocated), (126, frameT [] tSlAlloc)], inv := fun n => match n with
  | 1013 => some { X := XMk S k v l r, sl := [12], tf := fun _ => [.one (.at (.ptr 7 0))], hf := fun x => chS S ++ [bxN x.n], rel := fun T _ x => slotI T 29 x.i }
  | _ => none }
def tMake : Tfm C0 := fun args H K => match args with
  | [.at (.ptr 0 0), .at (.val (.int .i64 k)), .at (.val (.int .i64 v)), .at (.val (.int .u32 l)), .at (.val (.int .u32 r))] => arM H fun S => exW S ∧ live S l ∧ live S r ∧
    (maxSize < (mkNode S k v l r).size → K (.tup [.at (vU 0), .at (vI 1)]) (chS S) W7) ∧
    ((mkNode S k v l r).size ≤ maxSize → S.free = 0 → K (.tup [.at (vU 0), .at (vI 2)]) (chS S) W7) ∧
    ((mkNode S k v l r).size ≤ maxSize → 0 < S.free → ∀ S' i, S' = makeS S k v l r → i = nxt S → K (.tup [.at (vU i), .at (vI 0)]) (chS S') W7)
  | _ => False
structure XRel (S : Arn) (hs : List Int) (i : Int) where
  S' : Arn
  work : List Int
  freed : Int
  h : Wf S' (work ++ hs) ∧ Kept S S' ∧ 0 ≤ freed ∧ freed + S'.nu = S.nu ∧ (∀ w ∈ work, S'.us w = true) ∧ (1 < S.ct i → (work = [i] ∧ S' = S) ∨ (work = [] ∧ S' = decS S i))
structure XRelK (S : Arn) (hs : List Int) (i : Int) where
  S' : Arn
  rest : List Int
  k : Int
  freed : Int
  h : Wf S' ((rest ++ [k]) ++ hs) ∧ Kept S S' ∧ 0 ≤ freed ∧ freed + S'.nu = S.nu ∧ (∀ w ∈ rest ++ [k], S'.us w = true) ∧ (1 < S.ct i → rest = [] ∧ k = i ∧ S' = S)
noncomputable def aRelease (S : Arn) (hs : List Int) (i : Int) : Ann C0 := { trunc := fun n => n == 34, Γ := [(75, frameT [] tSlAllocated), (76, frameT [] tSlRelease)], inv := fun n => match n with
  | 7 => some { X := XRel S hs i, sl := [7, 6], tf := fun x => [.one (.at (.slc 7)), vi .i64 x.freed], hf := fun x => chS x.S' ++ [.row true EC.u32 x.work], μ := fun x => 2 * x.S'.nu + x.work.length, wr := W7 }
  | 1010 => some { X := XRelK S hs i, sl := [7, 8], tf := fun x => [.one (.at (.slc 7)), vi .u32 x.k], hf := fun x => chS x.S' ++ [.row true EC.u32 x.rest], wr := W7, rel := fun T _ x => slotI T 6 x.freed ∧ slotI T 22 (x.rest.length + 1) }
  | _ => none }
def tRelease : Tfm C0 := fun args H K => match args with
  | [.at (.ptr 0 0), .at (.val (.int .u32 i))] => arM H fun S => ∃ hs, Wf S (i :: hs) ∧ ∀ S' (fr : Int), Wf S' hs → Kept S S' → fr + S'.nu = S.nu → (1 < S.ct i → S.us i = true → S' = decS S i) → (S.us i = false → S' = S) → K (.tup [.at (vI fr), .at (vI 0)]) (chS S') W7
  | _ => False
theorem list_last {α : Type} {l : List α} {d : α} (h : 0 < l.length) : l.take (l.length - 1) ++ [l.getD (l.length - 1) d] = l := by
  have h1 : l[l.length - 1]? = some (l.getD (l.length - 1) d) := by
    have : l.length - 1 < l.length := by omega
    simp [List.getD_eq_getElem?_getD, List.getElem?_eq_getElem this]
  rw [← take_snoc h1, show l.length - 1 + 1 = l.length by omega, List.take_length]
theorem XRelK.freed' {S : Arn} {hs : List Int} {i : Int} (x : XRelK S hs i) (hc : x.S'.ct x.k = 1) :
    Wf (freeS x.S' x.k) ((x.rest ++ nz (x.S'.nd x.k).right ++ nz (x.S'.nd x.k).left) ++ hs) ∧ Kept S (freeS x.S' x.k) ∧ 0 ≤ x.freed + 1 ∧ (x.freed + 1) + (freeS x.S' x.k).nu = S.nu ∧
    (∀ w ∈ x.rest ++ nz (x.S'.nd x.k).right ++ nz (x.S'.nd x.k).left, (freeS x.S' x.k).us w = true) ∧ (1 < S.ct i → ((x.rest ++ nz (x.S'.nd x.k).right ++ nz (x.S'.nd x.k).left) = [i] ∧ freeS x.S' x.k = S) ∨ ((x.rest ++ nz (x.S'.nd x.k).right ++ nz (x.S'.nd x.k).left) = [] ∧ freeS x.S' x.k = decS S i)) := by
  obtain ⟨h1, h2, h3, h4, h5, h6⟩ := x.h
  have hk : x.S'.us x.k = true := h5 _ (by simp)
  have hw : Wf x.S' (x.k :: (x.rest ++ hs)) := h1.perm (by
    rw [List.append_assoc]
    exact List.perm_middle)
  obtain ⟨f1, f2, f3, f4⟩ := hw.freed hk hc
  have f1' : Wf (freeS x.S' x.k) ((x.rest ++ nz (x.S'.nd x.k).right ++ nz (x.S'.nd x.k).left) ++ hs) := f1.perm (by
    rw [List.append_assoc, List.append_assoc]
    exact ((List.perm_append_comm_assoc _ _ _).append_left _).trans (List.perm_append_comm_assoc _ _ _))
  refine ⟨f1', h2.trans (kept_free hw hk hc), by omega, by omega, fun w hm => ?_, fun hc1 => ?_⟩
  · refine (f1'.held w (List.mem_append_left _ hm)).resolve_left fun e => ?_
    subst e
    rcases List.mem_append.1 hm with hm | hm
    · rcases List.mem_append.1 hm with hm | hm
      · have := h5 0 (by simp [hm])
        rw [h1.us0 (Int.le_refl 0)] at this; cases this
      · unfold nz at hm; split at hm <;> simp at hm; omega
    · unfold nz at hm; split at hm <;> simp at hm; omega
  · obtain ⟨_, e2, e3⟩ := h6 hc1
    rw [e2, e3] at hc
    omega
theorem vc_release (S : Arn) (hs : List Int) (i : Int) (K : KT) (hw : Wf S (i :: hs)) (h : ∀ S' (fr : Int), Wf S' hs → Kept S S' → fr + S'.nu = S.nu → (1 < S.ct i → S.us i = true → S' = decS S i) → (S.us i = false → S' = S) → K (.tup [.at (vI fr), .at (vI 0)]) (chS S') W7) :
    vc C0 (aRelease S hs i) Try.f29 [.at (.ptr 0 0), .at (vU i)] (chS S) (normK 7 (wideK W7 K)) := by
  refine Eq.mp (show (brS (i == 0) ((K (SV.tup [(TV.at (At.val (Value.int IntKind.i64 0))), (TV.at (At.val (Value.int IntKind.i64 0)))]) [(Chunk.box [(At.ptr 1 0), (At.slc 2), (At.slc 3), (At.val (Value.int IntKind.u64 (S.reads)))]), (Chunk.box [(At.slc 4), (At.slc 5), (At.slc 6), (At.val (Value.int IntKind.u32 (S.fresh)))]), (Chunk.row true (EC.node) (S.nodes)), (Chunk.row true (EC.int) (S.counts)), (Chunk.row true (EC.bool) (S.used)), (Chunk.row true (EC.u32) (S.gen)), (Chunk.row true (EC.u32) (S.rel))] [0, 1, 2, 3, 4, 5, 6])) (((0 ≤ i) ∧ (i < 4294967296) ∧ (S.used.length ≤ 65537) ∧ (brS (!S.us i) ((K (SV.tup [(TV.at (At.val (Value.int IntKind.i64 0))), (TV.at (At.val (Value.int IntKind.i64 3)))]) [(Chunk.box [(At.ptr 1 0), (At.slc 2), (At.slc 3), (At.val (Value.int IntKind.u64 (S.reads)))]), (Chunk.box [(At.slc 4), (At.slc 5), (At.slc 6), (At.val (Value.int IntKind.u32 (S.fresh)))]), (Chunk.row true (EC.node) (S.nodes)), (Chunk.row true (EC.int) (S.counts)), (Chunk.row true (EC.bool) (S.used)), (Chunk.row true (EC.u32) (S.gen)), (Chunk.row true (EC.u32) (S.rel))] [0, 1, 2, 3, 4, 5, 6])) (((∃ x : XRel S hs i, (True ∧ (True ∧ ((Value.int IntKind.i64 0) = (Value.int IntKind.i64 (x.freed))) ∧ True ∧ True) ∧ (True ∧ True ∧ True ∧ ((Value.int IntKind.u64 (S.reads)) = (Value.int IntKind.u64 (x.S'.reads))) ∧ True) ∧ (True ∧ True ∧ True ∧ ((Value.int IntKind.u32 (S.fresh)) = (Value.int IntKind.u32 (x.S'.fresh))) ∧ True) ∧ ((S.nodes) = (x.S'.nodes)) ∧ ((S.counts) = (x.S'.counts)) ∧
    ((S.used) = (x.S'.used)) ∧ ((S.gen) = (x.S'.gen)) ∧ ((S.rel) = (x.S'.rel)) ∧ ([(i)] = (x.work)) ∧ True)) ∧ (∀ x : XRel S hs i, (True → (brS (decide ((↑x.work.length : Int) > 0)) (((0 ≤ IntKind.i64.wrap ((↑x.work.length : Int) - 1)) ∧ (IntKind.i64.wrap ((↑x.work.length : Int) - 1) < (↑x.work.length : Int)) ∧ ((0 ≤ IntKind.i64.wrap ((↑x.work.length : Int) - 1)) ∧ (IntKind.i64.wrap ((↑x.work.length : Int) - 1) ≤ (↑x.work.length : Int)) ∧ (∃ x1 : XRelK S hs i, ((((x.freed) = (x1.freed)) ∧ (((↑x.work.length : Int)) = ((↑x1.rest.length : Int) + 1))) ∧ (True ∧ ((Value.int IntKind.i64 (x.freed)) = (Value.int IntKind.i64 (x.freed))) ∧ True ∧ ((Value.int IntKind.u32 (x.work.getD (IntKind.i64.wrap ((↑x.work.length : Int) - 1)).toNat 0)) = (Value.int IntKind.u32 (x1.k))) ∧ True) ∧ (True ∧ True ∧ True ∧ ((Value.int IntKind.u64 (x.S'.reads)) = (Value.int IntKind.u64 (x1.S'.reads))) ∧ True) ∧ (True ∧ True ∧ True ∧ ((Value.int IntKind.u32 (x.S'.fresh)) = (Value.int IntKind.u32 (x1.S'.fresh))) ∧ True) ∧ ((x.S'.nodes) = (x1.S'.nodes)) ∧ ((x.S'.counts) = (x1.S'.counts)) ∧ ((x.S'.used) = (x1.S'.used)) ∧ ((x.S'.gen) = (x1.S'.gen)) ∧ ((x.S'.rel) = (x1.S'.rel)) ∧ ((List.take (IntKind.i64.wrap ((↑x.work.length : Int) - 1)).toNat x.work) = (x1.rest)) ∧ True))) ∧ (∀ x1 : XRelK S hs i, ((((x.freed) = (x1.freed)) ∧ (((↑x.work.length : Int)) = ((↑x1.rest.length : Int) + 1))) → ((0 ≤ x1.k) ∧ (x1.k < (↑x1.S'.counts.length : Int)) ∧ (0 ≤ x1.k) ∧ (x1.k < (↑x1.S'.counts.length : Int)) ∧ (0 ≤ x1.k) ∧
    (x1.k < (↑(x1.S'.counts.set x1.k.toNat (IntKind.i64.wrap (x1.S'.ct x1.k - 1))).length : Int)) ∧ (brS (decide ((x1.S'.counts.set x1.k.toNat (IntKind.i64.wrap (x1.S'.ct x1.k - 1))).getD x1.k.toNat 0 > 0)) ((∃ x' : XRel S hs i, (True ∧ ((True ∧ ((Value.int IntKind.i64 (x.freed)) = (Value.int IntKind.i64 (x'.freed))) ∧ True ∧ True) ∧ (True ∧ True ∧ True ∧ ((Value.int IntKind.u64 (x1.S'.reads)) = (Value.int IntKind.u64 (x'.S'.reads))) ∧ True) ∧ (True ∧ True ∧ True ∧ ((Value.int IntKind.u32 (x1.S'.fresh)) = (Value.int IntKind.u32 (x'.S'.fresh))) ∧ True) ∧ ((x1.S'.nodes) = (x'.S'.nodes)) ∧ ((x1.S'.counts.set x1.k.toNat (IntKind.i64.wrap (x1.S'.ct x1.k - 1))) = (x'.S'.counts)) ∧ ((x1.S'.used) = (x'.S'.used)) ∧ ((x1.S'.gen) = (x'.S'.gen)) ∧ ((x1.S'.rel) = (x'.S'.rel)) ∧ ((x1.rest) = (x'.work)) ∧ True) ∧ (2 * x'.S'.nu + x'.work.length < 2 * x.S'.nu + x.work.length)))) (((0 ≤ x1.k) ∧ (x1.k < (↑x1.S'.nodes.length : Int)) ∧ (0 ≤ x1.k) ∧ (x1.k < (↑x1.S'.nodes.length : Int)) ∧ (0 ≤ x1.k) ∧ (x1.k < 4294967296) ∧ (x1.S'.used.length ≤ 65537) ∧ (x1.S'.rel.length ≤ 65537) ∧ ((x1.S'.us x1.k) = true) ∧ (brS ((x1.S'.nd x1.k).right != 0) ((((x1.rest.length + [(x1.S'.nd x1.k).right].length) * bytesOf C0 EC.u32 ≤ 140737488355328) ∧ (brS ((x1.S'.nd x1.k).left != 0) (((((x1.rest ++ [(x1.S'.nd x1.k).right]).length + [(x1.S'.nd x1.k).left].length) * bytesOf C0 EC.u32 ≤ 140737488355328) ∧ (∃ x' : XRel S hs i, (True ∧ ((True ∧
    ((Value.int IntKind.i64 (IntKind.i64.wrap (x.freed + 1))) = (Value.int IntKind.i64 (x'.freed))) ∧ True ∧ True) ∧ (True ∧ True ∧ True ∧ ((Value.int IntKind.u64 (x1.S'.reads)) = (Value.int IntKind.u64 (x'.S'.reads))) ∧ True) ∧ (True ∧ True ∧ True ∧ ((Value.int IntKind.u32 (x1.S'.fresh)) = (Value.int IntKind.u32 (x'.S'.fresh))) ∧ True) ∧ ((x1.S'.nodes.set x1.k.toNat { key := 0, value := 0, left := 0, right := 0, size := 0, sum := 0, min := 0, max := 0 : NodeT }) = (x'.S'.nodes)) ∧ ((x1.S'.counts.set x1.k.toNat (IntKind.i64.wrap (x1.S'.ct x1.k - 1))) = (x'.S'.counts)) ∧ ((x1.S'.used.set x1.k.toNat false) = (x'.S'.used)) ∧ ((x1.S'.gen) = (x'.S'.gen)) ∧ ((x1.S'.rel ++ [x1.k]) = (x'.S'.rel)) ∧ ((x1.rest ++ [(x1.S'.nd x1.k).right] ++ [(x1.S'.nd x1.k).left]) = (x'.work)) ∧ True) ∧ (2 * x'.S'.nu + x'.work.length < 2 * x.S'.nu + x.work.length))))) ((∃ x' : XRel S hs i, (True ∧ ((True ∧ ((Value.int IntKind.i64 (IntKind.i64.wrap (x.freed + 1))) = (Value.int IntKind.i64 (x'.freed))) ∧ True ∧ True) ∧ (True ∧ True ∧ True ∧ ((Value.int IntKind.u64 (x1.S'.reads)) = (Value.int IntKind.u64 (x'.S'.reads))) ∧ True) ∧ (True ∧ True ∧ True ∧ ((Value.int IntKind.u32 (x1.S'.fresh)) = (Value.int IntKind.u32 (x'.S'.fresh))) ∧ True) ∧ ((x1.S'.nodes.set x1.k.toNat { key := 0, value := 0, left := 0, right := 0, size := 0, sum := 0, min := 0, max := 0 : NodeT }) = (x'.S'.nodes)) ∧ ((x1.S'.counts.set x1.k.toNat (IntKind.i64.wrap (x1.S'.ct x1.k - 1))) = (x'.S'.counts)) ∧
    ((x1.S'.used.set x1.k.toNat false) = (x'.S'.used)) ∧ ((x1.S'.gen) = (x'.S'.gen)) ∧ ((x1.S'.rel ++ [x1.k]) = (x'.S'.rel)) ∧ ((x1.rest ++ [(x1.S'.nd x1.k).right]) = (x'.work)) ∧ True) ∧ (2 * x'.S'.nu + x'.work.length < 2 * x.S'.nu + x.work.length))))))) ((brS ((x1.S'.nd x1.k).left != 0) ((((x1.rest.length + [(x1.S'.nd x1.k).left].length) * bytesOf C0 EC.u32 ≤ 140737488355328) ∧ (∃ x' : XRel S hs i, (True ∧ ((True ∧ ((Value.int IntKind.i64 (IntKind.i64.wrap (x.freed + 1))) = (Value.int IntKind.i64 (x'.freed))) ∧ True ∧ True) ∧ (True ∧ True ∧ True ∧ ((Value.int IntKind.u64 (x1.S'.reads)) = (Value.int IntKind.u64 (x'.S'.reads))) ∧ True) ∧ (True ∧ True ∧ True ∧ ((Value.int IntKind.u32 (x1.S'.fresh)) = (Value.int IntKind.u32 (x'.S'.fresh))) ∧ True) ∧ ((x1.S'.nodes.set x1.k.toNat { key := 0, value := 0, left := 0, right := 0, size := 0, sum := 0, min := 0, max := 0 : NodeT }) = (x'.S'.nodes)) ∧ ((x1.S'.counts.set x1.k.toNat (IntKind.i64.wrap (x1.S'.ct x1.k - 1))) = (x'.S'.counts)) ∧ ((x1.S'.used.set x1.k.toNat false) = (x'.S'.used)) ∧ ((x1.S'.gen) = (x'.S'.gen)) ∧ ((x1.S'.rel ++ [x1.k]) = (x'.S'.rel)) ∧ ((x1.rest ++ [(x1.S'.nd x1.k).left]) = (x'.work)) ∧ True) ∧ (2 * x'.S'.nu + x'.work.length < 2 * x.S'.nu + x.work.length))))) ((∃ x' : XRel S hs i, (True ∧ ((True ∧ ((Value.int IntKind.i64 (IntKind.i64.wrap (x.freed + 1))) = (Value.int IntKind.i64 (x'.freed))) ∧ True ∧ True) ∧ (True ∧ True ∧ True ∧ ((Value.int IntKind.u64 (x1.S'.reads)) = (Value.int IntKind.u64 (x'.S'.reads))) ∧
    True) ∧ (True ∧ True ∧ True ∧ ((Value.int IntKind.u32 (x1.S'.fresh)) = (Value.int IntKind.u32 (x'.S'.fresh))) ∧ True) ∧ ((x1.S'.nodes.set x1.k.toNat { key := 0, value := 0, left := 0, right := 0, size := 0, sum := 0, min := 0, max := 0 : NodeT }) = (x'.S'.nodes)) ∧ ((x1.S'.counts.set x1.k.toNat (IntKind.i64.wrap (x1.S'.ct x1.k - 1))) = (x'.S'.counts)) ∧ ((x1.S'.used.set x1.k.toNat false) = (x'.S'.used)) ∧ ((x1.S'.gen) = (x'.S'.gen)) ∧ ((x1.S'.rel ++ [x1.k]) = (x'.S'.rel)) ∧ ((x1.rest) = (x'.work)) ∧ True) ∧ (2 * x'.S'.nu + x'.work.length < 2 * x.S'.nu + x.work.length))))))))))))))) ((K (SV.tup [(TV.at (At.val (Value.int IntKind.i64 (x.freed)))), (TV.at (At.val (Value.int IntKind.i64 0)))]) [(Chunk.box [(At.ptr 1 0), (At.slc 2), (At.slc 3), (At.val (Value.int IntKind.u64 (x.S'.reads)))]), (Chunk.box [(At.slc 4), (At.slc 5), (At.slc 6), (At.val (Value.int IntKind.u32 (x.S'.fresh)))]), (Chunk.row true (EC.node) (x.S'.nodes)), (Chunk.row true (EC.int) (x.S'.counts)), (Chunk.row true (EC.bool) (x.S'.used)), (Chunk.row true (EC.u32) (x.S'.gen)), (Chunk.row true (EC.u32) (x.S'.rel))] [0, 1, 2, 3, 4, 5, 6]))))))))))) = _ by kernel_rfl) ?_
  simp only [bytes_u32]
  have hin := hw.held i (by simp)
  have hge := hw.ge0 hin
  have h2 := hw.n2
  refine brS_of (fun c => ?_) fun c => ?_
  · have c : i = 0 := by simpa using c
    subst c
    exact h S 0 hw.of_zero (Kept.refl S) (by omega) (fun _ e => by rw [hw.us0 (Int.le_refl 0)] at e; cases e) fun _ => rfl
  have c : i ≠ 0 := by simpa using c
  have hu := hin.resolve_left c
  have hp := hw.pos hu
  refine ⟨hge, by omega, by omega, brS_of (fun d => by rw [hu] at d; cases d) fun _ => ⟨⟨⟨S, [i], 0, hw, Kept.refl S, by omega, by omega, by simpa using hu, fun _ => .inl ⟨rfl, rfl⟩⟩, ?_⟩, fun x _ => brS_of (fun e => ?_) fun e => ?_⟩⟩
  · (repeat' first | exact trivial | exact rfl | refine And.intro ?_ ?_)
  · obtain ⟨g1, g2, g3, g4, g5, g6⟩ := x.h
    have e : 0 < x.work.length := by have := of_decide_eq_true e; omega
    have hl := list_last (d := (0 : Int)) e
    have hn1 := g1.n2
    have hfew := g1.few
    have hfl : x.work.length ≤ 2000000000 := by simp at hfew; omega
    rw [wrap_id (by omega) (by omega), show ((x.work.length : Int) - 1).toNat = x.work.length - 1 by omega]
    refine ⟨by omega, by omega, ⟨by omega, by omega, ⟨x.S', x.work.take (x.work.length - 1), x.work.getD (x.work.length - 1) 0, x.freed, ?_⟩, ?_⟩, fun z rz => ?_⟩
    · rw [hl]
      refine ⟨g1, g2, g3, g4, g5, fun hc => ?_⟩
      rcases g6 hc with ⟨q1, q2⟩ | ⟨q1, _⟩
      · rw [q1]; exact ⟨rfl, rfl, q2⟩
      · rw [q1] at e; simp at e
    · refine ⟨⟨rfl, ?_⟩, ?_⟩
      · have : (x.work.take (x.work.length - 1)).length = x.work.length - 1 := by simp
        show (x.work.length : Int) = ((x.work.take (x.work.length - 1)).length : Int) + 1
        omega
      · (repeat' first | exact trivial | exact rfl | refine And.intro ?_ ?_)
    · obtain ⟨r1, r2⟩ := rz
      obtain ⟨h1, h2, h3, h4, h5, h6⟩ := z.h
      have hk : z.S'.us z.k = true := h5 _ (by simp)
      have hpk := h1.pos hk
      have hcn := h1.ncnt
      have hnn := h1.nnod
      have hn2 := h1.n2
      have hfn := h1.free_nonneg
      have hfrr := h1.fr
      have hct := h1.ct_le hk
      have hw' : Wf z.S' (z.k :: (z.rest ++ hs)) := h1.perm (by rw [List.append_assoc]; exact List.perm_middle)
      refine ⟨by omega, by omega, by omega, by omega, by omega, by rw [List.length_set]; omega, ?_⟩
      rw [getD_set, if_pos ⟨rfl, by omega⟩, wrap_id (by omega) (by omega)]
      refine brS_of (fun d => ?_) fun d => ?_
      · have d : 1 < z.S'.ct z.k := by simp at d; omega
        refine ⟨⟨decS z.S' z.k, z.rest, z.freed, hw'.dec hk d, h2.trans (kept_dec _ _), h3, h4, fun w hm => h5 w (by simp [hm]), fun hc => ?_⟩, ?_⟩
        · obtain ⟨q1, q2, q3⟩ := h6 hc
          exact .inr ⟨q1, by rw [q2, q3]⟩
        · have e1 : (decS z.S' z.k).nu = z.S'.nu := rfl
          have e2 : (z.S'.counts.set z.k.toNat (z.S'.ct z.k - 1)) = (decS z.S' z.k).counts := by
            show _ = z.S'.counts.set z.k.toNat (IntKind.i64.wrap (z.S'.ct z.k - 1))
            rw [wrap_id (by omega) (by omega)]
          refine ⟨trivial, ⟨⟨trivial, by rw [r1], trivial, trivial⟩, ⟨trivial, trivial, trivial, rfl, trivial⟩, ⟨trivial, trivial, trivial, rfl, trivial⟩, rfl, e2, rfl, rfl, rfl, rfl, trivial⟩, ?_⟩
          show 2 * (decS z.S' z.k).nu + z.rest.length < _
          omega
      · have d : z.S'.ct z.k = 1 := by simp at d; omega
        obtain ⟨k1, k2, k3, k4, k5, k6⟩ := z.freed' d
        have hm := (hw'.freed hk d).2.1
        have e2 : (z.S'.counts.set z.k.toNat (z.S'.ct z.k - 1)) = (freeS z.S' z.k).counts := by
          show _ = z.S'.counts.set z.k.toNat (IntKind.i64.wrap (z.S'.ct z.k - 1))
          rw [wrap_id (by omega) (by omega)]
        have hwf : IntKind.i64.wrap (x.freed + 1) = z.freed + 1 := by
          have := h1.nu_le; have := hw.nu_le
          rw [wrap_id (by omega) (by omega), r1]
        have nl : ∀ c, (nz c).length ≤ 1 := fun c => by unfold nz; split <;> simp
        rw [hwf]
        refine ⟨by omega, by omega, by omega, by omega, by omega, by omega, by omega, by omega, hk, brS_of (fun q1 => ⟨by simp; omega, brS_of (fun q2 => ⟨by simp; omega, ⟨⟨freeS z.S' z.k, _, z.freed + 1, k1, k2, k3, k4, k5, k6⟩, ?_⟩⟩) fun q2 => ⟨⟨freeS z.S' z.k, _, z.freed + 1, k1, k2, k3, k4, k5, k6⟩, ?_⟩⟩) fun q1 => brS_of (fun q2 => ⟨by simp; omega, ⟨⟨freeS z.S' z.k, _, z.freed + 1, k1, k2, k3, k4, k5, k6⟩, ?_⟩⟩) fun q2 => ⟨⟨freeS z.S' z.k, _, z.freed + 1, k1, k2, k3, k4, k5, k6⟩, ?_⟩⟩
        all_goals
          refine ⟨trivial, ⟨⟨trivial, rfl, trivial, trivial⟩, ⟨trivial, trivial, trivial, rfl, trivial⟩, ⟨trivial, trivial, trivial, rfl, trivial⟩, rfl, e2, rfl, rfl, rfl, ?_, trivial⟩, ?_⟩
        all_goals (try simp at q1 q2)
        case refine_1.refine_1 => simp [nz, q1, q2]
        all_goals first
          | (show 2 * (freeS z.S' z.k).nu + (z.rest ++ nz _ ++ nz _).length < _; have := nl (z.S'.nd z.k).left; have := nl (z.S'.nd z.k).right; simp only [List.length_append]; omega)
          | simp [nz, q1, q2]
  · have e : x.work = [] := by have := of_decide_eq_false e; exact List.length_eq_zero_iff.1 (by omega)
    obtain ⟨g1, g2, g3, g4, g5, g6⟩ := x.h
    rw [e] at g1
    refine h x.S' x.freed g1 g2 g4 (fun hc _ => ?_) fun hc => by rw [hu] at hc; cases hc
    rcases g6 hc with ⟨q1, _⟩ | ⟨_, q2⟩
    · rw [e] at q1; cases q1
    · exact q2
theorem s_release : SoundT C0 29 tRelease := by
  refine .ofW W7 Try.func29 (by decide) rfl fun args H K h hB => ?_
  unfold tRelease at h
  split at h <;> try exact h.elim
  unfold arM at h
  split at h <;> try exact h.elim
  rename_i i _ rd fr nd ct us gn rl
  obtain ⟨hs, h1, h2⟩ := h
  exact ⟨aRelease ⟨us, gn, rl, fr, nd, ct, rd⟩ hs i, ⟨frame C0.ok s_slAllocated _, frame C0.ok s_slRelease _, trivial⟩, vc_release ⟨us, gn, rl, fr, nd, ct, rd⟩ hs i K h1 h2⟩
theorem vc_make (S : Arn) (k v l r : Int) (K : KT) (hw : exW S) (hl : live S l) (hr : live S r)
    (h1 : maxSize < (mkNode S k v l r).size → K (.tup [.at (vU 0), .at (vI 1)]) (chS S) W7)
    (h2 : (mkNode S k v l r).size ≤ maxSize → S.free = 0 → K (.tup [.at (vU 0), .at (vI 2)]) (chS S) W7)
    (h3 : (mkNode S k v l r).size ≤ maxSize → 0 < S.free → ∀ S' i, S' = makeS S k v l r → i = nxt S → K (.tup [.at (vU i), .at (vI 0)]) (chS S') W7) :
    vc C0 (aMake S k v l r) Try.f101 [.at (.ptr 0 0), .at (vI k), .at (vI v), .at (vU l), .at (vU r)] (chS S) (normK 7 (wideK W7 K)) := by
  refine Eq.mp (show ((((0 : Int) ≤ 0) ∧
(0 < ((2 : Nat) : Int)) ∧
(brS (l == 0) ((∃ x : XMk S k v l r, ((0 = ((↑x.i : Int))) ∧ (True ∧ ((Value.int IntKind.u32 (l)) = (Value.int IntKind.u32 (l))) ∧ ((Value.int IntKind.u32 (r)) = (Value.int IntKind.u32 (r))) ∧ True ∧ (((Value.int IntKind.u32 (l)) = (Value.int IntKind.u32 (l))) ∧ ((Value.int IntKind.u32 (r)) = (Value.int IntKind.u32 (r))) ∧ True) ∧ ((Value.int IntKind.i64 0) = (Value.int IntKind.i64 0)) ∧ True) ∧ (True ∧ True ∧ True ∧ ((Value.int IntKind.u64 (S.reads)) = (Value.int IntKind.u64 (S.reads))) ∧ True) ∧ (True ∧ True ∧ True ∧ ((Value.int IntKind.u32 (S.fresh)) = (Value.int IntKind.u32 (S.fresh))) ∧ True) ∧ ((S.nodes) = (S.nodes)) ∧ ((S.counts) = (S.counts)) ∧ ((S.used) = (S.used)) ∧ ((S.gen) = (S.gen)) ∧ ((S.rel) = (S.rel)) ∧ (((Value.int IntKind.i64 (k)) = (Value.int IntKind.i64 (x.n.key))) ∧ ((Value.int IntKind.i64 (v)) = (Value.int IntKind.i64 (x.n.value))) ∧ ((Value.int IntKind.u32 (l)) = (Value.int IntKind.u32 (x.n.left))) ∧ ((Value.int IntKind.u32 (r)) = (Value.int IntKind.u32 (x.n.right))) ∧ ((Value.int IntKind.i64 1) = (Value.int IntKind.i64 (x.n.size))) ∧ ((Value.int IntKind.i64 (v)) = (Value.int IntKind.i64 (x.n.sum))) ∧ ((Value.int IntKind.i64 (v)) = (Value.int IntKind.i64 (x.n.min))) ∧ ((Value.int IntKind.i64 (v)) = (Value.int IntKind.i64 (x.n.max))) ∧ True) ∧ True))) (((0 ≤ l) ∧ (l < 4294967296) ∧ (S.used.length ≤ 65537) ∧ (brS (!S.us l)
    ((K (SV.tup [(TV.at (At.val (Value.int IntKind.u32 0))), (TV.at (At.val (Value.int IntKind.i64 1)))]) [(Chunk.box [(At.ptr 1 0), (At.slc 2), (At.slc 3), (At.val (Value.int IntKind.u64 (S.reads)))]), (Chunk.box [(At.slc 4), (At.slc 5), (At.slc 6), (At.val (Value.int IntKind.u32 (S.fresh)))]), (Chunk.row true (EC.node) (S.nodes)), (Chunk.row true (EC.int) (S.counts)), (Chunk.row true (EC.bool) (S.used)), (Chunk.row true (EC.u32) (S.gen)), (Chunk.row true (EC.u32) (S.rel))] [0, 1, 2, 3, 4, 5, 6])) (((0 ≤ l) ∧ (l < (↑S.nodes.length : Int)) ∧ (∃ x : XMk S k v l r, ((0 = ((↑x.i : Int))) ∧ (True ∧ ((Value.int IntKind.u32 (l)) = (Value.int IntKind.u32 (l))) ∧ ((Value.int IntKind.u32 (r)) = (Value.int IntKind.u32 (r))) ∧ True ∧ (((Value.int IntKind.u32 (l)) = (Value.int IntKind.u32 (l))) ∧ ((Value.int IntKind.u32 (r)) = (Value.int IntKind.u32 (r))) ∧ True) ∧ ((Value.int IntKind.i64 0) = (Value.int IntKind.i64 0)) ∧ True) ∧ (True ∧ True ∧ True ∧ ((Value.int IntKind.u64 (S.reads)) = (Value.int IntKind.u64 (S.reads))) ∧ True) ∧ (True ∧ True ∧ True ∧ ((Value.int IntKind.u32 (S.fresh)) = (Value.int IntKind.u32 (S.fresh))) ∧ True) ∧ ((S.nodes) = (S.nodes)) ∧ ((S.counts) = (S.counts)) ∧ ((S.used) = (S.used)) ∧ ((S.gen) = (S.gen)) ∧ ((S.rel) = (S.rel)) ∧ (((Value.int IntKind.i64 (k)) = (Value.int IntKind.i64 (x.n.key))) ∧ ((Value.int IntKind.i64 (v)) = (Value.int IntKind.i64 (x.n.value))) ∧ ((Value.int IntKind.u32 (l)) = (Value.int IntKind.u32 (x.n.left))) ∧
    ((Value.int IntKind.u32 (r)) = (Value.int IntKind.u32 (x.n.right))) ∧ ((Value.int IntKind.i64 (IntKind.i64.wrap (1 + (S.nd l).size))) = (Value.int IntKind.i64 (x.n.size))) ∧ ((Value.int IntKind.i64 (IntKind.i64.wrap (v + (S.nd l).sum))) = (Value.int IntKind.i64 (x.n.sum))) ∧ ((Value.int IntKind.i64 (if (S.nd l).min < v then (S.nd l).min else v)) = (Value.int IntKind.i64 (x.n.min))) ∧ ((Value.int IntKind.i64 (if (S.nd l).max > v then (S.nd l).max else v)) = (Value.int IntKind.i64 (x.n.max))) ∧ True) ∧ True))))))))) ∧
(∀ x : XMk S k v l r, ((0 = ((↑x.i : Int))) → (((0 ≤ IntKind.i64.wrap (0 + 1)) ∧ (IntKind.i64.wrap (0 + 1) < ((2 : Nat) : Int)) ∧ (brS (r == 0) ((∃ x1 : XMk S k v l r, ((1 = ((↑x1.i : Int))) ∧ (True ∧ ((Value.int IntKind.u32 (l)) = (Value.int IntKind.u32 (l))) ∧ ((Value.int IntKind.u32 (r)) = (Value.int IntKind.u32 (r))) ∧ True ∧ (((Value.int IntKind.u32 (l)) = (Value.int IntKind.u32 (l))) ∧ ((Value.int IntKind.u32 (r)) = (Value.int IntKind.u32 (r))) ∧ True) ∧ ((Value.int IntKind.i64 1) = (Value.int IntKind.i64 1)) ∧ True) ∧ (True ∧ True ∧ True ∧ ((Value.int IntKind.u64 (S.reads)) = (Value.int IntKind.u64 (S.reads))) ∧ True) ∧ (True ∧ True ∧ True ∧ ((Value.int IntKind.u32 (S.fresh)) = (Value.int IntKind.u32 (S.fresh))) ∧ True) ∧ ((S.nodes) = (S.nodes)) ∧ ((S.counts) = (S.counts)) ∧ ((S.used) = (S.used)) ∧ ((S.gen) = (S.gen)) ∧ ((S.rel) = (S.rel)) ∧ (((Value.int IntKind.i64 (x.n.key)) = (Value.int IntKind.i64 (x1.n.key))) ∧
    ((Value.int IntKind.i64 (x.n.value)) = (Value.int IntKind.i64 (x1.n.value))) ∧ ((Value.int IntKind.u32 (x.n.left)) = (Value.int IntKind.u32 (x1.n.left))) ∧ ((Value.int IntKind.u32 (x.n.right)) = (Value.int IntKind.u32 (x1.n.right))) ∧ ((Value.int IntKind.i64 (x.n.size)) = (Value.int IntKind.i64 (x1.n.size))) ∧ ((Value.int IntKind.i64 (x.n.sum)) = (Value.int IntKind.i64 (x1.n.sum))) ∧ ((Value.int IntKind.i64 (x.n.min)) = (Value.int IntKind.i64 (x1.n.min))) ∧ ((Value.int IntKind.i64 (x.n.max)) = (Value.int IntKind.i64 (x1.n.max))) ∧ True) ∧ True))) (((0 ≤ r) ∧ (r < 4294967296) ∧ (S.used.length ≤ 65537) ∧ (brS (!S.us r) ((K (SV.tup [(TV.at (At.val (Value.int IntKind.u32 0))), (TV.at (At.val (Value.int IntKind.i64 1)))]) [(Chunk.box [(At.ptr 1 0), (At.slc 2), (At.slc 3), (At.val (Value.int IntKind.u64 (S.reads)))]), (Chunk.box [(At.slc 4), (At.slc 5), (At.slc 6), (At.val (Value.int IntKind.u32 (S.fresh)))]), (Chunk.row true (EC.node) (S.nodes)), (Chunk.row true (EC.int) (S.counts)), (Chunk.row true (EC.bool) (S.used)), (Chunk.row true (EC.u32) (S.gen)), (Chunk.row true (EC.u32) (S.rel))] [0, 1, 2, 3, 4, 5, 6])) (((0 ≤ r) ∧ (r < (↑S.nodes.length : Int)) ∧ (∃ x1 : XMk S k v l r, ((1 = ((↑x1.i : Int))) ∧ (True ∧ ((Value.int IntKind.u32 (l)) = (Value.int IntKind.u32 (l))) ∧ ((Value.int IntKind.u32 (r)) = (Value.int IntKind.u32 (r))) ∧ True ∧ (((Value.int IntKind.u32 (l)) = (Value.int IntKind.u32 (l))) ∧ ((Value.int IntKind.u32 (r)) = (Value.int IntKind.u32 (r))) ∧ True) ∧
    ((Value.int IntKind.i64 1) = (Value.int IntKind.i64 1)) ∧ True) ∧ (True ∧ True ∧ True ∧ ((Value.int IntKind.u64 (S.reads)) = (Value.int IntKind.u64 (S.reads))) ∧ True) ∧ (True ∧ True ∧ True ∧ ((Value.int IntKind.u32 (S.fresh)) = (Value.int IntKind.u32 (S.fresh))) ∧ True) ∧ ((S.nodes) = (S.nodes)) ∧ ((S.counts) = (S.counts)) ∧ ((S.used) = (S.used)) ∧ ((S.gen) = (S.gen)) ∧ ((S.rel) = (S.rel)) ∧ (((Value.int IntKind.i64 (x.n.key)) = (Value.int IntKind.i64 (x1.n.key))) ∧ ((Value.int IntKind.i64 (x.n.value)) = (Value.int IntKind.i64 (x1.n.value))) ∧ ((Value.int IntKind.u32 (x.n.left)) = (Value.int IntKind.u32 (x1.n.left))) ∧ ((Value.int IntKind.u32 (x.n.right)) = (Value.int IntKind.u32 (x1.n.right))) ∧ ((Value.int IntKind.i64 (IntKind.i64.wrap (x.n.size + (S.nd r).size))) = (Value.int IntKind.i64 (x1.n.size))) ∧ ((Value.int IntKind.i64 (IntKind.i64.wrap (x.n.sum + (S.nd r).sum))) = (Value.int IntKind.i64 (x1.n.sum))) ∧ ((Value.int IntKind.i64 (if (S.nd r).min < x.n.min then (S.nd r).min else x.n.min)) = (Value.int IntKind.i64 (x1.n.min))) ∧ ((Value.int IntKind.i64 (if (S.nd r).max > x.n.max then (S.nd r).max else x.n.max)) = (Value.int IntKind.i64 (x1.n.max))) ∧ True) ∧ True))))))))) ∧ (∀ x1 : XMk S k v l r, ((1 = ((↑x1.i : Int))) → (brS (decide (x1.n.size > 2147483647))
    ((K (SV.tup [(TV.at (At.val (Value.int IntKind.u32 0))), (TV.at (At.val (Value.int IntKind.i64 1)))]) [(Chunk.box [(At.ptr 1 0), (At.slc 2), (At.slc 3), (At.val (Value.int IntKind.u64 (S.reads)))]), (Chunk.box [(At.slc 4), (At.slc 5), (At.slc 6), (At.val (Value.int IntKind.u32 (S.fresh)))]), (Chunk.row true (EC.node) (S.nodes)), (Chunk.row true (EC.int) (S.counts)), (Chunk.row true (EC.bool) (S.used)), (Chunk.row true (EC.u32) (S.gen)), (Chunk.row true (EC.u32) (S.rel))] [0, 1, 2, 3, 4, 5, 6])) (((1 ≤ S.used.length) ∧ (S.used.length ≤ 65537) ∧ (S.rel.length ≤ 65537) ∧ (0 ≤ S.fresh) ∧ (S.fresh ≤ 65537) ∧ ((S.gen.length) = (S.used.length)) ∧ (relOK S.rel S.used.length) ∧ (0 ≤ (↑S.rel.length : Int) + ((↑S.used.length : Int) - 1) - S.fresh) ∧ ((((↑S.rel.length : Int) + ((↑S.used.length : Int) - 1) - S.fresh) = 0) → (K (SV.tup [(TV.at (At.val (Value.int IntKind.u32 0))), (TV.at (At.val (Value.int IntKind.i64 2)))]) [(Chunk.box [(At.ptr 1 0), (At.slc 2), (At.slc 3), (At.val (Value.int IntKind.u64 (S.reads)))]), (Chunk.box [(At.slc 4), (At.slc 5), (At.slc 6), (At.val (Value.int IntKind.u32 (S.fresh)))]), (Chunk.row true (EC.node) (S.nodes)), (Chunk.row true (EC.int) (S.counts)), (Chunk.row true (EC.bool) (S.used)), (Chunk.row true (EC.u32) (S.gen)), (Chunk.row true (EC.u32) (S.rel))] [0, 1, 2, 3, 4, 5, 6])) ∧ ((0 < (↑S.rel.length : Int) + ((↑S.used.length : Int) - 1) - S.fresh) → (∀ i : Int, (∀ rl' : List Int, (∀ fr' : Int,
    (((Prod.mk (i) (Prod.mk (rl') (fr'))) = (fresh3 S.rel S.fresh)) → ((0 ≤ i) ∧ (i < (↑S.nodes.length : Int)) ∧ (0 ≤ i) ∧ (i < (↑S.counts.length : Int)) ∧ (0 ≤ l) ∧ (l < (↑(S.counts.set i.toNat 1).length : Int)) ∧ (0 ≤ l) ∧ (l < (↑(S.counts.set i.toNat 1).length : Int)) ∧ (0 ≤ r) ∧ (r < (↑((S.counts.set i.toNat 1).set l.toNat (IntKind.i64.wrap ((S.counts.set i.toNat 1).getD l.toNat 0 + 1))).length : Int)) ∧ (0 ≤ r) ∧ (r < (↑((S.counts.set i.toNat 1).set l.toNat (IntKind.i64.wrap ((S.counts.set i.toNat 1).getD l.toNat 0 + 1))).length : Int)) ∧
    (K (SV.tup [(TV.at (At.val (Value.int IntKind.u32 (i)))), (TV.at (At.val (Value.int IntKind.i64 0)))]) [(Chunk.box [(At.ptr 1 0), (At.slc 2), (At.slc 3), (At.val (Value.int IntKind.u64 (S.reads)))]), (Chunk.box [(At.slc 4), (At.slc 5), (At.slc 6), (At.val (Value.int IntKind.u32 (fr')))]), (Chunk.row true (EC.node) (S.nodes.set i.toNat { key := x1.n.key, value := x1.n.value, left := x1.n.left, right := x1.n.right, size := x1.n.size, sum := x1.n.sum, min := x1.n.min, max := x1.n.max : NodeT })), (Chunk.row true (EC.int) (((S.counts.set i.toNat 1).set l.toNat (IntKind.i64.wrap ((S.counts.set i.toNat 1).getD l.toNat 0 + 1))).set r.toNat (IntKind.i64.wrap (((S.counts.set i.toNat 1).set l.toNat (IntKind.i64.wrap ((S.counts.set i.toNat 1).getD l.toNat 0 + 1))).getD r.toNat 0 + 1)))), (Chunk.row true (EC.bool) (S.used.set i.toNat true)), (Chunk.row true (EC.u32) (S.gen.set i.toNat (IntKind.u32.wrap (S.gn i + 1)))), (Chunk.row true (EC.u32) (rl'))] [0, 1, 2, 3, 4, 5, 6])))))))))))))))) = _ by kernel_rfl) ?_
  obtain ⟨hs, hw⟩ := hw
  have hn1 := hw.n1; have hn2 := hw.n2; have hnn := hw.nnod; have hng := hw.ngen; have hnc := hw.ncnt; have hfr := hw.fr; have hfree := hw.free_nonneg
  have hl0 := hw.ge0 hl
  have hr0 := hw.ge0 hr
  have hl1 : l < S.used.length := by rcases hl with e | e; omega; have := hw.pos e; omega
  have hr1 : r < S.used.length := by rcases hr with e | e; omega; have := hw.pos e; omega
  refine ⟨⟨by decide, by decide, brS_of (fun c => ⟨⟨0, ⟨k, v, l, r, 1, v, v, v⟩, ?_⟩, ?_⟩) fun c => ⟨hl0, by omega, by omega, brS_of (fun d => ?_) fun d => ⟨hl0, by omega, ⟨⟨0, addK ⟨k, v, l, r, 1, v, v, v⟩ (S.nd l), ?_⟩, ?_⟩⟩⟩⟩,
    fun x rx => ⟨⟨by decide, by decide, brS_of (fun c => ⟨⟨1, x.n, ?_⟩, ?_⟩) fun c => ⟨hr0, by omega, by omega, brS_of (fun d => ?_) fun d => ⟨hr0, by omega, ⟨⟨1, addK x.n (S.nd r), ?_⟩, ?_⟩⟩⟩⟩, fun x1 r1 => ?_⟩⟩
  · have c : l = 0 := by simpa using c
    rw [if_pos rfl]; unfold addC; rw [if_pos c]
  · (repeat' first | exact trivial | exact rfl | refine And.intro ?_ ?_)
  · have c : l ≠ 0 := by simpa using c
    have := hl.resolve_left c
    rw [this] at d; cases d
  · have c : l ≠ 0 := by simpa using c
    rw [if_pos rfl]; unfold addC; rw [if_neg c]
  · (repeat' first | exact trivial | exact rfl | refine And.intro ?_ ?_)
  · have c : r = 0 := by simpa using c
    have hx := x.h
    rw [if_pos (by omega)] at hx
    rw [if_neg (by decide)]; unfold mkNode; rw [← hx]; unfold addC; rw [if_pos c]
  · (repeat' first | exact trivial | exact rfl | refine And.intro ?_ ?_)
  · have c : r ≠ 0 := by simpa using c
    have := hr.resolve_left c
    rw [this] at d; cases d
  · have c : r ≠ 0 := by simpa using c
    have hx := x.h
    rw [if_pos (by omega)] at hx
    rw [if_neg (by decide)]; unfold mkNode; rw [← hx]; unfold addC; rw [if_neg c]
  · (repeat' first | exact trivial | exact rfl | refine And.intro ?_ ?_)
  · obtain ⟨i1, n1, hx⟩ := x1
    have r1 : i1 = 1 := by have : (1 : Int) = (i1 : Int) := r1; omega
    subst r1
    rw [if_neg (by decide)] at hx
    subst hx
    refine brS_of (fun c => h1 (by have : (mkNode S k v l r).size > 2147483647 := of_decide_eq_true c; unfold maxSize; omega)) fun c => ?_
    have c : (mkNode S k v l r).size ≤ maxSize := by have : ¬ (mkNode S k v l r).size > 2147483647 := of_decide_eq_false c; unfold maxSize; omega
    refine ⟨by omega, hn2, by omega, hfr.1, by omega, hng, fun i hi => by have := hw.rel i hi; omega, by have := hfree.1; unfold Arn.free Arn.cap at this; omega, fun e => h2 c (by unfold Arn.free Arn.cap; omega), fun e i rl' fr' he => ?_⟩
    have e : 0 < S.free := by unfold Arn.free Arn.cap; omega
    have h4 := h3 c e _ _ rfl rfl
    obtain ⟨b1, b2, _⟩ := hw.nxt_spec e
    have e1 : i = nxt S := congrArg Prod.fst he
    have e2 : rl' = (freshS S).2.1 := congrArg (fun p : Int × List Int × Int => p.2.1) he
    have e3 : fr' = (freshS S).2.2 := congrArg (fun p : Int × List Int × Int => p.2.2) he
    subst e1 e2 e3
    refine ⟨by omega, by omega, by omega, by omega, hl0, ?_, hl0, ?_, hr0, ?_, hr0, ?_, h4⟩
    all_goals (simp only [List.length_set]; omega)
theorem s_make : SoundT C0 101 tMake := by
  refine .ofW W7 Try.func101 (by decide) rfl fun args H K h hB => ?_
  unfold tMake at h
  split at h <;> try exact h.elim
  unfold arM at h
  split at h <;> try exact h.elim
  rename_i k v l r _ rd fr nd ct us gn rl
  obtain ⟨h1, h2, h3, h4, h5, h6⟩ := h
  exact ⟨aMake ⟨us, gn, rl, fr, nd, ct, rd⟩ k v l r, ⟨frame C0.ok s_slAllocated _, frame C0.ok s_slAlloc _, trivial⟩, vc_make ⟨us, gn, rl, fr, nd, ct, rd⟩ k v l r K h1 h2 h3 h4 h5 h6⟩
end Go.Proofs.Ytjbkckcjmmmooaa.Sx
end
section
/- Making a node of two trees that are handed over; planting a tree. No program in sight. -/
namespace Go.Proofs.Ytjbkckcjmmmooaa
open Go

variable {S S' S'' : Arn} {hs : List Int}

theorem indeg_pos (h : Wf S hs) {i j : Int} (hj : S.us j = true) (he : (S.nd j).left = i ∨ (S.nd j).right = i) : 1 ≤ S.indeg i := by
  have hp := h.pos hj
  have hn := h.nnod
  have hm : S.nd j ∈ S.nodes := by
    have : j.toNat < S.nodes.length := by omega
    unfold Arn.nd
    rw [List.getD_eq_getElem?_getD, List.getElem?_eq_getElem this]
    exact List.getElem_mem this
  unfold Arn.indeg
  rcases he with he | he
  · have := (List.countP_pos_iff (p := fun x : NodeT => x.left == i)).2 ⟨S.nd j, hm, by simpa using he⟩
    omega
  · have := (List.countP_pos_iff (p := fun x : NodeT => x.right == i)).2 ⟨S.nd j, hm, by simpa using he⟩
    omega
/-- A reference is given back to a tree that is held otherwise as well. -/
def relA (S : Arn) (i : Int) : Arn := if S.us i then decS S i else S
theorem relA_same (S : Arn) (i j : Int) : (relA S i).us j = S.us j ∧ (relA S i).nd j = S.nd j ∧ (relA S i).gn j = S.gn j ∧ (relA S i).indeg j = S.indeg j := by
  unfold relA; split <;> exact ⟨rfl, rfl, rfl, rfl⟩
theorem relA_flds (S : Arn) (i : Int) : (relA S i).reads = S.reads ∧ (relA S i).used = S.used ∧ (relA S i).nu = S.nu ∧ (relA S i).free = S.free ∧ (relA S i).nodes = S.nodes ∧ (relA S i).rel = S.rel ∧ (relA S i).fresh = S.fresh := by
  unfold relA; split <;> exact ⟨rfl, rfl, rfl, rfl, rfl, rfl, rfl⟩
theorem Wf.two {i : Int} (h : Wf S (i :: hs)) (hi : S.us i = true) (hd : 1 ≤ S.indeg i) : 1 < S.ct i := by
  obtain ⟨h1, _⟩ := h.cnt i hi
  rw [List.count_cons_self] at h1
  omega
theorem Wf.give {i : Int} (h : Wf S (i :: hs)) (hd : S.us i = true → 1 ≤ S.indeg i) : Wf (relA S i) hs := by
  unfold relA
  split
  · rename_i hi
    exact h.dec hi (h.two hi (hd hi))
  · rename_i hi
    have : i = 0 := (h.held i (by simp)).resolve_right hi
    subst this
    exact h.of_zero
theorem Wf.given {i : Int} (h : Wf S (i :: hs)) (hd : S.us i = true → 1 ≤ S.indeg i) (h1 : 1 < S.ct i → S.us i = true → S' = decS S i) (h2 : S.us i = false → S' = S) : S' = relA S i := by
  unfold relA
  cases hi : S.us i with
  | true => rw [if_pos rfl]; exact h1 (h.two hi (hd hi)) hi
  | false => simp; exact h2 hi
theorem Rep.same (hu : ∀ j, S'.us j = S.us j) (hn : ∀ j, S'.nd j = S.nd j) : ∀ {t : Tr} {i : Int}, Rep S t i → Rep S' t i
  | .nil, i, hr => hr
  | .node l k v r, i, hr => by
    obtain ⟨h1, h2, h3, h4, h5⟩ := hr
    exact ⟨(hu i).trans h1, by rw [hn]; exact h2, by rw [hn]; exact h3, by rw [hn]; exact Rep.same hu hn h4, by rw [hn]; exact Rep.same hu hn h5⟩
theorem stay_same (hu : ∀ j, S'.us j = S.us j) (hn : ∀ j, S'.nd j = S.nd j) (hg : ∀ j, S'.gn j = S.gn j) (hs : List Int) : Stay S S' hs := fun i hi => ⟨(hu i).trans hi.us, hn i, hg i⟩
theorem stay_relA (S : Arn) (i : Int) (hs : List Int) : Stay S (relA S i) hs := stay_same (fun j => (relA_same S i j).1) (fun j => (relA_same S i j).2.1) (fun j => (relA_same S i j).2.2.1) hs

def nodeS (S : Arn) (k v l r : Int) : Arn := relA (relA (makeS S k v l r) l) r
theorem make_flds (h : Wf S hs) (hf : 0 < S.free) {k v l r : Int} : (makeS S k v l r).reads = S.reads ∧ (makeS S k v l r).used.length = S.used.length ∧ (makeS S k v l r).nu = S.nu + 1 := by
  obtain ⟨h1, h2, h3, _⟩ := h.nxt_spec hf
  refine ⟨rfl, by simp [makeS], ?_⟩
  have a := countP_set' id S.used (nxt S).toNat true false (by omega)
  have : S.used.getD (nxt S).toNat false = false := h3
  rw [this] at a
  simp at a
  unfold Arn.nu makeS
  simp
  omega
theorem make_rep (h : Wf S hs) (hf : 0 < S.free) {k v l r : Int} : ∀ {t : Tr} {i : Int}, Rep S t i → Rep (makeS S k v l r) t i
  | .nil, i, hr => hr
  | .node tl kk vv tr, i, hr => by
    obtain ⟨h1, h2, h3, h4, h5⟩ := hr
    have hx := (h.nxt_spec hf).2.2.1
    have e : i ≠ nxt S := fun e => by rw [e, hx] at h1; cases h1
    have en : (makeS S k v l r).nd i = S.nd i := by rw [make_nd h hf, if_neg e]
    exact ⟨(make_us h hf i).2 (.inr h1), by rw [en]; exact h2, by rw [en]; exact h3, by rw [en]; exact make_rep h hf h4, by rw [en]; exact make_rep h hf h5⟩

/-- The steps from a new node to the two references given back, from what the calls promise. -/
structure NodeR (S : Arn) (hs : List Int) (k v : Int) (tl tr : Tr) (S' : Arn) (i : Int) : Prop where
  wf : Wf S' (i :: hs)
  rep : Rep S' (.node tl k v tr) i
  stay : Stay S S' hs
  len : S'.used.length = S.used.length
  rds : S'.reads = S.reads
  nu : S'.nu = S.nu + 1
  pos : 1 ≤ i
theorem node_two {k v l r : Int} (h : Wf S (l :: r :: hs)) (hf : 0 < S.free) (hz : (mkNode S k v l r).size ≤ maxSize) (hl : hs.length ≤ 999999990) :
    Wf (makeS S k v l r) (l :: (nxt S :: r :: hs)) ∧ ((makeS S k v l r).us l = true → 1 ≤ (makeS S k v l r).indeg l) ∧ Wf (relA (makeS S k v l r) l) (r :: (nxt S :: hs)) ∧ ((relA (makeS S k v l r) l).us r = true → 1 ≤ (relA (makeS S k v l r) l).indeg r) := by
  have hl1 := h.held l (by simp)
  have hr1 := h.held r (by simp)
  have hm := h.make (k := k) (v := v) hl1 hr1 hf hz (by simp; omega)
  obtain ⟨h1, h2, h3, _⟩ := h.nxt_spec hf
  have hm1 : Wf (makeS S k v l r) (l :: (nxt S :: r :: hs)) := hm.perm (List.Perm.swap _ _ _)
  have hu : (makeS S k v l r).us (nxt S) = true := (make_us h hf _).2 (.inl rfl)
  have hn : (makeS S k v l r).nd (nxt S) = mkNode S k v l r := by rw [make_nd h hf, if_pos rfl]
  obtain ⟨_, _, m1, m2⟩ := mkNode_flds S k v l r
  have d1 : 1 ≤ (makeS S k v l r).indeg l := indeg_pos hm hu (.inl (by rw [hn, m1]))
  have d2 : 1 ≤ (makeS S k v l r).indeg r := indeg_pos hm hu (.inr (by rw [hn, m2]))
  refine ⟨hm1, fun _ => d1, (hm1.give fun _ => d1).perm (List.Perm.swap _ _ _), fun _ => ?_⟩
  rw [(relA_same _ _ _).2.2.2]; exact d2
theorem node_ok {k v l r : Int} {tl tr : Tr} (h : Wf S (l :: r :: hs)) (hf : 0 < S.free) (hz : (mkNode S k v l r).size ≤ maxSize) (hl : hs.length ≤ 999999990) (h1 : Rep S tl l) (h2 : Rep S tr r) : NodeR S hs k v tl tr (nodeS S k v l r) (nxt S) := by
  obtain ⟨a1, a2, a3, a4⟩ := node_two (k := k) (v := v) h hf hz hl
  obtain ⟨x1, x2, x3, _⟩ := h.nxt_spec hf
  have e1 : ∀ j, (nodeS S k v l r).us j = (makeS S k v l r).us j := fun j => by unfold nodeS; rw [(relA_same _ _ _).1, (relA_same _ _ _).1]
  have e2 : ∀ j, (nodeS S k v l r).nd j = (makeS S k v l r).nd j := fun j => by unfold nodeS; rw [(relA_same _ _ _).2.1, (relA_same _ _ _).2.1]
  have e3 : ∀ j, (nodeS S k v l r).gn j = (makeS S k v l r).gn j := fun j => by unfold nodeS; rw [(relA_same _ _ _).2.2.1, (relA_same _ _ _).2.2.1]
  obtain ⟨f1, f2, f3⟩ := make_flds h hf (k := k) (v := v) (l := l) (r := r)
  obtain ⟨p1, p2, p3, _⟩ := relA_flds (makeS S k v l r) l
  obtain ⟨q1, q2, q3, _⟩ := relA_flds (relA (makeS S k v l r) l) r
  have hn : (makeS S k v l r).nd (nxt S) = mkNode S k v l r := by rw [make_nd h hf, if_pos rfl]
  obtain ⟨m3, m4, m1, m2⟩ := mkNode_flds S k v l r
  refine ⟨a3.give a4, ?_, (stay_make h hf hs).trans (stay_same e1 e2 e3 hs), ?_, ?_, ?_, x1⟩
  · refine ⟨by rw [e1, make_us h hf]; exact .inl rfl, by rw [e2, hn, m3], by rw [e2, hn, m4], ?_, ?_⟩
    · rw [e2, hn, m1]; exact (make_rep h hf h1).same e1 e2
    · rw [e2, hn, m2]; exact (make_rep h hf h2).same e1 e2
  · unfold nodeS; rw [q2, p2]; exact f2
  · unfold nodeS; rw [q1, p1]; exact f1
  · unfold nodeS; rw [q3, p3]; exact f3
theorem mk_size {k v l r : Int} (h : Wf S hs) {tl tr : Tr} (h1 : Rep S tl l) (h2 : Rep S tr r) : (mkNode S k v l r).size = 1 + tl.size + tr.size := by
  rw [h.mkNode_size, h1.size h, h2.size h]

/-! ### Balance -/
def balN (l r : Int) : Prop := l + 1 ≤ 3 * (r + 1) ∧ r + 1 ≤ 3 * (l + 1)
instance (l r : Int) : Decidable (balN l r) := by unfold balN; infer_instance
def Tr.Bal : Tr → Prop
  | .nil => True
  | .node l _ _ r => balN l.size r.size ∧ l.Bal ∧ r.Bal

/-- A tree with the entries of a list is made, and held. -/
structure PlantR (S : Arn) (hs : List Int) (l : List Ent) (S' : Arn) (i : Int) : Prop where
  wf : Wf S' (i :: hs)
  rep : ∃ t, Rep S' t i ∧ t.list = l ∧ t.Bal
  stay : Stay S S' hs
  len : S'.used.length = S.used.length
  rds : S'.reads = S.reads
  nu : S'.nu = S.nu + l.length
theorem PlantR.nil (h : Wf S hs) (hl : hs.length ≤ 1000000000) : PlantR S hs [] S 0 := ⟨h.zero_cons hl, ⟨.nil, rfl, rfl, trivial⟩, Stay.refl _ _, rfl, rfl, rfl⟩
/-- From two planted trees to the tree of both with an entry between. -/
theorem PlantR.node {S1 S2 S3 : Arn} {a b : List Ent} {e : Ent} {il ir i : Int} (h1 : PlantR S hs a S1 il) (h2 : PlantR S1 (il :: hs) b S2 ir) (hb : balN a.length b.length)
    (h3 : ∀ tl tr, Rep S2 tl il → Rep S2 tr ir → NodeR S2 hs e.1 e.2 tl tr S3 i) : PlantR S hs (a ++ e :: b) S3 i := by
  obtain ⟨tl, r1, r2, r3⟩ := h1.rep
  obtain ⟨tr, q1, q2, q3⟩ := h2.rep
  have r1' : Rep S2 tl il := r1.held h1.wf h2.stay (.inr (by simp))
  have n := h3 tl tr r1' q1
  refine ⟨n.wf, ⟨_, n.rep, ?_, ?_, r3, q3⟩, ?_, ?_, ?_, ?_⟩
  · simp [Tr.list, r2, q2]
  · rw [← tl.list_len, ← tr.list_len, r2, q2]; exact hb
  · exact (h1.stay.trans (h2.stay.mono (by simp_all))).trans n.stay
  · rw [n.len, h2.len, h1.len]
  · rw [n.rds, h2.rds, h1.rds]
  · rw [n.nu, h2.nu, h1.nu]; simp; omega
end Go.Proofs.Ytjbkckcjmmmooaa
end
section
/- Make where it succeeds, Release where another reference is left. -/
namespace Go.Proofs.Ytjbkckcjmmmooaa.Sx
open Go

def tMakeOk : Tfm C0 := fun args H K => match args with
  | [.at (.ptr 0 0), .at (.val (.int .i64 k)), .at (.val (.int .i64 v)), .at (.val (.int .u32 l)), .at (.val (.int .u32 r))] => arM H fun S => exW S ∧ live S l ∧ live S r ∧ (mkNode S k v l r).size ≤ maxSize ∧ 0 < S.free ∧
    ∀ S' i, S' = makeS S k v l r → i = nxt S → K (.tup [.at (vU i), .at (vI 0)]) (chS S') W7
  | _ => False
theorem s_makeOk : SoundT C0 101 tMakeOk := s_make.weak fun args H K h => by
  unfold tMakeOk at h
  unfold tMake
  split at h <;> try exact h.elim
  unfold arM at h ⊢
  split at h <;> try exact h.elim
  obtain ⟨h1, h2, h3, h4, h5, h6⟩ := h
  exact ⟨h1, h2, h3, fun e => absurd h4 (by omega), fun _ e => absurd h5 (by omega), fun _ _ => h6⟩
def tGive : Tfm C0 := fun args H K => match args with
  | [.at (.ptr 0 0), .at (.val (.int .u32 i))] => arM H fun S => ∃ hs, Wf S (i :: hs) ∧ (S.us i = true → 1 ≤ S.indeg i) ∧ ∀ S', S' = relA S i → K (.tup [.at (vI 0), .at (vI 0)]) (chS S') W7
  | _ => False
theorem s_give : SoundT C0 29 tGive := s_release.weak fun args H K h => by
  unfold tGive at h
  unfold tRelease
  split at h <;> try exact h.elim
  unfold arM at h ⊢
  split at h <;> try exact h.elim
  obtain ⟨hs, h1, h2, h3⟩ := h
  refine ⟨hs, h1, fun S' fr _ _ h4 h5 h6 => ?_⟩
  have e := h1.given h2 h5 h6
  have h7 := h3 S' e
  have : fr = 0 := by rw [e, (relA_flds _ _).2.2.1] at h4; omega
  rw [this]
  exact h7
end Go.Proofs.Ytjbkckcjmmmooaa.Sx
end
section
/- Listing a tree, and trees of a given shape. No program in sight. -/
namespace Go.Proofs.Ytjbkckcjmmmooaa
open Go

/-- What 'keys' of a lister collects where there is room for so many entries, and how many nodes it reads. -/
def lk : Tr → Int → Int → Nat → List Ent × Nat
  | .nil, _, _, _ => ([], 0)
  | .node l k v r, lo, hi, room => if room = 0 then ([], 0) else
    let a := if lo < k then lk l lo hi room else ([], 0)
    let b : List Ent := if lo ≤ k ∧ k ≤ hi ∧ a.1.length < room then [(k, v)] else []
    let c := if k < hi then lk r lo hi (room - (a.1.length + b.length)) else ([], 0)
    (a.1 ++ (b ++ c.1), 1 + a.2 + c.2)
theorem lk_len : ∀ (t : Tr) (lo hi : Int) (room : Nat), (lk t lo hi room).1.length ≤ room ∧ (lk t lo hi room).1.length ≤ t.size ∧ (lk t lo hi room).2 ≤ t.size
  | .nil, lo, hi, room => by simp [lk, Tr.size]
  | .node l k v r, lo, hi, room => by
    unfold lk
    by_cases h0 : room = 0
    · rw [if_pos h0]; simp
    · rw [if_neg h0]
      have ha : (if lo < k then lk l lo hi room else ([], 0)).1.length ≤ room ∧ (if lo < k then lk l lo hi room else ([], 0)).1.length ≤ l.size ∧ (if lo < k then lk l lo hi room else ([], 0)).2 ≤ l.size := by
        split
        · exact lk_len l lo hi room
        · simp
      simp only []
      generalize (if lo < k then lk l lo hi room else ([], 0)) = a at ha ⊢
      obtain ⟨a1, a2⟩ := a
      have hb : (if lo ≤ k ∧ k ≤ hi ∧ a1.length < room then [(k, v)] else []).length ≤ 1 ∧ (if lo ≤ k ∧ k ≤ hi ∧ a1.length < room then [(k, v)] else []).length ≤ room - a1.length := by
        split
        · simp; omega
        · simp
      simp only at ha
      generalize (if lo ≤ k ∧ k ≤ hi ∧ a1.length < room then [(k, v)] else []) = b at hb ⊢
      have hc : (if k < hi then lk r lo hi (room - (a1.length + b.length)) else ([], 0)).1.length ≤ room - (a1.length + b.length) ∧ (if k < hi then lk r lo hi (room - (a1.length + b.length)) else ([], 0)).1.length ≤ r.size ∧ (if k < hi then lk r lo hi (room - (a1.length + b.length)) else ([], 0)).2 ≤ r.size := by
        split
        · exact lk_len r lo hi _
        · simp
      generalize (if k < hi then lk r lo hi (room - (a1.length + b.length)) else ([], 0)) = c at hc ⊢
      obtain ⟨c1, c2⟩ := c
      simp only at hc
      simp [Tr.size]
      omega

def ne0 (t : Tr) : Nat := match t with
  | .nil => 0
  | .node _ _ _ _ => 1
/-- What 'places' of a lister collects, and how many nodes it reads. -/
def pl : Tr → Int → Int → List Ent × Nat
  | .nil, _, _ => ([], 0)
  | .node l k v r, f, t => if t ≤ f then ([], 0) else
    let s : Int := l.size
    let a := if f < s then pl l f (if s < t then s else t) else ([], 0)
    let b : List Ent := if f ≤ s ∧ s < t then [(k, v)] else []
    let c := if s + 1 < t then pl r (if 0 < f - s - 1 then f - s - 1 else 0) (t - s - 1) else ([], 0)
    (a.1 ++ (b ++ c.1), 1 + ne0 l + a.2 + c.2)
theorem pl_len : ∀ (t : Tr) (x y : Int), (pl t x y).1.length ≤ t.size ∧ (pl t x y).2 ≤ 2 * t.size
  | .nil, x, y => by simp [pl, Tr.size]
  | .node l k v r, x, y => by
    unfold pl
    by_cases h0 : y ≤ x
    · rw [if_pos h0]; simp
    · rw [if_neg h0]
      simp only []
      have ha : (if x < (l.size : Int) then pl l x (if (l.size : Int) < y then (l.size : Int) else y) else ([], 0)).1.length ≤ l.size ∧ (if x < (l.size : Int) then pl l x (if (l.size : Int) < y then (l.size : Int) else y) else ([], 0)).2 ≤ 2 * l.size := by
        split
        · exact pl_len l _ _
        · simp
      generalize (if x < (l.size : Int) then pl l x (if (l.size : Int) < y then (l.size : Int) else y) else ([], 0)) = a at ha ⊢
      have hb : (if x ≤ (l.size : Int) ∧ (l.size : Int) < y then [(k, v)] else []).length ≤ 1 := by split <;> simp
      generalize (if x ≤ (l.size : Int) ∧ (l.size : Int) < y then [(k, v)] else []) = b at hb ⊢
      have hc : (if (l.size : Int) + 1 < y then pl r (if 0 < x - l.size - 1 then x - l.size - 1 else 0) (y - l.size - 1) else ([], 0)).1.length ≤ r.size ∧ (if (l.size : Int) + 1 < y then pl r (if 0 < x - l.size - 1 then x - l.size - 1 else 0) (y - l.size - 1) else ([], 0)).2 ≤ 2 * r.size := by
        split
        · exact pl_len r _ _
        · simp
      generalize (if (l.size : Int) + 1 < y then pl r (if 0 < x - l.size - 1 then x - l.size - 1 else 0) (y - l.size - 1) else ([], 0)) = c at hc ⊢
      have hm : ne0 l ≤ 1 := by unfold ne0; split <;> omega
      simp [Tr.size]
      omega

/-- The shape that Build specifies. -/
def ShpT : Tr → List Ent → Prop
  | .nil, l => l = []
  | .node a k v b, l => 0 < l.length ∧ l.getD (l.length / 2) (0, 0) = (k, v) ∧ ShpT a (l.take (l.length / 2)) ∧ ShpT b (l.drop (l.length / 2 + 1))
theorem ShpT.list : ∀ {t : Tr} {l : List Ent}, ShpT t l → t.list = l
  | .nil, l, h => by have : l = [] := h; rw [this]; rfl
  | .node a k v b, l, h => by
    obtain ⟨h1, h2, h3, h4⟩ := h
    simp only [Tr.list]
    rw [h3.list, h4.list, ← h2]
    have hp : l.length / 2 < l.length := by omega
    have e : l[l.length / 2]? = some (l.getD (l.length / 2) (0, 0)) := by simp [List.getD_eq_getElem?_getD, List.getElem?_eq_getElem hp]
    obtain ⟨q1, q2⟩ := List.getElem?_eq_some_iff.1 e
    have e2 : l.drop (l.length / 2) = l.getD (l.length / 2) (0, 0) :: l.drop (l.length / 2 + 1) := by rw [List.drop_eq_getElem_cons q1, q2]
    rw [← e2, List.take_append_drop]
structure BuildR (S : Arn) (hs : List Int) (l : List Ent) (S' : Arn) (i : Int) : Prop where
  wf : Wf S' (i :: hs)
  rep : ∃ t, Rep S' t i ∧ ShpT t l
  stay : Stay S S' hs
  len : S'.used.length = S.used.length
  rds : S'.reads = S.reads
  nu : S'.nu = S.nu + l.length
end Go.Proofs.Ytjbkckcjmmmooaa
end
section
/- Small facts on states. -/
namespace Go.Proofs.Ytjbkckcjmmmooaa.Sx
open Go

theorem rdS_zero (S : Arn) : rdS S 0 = S := by simp [rdS]
theorem rdS_rdS (S : Arn) (a b : Nat) : rdS (rdS S a) b = rdS S (a + b) := by simp [rdS]; omega
theorem rep_rd {S : Arn} {t : Tr} {i : Int} (h : Rep S t i) (n : Nat) : Rep (rdS S n) t i := Rep.same (S := S) (S' := rdS S n) (fun _ => rfl) (fun _ => rfl) h
theorem inU_of {S : Arn} {hs : List Int} (h : Wf S hs) {i : Int} (hi : live S i) : inU i := by
  have h2 := h.n2
  rcases hi with rfl | hi
  · exact ⟨by decide, by decide⟩
  · have := h.pos hi; exact ⟨by omega, by omega⟩
theorem us_toNat {S : Arn} {hs : List Int} (hw : Wf S hs) {t : Tr} {i : Int} (hr : Rep S t i) : (S.us i).toNat = ne0 t := by
  cases t with
  | nil => have e : i = 0 := hr; rw [e, hw.us0 (Int.le_refl 0)]; rfl
  | node l k v r => rw [hr.1]; rfl
end Go.Proofs.Ytjbkckcjmmmooaa.Sx
end
