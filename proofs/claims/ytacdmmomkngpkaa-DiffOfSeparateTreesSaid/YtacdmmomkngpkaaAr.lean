/- The arena as plain data, and what its steps keep. No program in sight. -/
import Derived.Test.YtacdmmomkngpkaaLib
namespace Go.Proofs.Ytacdmmomkngpkaa
open Go

structure NodeT where
  key : Int
  value : Int
  left : Int
  right : Int
  size : Int
  sum : Int
  min : Int
  max : Int
  deriving DecidableEq
def NodeT.zero : NodeT := ⟨0, 0, 0, 0, 0, 0, 0, 0⟩
structure Arn where
  used : List Bool
  gen : List Int
  rel : List Int
  fresh : Int
  nodes : List NodeT
  counts : List Int
  reads : Int

theorem getD_set {α : Type} (l : List α) (i j : Nat) (x d : α) : (l.set i x).getD j d = if i = j ∧ j < l.length then x else l.getD j d := by
  simp only [List.getD_eq_getElem?_getD, List.getElem?_set]
  by_cases h : i = j
  · subst h
    by_cases h2 : i < l.length
    · simp [h2]
    · simp [h2]
  · simp [h]
theorem countP_set' {α : Type} (p : α → Bool) : ∀ (l : List α) (i : Nat) (x d : α), i < l.length → (l.set i x).countP p + (if p (l.getD i d) then 1 else 0) = l.countP p + (if p x then 1 else 0) := by
  intro l
  induction l with
  | nil => intro i x d h; simp at h
  | cons y t ih =>
    intro i x d h
    cases i with
    | zero => simp [List.countP_cons]; omega
    | succ i =>
      have := ih i x d (by simpa using h)
      simp only [List.set_cons_succ, List.countP_cons, List.getD_cons_succ]
      omega

namespace Arn
def us (S : Arn) (i : Int) : Bool := S.used.getD i.toNat false
def nd (S : Arn) (i : Int) : NodeT := S.nodes.getD i.toNat NodeT.zero
def ct (S : Arn) (i : Int) : Int := S.counts.getD i.toNat 0
def gn (S : Arn) (i : Int) : Int := S.gen.getD i.toNat 0
def cap (S : Arn) : Int := S.used.length - 1
def free (S : Arn) : Int := S.rel.length + S.cap - S.fresh
def nu (S : Arn) : Nat := S.used.countP id
def indeg (S : Arn) (i : Int) : Nat := S.nodes.countP (fun x => x.left == i) + S.nodes.countP (fun x => x.right == i)
end Arn
def maxSize : Int := 2147483647

def addK (n x : NodeT) : NodeT := { n with size := IntKind.i64.wrap (n.size + x.size), sum := IntKind.i64.wrap (n.sum + x.sum), min := if x.min < n.min then x.min else n.min, max := if n.max < x.max then x.max else n.max }
def addC (S : Arn) (n : NodeT) (c : Int) : NodeT := if c = 0 then n else addK n (S.nd c)
def mkNode (S : Arn) (k v l r : Int) : NodeT := addC S (addC S ⟨k, v, l, r, 1, v, v, v⟩ l) r

/-- The arena is whole, and hs are the references held from outside. -/
structure Wf (S : Arn) (hs : List Int) : Prop where
  n1 : 2 ≤ S.used.length
  n2 : S.used.length ≤ 65537
  ngen : S.gen.length = S.used.length
  nnod : S.nodes.length = S.used.length
  ncnt : S.counts.length = S.used.length
  fr : 0 ≤ S.fresh ∧ S.fresh < S.used.length
  rel : ∀ i ∈ S.rel, 1 ≤ i ∧ i ≤ S.fresh
  dup : S.rel.Nodup
  use : ∀ i : Int, S.us i = true ↔ 1 ≤ i ∧ i ≤ S.fresh ∧ i ∉ S.rel
  zero : ∀ i : Int, S.us i = false → S.nd i = NodeT.zero
  kid : ∀ i, S.us i = true → ((S.nd i).left = 0 ∨ S.us (S.nd i).left = true) ∧ ((S.nd i).right = 0 ∨ S.us (S.nd i).right = true)
  agg : ∀ i, S.us i = true → S.nd i = mkNode S (S.nd i).key (S.nd i).value (S.nd i).left (S.nd i).right
  siz : ∀ i, S.us i = true → 1 ≤ (S.nd i).size ∧ (S.nd i).size ≤ maxSize ∧ (S.nd i).size = 1 + (S.nd (S.nd i).left).size + (S.nd (S.nd i).right).size
  cnt : ∀ i, S.us i = true → S.ct i = S.indeg i + hs.count i ∧ 1 ≤ S.ct i
  held : ∀ i ∈ hs, i = 0 ∨ S.us i = true
  few : hs.length + 2 * S.nu ≤ 2000000000
  nus : S.rel.length + S.nu = S.fresh.toNat
  rds : 0 ≤ S.reads ∧ S.reads ≤ 4000000000000000000

variable {S : Arn} {hs : List Int}
theorem Wf.pos (h : Wf S hs) {i : Int} (hi : S.us i = true) : 1 ≤ i ∧ i < S.used.length ∧ i.toNat < S.used.length := by
  have := (h.use i).1 hi
  have := h.fr
  omega
theorem Wf.us0 (h : Wf S hs) {i : Int} (hi : i ≤ 0) : S.us i = false := by
  cases hb : S.us i with
  | false => rfl
  | true => have := (h.pos hb).1; omega
theorem Wf.nd0 (h : Wf S hs) : S.nd 0 = NodeT.zero := h.zero 0 (h.us0 (Int.le_refl 0))
theorem Wf.size_nonneg (h : Wf S hs) (i : Int) : 0 ≤ (S.nd i).size ∧ (S.nd i).size ≤ maxSize := by
  cases hb : S.us i with
  | false => rw [h.zero i hb]; decide
  | true => have := h.siz i hb; omega

/-! ### Free slots -/
theorem Wf.nu_le (h : Wf S hs) : S.nu ≤ 65537 := by
  have := List.countP_le_length (p := id) (l := S.used)
  have := h.n2
  unfold Arn.nu; omega
theorem Wf.free_nonneg (h : Wf S hs) : 0 ≤ S.free ∧ S.free ≤ 65536 ∧ (S.rel.length : Int) ≤ S.fresh ∧ S.free = S.cap - S.nu := by
  have := h.nus; have := h.fr; have := h.n2
  unfold Arn.free Arn.cap
  omega

/-! ### Reading -/
def rdS (S : Arn) (n : Nat) : Arn := { S with reads := S.reads + n }
theorem Wf.rd (h : Wf S hs) {n : Nat} (hn : S.reads + n ≤ 4000000000000000000) : Wf (rdS S n) hs :=
  { h with rds := ⟨by have := h.rds; show 0 ≤ S.reads + (n : Int); omega, hn⟩ }

/-! ### A further reference -/
def bump (l : List Int) (i : Int) : List Int := l.set i.toNat (IntKind.i64.wrap (l.getD i.toNat 0 + 1))
def retA (S : Arn) (i : Int) : Arn := { S with counts := bump S.counts i }
def decS (S : Arn) (i : Int) : Arn := { S with counts := S.counts.set i.toNat (IntKind.i64.wrap (S.ct i - 1)) }
theorem bump_len (l : List Int) (i : Int) : (bump l i).length = l.length := by simp [bump]
theorem wrap_id {x : Int} (h1 : -9223372036854775808 ≤ x) (h2 : x ≤ 9223372036854775807) : IntKind.i64.wrap x = x := by
  unfold IntKind.wrap
  simp [IntKind.signed, IntKind.bits]
  omega
theorem toNat_inj {i j : Int} (hi : 0 ≤ i) (hj : 0 ≤ j) : i.toNat = j.toNat ↔ i = j := by omega
theorem countP_le_len {α : Type} (p : α → Bool) (l : List α) : l.countP p ≤ l.length := List.countP_le_length
theorem Wf.indeg_le (h : Wf S hs) (i : Int) : S.indeg i ≤ 131074 := by
  have h1 := List.countP_le_length (p := fun x : NodeT => x.left == i) (l := S.nodes)
  have h2 := List.countP_le_length (p := fun x : NodeT => x.right == i) (l := S.nodes)
  have := h.nnod; have := h.n2
  unfold Arn.indeg; omega
theorem Wf.ct_le (h : Wf S hs) {i : Int} (hi : S.us i = true) : 1 ≤ S.ct i ∧ S.ct i ≤ 2000200000 := by
  have h1 := h.cnt i hi
  have h2 := h.indeg_le i
  have h3 := List.count_le_length (a := i) (l := hs)
  have := h.few
  omega
theorem Wf.ret (h : Wf S hs) {i : Int} (hi : S.us i = true) (hf : hs.length < 1000000000) : Wf (retA S i) (i :: hs) := by
  have hp := h.pos hi
  have hc := h.ct_le hi
  refine { h with ncnt := by show (bump S.counts i).length = _; rw [bump_len]; exact h.ncnt, cnt := fun j hj => ?_, held := fun j hj => ?_, few := by have := h.nu_le; show (i :: hs).length + 2 * S.nu ≤ _; simp; omega }
  · have hj' : S.us j = true := hj
    have hpj := h.pos hj'
    obtain ⟨h1, h2⟩ := h.cnt j hj'
    have e : (retA S i).ct j = if i = j then S.ct j + 1 else S.ct j := by
      unfold retA Arn.ct bump
      simp only []
      rw [getD_set]
      by_cases e : i = j
      · subst e
        rw [if_pos ⟨rfl, by rw [h.ncnt]; omega⟩, if_pos rfl]
        unfold Arn.ct at hc
        rw [wrap_id (by omega) (by omega)]
      · rw [if_neg (by omega), if_neg e]
    have e2 : (retA S i).indeg j = S.indeg j := rfl
    rw [e, e2, List.count_cons]
    by_cases e3 : i = j
    · subst e3; simp; omega
    · simp [e3]; omega
  · rcases List.mem_cons.1 hj with rfl | hj
    · exact .inr hi
    · exact h.held j hj
theorem Wf.dec {i : Int} (h : Wf S (i :: hs)) (hi : S.us i = true) (h1 : 1 < S.ct i) : Wf (decS S i) hs := by
  have hp := h.pos hi
  have hc := h.ct_le hi
  refine { h with ncnt := by show (S.counts.set _ _).length = _; rw [List.length_set]; exact h.ncnt, cnt := fun j hj => ?_, held := fun j hj => h.held j (List.mem_cons_of_mem _ hj), few := by have := h.few; show hs.length + 2 * S.nu ≤ _; simp at this; omega }
  have hj' : S.us j = true := hj
  have hpj := h.pos hj'
  obtain ⟨h3, h4⟩ := h.cnt j hj'
  have e : (decS S i).ct j = if i = j then S.ct j - 1 else S.ct j := by
    unfold decS Arn.ct
    simp only []
    rw [getD_set]
    by_cases e : i = j
    · subst e
      rw [if_pos ⟨rfl, by rw [h.ncnt]; omega⟩, if_pos rfl]
      unfold Arn.ct at hc
      rw [wrap_id (by omega) (by omega)]
    · rw [if_neg (by omega), if_neg e]
  have e2 : (decS S i).indeg j = S.indeg j := rfl
  rw [e, e2]
  rw [List.count_cons] at h3
  by_cases e3 : i = j
  · subst e3; simp at h3 ⊢; omega
  · simp [e3] at h3 ⊢; omega
theorem Wf.perm {hs' : List Int} (h : Wf S hs) (p : hs.Perm hs') : Wf S hs' :=
  { h with cnt := fun i hi => by rw [← p.count_eq]; exact h.cnt i hi, held := fun i hi => h.held i (p.mem_iff.2 hi), few := by rw [← p.length_eq]; exact h.few }
/-- Nothing is held by holding the empty tree. -/
theorem Wf.zero_cons (h : Wf S hs) (hl : hs.length ≤ 1000000000) : Wf S (0 :: hs) := by
  refine { h with cnt := fun i hi => ?_, held := fun i hi => ?_, few := by have := h.nu_le; simp; omega }
  · have hp := (h.pos hi).1
    rw [List.count_cons_of_ne (by omega)]
    exact h.cnt i hi
  · rcases List.mem_cons.1 hi with rfl | hi
    · exact .inl rfl
    · exact h.held i hi
theorem Wf.of_zero (h : Wf S (0 :: hs)) : Wf S hs := by
  refine { h with cnt := fun i hi => ?_, held := fun i hi => h.held i (List.mem_cons_of_mem _ hi), few := by have := h.few; simp at this; omega }
  have hp := (h.pos hi).1
  have := h.cnt i hi
  rw [List.count_cons_of_ne (by omega)] at this
  exact this

/-! ### Nodes -/
theorem addC_congr {S S' : Arn} {n : NodeT} {c : Int} (h : c ≠ 0 → S'.nd c = S.nd c) : addC S' n c = addC S n c := by
  unfold addC
  by_cases hc : c = 0
  · rw [if_pos hc, if_pos hc]
  · rw [if_neg hc, if_neg hc, h hc]
theorem mkNode_congr {S S' : Arn} {k v l r : Int} (hl : l ≠ 0 → S'.nd l = S.nd l) (hr : r ≠ 0 → S'.nd r = S.nd r) : mkNode S' k v l r = mkNode S k v l r := by
  unfold mkNode
  rw [addC_congr hl, addC_congr hr]
theorem addC_flds (S : Arn) (n : NodeT) (c : Int) : (addC S n c).key = n.key ∧ (addC S n c).value = n.value ∧ (addC S n c).left = n.left ∧ (addC S n c).right = n.right := by
  unfold addC; split <;> exact ⟨rfl, rfl, rfl, rfl⟩
theorem mkNode_flds (S : Arn) (k v l r : Int) : (mkNode S k v l r).key = k ∧ (mkNode S k v l r).value = v ∧ (mkNode S k v l r).left = l ∧ (mkNode S k v l r).right = r := by
  unfold mkNode
  obtain ⟨h1, h2, h3, h4⟩ := addC_flds S (addC S ⟨k, v, l, r, 1, v, v, v⟩ l) r
  obtain ⟨g1, g2, g3, g4⟩ := addC_flds S ⟨k, v, l, r, 1, v, v, v⟩ l
  exact ⟨h1.trans g1, h2.trans g2, h3.trans g3, h4.trans g4⟩
theorem Wf.addC_size (h : Wf S hs) {n : NodeT} (h1 : 0 ≤ n.size ∧ n.size ≤ 4294967296) (c : Int) : (addC S n c).size = n.size + (S.nd c).size := by
  unfold addC
  by_cases hc : c = 0
  · rw [if_pos hc, hc, h.nd0]; simp [NodeT.zero]
  · rw [if_neg hc]
    have := h.size_nonneg c
    unfold maxSize at this
    show IntKind.i64.wrap (n.size + (S.nd c).size) = _
    rw [wrap_id (by omega) (by omega)]
theorem Wf.mkNode_size (h : Wf S hs) (k v l r : Int) : (mkNode S k v l r).size = 1 + (S.nd l).size + (S.nd r).size := by
  unfold mkNode
  have h1 := h.size_nonneg l
  unfold maxSize at h1
  have e := h.addC_size (n := ⟨k, v, l, r, 1, v, v, v⟩) ⟨by show (0 : Int) ≤ 1; decide, by show (1 : Int) ≤ 4294967296; decide⟩ l
  have e' : (addC S ⟨k, v, l, r, 1, v, v, v⟩ l).size = 1 + (S.nd l).size := e
  rw [h.addC_size (by omega) r, e']

/-! ### A new node -/
def fresh3 (rl : List Int) (fr : Int) : Int × List Int × Int := if 0 < rl.length then (rl.getD (rl.length - 1) 0, rl.take (rl.length - 1), fr) else (fr + 1, rl, fr + 1)
def freshS (S : Arn) : Int × List Int × Int := fresh3 S.rel S.fresh
def nxt (S : Arn) : Int := (freshS S).1
def makeS (S : Arn) (k v l r : Int) : Arn :=
  { used := S.used.set (nxt S).toNat true, gen := S.gen.set (nxt S).toNat (IntKind.u32.wrap (S.gn (nxt S) + 1)), rel := (freshS S).2.1, fresh := (freshS S).2.2,
    nodes := S.nodes.set (nxt S).toNat (mkNode S k v l r), counts := bump (bump (S.counts.set (nxt S).toNat 1) l) r, reads := S.reads }
theorem Wf.nxt_spec (h : Wf S hs) (hf : 0 < S.free) : 1 ≤ nxt S ∧ nxt S < S.used.length ∧ S.us (nxt S) = false ∧ (0 ≤ (freshS S).2.2 ∧ (freshS S).2.2 < S.used.length) ∧ (freshS S).2.1.Nodup ∧
    (∀ i ∈ (freshS S).2.1, 1 ≤ i ∧ i ≤ (freshS S).2.2) ∧ (∀ i, (i = nxt S ∨ S.us i = true) ↔ 1 ≤ i ∧ i ≤ (freshS S).2.2 ∧ i ∉ (freshS S).2.1) ∧ (freshS S).2.1.length + (S.nu + 1) = (freshS S).2.2.toNat := by
  have hfr := h.fr
  have hnus := h.nus
  unfold nxt freshS fresh3
  by_cases hr : 0 < S.rel.length
  · simp only [if_pos hr]
    obtain ⟨q, x, hq⟩ : ∃ q x, S.rel = q ++ [x] := ⟨S.rel.dropLast, S.rel.getLast (by intro e; rw [e] at hr; simp at hr), (List.dropLast_concat_getLast _).symm⟩
    have e1 : S.rel.getD (S.rel.length - 1) 0 = x := by rw [hq]; simp
    have e2 : S.rel.take (S.rel.length - 1) = q := by rw [hq]; simp
    have hd := h.dup
    rw [hq] at hd hnus
    obtain ⟨d1, _, d2⟩ := List.nodup_append.1 hd
    have hx := h.rel x (by rw [hq]; simp)
    have hu : S.us x = false := by
      cases hb : S.us x with
      | false => rfl
      | true => exact absurd (by rw [hq]; simp) ((h.use x).1 hb).2.2
    rw [e1, e2]
    refine ⟨hx.1, by omega, hu, hfr, d1, fun i hi => h.rel i (by rw [hq]; simp [hi]), fun i => ?_, by simp at hnus; omega⟩
    rw [h.use i, hq]
    constructor
    · rintro (rfl | ⟨h1, h2, h3⟩)
      · exact ⟨hx.1, hx.2, fun hm => d2 _ hm _ (by simp) rfl⟩
      · exact ⟨h1, h2, fun hm => h3 (by simp [hm])⟩
    · rintro ⟨h1, h2, h3⟩
      by_cases e : i = x
      · exact .inl e
      · exact .inr ⟨h1, h2, by simp [h3, e]⟩
  · simp only [if_neg hr]
    have hr0 : S.rel = [] := List.length_eq_zero_iff.1 (by omega)
    unfold Arn.free Arn.cap at hf
    have hu : S.us (S.fresh + 1) = false := by
      cases hb : S.us (S.fresh + 1) with
      | false => rfl
      | true => have := ((h.use _).1 hb).2.1; omega
    refine ⟨by omega, by omega, hu, by omega, h.dup, fun i hi => by have := h.rel i hi; omega, fun i => ?_, by omega⟩
    rw [h.use i, hr0]
    simp
    omega
theorem make_us (h : Wf S hs) (hf : 0 < S.free) {k v l r : Int} (i : Int) : (makeS S k v l r).us i = true ↔ i = nxt S ∨ S.us i = true := by
  obtain ⟨h1, h2, h3, _⟩ := h.nxt_spec hf
  unfold Arn.us makeS
  simp only []
  rw [getD_set]
  by_cases e : i = nxt S
  · rw [if_pos ⟨by rw [e], by rw [e]; omega⟩]; simp [e]
  · by_cases e2 : (nxt S).toNat = i.toNat
    · omega
    · rw [if_neg (fun c => e2 c.1)]; simp [e]
theorem make_nd (h : Wf S hs) (hf : 0 < S.free) {k v l r : Int} (i : Int) : (makeS S k v l r).nd i = if i = nxt S then mkNode S k v l r else S.nd i := by
  obtain ⟨h1, h2, h3, _⟩ := h.nxt_spec hf
  have := h.nnod
  unfold Arn.nd makeS
  simp only []
  rw [getD_set]
  by_cases e : i = nxt S
  · rw [if_pos ⟨by rw [e], by rw [e]; omega⟩, if_pos e]
  · rw [if_neg (by omega), if_neg e]
theorem bump_get {cs : List Int} {l j : Int} (hl : 0 ≤ l) (hj : 0 ≤ j) (hn : j.toNat < cs.length) : (bump cs l).getD j.toNat 0 = if l = j then IntKind.i64.wrap (cs.getD j.toNat 0 + 1) else cs.getD j.toNat 0 := by
  unfold bump
  rw [getD_set]
  by_cases e : l = j
  · subst e; rw [if_pos ⟨rfl, hn⟩, if_pos rfl]
  · rw [if_neg (by omega), if_neg e]
theorem Wf.ge0 (h : Wf S hs) {i : Int} (hi : i = 0 ∨ S.us i = true) : 0 ≤ i := by
  rcases hi with rfl | hi
  · exact Int.le_refl _
  · have := (h.pos hi).1; omega
theorem Wf.indeg_free (h : Wf S hs) {i : Int} (h1 : 1 ≤ i) (hu : S.us i = false) : S.indeg i = 0 := by
  have key : ∀ n ∈ S.nodes, n.left ≠ i ∧ n.right ≠ i := by
    intro n hn
    obtain ⟨j, hj⟩ := List.mem_iff_getElem?.1 hn
    have e : S.nd (j : Int) = n := by unfold Arn.nd; simp [List.getD_eq_getElem?_getD, hj]
    cases hb : S.us (j : Int) with
    | false =>
      have := h.zero _ hb
      rw [e] at this
      rw [this]
      simp [NodeT.zero]; omega
    | true =>
      have := h.kid _ hb
      rw [e] at this
      refine ⟨fun c => ?_, fun c => ?_⟩
      · rcases this.1 with h2 | h2
        · omega
        · rw [c, hu] at h2; cases h2
      · rcases this.2 with h2 | h2
        · omega
        · rw [c, hu] at h2; cases h2
  unfold Arn.indeg
  have e1 : S.nodes.countP (fun x => x.left == i) = 0 := List.countP_eq_zero.2 fun n hn => by have := (key n hn).1; simpa using this
  have e2 : S.nodes.countP (fun x => x.right == i) = 0 := List.countP_eq_zero.2 fun n hn => by have := (key n hn).2; simpa using this
  rw [e1, e2]
theorem make_indeg (h : Wf S hs) (hf : 0 < S.free) {k v l r : Int} {i : Int} (hi : 1 ≤ i) : (makeS S k v l r).indeg i = S.indeg i + (if l = i then 1 else 0) + (if r = i then 1 else 0) := by
  obtain ⟨h1, h2, h3, _⟩ := h.nxt_spec hf
  have hn := h.nnod
  have hz : S.nodes.getD (nxt S).toNat NodeT.zero = NodeT.zero := h.zero _ h3
  obtain ⟨_, _, m1, m2⟩ := mkNode_flds S k v l r
  have a1 := countP_set' (fun x : NodeT => x.left == i) S.nodes (nxt S).toNat (mkNode S k v l r) NodeT.zero (by omega)
  have a2 := countP_set' (fun x : NodeT => x.right == i) S.nodes (nxt S).toNat (mkNode S k v l r) NodeT.zero (by omega)
  rw [hz] at a1 a2
  simp only [m1, m2] at a1 a2
  have z1 : ¬ (NodeT.zero.left == i) = true := by simp [NodeT.zero]; omega
  have z2 : ¬ (NodeT.zero.right == i) = true := by simp [NodeT.zero]; omega
  rw [if_neg z1] at a1
  rw [if_neg z2] at a2
  unfold Arn.indeg makeS
  simp only [beq_iff_eq] at a1 a2 ⊢
  omega
theorem Wf.make (h : Wf S hs) {k v l r : Int} (hl : l = 0 ∨ S.us l = true) (hr : r = 0 ∨ S.us r = true) (hf : 0 < S.free) (hz : (mkNode S k v l r).size ≤ maxSize) (hs1 : hs.length ≤ 1000000000) :
    Wf (makeS S k v l r) (nxt S :: hs) := by
  obtain ⟨h1, h2, h3, h4, h5, h6, h7, h8⟩ := h.nxt_spec hf
  have ln : (makeS S k v l r).used.length = S.used.length := by simp [makeS]
  have hl0 := h.ge0 hl
  have hr0 := h.ge0 hr
  have l_ne : l ≠ 0 → l ≠ nxt S := fun e c => by rcases hl with hl | hl; exact e hl; rw [c, h3] at hl; cases hl
  have r_ne : r ≠ 0 → r ≠ nxt S := fun e c => by rcases hr with hr | hr; exact e hr; rw [c, h3] at hr; cases hr
  have hnu : (makeS S k v l r).nu = S.nu + 1 := by
    have a := countP_set' id S.used (nxt S).toNat true false (by omega)
    have : S.used.getD (nxt S).toNat false = false := h3
    rw [this] at a
    simp at a
    unfold Arn.nu makeS
    simp
    omega
  have hcong : ∀ c, (c = 0 ∨ S.us c = true) → c ≠ 0 → (makeS S k v l r).nd c = S.nd c := fun c hc hc0 => by
    rw [make_nd h hf, if_neg]
    rintro rfl
    rcases hc with hc | hc
    · exact hc0 hc
    · rw [h3] at hc; cases hc
  have nd0 : (makeS S k v l r).nd 0 = S.nd 0 := by rw [make_nd h hf, if_neg (by omega)]
  have ndk : ∀ c, (c = 0 ∨ S.us c = true) → (makeS S k v l r).nd c = S.nd c := fun c hc => by
    by_cases e : c = 0
    · rw [e]; exact nd0
    · exact hcong c hc e
  constructor
  case n1 => rw [ln]; exact h.n1
  case n2 => rw [ln]; exact h.n2
  case ngen => rw [ln]; simp [makeS, h.ngen]
  case nnod => rw [ln]; simp [makeS, h.nnod]
  case ncnt => rw [ln]; simp [makeS, bump_len, h.ncnt]
  case fr => rw [ln]; exact h4
  case rel => exact h6
  case dup => exact h5
  case use => intro i; rw [make_us h hf]; exact h7 i
  case zero =>
    intro i hi
    have hn : ¬ (i = nxt S ∨ S.us i = true) := fun c => by rw [(make_us h hf (k := k) (v := v) (l := l) (r := r) i).2 c] at hi; cases hi
    rw [make_nd h hf, if_neg fun c => hn (.inl c)]
    exact h.zero i (by cases hb : S.us i with | false => rfl | true => exact absurd (.inr hb) hn)
  case kid =>
    intro i hi
    rw [make_us h hf] at hi
    rw [make_nd h hf]
    by_cases e : i = nxt S
    · rw [if_pos e]
      obtain ⟨_, _, m1, m2⟩ := mkNode_flds S k v l r
      rw [m1, m2, make_us h hf, make_us h hf]
      exact ⟨hl.imp id .inr, hr.imp id .inr⟩
    · rw [if_neg e]
      have := h.kid i (hi.resolve_left e)
      rw [make_us h hf, make_us h hf]
      exact ⟨this.1.imp id .inr, this.2.imp id .inr⟩
  case agg =>
    intro i hi
    rw [make_us h hf] at hi
    rw [make_nd h hf]
    by_cases e : i = nxt S
    · rw [if_pos e]
      obtain ⟨m3, m4, m1, m2⟩ := mkNode_flds S k v l r
      rw [m1, m2, m3, m4]
      exact (mkNode_congr (hcong l hl) (hcong r hr)).symm
    · rw [if_neg e]
      have hk := h.kid i (hi.resolve_left e)
      rw [mkNode_congr (hcong _ hk.1) (hcong _ hk.2)]
      exact h.agg i (hi.resolve_left e)
  case siz =>
    intro i hi
    rw [make_us h hf] at hi
    rw [make_nd h hf]
    by_cases e : i = nxt S
    · rw [if_pos e]
      obtain ⟨_, _, m1, m2⟩ := mkNode_flds S k v l r
      rw [m1, m2, ndk l hl, ndk r hr, h.mkNode_size] at *
      have := h.size_nonneg l; have := h.size_nonneg r
      omega
    · rw [if_neg e]
      have hk := h.kid i (hi.resolve_left e)
      rw [ndk _ hk.1, ndk _ hk.2]
      exact h.siz i (hi.resolve_left e)
  case cnt =>
    intro i hi
    rw [make_us h hf] at hi
    have hi1 : 1 ≤ i ∧ i < S.used.length := by
      rcases hi with rfl | hi
      · exact ⟨h1, h2⟩
      · have := h.pos hi; omega
    have hnc := h.ncnt
    rw [make_indeg h hf hi1.1]
    have ec : (makeS S k v l r).ct i = (bump (bump (S.counts.set (nxt S).toNat 1) l) r).getD i.toNat 0 := rfl
    rw [ec, bump_get hr0 (by omega) (by rw [bump_len, List.length_set]; omega), bump_get hl0 (by omega) (by rw [List.length_set]; omega), getD_set]
    by_cases e : i = nxt S
    · have e1 : ¬ l = i := fun c => l_ne (by omega) (c.trans e)
      have e2 : ¬ r = i := fun c => r_ne (by omega) (c.trans e)
      have hc0 : hs.count i = 0 := List.count_eq_zero.2 fun hm => by
        rcases h.held i hm with hh | hh
        · omega
        · rw [e, h3] at hh; cases hh
      rw [if_neg e2, if_neg e1, if_pos ⟨by rw [e], by omega⟩, if_neg e1, if_neg e2, h.indeg_free hi1.1 (by rw [e]; exact h3), ← e, List.count_cons_self, hc0]
      simp
    · have hu := hi.resolve_left e
      obtain ⟨c1, c2⟩ := h.cnt i hu
      have c3 := h.ct_le hu
      rw [if_neg (by omega : ¬ ((nxt S).toNat = i.toNat ∧ i.toNat < S.counts.length)), List.count_cons_of_ne (fun c => e c.symm)]
      have e3 : S.counts.getD i.toNat 0 = S.ct i := rfl
      rw [e3]
      by_cases e1 : l = i <;> by_cases e2 : r = i
      · rw [if_pos e2, if_pos e1, if_pos e1, if_pos e2, wrap_id (x := S.ct i + 1) (by omega) (by omega), wrap_id (by omega) (by omega)]; omega
      · rw [if_neg e2, if_pos e1, if_pos e1, if_neg e2, wrap_id (by omega) (by omega)]; omega
      · rw [if_pos e2, if_neg e1, if_neg e1, if_pos e2, wrap_id (by omega) (by omega)]; omega
      · rw [if_neg e2, if_neg e1, if_neg e1, if_neg e2]; omega
  case held =>
    intro i hi
    rw [make_us h hf]
    rcases List.mem_cons.1 hi with rfl | hi
    · exact .inr (.inl rfl)
    · exact (h.held i hi).imp id .inr
  case few => rw [hnu]; have := h.nu_le; simp; omega
  case nus => rw [hnu]; exact h8
  case rds => exact h.rds

/-! ### A slot that becomes free -/
def nz (c : Int) : List Int := if c = 0 then [] else [c]
def freeS (S : Arn) (k : Int) : Arn := { S with counts := S.counts.set k.toNat (IntKind.i64.wrap (S.ct k - 1)), nodes := S.nodes.set k.toNat NodeT.zero, used := S.used.set k.toNat false, rel := S.rel ++ [k] }
theorem nz_count {c i : Int} (hi : 1 ≤ i) : (nz c).count i = if c = i then 1 else 0 := by
  unfold nz
  by_cases hc : c = 0
  · rw [if_pos hc, if_neg (by omega)]; rfl
  · rw [if_neg hc]
    by_cases e : c = i
    · subst e; simp
    · simp [e]
theorem Wf.freed {k : Int} (h : Wf S (k :: hs)) (hk : S.us k = true) (hc : S.ct k = 1) : Wf (freeS S k) (nz (S.nd k).right ++ (nz (S.nd k).left ++ hs)) ∧ (freeS S k).nu + 1 = S.nu ∧
    (∀ i, (freeS S k).us i = true ↔ i ≠ k ∧ S.us i = true) ∧ (∀ i, (freeS S k).nd i = if i = k then NodeT.zero else S.nd i) := by
  have hp := h.pos hk
  have hnod := h.nnod
  have hcnt := h.ncnt
  obtain ⟨hc1, _⟩ := h.cnt k hk
  rw [List.count_cons_self] at hc1
  have hin : S.indeg k = 0 := by omega
  have hhk : hs.count k = 0 := by omega
  have ln : (freeS S k).used.length = S.used.length := by simp [freeS]
  have hus : ∀ i, (freeS S k).us i = true ↔ i ≠ k ∧ S.us i = true := by
    intro i
    unfold freeS Arn.us
    simp only []
    rw [getD_set]
    by_cases e : i = k
    · rw [if_pos ⟨by rw [e], by rw [e]; exact hp.2.2⟩]; simp [e]
    · rw [if_neg (by omega)]; simp [e]
  have hnd : ∀ i, (freeS S k).nd i = if i = k then NodeT.zero else S.nd i := by
    intro i
    unfold freeS Arn.nd
    simp only []
    rw [getD_set]
    by_cases e : i = k
    · rw [if_pos ⟨by rw [e], by rw [e]; omega⟩, if_pos e]
    · rw [if_neg (by omega), if_neg e]
  have hnu : (freeS S k).nu + 1 = S.nu := by
    have a := countP_set' id S.used k.toNat false false hp.2.2
    have : S.used.getD k.toNat false = true := hk
    rw [this] at a
    simp at a
    unfold Arn.nu freeS
    simp
    omega
  have nok : ∀ i, S.us i = true → (S.nd i).left ≠ k ∧ (S.nd i).right ≠ k := by
    intro i hi
    have hpi := h.pos hi
    have hm : S.nd i ∈ S.nodes := by
      have : i.toNat < S.nodes.length := by omega
      unfold Arn.nd
      rw [List.getD_eq_getElem?_getD, List.getElem?_eq_getElem this]
      exact List.getElem_mem this
    unfold Arn.indeg at hin
    have e1 : S.nodes.countP (fun x => x.left == k) = 0 := by omega
    have e2 : S.nodes.countP (fun x => x.right == k) = 0 := by omega
    exact ⟨by simpa using List.countP_eq_zero.1 e1 _ hm, by simpa using List.countP_eq_zero.1 e2 _ hm⟩
  have ndk : ∀ c, c ≠ k → (freeS S k).nd c = S.nd c := fun c hc => by rw [hnd, if_neg hc]
  refine ⟨?_, hnu, hus, hnd⟩
  constructor
  case n1 => rw [ln]; exact h.n1
  case n2 => rw [ln]; exact h.n2
  case ngen => rw [ln]; exact h.ngen
  case nnod => rw [ln]; simp [freeS, h.nnod]
  case ncnt => rw [ln]; simp [freeS, h.ncnt]
  case fr => rw [ln]; exact h.fr
  case rel =>
    intro i hi
    rcases List.mem_append.1 hi with hi | hi
    · exact h.rel i hi
    · simp at hi; subst hi; have := (h.use i).1 hk; exact ⟨this.1, this.2.1⟩
  case dup =>
    refine List.nodup_append.2 ⟨h.dup, by simp, fun a ha b hb => ?_⟩
    simp at hb; subst hb
    rintro rfl
    exact ((h.use a).1 hk).2.2 ha
  case use =>
    intro i
    rw [hus, h.use i]
    show _ ↔ 1 ≤ i ∧ i ≤ S.fresh ∧ i ∉ S.rel ++ [k]
    simp
    constructor
    · rintro ⟨a, b, c, d⟩; exact ⟨b, c, d, a⟩
    · rintro ⟨b, c, d, a⟩; exact ⟨a, b, c, d⟩
  case zero =>
    intro i hi
    rw [hnd]
    by_cases e : i = k
    · rw [if_pos e]
    · rw [if_neg e]
      refine h.zero i ?_
      cases hb : S.us i with
      | false => rfl
      | true => rw [(hus i).2 ⟨e, hb⟩] at hi; cases hi
  case kid =>
    intro i hi
    obtain ⟨e, hu⟩ := (hus i).1 hi
    have hkd := h.kid i hu
    have hn := nok i hu
    rw [ndk i e, hus, hus]
    exact ⟨hkd.1.imp id fun z => ⟨hn.1, z⟩, hkd.2.imp id fun z => ⟨hn.2, z⟩⟩
  case agg =>
    intro i hi
    obtain ⟨e, hu⟩ := (hus i).1 hi
    have hn := nok i hu
    rw [ndk i e, mkNode_congr (fun _ => ndk _ hn.1) (fun _ => ndk _ hn.2)]
    exact h.agg i hu
  case siz =>
    intro i hi
    obtain ⟨e, hu⟩ := (hus i).1 hi
    have hn := nok i hu
    rw [ndk i e, ndk _ hn.1, ndk _ hn.2]
    exact h.siz i hu
  case cnt =>
    intro i hi
    obtain ⟨e, hu⟩ := (hus i).1 hi
    have hpi := h.pos hu
    obtain ⟨c1, c2⟩ := h.cnt i hu
    have ec : (freeS S k).ct i = S.ct i := by
      unfold freeS Arn.ct
      simp only []
      rw [getD_set, if_neg (by omega)]
    have a1 := countP_set' (fun x : NodeT => x.left == i) S.nodes k.toNat NodeT.zero NodeT.zero (by omega)
    have a2 := countP_set' (fun x : NodeT => x.right == i) S.nodes k.toNat NodeT.zero NodeT.zero (by omega)
    have ek : S.nodes.getD k.toNat NodeT.zero = S.nd k := rfl
    have z1 : ¬ (NodeT.zero.left == i) = true := by simp [NodeT.zero]; omega
    have z2 : ¬ (NodeT.zero.right == i) = true := by simp [NodeT.zero]; omega
    rw [ek, if_neg z1] at a1
    rw [ek, if_neg z2] at a2
    have ei : (freeS S k).indeg i = (S.nodes.set k.toNat NodeT.zero).countP (fun x => x.left == i) + (S.nodes.set k.toNat NodeT.zero).countP (fun x => x.right == i) := rfl
    rw [List.count_cons_of_ne (fun c => e c.symm)] at c1
    rw [ec, List.count_append, List.count_append, nz_count hpi.1, nz_count hpi.1, ei]
    unfold Arn.indeg at c1
    simp only [beq_iff_eq] at a1 a2 c1 ⊢
    omega
  case held =>
    intro i hi
    rw [hus]
    have hkd := h.kid k hk
    have hn := nok k hk
    rcases List.mem_append.1 hi with hi | hi
    · unfold nz at hi
      split at hi
      · simp at hi
      · simp at hi; subst hi; exact hkd.2.imp id fun z => ⟨hn.2, z⟩
    · rcases List.mem_append.1 hi with hj | hj
      · unfold nz at hj
        split at hj
        · simp at hj
        · simp at hj; subst hj; exact hkd.1.imp id fun z => ⟨hn.1, z⟩
      · refine (h.held i (List.mem_cons_of_mem _ hj)).imp id fun z => ⟨fun e => ?_, z⟩
        rw [e] at hj
        exact (List.count_eq_zero.1 hhk) hj
  case few =>
    have h1 := h.few
    have h2 : ∀ c, (nz c).length ≤ 1 := fun c => by unfold nz; split <;> simp
    have := h2 (S.nd k).left; have := h2 (S.nd k).right
    simp at h1 ⊢
    omega
  case nus =>
    have := h.nus
    show (S.rel ++ [k]).length + (freeS S k).nu = _
    have e : (freeS S k).fresh = S.fresh := rfl
    rw [e]; simp; omega
  case rds => exact h.rds
end Go.Proofs.Ytacdmmomkngpkaa
