/- Cursors list all: the reference's Between, the law's helpers, the law. -/
import Derived.Test.YtacdmmomkngpkaaQCu
namespace Go.Proofs.Ytacdmmomkngpkaa.Sx
open Go

/-KEEP Wf exW inU live Arn.cap Arn.free Rep rdS opS Tr.size PlantR betE listE nextC prevC newS-/
def opS (S : Arn) (i : Int) : Arn := if S.us i then retA S i else S
structure XBet (l : List Ent) where
  i : Nat
  h : i ≤ l.length
noncomputable def aBet (l : List Ent) (lo hi : Int) : Ann C0 := { Γ := [], inv := fun n => match n with
  | 3 => some { X := XBet l, sl := [8, 7], tf := fun x => [vi .i64 x.i, .one (.at (.slc 1))], hf := fun x => [.row false EC.ent l, .row true EC.ent (betE (l.take x.i) lo hi)], μ := fun x => l.length - x.i }
  | _ => none }
def tBet : Tfm C0 := fun args H K => match args, H with
  | [.at (.slc 0), .at (.val (.int .i64 lo)), .at (.val (.int .i64 hi))], [.row false .ent l] => l.length ≤ 1000000 ∧ ∀ r : List Ent, r = betE l lo hi → K (.one (.at (.slc 1))) [.row false EC.ent l, .row true EC.ent r] []
  | _, _ => False
noncomputable def aBnd : Ann C0 := { Γ := [(13, frameT [] tMod)] }
def tBnd : Tfm C0 := fun args H K => match args, H with
  | [.at (.slc 0), .at (.val (.int .i64 _)), .at (.val (.int .i64 _)), .at (.val (.int .i64 _))], [.row false .ent l] => l.length ≤ 1000000 ∧ ∀ lo' hi', K (.tup [.at (vI lo'), .at (vI hi')]) [.row false EC.ent l] []
  | _, _ => False
def tOpenL : Tfm C0 := fun args H K => match args with
  | [.at (.ptr 0 0), .at (.val (.int .u32 i)), .at (.val (.int .i64 lo)), .at (.val (.int .i64 hi))] => arM H fun S => exW S ∧ live S i ∧ ∀ S', S' = opS S i → K (.tup [.at (.ptr 7 0), .at (vI 0)]) (chS S' ++ [bxC 0 ⟨i, lo, hi, 0, 0, 0, false⟩]) [3]
  | _ => False
theorem find_filter {α : Type} (p inn : α → Bool) : ∀ {M : List α}, M.Pairwise (fun x y => p x = true → inn x = false → inn y = false) → (M.find? p).filter inn = (M.filter inn).find? p
  | [], _ => rfl
  | a :: M, h => by
    obtain ⟨h1, h2⟩ := List.pairwise_cons.1 h
    rw [List.find?_cons, List.filter_cons]
    cases hp : p a with
    | true =>
      cases hi : inn a with
      | true => simp [hi, hp]
      | false =>
        have e : M.filter inn = [] := by
          rw [List.filter_eq_nil_iff]; intro y hy; rw [h1 y hy hp hi]; decide
        simp [hi, e]
    | false =>
      simp only []
      rw [find_filter p inn h2]
      cases hi : inn a with
      | true => simp [hp]
      | false => simp
def inC (c : Cur) (x : Ent) : Bool := decide (c.lo ≤ x.1) && decide (x.1 ≤ c.hi)
def mvC (c : Cur) (o : Option Ent) (other : Int) : Cur := match o with
  | some e => { c with place := 1, ek := e.1, ev := e.2 }
  | none => { c with place := other, ek := 0, ev := 0 }
theorem moveC_eq (c : Cur) (o : Option Ent) (other : Int) : moveC c o other = (mvC c (o.filter (inC c)) other, o.filter (inC c)) := by
  cases o with
  | none => rfl
  | some e =>
    unfold moveC
    simp only [Option.filter]
    by_cases h : e.1 < c.lo ∨ c.hi < e.1
    · rw [if_pos h, if_neg (by unfold inC; simp; omega)]; rfl
    · rw [if_neg h, if_pos (by unfold inC; simp; omega)]; rfl
theorem asc_parts {W : List Ent} (h : Asc W) {j : Nat} {e : Ent} (he : W[j]? = some e) : W = W.take j ++ e :: W.drop (j + 1) ∧ (∀ x ∈ W.take j, x.1 < e.1) ∧ (∀ x ∈ W.drop (j + 1), e.1 < x.1) := by
  have e1 : W = W.take j ++ e :: W.drop (j + 1) := by rw [← drop_cons he, List.take_append_drop]
  refine ⟨e1, ?_, ?_⟩
  · rw [e1] at h
    exact fun x hx => (List.pairwise_append.1 h).2.2 x hx e (by simp)
  · rw [e1] at h
    exact fun x hx => (Srt.right h).head x hx
theorem find_gt {W : List Ent} (h : Asc W) {j : Nat} {e : Ent} (he : W[j]? = some e) : (W.find? fun x => decide (x.1 > e.1)) = W[j + 1]? := by
  obtain ⟨e1, h1, h2⟩ := asc_parts h he
  have a1 : (W.take j).find? (fun x => decide (x.1 > e.1)) = none := by
    rw [List.find?_eq_none]; intro x hx; have := h1 x hx; simp; omega
  have a2 : (W.drop (j + 1)).find? (fun x => decide (x.1 > e.1)) = W[j + 1]? := by
    cases hd : W.drop (j + 1) with
    | nil => rw [List.drop_eq_nil_iff] at hd; rw [List.getElem?_eq_none hd]; rfl
    | cons a t =>
      have := h2 a (by rw [hd]; simp)
      rw [List.find?_cons, show decide (a.1 > e.1) = true by simpa using this]
      have : (W.drop (j + 1))[0]? = some a := by rw [hd]; rfl
      rw [List.getElem?_drop] at this
      exact this.symm
  have : (W.take j ++ e :: W.drop (j + 1)).find? (fun x => decide (x.1 > e.1)) = W[j + 1]? := by
    rw [List.find?_append, a1, List.find?_cons, show decide (e.1 > e.1) = false by simp]
    simpa using a2
  rw [← e1] at this
  exact this
theorem find_lt {W : List Ent} (h : Asc W) {j : Nat} {e : Ent} (he : W[j]? = some e) : (W.reverse.find? fun x => decide (x.1 < e.1)) = if j = 0 then none else W[j - 1]? := by
  obtain ⟨e1, h1, h2⟩ := asc_parts h he
  have hj : j < W.length := (List.getElem?_eq_some_iff.1 he).1
  have a1 : (W.drop (j + 1)).reverse.find? (fun x => decide (x.1 < e.1)) = none := by
    rw [List.find?_eq_none]; intro x hx; have := h2 x (by simpa using hx); simp; omega
  have a2 : (W.take j).reverse.find? (fun x => decide (x.1 < e.1)) = if j = 0 then none else W[j - 1]? := by
    by_cases h0 : j = 0
    · rw [if_pos h0, h0]; rfl
    · rw [if_neg h0]
      have e2 : W[j - 1]? = some (W.getD (j - 1) (0, 0)) := by simp [List.getD_eq_getElem?_getD, List.getElem?_eq_getElem (show j - 1 < W.length by omega)]
      have e3 := take_snoc e2
      rw [show j - 1 + 1 = j by omega] at e3
      rw [e3, List.reverse_append, List.reverse_singleton, List.singleton_append, List.find?_cons]
      have := h1 (W.getD (j - 1) (0, 0)) (by rw [e3]; simp)
      rw [show decide ((W.getD (j - 1) (0, 0)).1 < e.1) = true by simpa using this, e2]
  have : (W.take j ++ e :: W.drop (j + 1)).reverse.find? (fun x => decide (x.1 < e.1)) = if j = 0 then none else W[j - 1]? := by
    rw [List.reverse_append, List.reverse_cons, List.append_assoc, List.find?_append, a1, List.singleton_append, List.find?_cons, show decide (e.1 < e.1) = false by simp]
    simpa using a2
  rw [← e1] at this
  exact this
def posN (W : List Ent) (c : Cur) (k : Nat) : Prop := (k = 0 ∧ c.place = 0) ∨ (0 < k ∧ c.place = 1 ∧ W[k - 1]? = some (c.ek, c.ev))
def posP (W : List Ent) (c : Cur) (j : Nat) : Prop := (j = W.length ∧ c.place = 2) ∨ (j < W.length ∧ c.place = 1 ∧ W[j]? = some (c.ek, c.ev))
theorem betE_mem {L : List Ent} {lo hi : Int} {x : Ent} (h : x ∈ betE L lo hi) : lo ≤ x.1 ∧ x.1 ≤ hi := by
  unfold betE at h
  have := (List.mem_filter.1 h).2
  simpa using this
theorem nextC_pos {t : Tr} {c : Cur} {k : Nat} (ha : Asc t.list) (hc : c.closed = false) (hk : posN (betE t.list c.lo c.hi) c k) :
    nextC t c = (mvC c (betE t.list c.lo c.hi)[k]? 2, (betE t.list c.lo c.hi)[k]?, errE (betE t.list c.lo c.hi)[k]?) := by
  have hW : Asc (betE t.list c.lo c.hi) := ha.filter _
  have key : ∀ p : Int → Bool, (∀ i j, i < j → p i = true → p j = true) → (∀ x : Ent, p x.1 = true → c.lo ≤ x.1) → ((lsT t p none).1).filter (inC c) = (betE t.list c.lo c.hi).find? fun x => p x.1 := by
    intro p h1 h2
    rw [lsT_find t p none ha h1, Option.or_none]
    refine find_filter (fun x : Ent => p x.1) (inC c) (List.Pairwise.imp (fun {x y} hxy hp hi => ?_) ha)
    have hxy : x.1 < y.1 := hxy
    have := h2 x hp
    unfold inC at hi ⊢
    simp at hi ⊢
    intro _
    have := hi (by omega)
    omega
  unfold nextC
  rw [if_neg (by rw [hc]; decide)]
  rcases hk with ⟨k0, k1⟩ | ⟨k0, k1, k2⟩
  · rw [if_pos k1]
    have e : ((lsT t (fun k => decide (k ≥ c.lo)) none).1).filter (inC c) = (betE t.list c.lo c.hi)[k]? := by
      rw [key _ (by intro i j h1 h2; simp at h2 ⊢; omega) (by intro x hx; simpa using hx), k0]
      cases hb : betE t.list c.lo c.hi with
      | nil => rfl
      | cons a s =>
        have := (betE_mem (show a ∈ betE t.list c.lo c.hi by rw [hb]; simp)).1
        rw [List.find?_cons, show decide (a.1 ≥ c.lo) = true by simpa using this]; rfl
    rw [moveC_eq, e]
  · rw [if_neg (by omega), if_pos k1]
    have hm := betE_mem (List.mem_of_getElem? k2)
    have e : ((lsT t (fun k => decide (k > c.ek)) none).1).filter (inC c) = (betE t.list c.lo c.hi)[k]? := by
      rw [key _ (by intro i j h1 h2; simp at h2 ⊢; omega) (by intro x hx; simp at hx; have := hm.1; simp at this; omega)]
      have := find_gt hW k2
      rw [show k - 1 + 1 = k by omega] at this
      exact this
    rw [moveC_eq, e]
theorem prevC_pos {t : Tr} {c : Cur} {j : Nat} (ha : Asc t.list) (hc : c.closed = false) (hj : posP (betE t.list c.lo c.hi) c j) :
    prevC t c = (mvC c (if j = 0 then none else (betE t.list c.lo c.hi)[j - 1]?) 0, (if j = 0 then none else (betE t.list c.lo c.hi)[j - 1]?), errE (if j = 0 then none else (betE t.list c.lo c.hi)[j - 1]?)) := by
  have hW : Asc (betE t.list c.lo c.hi) := ha.filter _
  have key : ∀ p : Int → Bool, (∀ i j, i < j → p j = true → p i = true) → (∀ x : Ent, p x.1 = true → x.1 ≤ c.hi) → ((gtT t p none).1).filter (inC c) = (betE t.list c.lo c.hi).reverse.find? fun x => p x.1 := by
    intro p h1 h2
    rw [gtT_find t p none ha h1, Option.or_none]
    have hf := find_filter (fun x : Ent => p x.1) (inC c) (M := t.list.reverse) (List.pairwise_reverse.2 (List.Pairwise.imp (fun {x y} hxy hp hi => ?_) ha))
    · rw [hf, List.filter_reverse]; rfl
    · have hxy : x.1 < y.1 := hxy
      have := h2 y hp
      unfold inC at hi ⊢
      simp at hi ⊢
      intro _
      omega
  unfold prevC
  rw [if_neg (by rw [hc]; decide)]
  rcases hj with ⟨k0, k1⟩ | ⟨k0, k1, k2⟩
  · rw [if_pos k1]
    have e : ((gtT t (fun k => decide (k ≤ c.hi)) none).1).filter (inC c) = if j = 0 then none else (betE t.list c.lo c.hi)[j - 1]? := by
      rw [key _ (by intro i j h1 h2; simp at h2 ⊢; omega) (by intro x hx; simpa using hx)]
      by_cases h0 : j = 0
      · have : betE t.list c.lo c.hi = [] := List.length_eq_zero_iff.1 (by omega)
        rw [if_pos h0, this]; rfl
      · rw [if_neg h0]
        have e2 : (betE t.list c.lo c.hi)[j - 1]? = some ((betE t.list c.lo c.hi).getD (j - 1) (0, 0)) := by simp [List.getD_eq_getElem?_getD, List.getElem?_eq_getElem (show j - 1 < (betE t.list c.lo c.hi).length by omega)]
        have e3 := take_snoc e2
        have e4 : (betE t.list c.lo c.hi).take (j - 1 + 1) = betE t.list c.lo c.hi := by rw [show j - 1 + 1 = (betE t.list c.lo c.hi).length by omega, List.take_length]
        rw [e4] at e3
        have hm := betE_mem (List.mem_of_getElem? e2)
        have : (betE t.list c.lo c.hi).reverse.find? (fun x => decide (x.1 ≤ c.hi)) = some ((betE t.list c.lo c.hi).getD (j - 1) (0, 0)) := by
          generalize hg : (betE t.list c.lo c.hi).getD (j - 1) (0, 0) = g at hm e3 ⊢
          rw [e3, List.reverse_append, List.reverse_singleton, List.singleton_append, List.find?_cons, show decide (g.1 ≤ c.hi) = true by simpa using hm.2]
        rw [this, e2]
    rw [moveC_eq, e]
  · rw [if_neg (by omega), if_pos k1]
    have hm := betE_mem (List.mem_of_getElem? k2)
    have e : ((gtT t (fun k => decide (k < c.ek)) none).1).filter (inC c) = if j = 0 then none else (betE t.list c.lo c.hi)[j - 1]? := by
      rw [key _ (by intro i j h1 h2; simp at h2 ⊢; omega) (by intro x hx; simp at hx; have := hm.2; simp at this; omega)]
      exact find_lt hW k2
    rw [moveC_eq, e]
theorem nextC_end {t : Tr} {c : Cur} (hc : c.closed = false) (hp : c.place = 2) : nextC t c = (c, none, 4) := by
  unfold nextC
  rw [if_neg (by rw [hc]; decide), if_neg (by omega), if_neg (by omega)]
theorem prevC_end {t : Tr} {c : Cur} (hc : c.closed = false) (hp : c.place = 0) : prevC t c = (c, none, 4) := by
  unfold prevC
  rw [if_neg (by rw [hc]; decide), if_neg (by omega), if_neg (by omega)]
theorem betE_snoc {l : List Ent} {lo hi : Int} {i : Nat} {x : Ent} (h : l[i]? = some x) : betE (l.take (i + 1)) lo hi = betE (l.take i) lo hi ++ (if (decide (lo ≤ x.1) && decide (x.1 ≤ hi)) = true then [x] else []) := by
  rw [take_snoc h]
  unfold betE
  rw [List.filter_append]
  simp only [List.filter_cons, List.filter_nil]
theorem betE_len (l : List Ent) (lo hi : Int) (i : Nat) : (betE (l.take i) lo hi).length ≤ i := by
  unfold betE
  exact Nat.le_trans (List.length_filter_le _ _) (List.length_take_le _ _)
theorem vc_bet (l : List Ent) (lo hi : Int) (K : KT) (hsm : l.length ≤ 1000000) (h : ∀ r : List Ent, r = betE l lo hi → K (.one (.at (.slc 1))) [.row false EC.ent l, .row true EC.ent r] []) :
    vc C0 (aBet l lo hi) Try.f37 [.at (.slc 0), .at (vI lo), .at (vI hi)] [.row false EC.ent l] (normK 1 K) := by
  refine Eq.mp (show ((∃ x : XBet l,
  (True ∧
  (True ∧
  ((Value.int IntKind.i64 (lo)) = (Value.int IntKind.i64 (lo))) ∧
  ((Value.int IntKind.i64 (hi)) = (Value.int IntKind.i64 (hi))) ∧
  True ∧
  ((Value.int IntKind.i64 0) = (Value.int IntKind.i64 ((↑x.i : Int)))) ∧
  True) ∧
  ((l) = (l)) ∧
  ([] = (betE (List.take x.i l) lo hi)) ∧
  True)) ∧
(∀ x : XBet l,
  (True →
  (brS (decide ((↑x.i : Int) < (↑l.length : Int)))
    (((0 ≤ (↑x.i : Int)) ∧
    ((↑x.i : Int) < (↑l.length : Int)) ∧
    (brS (decide (lo ≤ (eA l x.i).fst))
      (((0 ≤ (↑x.i : Int)) ∧
      ((↑x.i : Int) < (↑l.length : Int)) ∧
      (brS (decide ((eA l x.i).fst ≤ hi))
        (((0 ≤ (↑x.i : Int)) ∧
        ((↑x.i : Int) < (↑l.length : Int)) ∧
        (((betE (List.take x.i l) lo hi).length + [eA l x.i].length) * bytesOf C0 EC.ent ≤ 140737488355328) ∧
        (∃ x' : XBet l,
          (True ∧
          ((True ∧
          ((Value.int IntKind.i64 (lo)) = (Value.int IntKind.i64 (lo))) ∧
          ((Value.int IntKind.i64 (hi)) = (Value.int IntKind.i64 (hi))) ∧
          True ∧
          ((Value.int IntKind.i64 (IntKind.i64.wrap ((↑x.i : Int) + 1))) = (Value.int IntKind.i64 ((↑x'.i : Int)))) ∧
          True) ∧
          ((l) = (l)) ∧
          ((betE (List.take x.i l) lo hi ++ [eA l x.i]) = (betE (List.take x'.i l) lo hi)) ∧
          True) ∧
          (l.length - x'.i < l.length - x.i)))))
        ((∃ x' : XBet l,
          (True ∧
          ((True ∧
          ((Value.int IntKind.i64 (lo)) = (Value.int IntKind.i64 (lo))) ∧
          ((Value.int IntKind.i64 (hi)) = (Value.int IntKind.i64 (hi))) ∧
          True ∧
          ((Value.int IntKind.i64 (IntKind.i64.wrap ((↑x.i : Int) + 1))) = (Value.int IntKind.i64 ((↑x'.i : Int)))) ∧
          True) ∧
          ((l) = (l)) ∧
          ((betE (List.take x.i l) lo hi) = (betE (List.take x'.i l) lo hi)) ∧
          True) ∧
          (l.length - x'.i < l.length - x.i)))))))
      ((∃ x' : XBet l,
        (True ∧
        ((True ∧
        ((Value.int IntKind.i64 (lo)) = (Value.int IntKind.i64 (lo))) ∧
        ((Value.int IntKind.i64 (hi)) = (Value.int IntKind.i64 (hi))) ∧
        True ∧
        ((Value.int IntKind.i64 (IntKind.i64.wrap ((↑x.i : Int) + 1))) = (Value.int IntKind.i64 ((↑x'.i : Int)))) ∧
        True) ∧
        ((l) = (l)) ∧
        ((betE (List.take x.i l) lo hi) = (betE (List.take x'.i l) lo hi)) ∧
        True) ∧
        (l.length - x'.i < l.length - x.i)))))))
    ((K (SV.one (TV.at (At.slc 1))) [(Chunk.row false (EC.ent) (l)), (Chunk.row true (EC.ent) (betE (List.take x.i l) lo hi))] [])))))) = _ by kernel_rfl) ?_
  refine ⟨⟨⟨0, Nat.zero_le _⟩, by simp [betE]⟩, fun x _ => brS_of (fun hi' => ?_) fun hi' => ?_⟩
  · have hi' : x.i < l.length := by simpa using hi'
    have hx := eA_get hi'
    have hs := betE_snoc (lo := lo) (hi := hi) hx
    have hlen := betE_len l lo hi x.i
    have w1 : IntKind.i64.wrap ((x.i : Int) + 1) = ((x.i + 1 : Nat) : Int) := by rw [wrap_id (by omega) (by omega)]; simp
    simp only [w1, bytes_ent]
    refine ⟨by omega, by omega, brS_of (fun h1 => ⟨by omega, by omega, brS_of (fun h2 => ⟨by omega, by omega, ?_, ⟨⟨x.i + 1, by omega⟩, ?_⟩⟩) fun h2 => ⟨⟨x.i + 1, by omega⟩, ?_⟩⟩) fun h1 => ⟨⟨x.i + 1, by omega⟩, ?_⟩⟩
    · simp; omega
    · rw [if_pos (by rw [h1, h2]; rfl)] at hs
      simp [hs]; omega
    · rw [if_neg (by rw [h1, h2]; decide)] at hs
      simp [hs]; omega
    · rw [if_neg (by rw [h1]; simp)] at hs
      simp [hs]; omega
  · have hi' : x.i = l.length := by have := x.h; simp at hi'; omega
    rw [hi', List.take_length]
    exact h _ rfl
theorem s_bet : SoundT C0 37 tBet := by
  refine .of Try.func37 (by decide) rfl fun args H K h hB => ?_
  unfold tBet at h
  split at h <;> try exact h.elim
  rename_i lo hi l
  exact ⟨aBet l lo hi, trivial, vc_bet l lo hi K h.1 h.2⟩
theorem vc_bnd (l : List Ent) (lo hi n : Int) (K : KT) (h1 : l.length ≤ 1000000) (h : ∀ lo' hi', K (.tup [.at (vI lo'), .at (vI hi')]) [.row false EC.ent l] []) :
    vc C0 aBnd Try.f35 [.at (.slc 0), .at (vI lo), .at (vI hi), .at (vI n)] [.row false EC.ent l] (normK 1 K) := by
  refine Eq.mp (show (brS (decide ((↑l.length : Int) > 0))
  ((brS (n.tmod 3 != 0)
    (((0 < (↑l.length : Int)) ∧
    ((↑l.length : Int) ≤ 9223372036854775807) ∧
    (∀ x : Int,
      (((x) = (IntKind.i64.wrap (n.tdiv 3) % (↑l.length : Int))) →
      ((0 ≤ x) ∧
      (x < (↑l.length : Int)) ∧
      (brS (decide ((↑l.length : Int) > 0))
        ((brS (n.tmod 3 == 2)
          (((0 ≤ IntKind.i64.wrap ((↑l.length : Int) - 1)) ∧
          (IntKind.i64.wrap ((↑l.length : Int) - 1) < (↑l.length : Int)) ∧
          (K (SV.tup [(TV.at (At.val (Value.int IntKind.i64 ((l.getD x.toNat (0, 0)).fst)))), (TV.at (At.val (Value.int IntKind.i64 ((l.getD (IntKind.i64.wrap ((↑l.length : Int) - 1)).toNat (0, 0)).fst))))]) [(Chunk.row false (EC.ent) (l))] [])))
          ((K (SV.tup [(TV.at (At.val (Value.int IntKind.i64 ((l.getD x.toNat (0, 0)).fst)))), (TV.at (At.val (Value.int IntKind.i64 (hi))))]) [(Chunk.row false (EC.ent) (l))] []))))
        ((K (SV.tup [(TV.at (At.val (Value.int IntKind.i64 ((l.getD x.toNat (0, 0)).fst)))), (TV.at (At.val (Value.int IntKind.i64 (hi))))]) [(Chunk.row false (EC.ent) (l))] []))))))))
    ((brS (decide ((↑l.length : Int) > 0))
      ((brS (n.tmod 3 == 2)
        (((0 ≤ IntKind.i64.wrap ((↑l.length : Int) - 1)) ∧
        (IntKind.i64.wrap ((↑l.length : Int) - 1) < (↑l.length : Int)) ∧
        (K (SV.tup [(TV.at (At.val (Value.int IntKind.i64 (lo)))), (TV.at (At.val (Value.int IntKind.i64 ((l.getD (IntKind.i64.wrap ((↑l.length : Int) - 1)).toNat (0, 0)).fst))))]) [(Chunk.row false (EC.ent) (l))] [])))
        ((K (SV.tup [(TV.at (At.val (Value.int IntKind.i64 (lo)))), (TV.at (At.val (Value.int IntKind.i64 (hi))))]) [(Chunk.row false (EC.ent) (l))] []))))
      ((K (SV.tup [(TV.at (At.val (Value.int IntKind.i64 (lo)))), (TV.at (At.val (Value.int IntKind.i64 (hi))))]) [(Chunk.row false (EC.ent) (l))] []))))))
  ((brS (decide ((↑l.length : Int) > 0))
    ((brS (n.tmod 3 == 2)
      (((0 ≤ IntKind.i64.wrap ((↑l.length : Int) - 1)) ∧
      (IntKind.i64.wrap ((↑l.length : Int) - 1) < (↑l.length : Int)) ∧
      (K (SV.tup [(TV.at (At.val (Value.int IntKind.i64 (lo)))), (TV.at (At.val (Value.int IntKind.i64 ((l.getD (IntKind.i64.wrap ((↑l.length : Int) - 1)).toNat (0, 0)).fst))))]) [(Chunk.row false (EC.ent) (l))] [])))
      ((K (SV.tup [(TV.at (At.val (Value.int IntKind.i64 (lo)))), (TV.at (At.val (Value.int IntKind.i64 (hi))))]) [(Chunk.row false (EC.ent) (l))] []))))
    ((K (SV.tup [(TV.at (At.val (Value.int IntKind.i64 (lo)))), (TV.at (At.val (Value.int IntKind.i64 (hi))))]) [(Chunk.row false (EC.ent) (l))] []))))) = _ by kernel_rfl) ?_
  have last : 0 < l.length → 0 ≤ IntKind.i64.wrap ((l.length : Int) - 1) ∧ IntKind.i64.wrap ((l.length : Int) - 1) < (l.length : Int) := fun hp => by rw [wrap_id (by omega) (by omega)]; omega
  refine brS_of (fun c => ?_) fun c => ?_
  · have c : 0 < l.length := by simpa using c
    have hl := last c
    refine brS_of (fun d => ⟨by omega, by omega, fun x hx => ?_⟩) fun d => brS_of (fun _ => brS_of (fun _ => ⟨hl.1, hl.2, h _ _⟩) fun _ => h _ _) fun _ => h _ _
    have := Int.emod_nonneg (IntKind.i64.wrap (n.tdiv 3)) (show (l.length : Int) ≠ 0 by omega)
    have := Int.emod_lt_of_pos (IntKind.i64.wrap (n.tdiv 3)) (show (0 : Int) < l.length by omega)
    exact ⟨by omega, by omega, brS_of (fun _ => brS_of (fun _ => ⟨hl.1, hl.2, h _ _⟩) fun _ => h _ _) fun _ => h _ _⟩
  · exact brS_of (fun e => by rw [c] at e; cases e) fun _ => h _ _
theorem s_bnd : SoundT C0 35 tBnd := by
  refine .of Try.func35 (by decide) rfl fun args H K h hB => ?_
  unfold tBnd at h
  split at h <;> try exact h.elim
  rename_i lo hi n l
  exact ⟨aBnd, ⟨frame C0.ok s_mod _, trivial⟩, vc_bnd l lo hi n K h.1 h.2⟩
theorem s_openL : SoundT C0 36 tOpenL := s_open.weak fun args H K h => by
  unfold tOpenL at h
  split at h <;> try exact h.elim
  unfold arM at h
  split at h <;> try exact h.elim
  rename_i i lo hi _ rd fr nd ct us gn rl
  obtain ⟨⟨hs, hw⟩, h2, h3⟩ := h
  have hn := hw.us0 (Int.le_refl 0)
  refine ⟨inU_of hw h2, ⟨hs, hw⟩, fun e => ?_, fun e1 e2 => ?_, fun e1 S' e2 => h3 S' ?_⟩
  · exact h3 _ (by unfold opS; rw [if_neg (by rw [e, hn]; decide)])
  · rcases h2 with h2 | h2
    · exact absurd h2 e1
    · rw [e2] at h2; cases h2
  · rw [e2]; unfold opS; rw [if_pos e1]
theorem opS_wf {S : Arn} {hs : List Int} {i : Int} (h : Wf S hs) (hf : hs.length < 1000000000) : ∃ hs', Wf (opS S i) hs' := by
  unfold opS
  split
  · exact ⟨_, h.ret (by assumption) hf⟩
  · exact ⟨_, h⟩
theorem opS_rep {S : Arn} {t : Tr} {i : Int} (h : Rep S t i) (j : Int) : Rep (opS S j) t i := by
  unfold opS
  split
  · exact Rep.same (S := S) (S' := retA S j) (fun _ => rfl) (fun _ => rfl) h
  · exact h
theorem opS_reads (S : Arn) (i : Int) : (opS S i).reads = S.reads := by
  unfold opS
  split <;> rfl
end Go.Proofs.Ytacdmmomkngpkaa.Sx
