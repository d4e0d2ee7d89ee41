/- A part of the proof. -/
import Derived.Test.YtjbkckcjmmmooaaG6
import Derived.Test.YtjbkckcjmmmooaaG5
import Derived.Test.YtjbkckcjmmmooaaG4
section
/- Lists and costs of taking trees apart and putting them together. No program in sight. -/
namespace Go.Proofs.Ytjbkckcjmmmooaa
open Go

/-! ### Lists -/
theorem asc_parts {a b : List Ent} {k v : Int} (h : Asc (a ++ (k, v) :: b)) : Asc a ∧ Asc b ∧ (∀ x ∈ a, x.1 < k) ∧ (∀ x ∈ b, k < x.1) :=
  ⟨Srt.left h, (Srt.right h).tail, fun x hx => (List.pairwise_append.1 h).2.2 x hx (k, v) (by simp), fun x hx => (Srt.right h).head x hx⟩
theorem asc_join {a b : List Ent} {k v : Int} (h1 : Asc a) (h2 : Asc b) (h3 : ∀ x ∈ a, x.1 < k) (h4 : ∀ x ∈ b, k < x.1) : Asc (a ++ (k, v) :: b) := by
  refine List.pairwise_append.2 ⟨h1, Srt.cons h2 h4, fun x hx y hy => ?_⟩
  rcases List.mem_cons.1 hy with rfl | hy
  · exact h3 x hx
  · have := h3 x hx; have := h4 y hy; omega
theorem insE_left {a b : List Ent} {k v : Int} {e : Ent} (h : Asc (a ++ (k, v) :: b)) (he : e.1 < k) : insE (a ++ (k, v) :: b) e = insE a e ++ (k, v) :: b := by
  induction a with
  | nil =>
    rw [List.nil_append, insE_cons h, if_pos he]
    simp [insE, insGo]
  | cons x a ih =>
    have ha : Asc (x :: a) := Srt.left h
    have h' : Asc (x :: (a ++ (k, v) :: b)) := h
    rw [List.cons_append, insE_cons h', insE_cons ha, ih h'.tail]
    split
    · rfl
    · split <;> rfl
theorem insE_right {a b : List Ent} {k v : Int} {e : Ent} (h : Asc (a ++ (k, v) :: b)) (he : k < e.1) : insE (a ++ (k, v) :: b) e = a ++ (k, v) :: insE b e := by
  induction a with
  | nil =>
    rw [List.nil_append, insE_cons h, if_neg (by show ¬ e.1 < k; omega), if_neg (by show ¬ k = e.1; omega)]
    rfl
  | cons x a ih =>
    have h' : Asc (x :: (a ++ (k, v) :: b)) := h
    have hx : x.1 < k := (asc_parts h).2.2.1 x (by simp)
    rw [List.cons_append, insE_cons h', if_neg (by omega), if_neg (by omega), ih h'.tail]
    rfl
theorem insE_at {a b : List Ent} {v : Int} {e : Ent} (h : Asc (a ++ (e.1, v) :: b)) : insE (a ++ (e.1, v) :: b) e = a ++ e :: b := by
  induction a with
  | nil =>
    rw [List.nil_append, insE_cons h, if_neg (by show ¬ e.1 < e.1; omega), if_pos rfl]
    rfl
  | cons x a ih =>
    have h' : Asc (x :: (a ++ (e.1, v) :: b)) := h
    have hx : x.1 < e.1 := (asc_parts h).2.2.1 x (by simp)
    rw [List.cons_append, insE_cons h', if_neg (by omega), if_neg (by omega), ih h'.tail]
    rfl
/-- The entries whose keys pass a test that is of one mind on either side. -/
def flt (p : Int → Bool) (l : List Ent) : List Ent := l.filter fun x => p x.1
theorem flt_all {p : Int → Bool} {l : List Ent} (h : ∀ x ∈ l, p x.1 = true) : flt p l = l := List.filter_eq_self.2 h
theorem flt_none {p : Int → Bool} {l : List Ent} (h : ∀ x ∈ l, p x.1 = false) : flt p l = [] := by
  unfold flt
  rw [List.filter_eq_nil_iff]
  intro x hx; rw [h x hx]; decide
theorem flt_node {p : Int → Bool} (a b : List Ent) (k v : Int) : flt p (a ++ (k, v) :: b) = flt p a ++ (if p k then (k, v) :: flt p b else flt p b) := by
  unfold flt
  rw [List.filter_append, List.filter_cons]
theorem flt_asc {p : Int → Bool} {l : List Ent} (h : Asc l) : Asc (flt p l) := List.Pairwise.filter _ h
theorem flt_mem {p : Int → Bool} {l : List Ent} {x : Ent} (h : x ∈ flt p l) : x ∈ l := (List.mem_filter.1 h).1
theorem flt_len {p : Int → Bool} {l : List Ent} : (flt p l).length ≤ l.length := List.length_filter_le _ _
theorem getE_left {a b : List Ent} {k v q : Int} (h : Asc (a ++ (k, v) :: b)) (hq : q < k) : getE (a ++ (k, v) :: b) q = getE a q := by
  obtain ⟨_, _, _, h4⟩ := asc_parts h
  rw [getE_fnd, getE_fnd, fnd_append, fnd_cons, if_neg (by show ¬ k = q; omega), fnd_of_lt (l := b) (fun x hx => by have := h4 x hx; omega)]
  simp
theorem getE_right {a b : List Ent} {k v q : Int} (h : Asc (a ++ (k, v) :: b)) (hq : k < q) : getE (a ++ (k, v) :: b) q = getE b q := by
  obtain ⟨_, _, h3, _⟩ := asc_parts h
  rw [getE_fnd, getE_fnd, fnd_append, fnd_cons, if_neg (by show ¬ k = q; omega), fnd_of_gt (l := a) (fun x hx => by have := h3 x hx; omega)]
  simp
theorem getE_at {a b : List Ent} {k v : Int} (h : Asc (a ++ (k, v) :: b)) : getE (a ++ (k, v) :: b) k = some v := by
  obtain ⟨_, _, h3, _⟩ := asc_parts h
  rw [getE_fnd, fnd_append, fnd_cons, if_pos rfl, fnd_of_gt (l := a) (fun x hx => by have := h3 x hx; omega)]
  simp

/-! ### Costs -/
theorem w0 : wt 0 = 1 := rfl
theorem w2 : wt 2 = 3 := rfl
theorem w3 : wt 3 = 4 := rfl
theorem w4 : wt 4 = 6 := rfl
theorem w5 : wt 5 = 8 := rfl
theorem w6 : wt 6 = 11 := rfl
theorem jB_less {l c : Nat} (h : balN l c) (hc : 2 ≤ c) : jB l (c - 1) ≤ 4 := by
  unfold balN at h
  unfold jB
  rw [dsc_zero (w := c - 1 + 1) (by omega)]
  have := dsc_one (w := l + 1) (v := c - 1 + 1) (by omega) (by omega)
  omega
theorem jB_nil {l : Nat} (h : balN l 1) : jB l 0 ≤ 7 := by
  unfold balN at h
  unfold jB
  rw [dsc_zero (w := 0 + 1) (by omega)]
  have := dsc_two (w := l + 1) (by omega)
  show 1 + 3 * (dsc (l + 1) 1 + 0) ≤ 7
  omega
theorem jB_more {l c : Nat} (h : balN l c) : jB l (c + 1) ≤ 4 := by
  unfold balN at h
  unfold jB
  rw [dsc_zero (w := l + 1) (by omega)]
  by_cases hl : l = 0
  · subst hl
    have := dsc_tiny (w := c + 1 + 1) (by omega)
    show 1 + 3 * (0 + dsc (c + 1 + 1) 1) ≤ 4
    omega
  · have := dsc_one (w := c + 1 + 1) (v := l + 1) (by omega) (by omega)
    omega
/-- What taking off the last entry may need. -/
def pB (n : Nat) : Nat := if n ≤ 3 then n else gN (n + 1) + 3
theorem pB_g (n : Nat) : pB n ≤ gN (n + 1) + 3 := by
  unfold pB
  split <;> omega
theorem pB_pos {n : Nat} (h : 1 ≤ n) : 1 ≤ pB n := by unfold pB; split <;> omega
theorem pB_step {l r : Nat} (h : balN l r) (hr : 1 ≤ r) (hz : l + r + 1 ≤ 900000) : pB r + jB l (r - 1) ≤ pB (l + r + 1) := by
  have hb := h
  unfold balN at hb
  by_cases r1 : r = 1
  · subst r1
    have p1 : pB 1 = 1 := rfl
    rw [p1]
    have j : jB l (1 - 1) = 1 + 3 * (dsc (l + 1) 1 + dsc 1 (l + 1)) := rfl
    rw [j, dsc_zero (w := 1) (by omega)]
    by_cases c1 : l ≤ 2
    · rw [dsc_zero (by omega)]
      unfold pB; split
      · omega
      · omega
    · have : pB (l + 1 + 1) = gN (l + 1 + 1 + 1) + 3 := by unfold pB; rw [if_neg (by omega)]
      rw [this]
      by_cases c2 : l ≤ 4
      · have := dsc_tiny (w := l + 1) (by omega)
        have := gN_le (w := l + 1 + 1 + 1) (h := 4) (by decide) (by rw [w4]; omega)
        omega
      · have := dsc_two (w := l + 1) (by omega)
        have := gN_le (w := l + 1 + 1 + 1) (h := 5) (by decide) (by rw [w5]; omega)
        omega
  · by_cases c : l + 1 ≤ 3 * r
    · have j : jB l (r - 1) = 1 := by
        unfold jB
        rw [dsc_zero (by omega), dsc_zero (by omega)]
      rw [j]
      by_cases r3 : r ≤ 3
      · have : pB r = r := by unfold pB; rw [if_pos r3]
        rw [this]
        unfold pB
        split
        · omega
        · have := gN_le (w := l + r + 1 + 1) (h := 3) (by decide) (by rw [w3]; omega)
          omega
      · have e1 : pB r = gN (r + 1) + 3 := by unfold pB; rw [if_neg r3]
        have e2 : pB (l + r + 1) = gN (l + r + 1 + 1) + 3 := by unfold pB; rw [if_neg (by omega)]
        have := gN_step (m := r + 1) (w := l + r + 1 + 1) (by omega) (by omega) (by omega)
        omega
    · have j := jB_less h (show 2 ≤ r by omega)
      have e2 : pB (l + r + 1) = gN (l + r + 1 + 1) + 3 := by unfold pB; rw [if_neg (by omega)]
      by_cases r3 : r ≤ 3
      · have e1 : pB r = r := by unfold pB; rw [if_pos r3]
        by_cases r2 : r = 2
        · have := gN_le (w := l + r + 1 + 1) (h := 5) (by decide) (by rw [w5]; omega)
          omega
        · have := gN_le (w := l + r + 1 + 1) (h := 6) (by decide) (by rw [w6]; omega)
          omega
      · have e1 : pB r = gN (r + 1) + 3 := by unfold pB; rw [if_neg r3]
        have := gN_step4 (r := r + 1) (w := l + r + 1 + 1) (by omega) (by omega) (by omega)
        omega
/-- What a concatenation may need. -/
def cB (l r : Nat) : Nat := if l = 0 ∨ r = 0 then 0 else pB l + jB (l - 1) r
theorem cB_g {l r : Nat} (h : l + r ≤ 800000) : cB l r ≤ 4 * gN (l + r + 1) + 4 := by
  unfold cB
  split
  · omega
  · have h1 := pB_g l
    have h2 := jB_g (a := l - 1) (b := r) (by omega)
    have h3 := gN_mono (v := l + 1) (w := l + r + 1) (by omega) (by omega)
    have h4 := gN_mono (v := l - 1 + r + 1) (w := l + r + 1) (by omega) (by omega)
    omega
theorem cB_bal {l r : Nat} (h : balN l r) (hz : l + r ≤ 800000) : cB l r ≤ 4 * gN (l + r + 2) := by
  unfold cB
  split
  · omega
  · have h1 := pB_g l
    have h5 : jB (l - 1) r ≤ 7 := by
      rw [jB_comm]
      by_cases c : l = 1
      · subst c; exact jB_nil (balN_comm h)
      · have := jB_less (balN_comm h) (show 2 ≤ l by omega); omega
    have hb := h
    unfold balN at hb
    have h3 := gN_step (m := l + 1) (w := l + r + 2) (by omega) (by omega) (by omega)
    have h4 := gN_le (w := l + r + 2) (h := 3) (by decide) (by rw [w3]; omega)
    omega
/-- What an insertion and a deletion may need. -/
def iB (n : Nat) : Nat := 4 * gN (n + 1) + 1
def dB (n : Nat) : Nat := if n ≤ 1 then 1 else 4 * gN (n + 1) + 4
theorem iB_step {l c : Nat} (h : balN l c) (hz : l + c ≤ 800000) : iB c + 4 ≤ iB (l + c + 1) := by
  unfold balN at h
  unfold iB
  have := gN_step (m := c + 1) (w := l + c + 1 + 1) (by omega) (by omega) (by omega)
  omega
theorem dB_le (n : Nat) : dB n ≤ 4 * gN (n + 1) + 4 := by unfold dB; split <;> omega
theorem dB_pos (n : Nat) : 1 ≤ dB n := by unfold dB; split <;> omega
theorem dB_step {l c : Nat} (h : balN l c) (hc : 1 ≤ c) (hz : l + c ≤ 800000) : dB c + jB l (c - 1) ≤ dB (l + c + 1) := by
  have hb := h
  unfold balN at hb
  have e : dB (l + c + 1) = 4 * gN (l + c + 1 + 1) + 4 := by unfold dB; rw [if_neg (by omega)]
  rw [e]
  by_cases c1 : c = 1
  · subst c1
    have j := jB_nil h
    have e1 : dB 1 = 1 := rfl
    have := gN_le (w := l + 1 + 1 + 1) (h := 2) (by decide) (by rw [w2]; omega)
    rw [e1]
    show 1 + jB l 0 ≤ _
    omega
  · have j := jB_less h (show 2 ≤ c by omega)
    have e1 : dB c = 4 * gN (c + 1) + 4 := by unfold dB; rw [if_neg (by omega)]
    have := gN_step (m := c + 1) (w := l + c + 1 + 1) (by omega) (by omega) (by omega)
    omega
theorem dB_found {l r : Nat} (h : balN l r) (hz : l + r ≤ 800000) : cB l r + 1 ≤ dB (l + r + 1) := by
  unfold dB
  split
  · have e1 : l = 0 := by omega
    subst e1
    unfold cB; simp
  · have := cB_bal h hz
    have e : l + r + 1 + 1 = l + r + 2 := rfl
    rw [e]
    omega
/-- What a cut may need: on the way down, and for what comes out. -/
def sB (n : Nat) (out : Nat) : Nat := gN (n + 1) + 3 * gN (out + 1) + 1
theorem gN_l {l r : Nat} (h : balN l r) (hz : l + r ≤ 800000) : gN (l + 1) + 1 ≤ gN (l + r + 2) := by
  unfold balN at h
  exact gN_step (by omega) (by omega) (by omega)
theorem gN_r {l r : Nat} (h : balN l r) (hz : l + r ≤ 800000) : gN (r + 1) + 1 ≤ gN (l + r + 2) := by
  unfold balN at h
  exact gN_step (by omega) (by omega) (by omega)
/-- A part of one side is joined to the other side. -/
theorem jB_part {a b l : Nat} (h : balN l b) (ha : a ≤ l) (hz : l + b ≤ 800000) : jB a b + 3 * gN (a + 1) ≤ 1 + 3 * gN (a + b + 2) := by
  unfold balN at h
  exact jB_grow (by omega) (by omega) (by omega)
theorem insE_ge {l : List Ent} (e : Ent) (h : Asc l) : l.length ≤ (insE l e).length := by
  induction l with
  | nil => exact Nat.zero_le _
  | cons x l ih =>
    rw [insE_cons h]
    have := ih h.tail
    split
    · simp
    · split <;> simp <;> omega
def hasK (l : List Ent) (k : Int) : Prop := ∃ v, (k, v) ∈ l
def neK (key : Int) (q : Int) : Bool := decide (q ≠ key)
theorem flt_ne_len {l : List Ent} {k : Int} (h : Asc l) (hk : hasK l k) : (flt (neK k) l).length + 1 = l.length := by
  induction l with
  | nil => obtain ⟨v, hv⟩ := hk; simp at hv
  | cons x l ih =>
    obtain ⟨v, hv⟩ := hk
    have hh := h.head
    unfold flt at ih ⊢
    rw [List.filter_cons]
    by_cases e : x.1 = k
    · have : (l.filter fun x => neK k x.1) = l := List.filter_eq_self.2 fun y hy => by have := hh y hy; simp [neK]; omega
      simp [neK, e]
      simpa [neK] using this
    · have hm : (k, v) ∈ l := by
        rcases List.mem_cons.1 hv with q | q
        · exact absurd (congrArg Prod.fst q).symm e
        · exact q
      have := ih h.tail ⟨v, hm⟩
      simp [neK, e] at this ⊢
      omega
theorem Got.of_zero {S S' : Arn} {hs hs1 : List Int} {m r : Nat} (a : Got S hs m r S' (0 :: hs1)) : Got S hs m r S' hs1 := ⟨a.wf.of_zero, a.stay, a.len, a.nu, a.rd0, a.rd⟩
theorem flt_pre {p : Int → Bool} {a b : List Ent} {k v : Int} (ha : ∀ x ∈ a, p x.1 = false) (hk : p k = false) : flt p (a ++ (k, v) :: b) = flt p b := by
  rw [flt_node, flt_none ha, hk]; rfl
theorem flt_suf {p : Int → Bool} {a b : List Ent} {k v : Int} (hb : ∀ x ∈ b, p x.1 = false) (hk : p k = false) : flt p (a ++ (k, v) :: b) = flt p a := by
  rw [flt_node, flt_none hb, hk]; simp
theorem flt_upR {p : Int → Bool} {a b : List Ent} {k v : Int} (hb : ∀ x ∈ b, p x.1 = true) (hk : p k = true) : flt p (a ++ (k, v) :: b) = flt p a ++ (k, v) :: b := by
  rw [flt_node, flt_all hb, hk]; simp
theorem flt_upL {p : Int → Bool} {a b : List Ent} {k v : Int} (ha : ∀ x ∈ a, p x.1 = true) (hk : p k = true) : flt p (a ++ (k, v) :: b) = a ++ (k, v) :: flt p b := by
  rw [flt_node, flt_all ha, hk]; simp
end Go.Proofs.Ytjbkckcjmmmooaa
end
section
/- treework: popLast, Concat, Split, From, To, Insert, Delete, Hold, Room. -/
namespace Go.Proofs.Ytjbkckcjmmmooaa.Sx
open Go

/-KEEP Wf exW inU live Arn.cap Arn.free NodeR Rep Kept rdS retL Tr.size Tr.list Tr.Bal balN balB jB pB cB iB dB sB gN OpnR TrR Got flt insE getE Asc-/
def tPop (n : Nat) : Tfm C0 := fun args H K => match args with
  | [.at (.ptr 0 0), .at (.val (.int .u32 i))] => arM H fun S => ∃ hs a kr vr b, Wf S (i :: hs) ∧ Rep S (.node a kr vr b) i ∧ (Tr.node a kr vr b).Bal ∧ (Tr.node a kr vr b).size < n ∧ (Tr.node a kr vr b).size ≤ 800000 ∧ (pB (Tr.node a kr vr b).size : Int) ≤ S.free ∧
    hs.length + (Tr.node a kr vr b).size ≤ 600000000 ∧ S.reads + 5 * (pB (Tr.node a kr vr b).size) ≤ 1700000000000000000 ∧
    ∀ S' j k v L, (Tr.node a kr vr b).list = L ++ [(k, v)] → TrR S hs L (pB (Tr.node a kr vr b).size) (5 * pB (Tr.node a kr vr b).size) S' j → K (.tup [.at (vU j), .agg [vI k, vI v]]) (chS S') W7
  | _ => False
noncomputable def aPop' (n : Nat) : Ann C0 := { Γ := [(104, frameT [] tOpn), (119, frameT [] (tPop n)), (91, frameT [] tJoin)] }
def tPopl : Tfm C0 := fun args H K => match args with
  | [.at (.ptr 0 0), .at (.val (.int .u32 i))] => arM H fun S => ∃ hs t, Wf S (i :: hs) ∧ Rep S t i ∧ t.Bal ∧ 1 ≤ t.size ∧ t.size ≤ 800000 ∧ (pB t.size : Int) ≤ S.free ∧ hs.length ≤ 500000000 ∧ S.reads + 5 * (pB t.size) ≤ 1700000000000000000 ∧
    ∀ S' j k v L, t.list = L ++ [(k, v)] → TrR S hs L (pB t.size) (5 * pB t.size) S' j → K (.tup [.at (vU j), .agg [vI k, vI v]]) (chS S') W7
  | _ => False
noncomputable def aCat : Ann C0 := { Γ := [(119, frameT [] tPopl), (91, frameT [] tJoin)] }
def tCat : Tfm C0 := fun args H K => match args with
  | [.at (.ptr 0 0), .at (.val (.int .u32 l)), .at (.val (.int .u32 r))] => arM H fun S => ∃ hs ta tb, Wf S (l :: r :: hs) ∧ Rep S ta l ∧ Rep S tb r ∧ ta.Bal ∧ tb.Bal ∧ ta.size + tb.size ≤ 800000 ∧ (cB ta.size tb.size : Int) ≤ S.free ∧ hs.length ≤ 400000000 ∧ S.reads + 5 * (cB ta.size tb.size) ≤ 1600000000000000000 ∧
    ∀ S' i, TrR S hs (ta.list ++ tb.list) (cB ta.size tb.size) (5 * cB ta.size tb.size) S' i → K (.one (.at (vU i))) (chS S') W7
  | _ => False
def tInsT (n : Nat) : Tfm C0 := fun args H K => match args with
  | [.at (.ptr 0 0), .at (.val (.int .u32 i)), .agg [.val (.int .i64 k), .val (.int .i64 v)]] => arM H fun S => ∃ hs t, Wf S (i :: hs) ∧ Rep S t i ∧ t.Bal ∧ Asc t.list ∧ t.size < n ∧ t.size ≤ 700000 ∧ (iB t.size : Int) ≤ S.free ∧ hs.length + t.size ≤ 600000000 ∧ S.reads + 5 * iB t.size ≤ 1600000000000000000 ∧
    ∀ S' j, TrR S hs (insE t.list (k, v)) (iB t.size) (5 * iB t.size) S' j → K (.one (.at (vU j))) (chS S') W7
  | _ => False
noncomputable def aIns' (n : Nat) : Ann C0 := { Γ := [(104, frameT [] tOpn), (71, frameT [] (tInsT n)), (91, frameT [] tJoin), (106, frameT [] tNodeX)] }
def tDlt (n : Nat) : Tfm C0 := fun args H K => match args with
  | [.at (.ptr 0 0), .at (.val (.int .u32 i)), .at (.val (.int .i64 key))] => arM H fun S => ∃ hs t, Wf S (i :: hs) ∧ Rep S t i ∧ t.Bal ∧ Asc t.list ∧ t.size < n ∧ t.size ≤ 700000 ∧ hasK t.list key ∧ (dB t.size : Int) ≤ S.free ∧ hs.length + t.size ≤ 300000000 ∧ S.reads + 5 * dB t.size ≤ 1500000000000000000 ∧
    ∀ S' j, TrR S hs (flt (neK key) t.list) (dB t.size) (5 * dB t.size) S' j → K (.one (.at (vU j))) (chS S') W7
  | _ => False
noncomputable def aDlt (n : Nat) : Ann C0 := { Γ := [(104, frameT [] tOpn), (68, frameT [] (tDlt n)), (91, frameT [] tJoin), (92, frameT [] tCat)] }
noncomputable def aHold : Ann C0 := { Γ := [(105, frameT [] tRetL)] }
def tHold : Tfm C0 := fun args H K => match args with
  | [.at (.ptr 0 0), .at (.val (.int .u32 i))] => arM H fun S => live S i ∧ exW S ∧ ∀ S', S' = retL S i → K (.one (.at (vU i))) (chS S') [3]
  | _ => False
noncomputable def aRoom : Ann C0 := { Γ := [(22, frameT [] tFree)] }
def tRoom : Tfm C0 := fun args H K => match args with
  | [.at (.ptr 0 0), .at (.val (.int .i64 n))] => arM H fun S => exW S ∧ ∀ b, b = (decide (0 ≤ n) && decide (n ≤ S.free)) → K (.one (.at (vB b))) (chS S) []
  | _ => False
theorem rep_ne {S : Arn} {b : Tr} {r : Int} (h : Rep S b r) (hr : r ≠ 0) : ∃ a2 k2 v2 b2, b = .node a2 k2 v2 b2 := by
  cases b with
  | nil => exact absurd h hr
  | node a2 k2 v2 b2 => exact ⟨a2, k2, v2, b2, rfl⟩
theorem node_size (a b : Tr) (k v : Int) : (Tr.node a k v b).size = a.size + b.size + 1 := by simp [Tr.size]; omega
theorem vc_popl (n : Nat) (S : Arn) (i : Int) (K : KT) (hs : List Int) (a : Tr) (kr vr : Int) (b : Tr) (hw : Wf S (i :: hs)) (h2 : Rep S (.node a kr vr b) i) (bal : (Tr.node a kr vr b).Bal) (hfu : (Tr.node a kr vr b).size < n + 1) (hz : (Tr.node a kr vr b).size ≤ 800000) (hf : (pB (Tr.node a kr vr b).size : Int) ≤ S.free)
    (hl : hs.length + (Tr.node a kr vr b).size ≤ 600000000) (hr : S.reads + 5 * (pB (Tr.node a kr vr b).size) ≤ 1700000000000000000)
    (h : ∀ S' j k v L, (Tr.node a kr vr b).list = L ++ [(k, v)] → TrR S hs L (pB (Tr.node a kr vr b).size) (5 * pB (Tr.node a kr vr b).size) S' j → K (.tup [.at (vU j), .agg [vI k, vI v]]) (chS S') W7) :
    vc C0 (aPop' n) Try.f119 [.at (.ptr 0 0), .at (vU i)] (chS S) (normK 7 (wideK W7 K)) := by
  refine Eq.mp (show (∃ hs : List Int, (∃ a : Tr, (∃ k : Int, (∃ v : Int, (∃ b : Tr, ((Wf S (i :: hs)) ∧ (Rep S (a.node k v b) i) ∧ (hs.length ≤ 900000000) ∧ (S.reads ≤ 3000000000000000000) ∧ (∀ S' : Arn, (∀ l : Int, (∀ r : Int, ((OpnR S hs a k v b S' l r) → (brS (r == 0) ((K (SV.tup [(TV.at (At.val (Value.int IntKind.u32 (l)))), (TV.agg [(At.val (Value.int IntKind.i64 (k))), (At.val (Value.int IntKind.i64 (v)))])]) [(Chunk.box [(At.ptr 1 0), (At.slc 2), (At.slc 3), (At.val (Value.int IntKind.u64 (S'.reads)))]), (Chunk.box [(At.slc 4), (At.slc 5), (At.slc 6), (At.val (Value.int IntKind.u32 (S'.fresh)))]), (Chunk.row true (EC.node) (S'.nodes)), (Chunk.row true (EC.int) (S'.counts)), (Chunk.row true (EC.bool) (S'.used)), (Chunk.row true (EC.u32) (S'.gen)), (Chunk.row true (EC.u32) (S'.rel))] [0, 1, 2, 3, 4, 5, 6])) ((∃ hs1 : List Int, (∃ a1 : Tr, (∃ kr : Int, (∃ vr : Int, (∃ b1 : Tr, ((Wf S' (r :: hs1)) ∧ (Rep S' (a1.node kr vr b1) r) ∧ ((a1.node kr vr b1).Bal) ∧ ((a1.node kr vr b1).size < n) ∧ ((a1.node kr vr b1).size ≤ 800000) ∧ ((↑(pB (a1.node kr vr b1).size) : Int) ≤ S'.free) ∧ (hs1.length + (a1.node kr vr b1).size ≤ 600000000) ∧ (S'.reads + 5 * (↑(pB (a1.node kr vr b1).size) : Int) ≤ 1700000000000000000) ∧ (∀ S'1 : Arn, (∀ j : Int, (∀ k1 : Int, (∀ v1 : Int, (∀ L : List Ent, ((((a1.node kr vr b1).list) = (L ++ [(k1, v1)])) → ((TrR S' hs1 L (pB (a1.node kr vr b1).size) (5 * pB (a1.node kr vr b1).size) S'1 j) → (∃ hs2 : List Int, (∃ ta : Tr, (∃ tb : Tr, ((Wf S'1 (l :: j :: hs2)) ∧ (Rep S'1 ta l) ∧
    (Rep S'1 tb j) ∧ (ta.Bal) ∧ (tb.Bal) ∧ (ta.size + tb.size ≤ 900000) ∧ ((↑(jB ta.size tb.size) : Int) ≤ S'1.free) ∧ (hs2.length ≤ 700000000) ∧ (S'1.reads + 5 * (↑(jB ta.size tb.size) : Int) ≤ 1800000000000000000) ∧ (∀ S'2 : Arn, (∀ i1 : Int, ((TrR S'1 hs2 (ta.list ++ (k, v) :: tb.list) (jB ta.size tb.size) (4 * jB ta.size tb.size) S'2 i1) → (((balN (↑ta.size : Int) (↑tb.size : Int)) → ((((S'2.nd i1).left) = (l)) ∧ (((S'2.nd i1).right) = (j)) ∧ ((S'2.nu) = (S'1.nu + 1)))) → (K (SV.tup [(TV.at (At.val (Value.int IntKind.u32 (i1)))), (TV.agg [(At.val (Value.int IntKind.i64 (k1))), (At.val (Value.int IntKind.i64 (v1)))])]) [(Chunk.box [(At.ptr 1 0), (At.slc 2), (At.slc 3), (At.val (Value.int IntKind.u64 (S'2.reads)))]), (Chunk.box [(At.slc 4), (At.slc 5), (At.slc 6), (At.val (Value.int IntKind.u32 (S'2.fresh)))]), (Chunk.row true (EC.node) (S'2.nodes)), (Chunk.row true (EC.int) (S'2.counts)), (Chunk.row true (EC.bool) (S'2.used)), (Chunk.row true (EC.u32) (S'2.gen)), (Chunk.row true (EC.u32) (S'2.rel))] [0, 1, 2, 3, 4, 5, 6])))))))))))))))))))))))))))))))))) = _ by kernel_rfl) ?_
  have zz := node_size a b kr vr
  rw [zz] at hfu hz hf hl hr h
  obtain ⟨bb, ba, bbb⟩ := bal
  have hrd := hw.rds
  refine ⟨hs, a, kr, vr, b, hw, h2, by omega, by omega, fun S1 l r o => brS_of (fun d => ?_) fun d => ?_⟩
  · have d : r = 0 := by simpa using d
    subst d
    have e := o.repr.zero o.got.wf
    subst e
    have pp := pB_pos (n := a.size + Tr.nil.size + 1) (by omega)
    exact h S1 l kr vr a.list (by simp [Tr.list]) ⟨((o.got.perm (List.Perm.swap _ _ _)).of_zero).mono (by omega) (by omega), a, o.repl, rfl, ba⟩
  · have d : r ≠ 0 := by simpa using d
    obtain ⟨a2, k2, v2, b2, e⟩ := rep_ne o.repr d
    have zb : 1 ≤ b.size := by rw [e, node_size]; omega
    have ps := pB_step bb zb (by omega)
    have jp0 := jB_pos a.size (b.size - 1)
    have f1 := o.got.free hw
    have q1 := o.got.rd
    have orr := o.repr
    have eb := e
    rw [e] at orr
    refine ⟨l :: hs, a2, k2, v2, b2, o.got.wf.perm (List.Perm.swap _ _ _), orr, ?_⟩
    rw [← e]
    refine ⟨bbb, by omega, by omega, by omega, by simp; omega, by omega, fun S2 j k1 v1 L eL tr => ?_⟩
    obtain ⟨t, rt, lt, bt⟩ := tr.tree
    have zt : t.size = b.size - 1 := by rw [← t.list_len, lt, ← b.list_len, eL]; simp
    have f2 := tr.got.free o.got.wf
    have q2 := tr.got.rd
    have jp := jB_pos a.size t.size
    rw [← zt] at ps
    refine ⟨hs, a, t, tr.got.wf.perm (List.Perm.swap _ _ _), o.repl.held o.got.wf tr.got.stay (.inr (by simp)), rt, ba, bt, by omega, by omega, by omega, by omega, fun S3 q tj _ => h S3 q k1 v1 (a.list ++ (kr, vr) :: L) ?_ ⟨?_, ?_⟩⟩
    · show a.list ++ (kr, vr) :: b.list = _
      rw [eL]; simp
    · exact ((o.got.seq tr.got (h := hs) (fun _ h => h) (fun _ h => by simp [h])).seq tj.got (fun _ h => h) (fun _ h => h)).mono (by omega) (by omega)
    · obtain ⟨t', rt', lt', bt'⟩ := tj.tree
      exact ⟨t', rt', by rw [lt', lt], bt'⟩
theorem s_pop' : ∀ n, SoundT C0 119 (tPop n) := by
  intro n
  induction n with
  | zero =>
    refine .of Try.func119 (by decide) rfl fun args H K h hB => ?_
    exfalso
    unfold tPop at h
    split at h <;> try exact h.elim
    unfold arM at h
    split at h <;> try exact h.elim
    obtain ⟨_, _, _, _, _, _, _, _, h1, _⟩ := h
    omega
  | succ n ih =>
    refine .ofW W7 Try.func119 (by decide) rfl fun args H K h hB => ?_
    unfold tPop at h
    split at h <;> try exact h.elim
    unfold arM at h
    split at h <;> try exact h.elim
    rename_i i _ rd fr nd ct us gn rl
    obtain ⟨hs, a, kr, vr, b, h1, h2, h3, h4, h5, h6, h7, h8, h9⟩ := h
    exact ⟨aPop' n, ⟨frame C0.ok s_opn _, frame C0.ok ih _, frame C0.ok s_join _, trivial⟩, vc_popl n ⟨us, gn, rl, fr, nd, ct, rd⟩ i K hs a kr vr b h1 h2 h3 h4 h5 h6 h7 h8 h9⟩
theorem s_popl : SoundT C0 119 tPopl := (s_pop' 1000000).weak fun args H K h => by
  unfold tPopl at h
  unfold tPop
  split at h <;> try exact h.elim
  unfold arM at h ⊢
  split at h <;> try exact h.elim
  obtain ⟨hs, t, h1, h2, h3, h4, h5, h6, h7, h8, h9⟩ := h
  cases t with
  | nil => exact absurd h4 (by decide)
  | node a k v b => exact ⟨hs, a, k, v, b, h1, h2, h3, by omega, h5, h6, by omega, h8, h9⟩
theorem vc_cat (S : Arn) (l r : Int) (K : KT) (hs : List Int) (ta tb : Tr) (hw : Wf S (l :: r :: hs)) (h1 : Rep S ta l) (h2 : Rep S tb r) (b1 : ta.Bal) (b2 : tb.Bal) (hz : ta.size + tb.size ≤ 800000) (hf : (cB ta.size tb.size : Int) ≤ S.free) (hl : hs.length ≤ 400000000) (hr : S.reads + 5 * (cB ta.size tb.size) ≤ 1600000000000000000)
    (h : ∀ S' i, TrR S hs (ta.list ++ tb.list) (cB ta.size tb.size) (5 * cB ta.size tb.size) S' i → K (.one (.at (vU i))) (chS S') W7) :
    vc C0 aCat Try.f92 [.at (.ptr 0 0), .at (vU l), .at (vU r)] (chS S) (normK 7 (wideK W7 K)) := by
  refine Eq.mp (show (brS (l == 0) ((K (SV.one (TV.at (At.val (Value.int IntKind.u32 (r))))) [(Chunk.box [(At.ptr 1 0), (At.slc 2), (At.slc 3), (At.val (Value.int IntKind.u64 (S.reads)))]), (Chunk.box [(At.slc 4), (At.slc 5), (At.slc 6), (At.val (Value.int IntKind.u32 (S.fresh)))]), (Chunk.row true (EC.node) (S.nodes)), (Chunk.row true (EC.int) (S.counts)), (Chunk.row true (EC.bool) (S.used)), (Chunk.row true (EC.u32) (S.gen)), (Chunk.row true (EC.u32) (S.rel))] [0, 1, 2, 3, 4, 5, 6])) ((brS (r == 0) ((K (SV.one (TV.at (At.val (Value.int IntKind.u32 (l))))) [(Chunk.box [(At.ptr 1 0), (At.slc 2), (At.slc 3), (At.val (Value.int IntKind.u64 (S.reads)))]), (Chunk.box [(At.slc 4), (At.slc 5), (At.slc 6), (At.val (Value.int IntKind.u32 (S.fresh)))]), (Chunk.row true (EC.node) (S.nodes)), (Chunk.row true (EC.int) (S.counts)), (Chunk.row true (EC.bool) (S.used)), (Chunk.row true (EC.u32) (S.gen)), (Chunk.row true (EC.u32) (S.rel))] [0, 1, 2, 3, 4, 5, 6])) ((∃ hs : List Int, (∃ t : Tr, ((Wf S (l :: hs)) ∧ (Rep S t l) ∧ (t.Bal) ∧ (1 ≤ t.size) ∧ (t.size ≤ 800000) ∧ ((↑(pB t.size) : Int) ≤ S.free) ∧ (hs.length ≤ 500000000) ∧ (S.reads + 5 * (↑(pB t.size) : Int) ≤ 1700000000000000000) ∧ (∀ S' : Arn, (∀ j : Int, (∀ k : Int, (∀ v : Int, (∀ L : List Ent, (((t.list) = (L ++ [(k, v)])) → ((TrR S hs L (pB t.size) (5 * pB t.size) S' j) → (∃ hs1 : List Int, (∃ ta : Tr, (∃ tb : Tr, ((Wf S' (j :: r :: hs1)) ∧ (Rep S' ta j) ∧ (Rep S' tb r) ∧ (ta.Bal) ∧ (tb.Bal) ∧ (ta.size + tb.size ≤ 900000) ∧
    ((↑(jB ta.size tb.size) : Int) ≤ S'.free) ∧ (hs1.length ≤ 700000000) ∧ (S'.reads + 5 * (↑(jB ta.size tb.size) : Int) ≤ 1800000000000000000) ∧ (∀ S'1 : Arn, (∀ i : Int, ((TrR S' hs1 (ta.list ++ (k, v) :: tb.list) (jB ta.size tb.size) (4 * jB ta.size tb.size) S'1 i) → (((balN (↑ta.size : Int) (↑tb.size : Int)) → ((((S'1.nd i).left) = (j)) ∧ (((S'1.nd i).right) = (r)) ∧ ((S'1.nu) = (S'.nu + 1)))) → (K (SV.one (TV.at (At.val (Value.int IntKind.u32 (i))))) [(Chunk.box [(At.ptr 1 0), (At.slc 2), (At.slc 3), (At.val (Value.int IntKind.u64 (S'1.reads)))]), (Chunk.box [(At.slc 4), (At.slc 5), (At.slc 6), (At.val (Value.int IntKind.u32 (S'1.fresh)))]), (Chunk.row true (EC.node) (S'1.nodes)), (Chunk.row true (EC.int) (S'1.counts)), (Chunk.row true (EC.bool) (S'1.used)), (Chunk.row true (EC.u32) (S'1.gen)), (Chunk.row true (EC.u32) (S'1.rel))] [0, 1, 2, 3, 4, 5, 6]))))))))))))))))))))))) = _ by kernel_rfl) ?_
  refine brS_of (fun d => ?_) fun d => brS_of (fun e => ?_) fun e => ?_
  · have d : l = 0 := by simpa using d
    subst d
    have e := h1.zero hw
    subst e
    exact h S r ⟨(Got.refl hw.of_zero).mono (Nat.zero_le _) (Nat.zero_le _), tb, h2, rfl, b2⟩
  · have e : r = 0 := by simpa using e
    subst e
    have e := h2.zero hw
    subst e
    exact h S l ⟨(Got.refl (hw.perm (List.Perm.swap _ _ _)).of_zero).mono (Nat.zero_le _) (Nat.zero_le _), ta, h1, by simp [Tr.list], b1⟩
  · have d : l ≠ 0 := by simpa using d
    have e : r ≠ 0 := by simpa using e
    obtain ⟨_, _, _, _, ea⟩ := rep_ne h1 d
    obtain ⟨_, _, _, _, eb⟩ := rep_ne h2 e
    have za : 1 ≤ ta.size := by rw [ea, node_size]; omega
    have zb : 1 ≤ tb.size := by rw [eb, node_size]; omega
    have ec : cB ta.size tb.size = pB ta.size + jB (ta.size - 1) tb.size := by unfold cB; rw [if_neg (by omega)]
    rw [ec] at hf hr h
    have hrd := hw.rds
    refine ⟨r :: hs, ta, hw, h1, b1, za, by omega, by omega, by simp; omega, by omega, fun S1 j k v L eL tr => ?_⟩
    obtain ⟨t, rt, lt, bt⟩ := tr.tree
    have zt : t.size = ta.size - 1 := by rw [← t.list_len, lt, ← ta.list_len, eL]; simp
    rw [← zt] at hf hr h
    have f2 := tr.got.free hw
    have q2 := tr.got.rd
    refine ⟨hs, t, tb, tr.got.wf, rt, h2.held hw tr.got.stay (.inr (by simp)), bt, b2, by omega, by omega, by omega, by omega, fun S2 q tj _ => h S2 q ⟨?_, ?_⟩⟩
    · exact (tr.got.seq tj.got (h := hs) (fun _ h => by simp [h]) (fun _ h => h)).mono (by omega) (by omega)
    · obtain ⟨t', rt', lt', bt'⟩ := tj.tree
      exact ⟨t', rt', by rw [lt', lt, eL]; simp, bt'⟩
theorem s_cat : SoundT C0 92 tCat := by
  refine .ofW W7 Try.func92 (by decide) rfl fun args H K h hB => ?_
  unfold tCat at h
  split at h <;> try exact h.elim
  unfold arM at h
  split at h <;> try exact h.elim
  rename_i l r _ rd fr nd ct us gn rl
  obtain ⟨hs, ta, tb, h1, h2, h3, h4, h5, h6, h7, h8, h9, h10⟩ := h
  exact ⟨aCat, ⟨frame C0.ok s_popl _, frame C0.ok s_join _, trivial⟩, vc_cat ⟨us, gn, rl, fr, nd, ct, rd⟩ l r K hs ta tb h1 h2 h3 h4 h5 h6 h7 h8 h9 h10⟩
theorem vc_hold (S : Arn) (i : Int) (K : KT) (h1 : live S i) (h2 : exW S) (h : ∀ S', S' = retL S i → K (.one (.at (vU i))) (chS S') [3]) :
    vc C0 aHold Try.f69 [.at (.ptr 0 0), .at (vU i)] (chS S) (normK 7 (wideK [3] K)) := by
  refine Eq.mp (show ((live S i) ∧
(exW S) ∧
(∀ S' : Arn, (((S') = (retL S i)) → (K (SV.one (TV.at (At.val (Value.int IntKind.u32 (i))))) [(Chunk.box [(At.ptr 1 0), (At.slc 2), (At.slc 3), (At.val (Value.int IntKind.u64 (S'.reads)))]), (Chunk.box [(At.slc 4), (At.slc 5), (At.slc 6), (At.val (Value.int IntKind.u32 (S'.fresh)))]), (Chunk.row true (EC.node) (S'.nodes)), (Chunk.row true (EC.int) (S'.counts)), (Chunk.row true (EC.bool) (S'.used)), (Chunk.row true (EC.u32) (S'.gen)), (Chunk.row true (EC.u32) (S'.rel))] [3])))) = _ by kernel_rfl) ?_
  exact ⟨h1, h2, h⟩
theorem s_hold : SoundT C0 69 tHold := by
  refine .ofW [3] Try.func69 (by decide) rfl fun args H K h hB => ?_
  unfold tHold at h
  split at h <;> try exact h.elim
  unfold arM at h
  split at h <;> try exact h.elim
  rename_i i _ rd fr nd ct us gn rl
  exact ⟨aHold, ⟨frame C0.ok s_retL _, trivial⟩, vc_hold ⟨us, gn, rl, fr, nd, ct, rd⟩ i K h.1 h.2.1 h.2.2⟩
theorem vc_room (S : Arn) (n : Int) (K : KT) (h1 : exW S) (h : ∀ b, b = (decide (0 ≤ n) && decide (n ≤ S.free)) → K (.one (.at (vB b))) (chS S) []) :
    vc C0 aRoom Try.f66 [.at (.ptr 0 0), .at (vI n)] (chS S) (normK 7 K) := by
  refine Eq.mp (show (brS (decide (n ≥ 0)) (((exW S) ∧ (K (SV.one (TV.at (At.val (Value.bool (decide (S.free ≥ n)))))) [(Chunk.box [(At.ptr 1 0), (At.slc 2), (At.slc 3), (At.val (Value.int IntKind.u64 (S.reads)))]), (Chunk.box [(At.slc 4), (At.slc 5), (At.slc 6), (At.val (Value.int IntKind.u32 (S.fresh)))]), (Chunk.row true (EC.node) (S.nodes)), (Chunk.row true (EC.int) (S.counts)), (Chunk.row true (EC.bool) (S.used)), (Chunk.row true (EC.u32) (S.gen)), (Chunk.row true (EC.u32) (S.rel))] []))) ((K (SV.one (TV.at (At.val (Value.bool false)))) [(Chunk.box [(At.ptr 1 0), (At.slc 2), (At.slc 3), (At.val (Value.int IntKind.u64 (S.reads)))]), (Chunk.box [(At.slc 4), (At.slc 5), (At.slc 6), (At.val (Value.int IntKind.u32 (S.fresh)))]), (Chunk.row true (EC.node) (S.nodes)), (Chunk.row true (EC.int) (S.counts)), (Chunk.row true (EC.bool) (S.used)), (Chunk.row true (EC.u32) (S.gen)), (Chunk.row true (EC.u32) (S.rel))] []))) = _ by kernel_rfl) ?_
  refine brS_of (fun d => ⟨h1, h _ ?_⟩) fun d => h _ ?_
  · have d : 0 ≤ n := of_decide_eq_true d
    rw [decide_eq_true d]; rfl
  · have d : ¬ 0 ≤ n := of_decide_eq_false d
    rw [decide_eq_false d]; rfl
theorem s_room : SoundT C0 66 tRoom := by
  refine .of Try.func66 (by decide) rfl fun args H K h hB => ?_
  unfold tRoom at h
  split at h <;> try exact h.elim
  unfold arM at h
  split at h <;> try exact h.elim
  rename_i n _ rd fr nd ct us gn rl
  exact ⟨aRoom, ⟨frame C0.ok s_free _, trivial⟩, vc_room ⟨us, gn, rl, fr, nd, ct, rd⟩ n K h.1 h.2⟩
theorem jB_ins {a b t : Nat} (h : balN a b) (h1 : a ≤ t) (h2 : t ≤ a + 1) : jB t b ≤ 4 := by
  rcases Nat.lt_or_ge a t with c | c
  · have : t = a + 1 := by omega
    subst this
    rw [jB_comm]; exact jB_more (balN_comm h)
  · have : t = a := by omega
    subst this
    rw [jB_bal h]; decide
theorem jB_ins' {a b t : Nat} (h : balN a b) (h1 : b ≤ t) (h2 : t ≤ b + 1) : jB a t ≤ 4 := by
  rw [jB_comm]; exact jB_ins (balN_comm h) h1 h2
theorem vc_insr (n : Nat) (S : Arn) (i k v : Int) (K : KT) (hs : List Int) (t : Tr) (hw : Wf S (i :: hs)) (h1 : Rep S t i) (bal : t.Bal) (asc : Asc t.list) (hfu : t.size < n + 1) (hz : t.size ≤ 700000) (hf : (iB t.size : Int) ≤ S.free) (hl : hs.length + t.size ≤ 600000000) (hr : S.reads + 5 * iB t.size ≤ 1600000000000000000)
    (h : ∀ S' j, TrR S hs (insE t.list (k, v)) (iB t.size) (5 * iB t.size) S' j → K (.one (.at (vU j))) (chS S') W7) :
    vc C0 (aIns' n) Try.f71 [.at (.ptr 0 0), .at (vU i), .agg [vI k, vI v]] (chS S) (normK 7 (wideK W7 K)) := by
  refine Eq.mp (show (brS (i == 0) ((∃ hs : List Int, (∃ tl : Tr, (∃ tr : Tr, ((Wf S (0 :: 0 :: hs)) ∧ (Rep S tl 0) ∧ (Rep S tr 0) ∧ (tl.size + tr.size ≤ 1000000) ∧ (0 < S.free) ∧ (hs.length ≤ 900000000) ∧ (∀ S' : Arn, (∀ i1 : Int, ((NodeR S hs k v tl tr S' i1) → ((((S'.nd i1).left) = 0) → ((((S'.nd i1).right) = 0) → (K (SV.one (TV.at (At.val (Value.int IntKind.u32 (i1))))) [(Chunk.box [(At.ptr 1 0), (At.slc 2), (At.slc 3), (At.val (Value.int IntKind.u64 (S'.reads)))]), (Chunk.box [(At.slc 4), (At.slc 5), (At.slc 6), (At.val (Value.int IntKind.u32 (S'.fresh)))]), (Chunk.row true (EC.node) (S'.nodes)), (Chunk.row true (EC.int) (S'.counts)), (Chunk.row true (EC.bool) (S'.used)), (Chunk.row true (EC.u32) (S'.gen)), (Chunk.row true (EC.u32) (S'.rel))] [0, 1, 2, 3, 4, 5, 6]))))))))))) ((∃ hs : List Int, (∃ a : Tr, (∃ k1 : Int, (∃ v1 : Int, (∃ b : Tr, ((Wf S (i :: hs)) ∧ (Rep S (a.node k1 v1 b) i) ∧ (hs.length ≤ 900000000) ∧ (S.reads ≤ 3000000000000000000) ∧ (∀ S' : Arn, (∀ l : Int, (∀ r : Int, ((OpnR S hs a k1 v1 b S' l r) → (brS (decide (k < k1)) ((((∃ hs1 : List Int, (∃ t : Tr, ((Wf S' (l :: hs1)) ∧ (Rep S' t l) ∧ (t.Bal) ∧ (Asc t.list) ∧ (t.size < n) ∧ (t.size ≤ 700000) ∧ ((↑(iB t.size) : Int) ≤ S'.free) ∧ (hs1.length + t.size ≤ 600000000) ∧ (S'.reads + 5 * (↑(iB t.size) : Int) ≤ 1600000000000000000) ∧ (∀ S'1 : Arn, (∀ j : Int, ((TrR S' hs1 (insE t.list (k, v)) (iB t.size) (5 * iB t.size) S'1 j) → (∃ hs2 : List Int, (∃ ta : Tr, (∃ tb : Tr, ((Wf S'1 (j :: r :: hs2)) ∧ (Rep S'1 ta j) ∧
    (Rep S'1 tb r) ∧ (ta.Bal) ∧ (tb.Bal) ∧ (ta.size + tb.size ≤ 900000) ∧ ((↑(jB ta.size tb.size) : Int) ≤ S'1.free) ∧ (hs2.length ≤ 700000000) ∧ (S'1.reads + 5 * (↑(jB ta.size tb.size) : Int) ≤ 1800000000000000000) ∧ (∀ S'2 : Arn, (∀ i1 : Int, ((TrR S'1 hs2 (ta.list ++ (k1, v1) :: tb.list) (jB ta.size tb.size) (4 * jB ta.size tb.size) S'2 i1) → (((balN (↑ta.size : Int) (↑tb.size : Int)) → ((((S'2.nd i1).left) = (j)) ∧ (((S'2.nd i1).right) = (r)) ∧ ((S'2.nu) = (S'1.nu + 1)))) → (K (SV.one (TV.at (At.val (Value.int IntKind.u32 (i1))))) [(Chunk.box [(At.ptr 1 0), (At.slc 2), (At.slc 3), (At.val (Value.int IntKind.u64 (S'2.reads)))]), (Chunk.box [(At.slc 4), (At.slc 5), (At.slc 6), (At.val (Value.int IntKind.u32 (S'2.fresh)))]), (Chunk.row true (EC.node) (S'2.nodes)), (Chunk.row true (EC.int) (S'2.counts)), (Chunk.row true (EC.bool) (S'2.used)), (Chunk.row true (EC.u32) (S'2.gen)), (Chunk.row true (EC.u32) (S'2.rel))] [0, 1, 2, 3, 4, 5, 6]))))))))))))))) ∧ (∃ hs1 : List Int, (∃ t : Tr, ((Wf S' (l :: hs1)) ∧ (Rep S' t l) ∧ (t.Bal) ∧ (Asc t.list) ∧ (t.size < n) ∧ (t.size ≤ 700000) ∧ ((↑(iB t.size) : Int) ≤ S'.free) ∧ (hs1.length + t.size ≤ 600000000) ∧ (S'.reads + 5 * (↑(iB t.size) : Int) ≤ 1600000000000000000) ∧ (∀ S'1 : Arn, (∀ j : Int, ((TrR S' hs1 (insE t.list (k, v)) (iB t.size) (5 * iB t.size) S'1 j) → (∃ hs2 : List Int, (∃ ta : Tr, (∃ tb : Tr, ((Wf S'1 (j :: r :: hs2)) ∧ (Rep S'1 ta j) ∧ (Rep S'1 tb r) ∧ (ta.Bal) ∧ (tb.Bal) ∧ (ta.size + tb.size ≤ 900000) ∧
    ((↑(jB ta.size tb.size) : Int) ≤ S'1.free) ∧ (hs2.length ≤ 700000000) ∧ (S'1.reads + 5 * (↑(jB ta.size tb.size) : Int) ≤ 1800000000000000000) ∧ (∀ S'2 : Arn, (∀ i1 : Int, ((TrR S'1 hs2 (ta.list ++ (k1, v1) :: tb.list) (jB ta.size tb.size) (4 * jB ta.size tb.size) S'2 i1) → (((balN (↑ta.size : Int) (↑tb.size : Int)) → ((((S'2.nd i1).left) = (j)) ∧ (((S'2.nd i1).right) = (r)) ∧ ((S'2.nu) = (S'1.nu + 1)))) → (K (SV.one (TV.at (At.val (Value.int IntKind.u32 (i1))))) [(Chunk.box [(At.ptr 1 0), (At.slc 2), (At.slc 3), (At.val (Value.int IntKind.u64 (S'2.reads)))]), (Chunk.box [(At.slc 4), (At.slc 5), (At.slc 6), (At.val (Value.int IntKind.u32 (S'2.fresh)))]), (Chunk.row true (EC.node) (S'2.nodes)), (Chunk.row true (EC.int) (S'2.counts)), (Chunk.row true (EC.bool) (S'2.used)), (Chunk.row true (EC.u32) (S'2.gen)), (Chunk.row true (EC.u32) (S'2.rel))] [0, 1, 2, 3, 4, 5, 6])))))))))))))))) ∧ (∃ hs1 : List Int, (∃ t : Tr, ((Wf S' (l :: hs1)) ∧ (Rep S' t l) ∧ (t.Bal) ∧ (Asc t.list) ∧ (t.size < n) ∧ (t.size ≤ 700000) ∧ ((↑(iB t.size) : Int) ≤ S'.free) ∧ (hs1.length + t.size ≤ 600000000) ∧ (S'.reads + 5 * (↑(iB t.size) : Int) ≤ 1600000000000000000) ∧ (∀ S'1 : Arn, (∀ j : Int, ((TrR S' hs1 (insE t.list (k, v)) (iB t.size) (5 * iB t.size) S'1 j) → (∃ hs2 : List Int, (∃ ta : Tr, (∃ tb : Tr, ((Wf S'1 (j :: r :: hs2)) ∧ (Rep S'1 ta j) ∧ (Rep S'1 tb r) ∧ (ta.Bal) ∧ (tb.Bal) ∧ (ta.size + tb.size ≤ 900000) ∧ ((↑(jB ta.size tb.size) : Int) ≤ S'1.free) ∧ (hs2.length ≤ 700000000) ∧
    (S'1.reads + 5 * (↑(jB ta.size tb.size) : Int) ≤ 1800000000000000000) ∧ (∀ S'2 : Arn, (∀ i1 : Int, ((TrR S'1 hs2 (ta.list ++ (k1, v1) :: tb.list) (jB ta.size tb.size) (4 * jB ta.size tb.size) S'2 i1) → (((balN (↑ta.size : Int) (↑tb.size : Int)) → ((((S'2.nd i1).left) = (j)) ∧ (((S'2.nd i1).right) = (r)) ∧ ((S'2.nu) = (S'1.nu + 1)))) → (K (SV.one (TV.at (At.val (Value.int IntKind.u32 (i1))))) [(Chunk.box [(At.ptr 1 0), (At.slc 2), (At.slc 3), (At.val (Value.int IntKind.u64 (S'2.reads)))]), (Chunk.box [(At.slc 4), (At.slc 5), (At.slc 6), (At.val (Value.int IntKind.u32 (S'2.fresh)))]), (Chunk.row true (EC.node) (S'2.nodes)), (Chunk.row true (EC.int) (S'2.counts)), (Chunk.row true (EC.bool) (S'2.used)), (Chunk.row true (EC.u32) (S'2.gen)), (Chunk.row true (EC.u32) (S'2.rel))] [0, 1, 2, 3, 4, 5, 6]))))))))))))))))) ((brS (decide (k > k1)) (((∃ hs1 : List Int, (∃ t : Tr, ((Wf S' (r :: hs1)) ∧ (Rep S' t r) ∧ (t.Bal) ∧ (Asc t.list) ∧ (t.size < n) ∧ (t.size ≤ 700000) ∧ ((↑(iB t.size) : Int) ≤ S'.free) ∧ (hs1.length + t.size ≤ 600000000) ∧ (S'.reads + 5 * (↑(iB t.size) : Int) ≤ 1600000000000000000) ∧ (∀ S'1 : Arn, (∀ j : Int, ((TrR S' hs1 (insE t.list (k, v)) (iB t.size) (5 * iB t.size) S'1 j) → (∃ hs2 : List Int, (∃ ta : Tr, (∃ tb : Tr, ((Wf S'1 (l :: j :: hs2)) ∧ (Rep S'1 ta l) ∧ (Rep S'1 tb j) ∧ (ta.Bal) ∧ (tb.Bal) ∧ (ta.size + tb.size ≤ 900000) ∧ ((↑(jB ta.size tb.size) : Int) ≤ S'1.free) ∧ (hs2.length ≤ 700000000) ∧
    (S'1.reads + 5 * (↑(jB ta.size tb.size) : Int) ≤ 1800000000000000000) ∧ (∀ S'2 : Arn, (∀ i1 : Int, ((TrR S'1 hs2 (ta.list ++ (k1, v1) :: tb.list) (jB ta.size tb.size) (4 * jB ta.size tb.size) S'2 i1) → (((balN (↑ta.size : Int) (↑tb.size : Int)) → ((((S'2.nd i1).left) = (l)) ∧ (((S'2.nd i1).right) = (j)) ∧ ((S'2.nu) = (S'1.nu + 1)))) → (K (SV.one (TV.at (At.val (Value.int IntKind.u32 (i1))))) [(Chunk.box [(At.ptr 1 0), (At.slc 2), (At.slc 3), (At.val (Value.int IntKind.u64 (S'2.reads)))]), (Chunk.box [(At.slc 4), (At.slc 5), (At.slc 6), (At.val (Value.int IntKind.u32 (S'2.fresh)))]), (Chunk.row true (EC.node) (S'2.nodes)), (Chunk.row true (EC.int) (S'2.counts)), (Chunk.row true (EC.bool) (S'2.used)), (Chunk.row true (EC.u32) (S'2.gen)), (Chunk.row true (EC.u32) (S'2.rel))] [0, 1, 2, 3, 4, 5, 6]))))))))))))))) ∧ (∃ hs1 : List Int, (∃ t : Tr, ((Wf S' (r :: hs1)) ∧ (Rep S' t r) ∧ (t.Bal) ∧ (Asc t.list) ∧ (t.size < n) ∧ (t.size ≤ 700000) ∧ ((↑(iB t.size) : Int) ≤ S'.free) ∧ (hs1.length + t.size ≤ 600000000) ∧ (S'.reads + 5 * (↑(iB t.size) : Int) ≤ 1600000000000000000) ∧ (∀ S'1 : Arn, (∀ j : Int, ((TrR S' hs1 (insE t.list (k, v)) (iB t.size) (5 * iB t.size) S'1 j) → (∃ hs2 : List Int, (∃ ta : Tr, (∃ tb : Tr, ((Wf S'1 (l :: j :: hs2)) ∧ (Rep S'1 ta l) ∧ (Rep S'1 tb j) ∧ (ta.Bal) ∧ (tb.Bal) ∧ (ta.size + tb.size ≤ 900000) ∧ ((↑(jB ta.size tb.size) : Int) ≤ S'1.free) ∧ (hs2.length ≤ 700000000) ∧ (S'1.reads + 5 * (↑(jB ta.size tb.size) : Int) ≤ 1800000000000000000) ∧ (∀ S'2 : Arn,
    (∀ i1 : Int, ((TrR S'1 hs2 (ta.list ++ (k1, v1) :: tb.list) (jB ta.size tb.size) (4 * jB ta.size tb.size) S'2 i1) → (((balN (↑ta.size : Int) (↑tb.size : Int)) → ((((S'2.nd i1).left) = (l)) ∧ (((S'2.nd i1).right) = (j)) ∧ ((S'2.nu) = (S'1.nu + 1)))) → (K (SV.one (TV.at (At.val (Value.int IntKind.u32 (i1))))) [(Chunk.box [(At.ptr 1 0), (At.slc 2), (At.slc 3), (At.val (Value.int IntKind.u64 (S'2.reads)))]), (Chunk.box [(At.slc 4), (At.slc 5), (At.slc 6), (At.val (Value.int IntKind.u32 (S'2.fresh)))]), (Chunk.row true (EC.node) (S'2.nodes)), (Chunk.row true (EC.int) (S'2.counts)), (Chunk.row true (EC.bool) (S'2.used)), (Chunk.row true (EC.u32) (S'2.gen)), (Chunk.row true (EC.u32) (S'2.rel))] [0, 1, 2, 3, 4, 5, 6]))))))))))))))) ∧ (∃ hs1 : List Int, (∃ t : Tr, ((Wf S' (r :: hs1)) ∧ (Rep S' t r) ∧ (t.Bal) ∧ (Asc t.list) ∧ (t.size < n) ∧ (t.size ≤ 700000) ∧ ((↑(iB t.size) : Int) ≤ S'.free) ∧ (hs1.length + t.size ≤ 600000000) ∧ (S'.reads + 5 * (↑(iB t.size) : Int) ≤ 1600000000000000000) ∧ (∀ S'1 : Arn, (∀ j : Int, ((TrR S' hs1 (insE t.list (k, v)) (iB t.size) (5 * iB t.size) S'1 j) → (∃ hs2 : List Int, (∃ ta : Tr, (∃ tb : Tr, ((Wf S'1 (l :: j :: hs2)) ∧ (Rep S'1 ta l) ∧ (Rep S'1 tb j) ∧ (ta.Bal) ∧ (tb.Bal) ∧ (ta.size + tb.size ≤ 900000) ∧ ((↑(jB ta.size tb.size) : Int) ≤ S'1.free) ∧ (hs2.length ≤ 700000000) ∧ (S'1.reads + 5 * (↑(jB ta.size tb.size) : Int) ≤ 1800000000000000000) ∧ (∀ S'2 : Arn, (∀ i1 : Int,
    ((TrR S'1 hs2 (ta.list ++ (k1, v1) :: tb.list) (jB ta.size tb.size) (4 * jB ta.size tb.size) S'2 i1) → (((balN (↑ta.size : Int) (↑tb.size : Int)) → ((((S'2.nd i1).left) = (l)) ∧ (((S'2.nd i1).right) = (j)) ∧ ((S'2.nu) = (S'1.nu + 1)))) → (K (SV.one (TV.at (At.val (Value.int IntKind.u32 (i1))))) [(Chunk.box [(At.ptr 1 0), (At.slc 2), (At.slc 3), (At.val (Value.int IntKind.u64 (S'2.reads)))]), (Chunk.box [(At.slc 4), (At.slc 5), (At.slc 6), (At.val (Value.int IntKind.u32 (S'2.fresh)))]), (Chunk.row true (EC.node) (S'2.nodes)), (Chunk.row true (EC.int) (S'2.counts)), (Chunk.row true (EC.bool) (S'2.used)), (Chunk.row true (EC.u32) (S'2.gen)), (Chunk.row true (EC.u32) (S'2.rel))] [0, 1, 2, 3, 4, 5, 6]))))))))))))))))) ((∃ hs1 : List Int, (∃ tl : Tr, (∃ tr : Tr, ((Wf S' (l :: r :: hs1)) ∧ (Rep S' tl l) ∧ (Rep S' tr r) ∧ (tl.size + tr.size ≤ 1000000) ∧ (0 < S'.free) ∧ (hs1.length ≤ 900000000) ∧ (∀ S'1 : Arn, (∀ i1 : Int, ((NodeR S' hs1 k v tl tr S'1 i1) → ((((S'1.nd i1).left) = (l)) → ((((S'1.nd i1).right) = (r)) →
    (K (SV.one (TV.at (At.val (Value.int IntKind.u32 (i1))))) [(Chunk.box [(At.ptr 1 0), (At.slc 2), (At.slc 3), (At.val (Value.int IntKind.u64 (S'1.reads)))]), (Chunk.box [(At.slc 4), (At.slc 5), (At.slc 6), (At.val (Value.int IntKind.u32 (S'1.fresh)))]), (Chunk.row true (EC.node) (S'1.nodes)), (Chunk.row true (EC.int) (S'1.counts)), (Chunk.row true (EC.bool) (S'1.used)), (Chunk.row true (EC.u32) (S'1.gen)), (Chunk.row true (EC.u32) (S'1.rel))] [0, 1, 2, 3, 4, 5, 6])))))))))))))))))))))))))) = _ by kernel_rfl) ?_
  have hrd := hw.rds
  refine brS_of (fun d => ?_) fun d => ?_
  · have d : i = 0 := by simpa using d
    subst d
    have e := h1.zero hw
    subst e
    have ep : 1 ≤ iB Tr.nil.size := by unfold iB; omega
    refine ⟨hs, .nil, .nil, hw.zero_cons (by simp; omega), rfl, rfl, by decide, by omega, by omega, fun S1 j nn _ _ => h S1 j ⟨(Got.node nn).mono (by omega) (by omega), _, nn.rep, ?_, ?_⟩⟩
    · simp [Tr.list, insE, insGo]
    · exact ⟨by decide, trivial, trivial⟩
  · have d : i ≠ 0 := by simpa using d
    obtain ⟨a, k1, v1, b, e⟩ := rep_ne h1 d
    subst e
    have zz := node_size a b k1 v1
    rw [zz] at hfu hz hf hl hr h
    obtain ⟨bb, ba, bbb⟩ := bal
    have asc' : Asc (a.list ++ (k1, v1) :: b.list) := asc
    obtain ⟨asca, ascb, ltk, gtk⟩ := asc_parts asc'
    have isa := iB_step (balN_comm bb) (by omega)
    have isb := iB_step bb (by omega)
    rw [show b.size + a.size + 1 = a.size + b.size + 1 by omega] at isa
    refine ⟨hs, a, k1, v1, b, hw, h1, by omega, by omega, fun S1 l r o => ?_⟩
    have f1 := o.got.free hw
    have q1 := o.got.rd
    refine brS_of (fun d => ?_) fun d => brS_of (fun e => ?_) fun e => ?_
    · have d : k < k1 := of_decide_eq_true d
      (repeat' apply And.intro)
      all_goals
        refine ⟨r :: hs, a, o.got.wf, o.repl, ba, asca, by omega, by omega, by omega, by simp; omega, by omega, fun S2 j tr => ?_⟩
        obtain ⟨t, rt, lt, bt⟩ := tr.tree
        have z1 := insE_ge (k, v) asca
        have z2 := insE_len a.list (k, v)
        rw [← lt, a.list_len, t.list_len] at z1 z2
        have jb := jB_ins bb z1 z2
        have jp := jB_pos t.size b.size
        have f2 := tr.got.free o.got.wf
        have q2 := tr.got.rd
        refine ⟨hs, t, b, tr.got.wf, rt, o.repr.held o.got.wf tr.got.stay (.inr (by simp)), bt, bbb, by omega, by omega, by omega, by omega, fun S3 q tj _ => h S3 q ⟨?_, ?_⟩⟩
        · exact ((o.got.seq tr.got (h := hs) (fun _ h => h) (fun _ h => by simp [h])).seq tj.got (fun _ h => h) (fun _ h => h)).mono (by omega) (by omega)
        · obtain ⟨t', rt', lt', bt'⟩ := tj.tree
          exact ⟨t', rt', by rw [lt', lt]; exact (insE_left asc' d).symm, bt'⟩
    · have e : k1 < k := of_decide_eq_true e
      (repeat' apply And.intro)
      all_goals
        refine ⟨l :: hs, b, o.got.wf.perm (List.Perm.swap _ _ _), o.repr, bbb, ascb, by omega, by omega, by omega, by simp; omega, by omega, fun S2 j tr => ?_⟩
        obtain ⟨t, rt, lt, bt⟩ := tr.tree
        have z1 := insE_ge (k, v) ascb
        have z2 := insE_len b.list (k, v)
        rw [← lt, b.list_len, t.list_len] at z1 z2
        have jb := jB_ins' bb z1 z2
        have jp := jB_pos a.size t.size
        have f2 := tr.got.free o.got.wf
        have q2 := tr.got.rd
        refine ⟨hs, a, t, tr.got.wf.perm (List.Perm.swap _ _ _), o.repl.held o.got.wf tr.got.stay (.inr (by simp)), rt, ba, bt, by omega, by omega, by omega, by omega, fun S3 q tj _ => h S3 q ⟨?_, ?_⟩⟩
        · exact ((o.got.seq tr.got (h := hs) (fun _ h => h) (fun _ h => by simp [h])).seq tj.got (fun _ h => h) (fun _ h => h)).mono (by omega) (by omega)
        · obtain ⟨t', rt', lt', bt'⟩ := tj.tree
          exact ⟨t', rt', by rw [lt', lt]; exact (insE_right asc' e).symm, bt'⟩
    · have d : ¬ k < k1 := of_decide_eq_false d
      have e : ¬ k > k1 := of_decide_eq_false e
      have ek : k1 = k := by omega
      subst ek
      have ip : 1 ≤ iB (a.size + b.size + 1) := by unfold iB; omega
      refine ⟨hs, a, b, o.got.wf, o.repl, o.repr, by omega, by omega, by omega, fun S2 j nn _ _ => h S2 j ⟨(o.got.seq (Got.node nn) (h := hs) (fun _ h => h) (fun _ h => h)).mono (by omega) (by omega), _, nn.rep, ?_, bb, ba, bbb⟩⟩
      exact (insE_at (e := (k1, v)) asc').symm
theorem s_insr : ∀ n, SoundT C0 71 (tInsT n) := by
  intro n
  induction n with
  | zero =>
    refine .of Try.func71 (by decide) rfl fun args H K h hB => ?_
    exfalso
    unfold tInsT at h
    split at h <;> try exact h.elim
    unfold arM at h
    split at h <;> try exact h.elim
    obtain ⟨_, _, _, _, _, _, h1, _⟩ := h
    omega
  | succ n ih =>
    refine .ofW W7 Try.func71 (by decide) rfl fun args H K h hB => ?_
    unfold tInsT at h
    split at h <;> try exact h.elim
    unfold arM at h
    split at h <;> try exact h.elim
    rename_i i k v _ rd fr nd ct us gn rl
    obtain ⟨hs, t, h1, h2, h3, h4, h5, h6, h7, h8, h9, h10⟩ := h
    exact ⟨aIns' n, ⟨frame C0.ok s_opn _, frame C0.ok ih _, frame C0.ok s_join _, frame C0.ok s_nodeX _, trivial⟩, vc_insr n ⟨us, gn, rl, fr, nd, ct, rd⟩ i k v K hs t h1 h2 h3 h4 h5 h6 h7 h8 h9 h10⟩
theorem hasK_left {a b : List Ent} {k v q : Int} (h : Asc (a ++ (k, v) :: b)) (hk : hasK (a ++ (k, v) :: b) q) (hq : q < k) : hasK a q := by
  obtain ⟨w, hw⟩ := hk
  obtain ⟨_, _, _, h4⟩ := asc_parts h
  rcases List.mem_append.1 hw with c | c
  · exact ⟨w, c⟩
  · rcases List.mem_cons.1 c with c | c
    · have := congrArg Prod.fst c; simp at this; omega
    · have := h4 _ c; simp at this; omega
theorem hasK_right {a b : List Ent} {k v q : Int} (h : Asc (a ++ (k, v) :: b)) (hk : hasK (a ++ (k, v) :: b) q) (hq : k < q) : hasK b q := by
  obtain ⟨w, hw⟩ := hk
  obtain ⟨_, _, h3, _⟩ := asc_parts h
  rcases List.mem_append.1 hw with c | c
  · have := h3 _ c; simp at this; omega
  · rcases List.mem_cons.1 c with c | c
    · have := congrArg Prod.fst c; simp at this; omega
    · exact ⟨w, c⟩
theorem vc_dlt (n : Nat) (S : Arn) (i key : Int) (K : KT) (hs : List Int) (t : Tr) (hw : Wf S (i :: hs)) (h1 : Rep S t i) (bal : t.Bal) (asc : Asc t.list) (hfu : t.size < n + 1) (hz : t.size ≤ 700000) (hk : hasK t.list key) (hf : (dB t.size : Int) ≤ S.free) (hl : hs.length + t.size ≤ 300000000) (hr : S.reads + 5 * dB t.size ≤ 1500000000000000000)
    (h : ∀ S' j, TrR S hs (flt (neK key) t.list) (dB t.size) (5 * dB t.size) S' j → K (.one (.at (vU j))) (chS S') W7) :
    vc C0 (aDlt n) Try.f68 [.at (.ptr 0 0), .at (vU i), .at (vI key)] (chS S) (normK 7 (wideK W7 K)) := by
  refine Eq.mp (show (brS (i == 0) ((K (SV.one (TV.at (At.val (Value.int IntKind.u32 0)))) [(Chunk.box [(At.ptr 1 0), (At.slc 2), (At.slc 3), (At.val (Value.int IntKind.u64 (S.reads)))]), (Chunk.box [(At.slc 4), (At.slc 5), (At.slc 6), (At.val (Value.int IntKind.u32 (S.fresh)))]), (Chunk.row true (EC.node) (S.nodes)), (Chunk.row true (EC.int) (S.counts)), (Chunk.row true (EC.bool) (S.used)), (Chunk.row true (EC.u32) (S.gen)), (Chunk.row true (EC.u32) (S.rel))] [0, 1, 2, 3, 4, 5, 6])) ((∃ hs : List Int, (∃ a : Tr, (∃ k : Int, (∃ v : Int, (∃ b : Tr, ((Wf S (i :: hs)) ∧ (Rep S (a.node k v b) i) ∧ (hs.length ≤ 900000000) ∧ (S.reads ≤ 3000000000000000000) ∧ (∀ S' : Arn, (∀ l : Int, (∀ r : Int, ((OpnR S hs a k v b S' l r) → (brS (decide (key < k)) (((∃ hs1 : List Int, (∃ t : Tr, ((Wf S' (l :: hs1)) ∧ (Rep S' t l) ∧ (t.Bal) ∧ (Asc t.list) ∧ (t.size < n) ∧ (t.size ≤ 700000) ∧ (hasK t.list key) ∧ ((↑(dB t.size) : Int) ≤ S'.free) ∧ (hs1.length + t.size ≤ 300000000) ∧ (S'.reads + 5 * (↑(dB t.size) : Int) ≤ 1500000000000000000) ∧ (∀ S'1 : Arn, (∀ j : Int, ((TrR S' hs1 (flt (neK key) t.list) (dB t.size) (5 * dB t.size) S'1 j) → (∃ hs2 : List Int, (∃ ta : Tr, (∃ tb : Tr, ((Wf S'1 (j :: r :: hs2)) ∧ (Rep S'1 ta j) ∧ (Rep S'1 tb r) ∧ (ta.Bal) ∧ (tb.Bal) ∧ (ta.size + tb.size ≤ 900000) ∧ ((↑(jB ta.size tb.size) : Int) ≤ S'1.free) ∧ (hs2.length ≤ 700000000) ∧ (S'1.reads + 5 * (↑(jB ta.size tb.size) : Int) ≤ 1800000000000000000) ∧ (∀ S'2 : Arn, (∀ i1 : Int,
    ((TrR S'1 hs2 (ta.list ++ (k, v) :: tb.list) (jB ta.size tb.size) (4 * jB ta.size tb.size) S'2 i1) → (((balN (↑ta.size : Int) (↑tb.size : Int)) → ((((S'2.nd i1).left) = (j)) ∧ (((S'2.nd i1).right) = (r)) ∧ ((S'2.nu) = (S'1.nu + 1)))) → (K (SV.one (TV.at (At.val (Value.int IntKind.u32 (i1))))) [(Chunk.box [(At.ptr 1 0), (At.slc 2), (At.slc 3), (At.val (Value.int IntKind.u64 (S'2.reads)))]), (Chunk.box [(At.slc 4), (At.slc 5), (At.slc 6), (At.val (Value.int IntKind.u32 (S'2.fresh)))]), (Chunk.row true (EC.node) (S'2.nodes)), (Chunk.row true (EC.int) (S'2.counts)), (Chunk.row true (EC.bool) (S'2.used)), (Chunk.row true (EC.u32) (S'2.gen)), (Chunk.row true (EC.u32) (S'2.rel))] [0, 1, 2, 3, 4, 5, 6]))))))))))))))) ∧ (∃ hs1 : List Int, (∃ t : Tr, ((Wf S' (l :: hs1)) ∧ (Rep S' t l) ∧ (t.Bal) ∧ (Asc t.list) ∧ (t.size < n) ∧ (t.size ≤ 700000) ∧ (hasK t.list key) ∧ ((↑(dB t.size) : Int) ≤ S'.free) ∧ (hs1.length + t.size ≤ 300000000) ∧ (S'.reads + 5 * (↑(dB t.size) : Int) ≤ 1500000000000000000) ∧ (∀ S'1 : Arn, (∀ j : Int, ((TrR S' hs1 (flt (neK key) t.list) (dB t.size) (5 * dB t.size) S'1 j) → (∃ hs2 : List Int, (∃ ta : Tr, (∃ tb : Tr, ((Wf S'1 (j :: r :: hs2)) ∧ (Rep S'1 ta j) ∧ (Rep S'1 tb r) ∧ (ta.Bal) ∧ (tb.Bal) ∧ (ta.size + tb.size ≤ 900000) ∧ ((↑(jB ta.size tb.size) : Int) ≤ S'1.free) ∧ (hs2.length ≤ 700000000) ∧ (S'1.reads + 5 * (↑(jB ta.size tb.size) : Int) ≤ 1800000000000000000) ∧ (∀ S'2 : Arn, (∀ i1 : Int,
    ((TrR S'1 hs2 (ta.list ++ (k, v) :: tb.list) (jB ta.size tb.size) (4 * jB ta.size tb.size) S'2 i1) → (((balN (↑ta.size : Int) (↑tb.size : Int)) → ((((S'2.nd i1).left) = (j)) ∧ (((S'2.nd i1).right) = (r)) ∧ ((S'2.nu) = (S'1.nu + 1)))) → (K (SV.one (TV.at (At.val (Value.int IntKind.u32 (i1))))) [(Chunk.box [(At.ptr 1 0), (At.slc 2), (At.slc 3), (At.val (Value.int IntKind.u64 (S'2.reads)))]), (Chunk.box [(At.slc 4), (At.slc 5), (At.slc 6), (At.val (Value.int IntKind.u32 (S'2.fresh)))]), (Chunk.row true (EC.node) (S'2.nodes)), (Chunk.row true (EC.int) (S'2.counts)), (Chunk.row true (EC.bool) (S'2.used)), (Chunk.row true (EC.u32) (S'2.gen)), (Chunk.row true (EC.u32) (S'2.rel))] [0, 1, 2, 3, 4, 5, 6]))))))))))))))))) ((brS (decide (key > k)) (((∃ hs1 : List Int, (∃ t : Tr, ((Wf S' (r :: hs1)) ∧ (Rep S' t r) ∧ (t.Bal) ∧ (Asc t.list) ∧ (t.size < n) ∧ (t.size ≤ 700000) ∧ (hasK t.list key) ∧ ((↑(dB t.size) : Int) ≤ S'.free) ∧ (hs1.length + t.size ≤ 300000000) ∧ (S'.reads + 5 * (↑(dB t.size) : Int) ≤ 1500000000000000000) ∧ (∀ S'1 : Arn, (∀ j : Int, ((TrR S' hs1 (flt (neK key) t.list) (dB t.size) (5 * dB t.size) S'1 j) → (∃ hs2 : List Int, (∃ ta : Tr, (∃ tb : Tr, ((Wf S'1 (l :: j :: hs2)) ∧ (Rep S'1 ta l) ∧ (Rep S'1 tb j) ∧ (ta.Bal) ∧ (tb.Bal) ∧ (ta.size + tb.size ≤ 900000) ∧ ((↑(jB ta.size tb.size) : Int) ≤ S'1.free) ∧ (hs2.length ≤ 700000000) ∧ (S'1.reads + 5 * (↑(jB ta.size tb.size) : Int) ≤ 1800000000000000000) ∧ (∀ S'2 : Arn, (∀ i1 : Int,
    ((TrR S'1 hs2 (ta.list ++ (k, v) :: tb.list) (jB ta.size tb.size) (4 * jB ta.size tb.size) S'2 i1) → (((balN (↑ta.size : Int) (↑tb.size : Int)) → ((((S'2.nd i1).left) = (l)) ∧ (((S'2.nd i1).right) = (j)) ∧ ((S'2.nu) = (S'1.nu + 1)))) → (K (SV.one (TV.at (At.val (Value.int IntKind.u32 (i1))))) [(Chunk.box [(At.ptr 1 0), (At.slc 2), (At.slc 3), (At.val (Value.int IntKind.u64 (S'2.reads)))]), (Chunk.box [(At.slc 4), (At.slc 5), (At.slc 6), (At.val (Value.int IntKind.u32 (S'2.fresh)))]), (Chunk.row true (EC.node) (S'2.nodes)), (Chunk.row true (EC.int) (S'2.counts)), (Chunk.row true (EC.bool) (S'2.used)), (Chunk.row true (EC.u32) (S'2.gen)), (Chunk.row true (EC.u32) (S'2.rel))] [0, 1, 2, 3, 4, 5, 6]))))))))))))))) ∧ (∃ hs1 : List Int, (∃ t : Tr, ((Wf S' (r :: hs1)) ∧ (Rep S' t r) ∧ (t.Bal) ∧ (Asc t.list) ∧ (t.size < n) ∧ (t.size ≤ 700000) ∧ (hasK t.list key) ∧ ((↑(dB t.size) : Int) ≤ S'.free) ∧ (hs1.length + t.size ≤ 300000000) ∧ (S'.reads + 5 * (↑(dB t.size) : Int) ≤ 1500000000000000000) ∧ (∀ S'1 : Arn, (∀ j : Int, ((TrR S' hs1 (flt (neK key) t.list) (dB t.size) (5 * dB t.size) S'1 j) → (∃ hs2 : List Int, (∃ ta : Tr, (∃ tb : Tr, ((Wf S'1 (l :: j :: hs2)) ∧ (Rep S'1 ta l) ∧ (Rep S'1 tb j) ∧ (ta.Bal) ∧ (tb.Bal) ∧ (ta.size + tb.size ≤ 900000) ∧ ((↑(jB ta.size tb.size) : Int) ≤ S'1.free) ∧ (hs2.length ≤ 700000000) ∧ (S'1.reads + 5 * (↑(jB ta.size tb.size) : Int) ≤ 1800000000000000000) ∧ (∀ S'2 : Arn, (∀ i1 : Int,
    ((TrR S'1 hs2 (ta.list ++ (k, v) :: tb.list) (jB ta.size tb.size) (4 * jB ta.size tb.size) S'2 i1) → (((balN (↑ta.size : Int) (↑tb.size : Int)) → ((((S'2.nd i1).left) = (l)) ∧ (((S'2.nd i1).right) = (j)) ∧ ((S'2.nu) = (S'1.nu + 1)))) → (K (SV.one (TV.at (At.val (Value.int IntKind.u32 (i1))))) [(Chunk.box [(At.ptr 1 0), (At.slc 2), (At.slc 3), (At.val (Value.int IntKind.u64 (S'2.reads)))]), (Chunk.box [(At.slc 4), (At.slc 5), (At.slc 6), (At.val (Value.int IntKind.u32 (S'2.fresh)))]), (Chunk.row true (EC.node) (S'2.nodes)), (Chunk.row true (EC.int) (S'2.counts)), (Chunk.row true (EC.bool) (S'2.used)), (Chunk.row true (EC.u32) (S'2.gen)), (Chunk.row true (EC.u32) (S'2.rel))] [0, 1, 2, 3, 4, 5, 6]))))))))))))))))) ((∃ hs1 : List Int, (∃ ta : Tr, (∃ tb : Tr, ((Wf S' (l :: r :: hs1)) ∧ (Rep S' ta l) ∧ (Rep S' tb r) ∧ (ta.Bal) ∧ (tb.Bal) ∧ (ta.size + tb.size ≤ 800000) ∧ ((↑(cB ta.size tb.size) : Int) ≤ S'.free) ∧ (hs1.length ≤ 400000000) ∧ (S'.reads + 5 * (↑(cB ta.size tb.size) : Int) ≤ 1600000000000000000) ∧ (∀ S'1 : Arn, (∀ i1 : Int, ((TrR S' hs1 (ta.list ++ tb.list) (cB ta.size tb.size) (5 * cB ta.size tb.size) S'1 i1) →
    (K (SV.one (TV.at (At.val (Value.int IntKind.u32 (i1))))) [(Chunk.box [(At.ptr 1 0), (At.slc 2), (At.slc 3), (At.val (Value.int IntKind.u64 (S'1.reads)))]), (Chunk.box [(At.slc 4), (At.slc 5), (At.slc 6), (At.val (Value.int IntKind.u32 (S'1.fresh)))]), (Chunk.row true (EC.node) (S'1.nodes)), (Chunk.row true (EC.int) (S'1.counts)), (Chunk.row true (EC.bool) (S'1.used)), (Chunk.row true (EC.u32) (S'1.gen)), (Chunk.row true (EC.u32) (S'1.rel))] [0, 1, 2, 3, 4, 5, 6])))))))))))))))))))))))) = _ by kernel_rfl) ?_
  have hrd := hw.rds
  refine brS_of (fun d => ?_) fun d => ?_
  · have d : i = 0 := by simpa using d
    subst d
    have e := h1.zero hw
    subst e
    obtain ⟨v, hv⟩ := hk
    simp [Tr.list] at hv
  · have d : i ≠ 0 := by simpa using d
    obtain ⟨a, k1, v1, b, e⟩ := rep_ne h1 d
    subst e
    have zz := node_size a b k1 v1
    rw [zz] at hfu hz hf hl hr h
    obtain ⟨bb, ba, bbb⟩ := bal
    have asc' : Asc (a.list ++ (k1, v1) :: b.list) := asc
    have hk' : hasK (a.list ++ (k1, v1) :: b.list) key := hk
    have h' : ∀ S' j, TrR S hs (flt (neK key) (a.list ++ (k1, v1) :: b.list)) (dB (a.size + b.size + 1)) (5 * dB (a.size + b.size + 1)) S' j → K (.one (.at (vU j))) (chS S') W7 := h
    obtain ⟨asca, ascb, ltk, gtk⟩ := asc_parts asc'
    have dp := dB_pos (a.size + b.size + 1)
    refine ⟨hs, a, k1, v1, b, hw, h1, by omega, by omega, fun S1 l r o => ?_⟩
    have f1 := o.got.free hw
    have q1 := o.got.rd
    refine brS_of (fun d => ?_) fun d => brS_of (fun e => ?_) fun e => ?_
    · have d : key < k1 := of_decide_eq_true d
      have hka := hasK_left asc' hk' d
      have zl := flt_ne_len asca hka
      rw [a.list_len] at zl
      have ds := dB_step (balN_comm bb) (c := a.size) (by omega) (by omega)
      rw [show b.size + a.size + 1 = a.size + b.size + 1 by omega] at ds
      have jp := jB_pos b.size (a.size - 1)
      (repeat' apply And.intro)
      all_goals
        refine ⟨r :: hs, a, o.got.wf, o.repl, ba, asca, by omega, by omega, hka, by omega, by simp; omega, by omega, fun S2 j tr => ?_⟩
        obtain ⟨t, rt, lt, bt⟩ := tr.tree
        have zt : t.size = a.size - 1 := by rw [← t.list_len, lt]; omega
        have f2 := tr.got.free o.got.wf
        have q2 := tr.got.rd
        have ej : jB t.size b.size = jB b.size (a.size - 1) := by rw [zt, jB_comm]
        refine ⟨hs, t, b, tr.got.wf, rt, o.repr.held o.got.wf tr.got.stay (.inr (by simp)), bt, bbb, by omega, by omega, by omega, by omega, fun S3 q tj _ => h' S3 q ⟨?_, ?_⟩⟩
        · exact ((o.got.seq tr.got (h := hs) (fun _ h => h) (fun _ h => by simp [h])).seq tj.got (fun _ h => h) (fun _ h => h)).mono (by omega) (by omega)
        · obtain ⟨t', rt', lt', bt'⟩ := tj.tree
          refine ⟨t', rt', ?_, bt'⟩
          rw [lt', lt]
          exact (flt_upR (fun x hx => by have := gtk x hx; simp [neK]; omega) (by simp [neK]; omega)).symm
    · have e : k1 < key := of_decide_eq_true e
      have hkb := hasK_right asc' hk' e
      have zl := flt_ne_len ascb hkb
      rw [b.list_len] at zl
      have ds := dB_step bb (by omega) (by omega)
      have jp := jB_pos a.size (b.size - 1)
      (repeat' apply And.intro)
      all_goals
        refine ⟨l :: hs, b, o.got.wf.perm (List.Perm.swap _ _ _), o.repr, bbb, ascb, by omega, by omega, hkb, by omega, by simp; omega, by omega, fun S2 j tr => ?_⟩
        obtain ⟨t, rt, lt, bt⟩ := tr.tree
        have zt : t.size = b.size - 1 := by rw [← t.list_len, lt]; omega
        have f2 := tr.got.free o.got.wf
        have q2 := tr.got.rd
        have ej : jB a.size t.size = jB a.size (b.size - 1) := by rw [zt]
        refine ⟨hs, a, t, tr.got.wf.perm (List.Perm.swap _ _ _), o.repl.held o.got.wf tr.got.stay (.inr (by simp)), rt, ba, bt, by omega, by omega, by omega, by omega, fun S3 q tj _ => h' S3 q ⟨?_, ?_⟩⟩
        · exact ((o.got.seq tr.got (h := hs) (fun _ h => h) (fun _ h => by simp [h])).seq tj.got (fun _ h => h) (fun _ h => h)).mono (by omega) (by omega)
        · obtain ⟨t', rt', lt', bt'⟩ := tj.tree
          refine ⟨t', rt', ?_, bt'⟩
          rw [lt', lt]
          exact (flt_upL (fun x hx => by have := ltk x hx; simp [neK]; omega) (by simp [neK]; omega)).symm
    · have d : ¬ key < k1 := of_decide_eq_false d
      have e : ¬ key > k1 := of_decide_eq_false e
      have ek : key = k1 := by omega
      have df := dB_found bb (by omega)
      refine ⟨hs, a, b, o.got.wf, o.repl, o.repr, ba, bbb, by omega, by omega, by omega, by omega, fun S2 j tr => h' S2 j ⟨?_, ?_⟩⟩
      · exact (o.got.seq tr.got (h := hs) (fun _ h => h) (fun _ h => h)).mono (by omega) (by omega)
      · obtain ⟨t', rt', lt', bt'⟩ := tr.tree
        refine ⟨t', rt', ?_, bt'⟩
        rw [lt', flt_node, flt_all (l := a.list) (fun x hx => by have := ltk x hx; simp [neK]; omega), flt_all (l := b.list) (fun x hx => by have := gtk x hx; simp [neK]; omega), ek]
        simp [neK]
theorem s_dlt : ∀ n, SoundT C0 68 (tDlt n) := by
  intro n
  induction n with
  | zero =>
    refine .of Try.func68 (by decide) rfl fun args H K h hB => ?_
    exfalso
    unfold tDlt at h
    split at h <;> try exact h.elim
    unfold arM at h
    split at h <;> try exact h.elim
    obtain ⟨_, _, _, _, _, _, h1, _⟩ := h
    omega
  | succ n ih =>
    refine .ofW W7 Try.func68 (by decide) rfl fun args H K h hB => ?_
    unfold tDlt at h
    split at h <;> try exact h.elim
    unfold arM at h
    split at h <;> try exact h.elim
    rename_i i key _ rd fr nd ct us gn rl
    obtain ⟨hs, t, h1, h2, h3, h4, h5, h6, h7, h8, h9, h10, h11⟩ := h
    exact ⟨aDlt n, ⟨frame C0.ok s_opn _, frame C0.ok ih _, frame C0.ok s_join _, frame C0.ok s_cat _, trivial⟩, vc_dlt n ⟨us, gn, rl, fr, nd, ct, rd⟩ i key K hs t h1 h2 h3 h4 h5 h6 h7 h8 h9 h10 h11⟩
end Go.Proofs.Ytjbkckcjmmmooaa.Sx
end
section
/- treework: Split, From, To. -/
namespace Go.Proofs.Ytjbkckcjmmmooaa.Sx
open Go

/-KEEP Wf exW inU live Arn.cap Arn.free NodeR Rep Kept rdS retL Tr.size Tr.list Tr.Bal balN balB jB pB cB iB dB sB gN OpnR TrR Got flt insE getE Asc-/
def ltK (key : Int) (q : Int) : Bool := decide (q < key)
def gtK (key : Int) (q : Int) : Bool := decide (key < q)
def tSpl (n : Nat) : Tfm C0 := fun args H K => match args with
  | [.at (.ptr 0 0), .at (.val (.int .u32 i)), .at (.val (.int .i64 key))] => arM H fun S => ∃ hs t, Wf S (i :: hs) ∧ Rep S t i ∧ t.Bal ∧ Asc t.list ∧ t.size < n ∧ t.size ≤ 700000 ∧ 7 * (gN (t.size + 1) : Int) + 1 ≤ S.free ∧ hs.length + t.size ≤ 600000000 ∧ S.reads + (35 * gN (t.size + 1) + 5) ≤ 1600000000000000000 ∧
    ∀ S' x y m (o : Option Int), m ≤ gN (t.size + 1) + 3 * gN ((flt (ltK key) t.list).length + 1) + 3 * gN ((flt (gtK key) t.list).length + 1) + 1 → Got S hs m (5 * m) S' (x :: y :: hs) → (∃ t1, Rep S' t1 x ∧ t1.list = flt (ltK key) t.list ∧ t1.Bal) → (∃ t2, Rep S' t2 y ∧ t2.list = flt (gtK key) t.list ∧ t2.Bal) → o = getE t.list key →
      K (.tup [.at (vU x), .at (vI (o.getD 0)), .at (vB o.isSome), .at (vU y)]) (chS S') W7
  | _ => False
noncomputable def aSpl (n : Nat) : Ann C0 := { Γ := [(104, frameT [] tOpn), (89, frameT [] (tSpl n)), (91, frameT [] tJoin)] }
def frK (key : Int) (eq : Bool) (q : Int) : Bool := decide (key < q) || (eq && decide (q = key))
def toK (key : Int) (eq : Bool) (q : Int) : Bool := decide (q < key) || (eq && decide (q = key))
def tCut (p : Int → Bool → Int → Bool) (n : Nat) : Tfm C0 := fun args H K => match args with
  | [.at (.ptr 0 0), .at (.val (.int .u32 i)), .at (.val (.int .i64 key)), .at (.val (.bool eq))] => arM H fun S => ∃ hs t, Wf S (i :: hs) ∧ Rep S t i ∧ t.Bal ∧ Asc t.list ∧ t.size < n ∧ t.size ≤ 700000 ∧ 4 * (gN (t.size + 1) : Int) + 1 ≤ S.free ∧ hs.length + t.size ≤ 600000000 ∧ S.reads + (20 * gN (t.size + 1) + 5) ≤ 1600000000000000000 ∧
    ∀ S' x m, m ≤ sB t.size (flt (p key eq) t.list).length → TrR S hs (flt (p key eq) t.list) m (5 * m) S' x → K (.one (.at (vU x))) (chS S') W7
  | _ => False
noncomputable def aFrm (n : Nat) : Ann C0 := { Γ := [(104, frameT [] tOpn), (98, frameT [] (tCut frK n)), (91, frameT [] tJoin), (29, frameT [] tRel)] }
noncomputable def aTo (n : Nat) : Ann C0 := { Γ := [(104, frameT [] tOpn), (96, frameT [] (tCut toK n)), (91, frameT [] tJoin), (29, frameT [] tRel)] }
theorem lt_low {a b : List Ent} {k v q : Int} (h : Asc (a ++ (k, v) :: b)) (hq : q ≤ k) : flt (ltK q) (a ++ (k, v) :: b) = flt (ltK q) a := by
  obtain ⟨_, _, _, h4⟩ := asc_parts h
  exact flt_suf (fun x hx => by have := h4 x hx; simp [ltK]; omega) (by simp [ltK]; omega)
theorem lt_high {a b : List Ent} {k v q : Int} (h : Asc (a ++ (k, v) :: b)) (hq : k < q) : flt (ltK q) (a ++ (k, v) :: b) = a ++ (k, v) :: flt (ltK q) b := by
  obtain ⟨_, _, h3, _⟩ := asc_parts h
  exact flt_upL (fun x hx => by have := h3 x hx; simp [ltK]; omega) (by simp [ltK]; omega)
theorem gt_low {a b : List Ent} {k v q : Int} (h : Asc (a ++ (k, v) :: b)) (hq : q < k) : flt (gtK q) (a ++ (k, v) :: b) = flt (gtK q) a ++ (k, v) :: b := by
  obtain ⟨_, _, _, h4⟩ := asc_parts h
  exact flt_upR (fun x hx => by have := h4 x hx; simp [gtK]; omega) (by simp [gtK]; omega)
theorem gt_high {a b : List Ent} {k v q : Int} (h : Asc (a ++ (k, v) :: b)) (hq : k ≤ q) : flt (gtK q) (a ++ (k, v) :: b) = flt (gtK q) b := by
  obtain ⟨_, _, h3, _⟩ := asc_parts h
  exact flt_pre (fun x hx => by have := h3 x hx; simp [gtK]; omega) (by simp [gtK]; omega)
theorem lt_at {a b : List Ent} {k v : Int} (h : Asc (a ++ (k, v) :: b)) : flt (ltK k) (a ++ (k, v) :: b) = a := by
  rw [lt_low h (Int.le_refl _)]
  exact flt_all fun x hx => by have := (asc_parts h).2.2.1 x hx; simp [ltK]; omega
theorem gt_at {a b : List Ent} {k v : Int} (h : Asc (a ++ (k, v) :: b)) : flt (gtK k) (a ++ (k, v) :: b) = b := by
  rw [gt_high h (Int.le_refl _)]
  exact flt_all fun x hx => by have := (asc_parts h).2.2.2 x hx; simp [gtK]; omega
theorem vc_spl (n : Nat) (S : Arn) (i key : Int) (K : KT) (hs : List Int) (t : Tr) (hw : Wf S (i :: hs)) (h1 : Rep S t i) (bal : t.Bal) (asc : Asc t.list) (hfu : t.size < n + 1) (hz : t.size ≤ 700000) (hf : 7 * (gN (t.size + 1) : Int) + 1 ≤ S.free) (hl : hs.length + t.size ≤ 600000000) (hr : S.reads + (35 * gN (t.size + 1) + 5) ≤ 1600000000000000000)
    (h : ∀ S' x y m (o : Option Int), m ≤ gN (t.size + 1) + 3 * gN ((flt (ltK key) t.list).length + 1) + 3 * gN ((flt (gtK key) t.list).length + 1) + 1 → Got S hs m (5 * m) S' (x :: y :: hs) → (∃ t1, Rep S' t1 x ∧ t1.list = flt (ltK key) t.list ∧ t1.Bal) → (∃ t2, Rep S' t2 y ∧ t2.list = flt (gtK key) t.list ∧ t2.Bal) → o = getE t.list key →
      K (.tup [.at (vU x), .at (vI (o.getD 0)), .at (vB o.isSome), .at (vU y)]) (chS S') W7) :
    vc C0 (aSpl n) Try.f89 [.at (.ptr 0 0), .at (vU i), .at (vI key)] (chS S) (normK 7 (wideK W7 K)) := by
  refine Eq.mp (show (brS (i == 0) ((K (SV.tup [(TV.at (At.val (Value.int IntKind.u32 0))), (TV.at (At.val (Value.int IntKind.i64 0))), (TV.at (At.val (Value.bool false))), (TV.at (At.val (Value.int IntKind.u32 0)))]) [(Chunk.box [(At.ptr 1 0), (At.slc 2), (At.slc 3), (At.val (Value.int IntKind.u64 (S.reads)))]), (Chunk.box [(At.slc 4), (At.slc 5), (At.slc 6), (At.val (Value.int IntKind.u32 (S.fresh)))]), (Chunk.row true (EC.node) (S.nodes)), (Chunk.row true (EC.int) (S.counts)), (Chunk.row true (EC.bool) (S.used)), (Chunk.row true (EC.u32) (S.gen)), (Chunk.row true (EC.u32) (S.rel))] [0, 1, 2, 3, 4, 5, 6])) ((∃ hs : List Int, (∃ a : Tr, (∃ k : Int, (∃ v : Int, (∃ b : Tr, ((Wf S (i :: hs)) ∧ (Rep S (a.node k v b) i) ∧ (hs.length ≤ 900000000) ∧ (S.reads ≤ 3000000000000000000) ∧ (∀ S' : Arn, (∀ l : Int, (∀ r : Int, ((OpnR S hs a k v b S' l r) → (brS (decide (key < k)) ((∃ hs1 : List Int, (∃ t : Tr, ((Wf S' (l :: hs1)) ∧ (Rep S' t l) ∧ (t.Bal) ∧ (Asc t.list) ∧ (t.size < n) ∧ (t.size ≤ 700000) ∧ (7 * (↑(gN (t.size + 1)) : Int) + 1 ≤ S'.free) ∧ (hs1.length + t.size ≤ 600000000) ∧ (S'.reads + (35 * (↑(gN (t.size + 1)) : Int) + 5) ≤ 1600000000000000000) ∧ (∀ S'1 : Arn, (∀ x : Int, (∀ y : Int, (∀ m : Nat, (∀ o : Option Int, ((m ≤ gN (t.size + 1) + 3 * gN ((flt (ltK key) t.list).length + 1) + 3 * gN ((flt (gtK key) t.list).length + 1) + 1) → ((Got S' hs1 m (5 * m) S'1 (x :: y :: hs1)) → ((∃ t1 : Tr, ((Rep S'1 t1 x) ∧ ((t1.list) = (flt (ltK key) t.list)) ∧ (t1.Bal))) → ((∃ t2 : Tr, ((Rep S'1 t2 y) ∧
    ((t2.list) = (flt (gtK key) t.list)) ∧ (t2.Bal))) → (((o) = (getE t.list key)) → (∃ hs2 : List Int, (∃ ta : Tr, (∃ tb : Tr, ((Wf S'1 (y :: r :: hs2)) ∧ (Rep S'1 ta y) ∧ (Rep S'1 tb r) ∧ (ta.Bal) ∧ (tb.Bal) ∧ (ta.size + tb.size ≤ 900000) ∧ ((↑(jB ta.size tb.size) : Int) ≤ S'1.free) ∧ (hs2.length ≤ 700000000) ∧ (S'1.reads + 5 * (↑(jB ta.size tb.size) : Int) ≤ 1800000000000000000) ∧ (∀ S'2 : Arn, (∀ i1 : Int, ((TrR S'1 hs2 (ta.list ++ (k, v) :: tb.list) (jB ta.size tb.size) (4 * jB ta.size tb.size) S'2 i1) → (((balN (↑ta.size : Int) (↑tb.size : Int)) → ((((S'2.nd i1).left) = (y)) ∧ (((S'2.nd i1).right) = (r)) ∧ ((S'2.nu) = (S'1.nu + 1)))) → (K (SV.tup [(TV.at (At.val (Value.int IntKind.u32 (x)))), (TV.at (At.val (Value.int IntKind.i64 (o.getD 0)))), (TV.at (At.val (Value.bool (o.isSome)))), (TV.at (At.val (Value.int IntKind.u32 (i1))))]) [(Chunk.box [(At.ptr 1 0), (At.slc 2), (At.slc 3), (At.val (Value.int IntKind.u64 (S'2.reads)))]), (Chunk.box [(At.slc 4), (At.slc 5), (At.slc 6), (At.val (Value.int IntKind.u32 (S'2.fresh)))]), (Chunk.row true (EC.node) (S'2.nodes)), (Chunk.row true (EC.int) (S'2.counts)), (Chunk.row true (EC.bool) (S'2.used)), (Chunk.row true (EC.u32) (S'2.gen)), (Chunk.row true (EC.u32) (S'2.rel))] [0, 1, 2, 3, 4, 5, 6]))))))))))))))))))))))) ((brS (decide (key > k)) ((∃ hs1 : List Int, (∃ t : Tr, ((Wf S' (r :: hs1)) ∧ (Rep S' t r) ∧ (t.Bal) ∧ (Asc t.list) ∧ (t.size < n) ∧ (t.size ≤ 700000) ∧ (7 * (↑(gN (t.size + 1)) : Int) + 1 ≤ S'.free) ∧
    (hs1.length + t.size ≤ 600000000) ∧ (S'.reads + (35 * (↑(gN (t.size + 1)) : Int) + 5) ≤ 1600000000000000000) ∧ (∀ S'1 : Arn, (∀ x : Int, (∀ y : Int, (∀ m : Nat, (∀ o : Option Int, ((m ≤ gN (t.size + 1) + 3 * gN ((flt (ltK key) t.list).length + 1) + 3 * gN ((flt (gtK key) t.list).length + 1) + 1) → ((Got S' hs1 m (5 * m) S'1 (x :: y :: hs1)) → ((∃ t1 : Tr, ((Rep S'1 t1 x) ∧ ((t1.list) = (flt (ltK key) t.list)) ∧ (t1.Bal))) → ((∃ t2 : Tr, ((Rep S'1 t2 y) ∧ ((t2.list) = (flt (gtK key) t.list)) ∧ (t2.Bal))) → (((o) = (getE t.list key)) → (∃ hs2 : List Int, (∃ ta : Tr, (∃ tb : Tr, ((Wf S'1 (l :: x :: hs2)) ∧ (Rep S'1 ta l) ∧ (Rep S'1 tb x) ∧ (ta.Bal) ∧ (tb.Bal) ∧ (ta.size + tb.size ≤ 900000) ∧ ((↑(jB ta.size tb.size) : Int) ≤ S'1.free) ∧ (hs2.length ≤ 700000000) ∧ (S'1.reads + 5 * (↑(jB ta.size tb.size) : Int) ≤ 1800000000000000000) ∧ (∀ S'2 : Arn, (∀ i1 : Int, ((TrR S'1 hs2 (ta.list ++ (k, v) :: tb.list) (jB ta.size tb.size) (4 * jB ta.size tb.size) S'2 i1) → (((balN (↑ta.size : Int) (↑tb.size : Int)) → ((((S'2.nd i1).left) = (l)) ∧ (((S'2.nd i1).right) = (x)) ∧ ((S'2.nu) = (S'1.nu + 1)))) →
    (K (SV.tup [(TV.at (At.val (Value.int IntKind.u32 (i1)))), (TV.at (At.val (Value.int IntKind.i64 (o.getD 0)))), (TV.at (At.val (Value.bool (o.isSome)))), (TV.at (At.val (Value.int IntKind.u32 (y))))]) [(Chunk.box [(At.ptr 1 0), (At.slc 2), (At.slc 3), (At.val (Value.int IntKind.u64 (S'2.reads)))]), (Chunk.box [(At.slc 4), (At.slc 5), (At.slc 6), (At.val (Value.int IntKind.u32 (S'2.fresh)))]), (Chunk.row true (EC.node) (S'2.nodes)), (Chunk.row true (EC.int) (S'2.counts)), (Chunk.row true (EC.bool) (S'2.used)), (Chunk.row true (EC.u32) (S'2.gen)), (Chunk.row true (EC.u32) (S'2.rel))] [0, 1, 2, 3, 4, 5, 6]))))))))))))))))))))))) ((K (SV.tup [(TV.at (At.val (Value.int IntKind.u32 (l)))), (TV.at (At.val (Value.int IntKind.i64 (v)))), (TV.at (At.val (Value.bool true))), (TV.at (At.val (Value.int IntKind.u32 (r))))]) [(Chunk.box [(At.ptr 1 0), (At.slc 2), (At.slc 3), (At.val (Value.int IntKind.u64 (S'.reads)))]), (Chunk.box [(At.slc 4), (At.slc 5), (At.slc 6), (At.val (Value.int IntKind.u32 (S'.fresh)))]), (Chunk.row true (EC.node) (S'.nodes)), (Chunk.row true (EC.int) (S'.counts)), (Chunk.row true (EC.bool) (S'.used)), (Chunk.row true (EC.u32) (S'.gen)), (Chunk.row true (EC.u32) (S'.rel))] [0, 1, 2, 3, 4, 5, 6]))))))))))))))))) = _ by kernel_rfl) ?_
  have hrd := hw.rds
  refine brS_of (fun d => ?_) fun d => ?_
  · have d : i = 0 := by simpa using d
    subst d
    have e := h1.zero hw
    subst e
    exact h S 0 0 0 none (Nat.zero_le _) (Got.refl (hw.zero_cons (by simp; omega))) ⟨.nil, rfl, rfl, trivial⟩ ⟨.nil, rfl, rfl, trivial⟩ rfl
  · have d : i ≠ 0 := by simpa using d
    obtain ⟨a, k1, v1, b, e⟩ := rep_ne h1 d
    subst e
    have zz := node_size a b k1 v1
    rw [zz] at hfu hz hf hl hr h
    obtain ⟨bb, ba, bbb⟩ := bal
    have asc' : Asc (a.list ++ (k1, v1) :: b.list) := asc
    have h' : ∀ S' x y m (o : Option Int), m ≤ gN (a.size + b.size + 2) + 3 * gN ((flt (ltK key) (a.list ++ (k1, v1) :: b.list)).length + 1) + 3 * gN ((flt (gtK key) (a.list ++ (k1, v1) :: b.list)).length + 1) + 1 → Got S hs m (5 * m) S' (x :: y :: hs) → (∃ t1, Rep S' t1 x ∧ t1.list = flt (ltK key) (a.list ++ (k1, v1) :: b.list) ∧ t1.Bal) →
      (∃ t2, Rep S' t2 y ∧ t2.list = flt (gtK key) (a.list ++ (k1, v1) :: b.list) ∧ t2.Bal) → o = getE (a.list ++ (k1, v1) :: b.list) key → K (.tup [.at (vU x), .at (vI (o.getD 0)), .at (vB o.isSome), .at (vU y)]) (chS S') W7 := h
    rw [show a.size + b.size + 1 + 1 = a.size + b.size + 2 by omega] at hf hr
    obtain ⟨asca, ascb, ltk, gtk⟩ := asc_parts asc'
    have ga := gN_l bb (by omega)
    have gb := gN_r bb (by omega)
    refine ⟨hs, a, k1, v1, b, hw, h1, by omega, by omega, fun S1 l r o => ?_⟩
    have f1 := o.got.free hw
    have q1 := o.got.rd
    refine brS_of (fun d => ?_) fun d => brS_of (fun e => ?_) fun e => ?_
    · have d : key < k1 := of_decide_eq_true d
      refine ⟨r :: hs, a, o.got.wf, o.repl, ba, asca, by omega, by omega, by omega, by simp; omega, by omega, fun S2 x y m w hm g t1 t2 ew => ?_⟩
      obtain ⟨tx, rx, lx, bx⟩ := t1
      obtain ⟨ty, ry, ly, bY⟩ := t2
      have l1 : (flt (ltK key) a.list).length ≤ a.size := by have := flt_len (p := ltK key) (l := a.list); rw [a.list_len] at this; exact this
      have l2 : ty.size ≤ a.size := by rw [← ty.list_len, ly]; have := flt_len (p := gtK key) (l := a.list); rw [a.list_len] at this; exact this
      have l3 : (flt (gtK key) a.list).length = ty.size := by rw [← ly, ty.list_len]
      rw [l3] at hm
      have jp := jB_part (a := ty.size) bb l2 (by omega)
      have m1 := gN_mono (v := (flt (ltK key) a.list).length + 1) (w := a.size + b.size + 2) (by omega) (by omega)
      have m2 := gN_mono (v := ty.size + b.size + 2) (w := a.size + b.size + 2) (by omega) (by omega)
      have jq := jB_pos ty.size b.size
      have f2 := g.free o.got.wf
      have q2 := g.rd
      refine ⟨x :: hs, ty, b, g.wf.perm (perm_tor x y r hs), ry, o.repr.held o.got.wf g.stay (.inr (by simp)), bY, bbb, by omega, by omega, by simp; omega, by omega, fun S3 q tj _ => h' S3 x q (m + jB ty.size b.size) w ?_ ?_ ?_ ?_ ?_⟩
      · rw [lt_low asc' (by omega), gt_low asc' d, List.length_append, List.length_cons, l3, b.list_len]
        rw [show ty.size + (b.size + 1) + 1 = ty.size + b.size + 2 by omega]
        omega
      · exact (((o.got.seq g (h := hs) (fun _ h => h) (fun _ h => by simp [h])).seq tj.got (fun _ h => h) (fun _ h => by simp [h])).mono (by omega) (by omega)).perm (List.Perm.swap _ _ _)
      · exact ⟨tx, rx.held g.wf tj.got.stay (.inr (by simp)), by rw [lx, lt_low asc' (by omega)], bx⟩
      · obtain ⟨t', rt', lt', bt'⟩ := tj.tree
        exact ⟨t', rt', by rw [lt', ly, gt_low asc' d], bt'⟩
      · rw [ew, getE_left asc' d]
    · have e : k1 < key := of_decide_eq_true e
      refine ⟨l :: hs, b, o.got.wf.perm (List.Perm.swap _ _ _), o.repr, bbb, ascb, by omega, by omega, by omega, by simp; omega, by omega, fun S2 x y m w hm g t1 t2 ew => ?_⟩
      obtain ⟨tx, rx, lx, bx⟩ := t1
      obtain ⟨ty, ry, ly, bY⟩ := t2
      have l1 : (flt (gtK key) b.list).length ≤ b.size := by have := flt_len (p := gtK key) (l := b.list); rw [b.list_len] at this; exact this
      have l2 : tx.size ≤ b.size := by rw [← tx.list_len, lx]; have := flt_len (p := ltK key) (l := b.list); rw [b.list_len] at this; exact this
      have l3 : (flt (ltK key) b.list).length = tx.size := by rw [← lx, tx.list_len]
      rw [l3] at hm
      have jp := jB_part (a := tx.size) (balN_comm bb) l2 (by omega)
      rw [jB_comm] at jp
      have m1 := gN_mono (v := (flt (gtK key) b.list).length + 1) (w := a.size + b.size + 2) (by omega) (by omega)
      have m2 := gN_mono (v := tx.size + a.size + 2) (w := a.size + b.size + 2) (by omega) (by omega)
      have jq := jB_pos a.size tx.size
      have f2 := g.free o.got.wf
      have q2 := g.rd
      refine ⟨y :: hs, a, tx, g.wf.perm (perm_rot x y l hs), o.repl.held o.got.wf g.stay (.inr (by simp)), rx, ba, bx, by omega, by omega, by simp; omega, by omega, fun S3 q tj _ => h' S3 q y (m + jB a.size tx.size) w ?_ ?_ ?_ ?_ ?_⟩
      · rw [lt_high asc' e, gt_high asc' (by omega), List.length_append, List.length_cons, l3, a.list_len]
        rw [show a.size + (tx.size + 1) + 1 = tx.size + a.size + 2 by omega]
        omega
      · exact (((o.got.seq g (h := hs) (fun _ h => h) (fun _ h => by simp [h])).seq tj.got (fun _ h => h) (fun _ h => by simp [h])).mono (by omega) (by omega))
      · obtain ⟨t', rt', lt', bt'⟩ := tj.tree
        exact ⟨t', rt', by rw [lt', lx, lt_high asc' e], bt'⟩
      · exact ⟨ty, ry.held g.wf tj.got.stay (.inr (by simp)), by rw [ly, gt_high asc' (by omega)], bY⟩
      · rw [ew, getE_right asc' e]
    · have d : ¬ key < k1 := of_decide_eq_false d
      have e : ¬ key > k1 := of_decide_eq_false e
      have ek : key = k1 := by omega
      subst ek
      exact h' S1 l r 1 (some v1) (by omega) (o.got.mono (by omega) (by omega)) ⟨a, o.repl, by rw [lt_at asc'], ba⟩ ⟨b, o.repr, by rw [gt_at asc'], bbb⟩ (getE_at asc').symm
theorem s_spl : ∀ n, SoundT C0 89 (tSpl n) := by
  intro n
  induction n with
  | zero =>
    refine .of Try.func89 (by decide) rfl fun args H K h hB => ?_
    exfalso
    unfold tSpl at h
    split at h <;> try exact h.elim
    unfold arM at h
    split at h <;> try exact h.elim
    obtain ⟨_, _, _, _, _, _, h1, _⟩ := h
    omega
  | succ n ih =>
    refine .ofW W7 Try.func89 (by decide) rfl fun args H K h hB => ?_
    unfold tSpl at h
    split at h <;> try exact h.elim
    unfold arM at h
    split at h <;> try exact h.elim
    rename_i i key _ rd fr nd ct us gn rl
    obtain ⟨hs, t, h1, h2, h3, h4, h5, h6, h7, h8, h9, h10⟩ := h
    exact ⟨aSpl n, ⟨frame C0.ok s_opn _, frame C0.ok ih _, frame C0.ok s_join _, trivial⟩, vc_spl n ⟨us, gn, rl, fr, nd, ct, rd⟩ i key K hs t h1 h2 h3 h4 h5 h6 h7 h8 h9 h10⟩
theorem fr_low {a b : List Ent} {k v q : Int} {eq : Bool} (h : Asc (a ++ (k, v) :: b)) (hq : q < k) : flt (frK q eq) (a ++ (k, v) :: b) = flt (frK q eq) a ++ (k, v) :: b := by
  obtain ⟨_, _, _, h4⟩ := asc_parts h
  exact flt_upR (fun x hx => by have := h4 x hx; simp [frK]; exact .inl (by omega)) (by simp [frK]; exact .inl hq)
theorem fr_high {a b : List Ent} {k v q : Int} {eq : Bool} (h : Asc (a ++ (k, v) :: b)) (hq : k < q) : flt (frK q eq) (a ++ (k, v) :: b) = flt (frK q eq) b := by
  obtain ⟨_, _, h3, _⟩ := asc_parts h
  exact flt_pre (fun x hx => by have := h3 x hx; simp [frK]; exact ⟨by omega, fun _ => by omega⟩) (by simp [frK]; exact ⟨by omega, fun _ => by omega⟩)
theorem fr_at {a b : List Ent} {k v : Int} {eq : Bool} (h : Asc (a ++ (k, v) :: b)) : flt (frK k eq) (a ++ (k, v) :: b) = if eq then (k, v) :: b else b := by
  obtain ⟨_, _, h3, h4⟩ := asc_parts h
  rw [flt_node, flt_none (l := a) (fun x hx => by have := h3 x hx; simp [frK]; exact ⟨by omega, fun _ => by omega⟩), flt_all (l := b) (fun x hx => by have := h4 x hx; simp [frK]; exact .inl (by omega))]
  cases eq <;> simp [frK]
theorem to_high {a b : List Ent} {k v q : Int} {eq : Bool} (h : Asc (a ++ (k, v) :: b)) (hq : k < q) : flt (toK q eq) (a ++ (k, v) :: b) = a ++ (k, v) :: flt (toK q eq) b := by
  obtain ⟨_, _, h3, _⟩ := asc_parts h
  exact flt_upL (fun x hx => by have := h3 x hx; simp [toK]; exact .inl (by omega)) (by simp [toK]; exact .inl hq)
theorem to_low {a b : List Ent} {k v q : Int} {eq : Bool} (h : Asc (a ++ (k, v) :: b)) (hq : q < k) : flt (toK q eq) (a ++ (k, v) :: b) = flt (toK q eq) a := by
  obtain ⟨_, _, _, h4⟩ := asc_parts h
  exact flt_suf (fun x hx => by have := h4 x hx; simp [toK]; exact ⟨by omega, fun _ => by omega⟩) (by simp [toK]; exact ⟨by omega, fun _ => by omega⟩)
theorem to_at {a b : List Ent} {k v : Int} {eq : Bool} (h : Asc (a ++ (k, v) :: b)) : flt (toK k eq) (a ++ (k, v) :: b) = if eq then a ++ [(k, v)] else a := by
  obtain ⟨_, _, h3, h4⟩ := asc_parts h
  rw [flt_node, flt_all (l := a) (fun x hx => by have := h3 x hx; simp [toK]; exact .inl (by omega)), flt_none (l := b) (fun x hx => by have := h4 x hx; simp [toK]; exact ⟨by omega, fun _ => by omega⟩)]
  cases eq <;> simp [toK]
theorem sB_up {l r out : Nat} (h : balN l r) (hz : l + r ≤ 800000) : sB r out + 1 ≤ sB (l + r + 1) out ∧ sB l out + 1 ≤ sB (l + r + 1) out := by
  have h1 := gN_l h hz
  have h2 := gN_r h hz
  unfold sB
  rw [show l + r + 1 + 1 = l + r + 2 by omega]
  omega
theorem sB_join {l r o : Nat} (h : balN l r) (ho : o ≤ l) (hz : l + r ≤ 800000) : sB l o + jB o r ≤ sB (l + r + 1) (o + r + 1) := by
  have h1 := gN_l h hz
  have h2 := jB_part h ho hz
  unfold sB
  rw [show l + r + 1 + 1 = l + r + 2 by omega, show o + r + 1 + 1 = o + r + 2 by omega]
  omega
theorem sB_max {n o : Nat} (h : o ≤ n) (hz : n ≤ 900000) : sB n o ≤ 4 * gN (n + 1) + 1 := by
  have := gN_mono (v := o + 1) (w := n + 1) (by omega) (by omega)
  unfold sB; omega
theorem sB_one (n o : Nat) : 1 ≤ sB n o := by unfold sB; omega
theorem sB_zero {l r : Nat} (hz : l + r ≤ 800000) : jB 0 r ≤ sB (l + r + 1) (r + 1) := by
  have := jB_grow (a := 0) (b := r) (by omega) (by omega) (by omega)
  unfold sB
  rw [show r + 1 + 1 = 0 + r + 2 by omega]
  omega
theorem vc_frm (n : Nat) (S : Arn) (i key : Int) (eq : Bool) (K : KT) (hs : List Int) (t : Tr) (hw : Wf S (i :: hs)) (h1 : Rep S t i) (bal : t.Bal) (asc : Asc t.list) (hfu : t.size < n + 1) (hz : t.size ≤ 700000) (hf : 4 * (gN (t.size + 1) : Int) + 1 ≤ S.free) (hl : hs.length + t.size ≤ 600000000) (hr : S.reads + (20 * gN (t.size + 1) + 5) ≤ 1600000000000000000)
    (h : ∀ S' x m, m ≤ sB t.size (flt (frK key eq) t.list).length → TrR S hs (flt (frK key eq) t.list) m (5 * m) S' x → K (.one (.at (vU x))) (chS S') W7) :
    vc C0 (aFrm n) Try.f98 [.at (.ptr 0 0), .at (vU i), .at (vI key), .at (vB eq)] (chS S) (normK 7 (wideK W7 K)) := by
  refine Eq.mp (show (brS (i == 0) ((K (SV.one (TV.at (At.val (Value.int IntKind.u32 0)))) [(Chunk.box [(At.ptr 1 0), (At.slc 2), (At.slc 3), (At.val (Value.int IntKind.u64 (S.reads)))]), (Chunk.box [(At.slc 4), (At.slc 5), (At.slc 6), (At.val (Value.int IntKind.u32 (S.fresh)))]), (Chunk.row true (EC.node) (S.nodes)), (Chunk.row true (EC.int) (S.counts)), (Chunk.row true (EC.bool) (S.used)), (Chunk.row true (EC.u32) (S.gen)), (Chunk.row true (EC.u32) (S.rel))] [0, 1, 2, 3, 4, 5, 6])) ((∃ hs : List Int, (∃ a : Tr, (∃ k : Int, (∃ v : Int, (∃ b : Tr, ((Wf S (i :: hs)) ∧ (Rep S (a.node k v b) i) ∧ (hs.length ≤ 900000000) ∧ (S.reads ≤ 3000000000000000000) ∧ (∀ S' : Arn, (∀ l : Int, (∀ r : Int, ((OpnR S hs a k v b S' l r) → (brS (decide (k > key)) (((∃ hs1 : List Int, (∃ t : Tr, ((Wf S' (l :: hs1)) ∧ (Rep S' t l) ∧ (t.Bal) ∧ (Asc t.list) ∧ (t.size < n) ∧ (t.size ≤ 700000) ∧ (4 * (↑(gN (t.size + 1)) : Int) + 1 ≤ S'.free) ∧ (hs1.length + t.size ≤ 600000000) ∧ (S'.reads + (20 * (↑(gN (t.size + 1)) : Int) + 5) ≤ 1600000000000000000) ∧ (∀ S'1 : Arn, (∀ x : Int, (∀ m : Nat, ((m ≤ sB t.size (flt (frK key eq) t.list).length) → ((TrR S' hs1 (flt (frK key eq) t.list) m (5 * m) S'1 x) → (∃ hs2 : List Int, (∃ ta : Tr, (∃ tb : Tr, ((Wf S'1 (x :: r :: hs2)) ∧ (Rep S'1 ta x) ∧ (Rep S'1 tb r) ∧ (ta.Bal) ∧ (tb.Bal) ∧ (ta.size + tb.size ≤ 900000) ∧ ((↑(jB ta.size tb.size) : Int) ≤ S'1.free) ∧ (hs2.length ≤ 700000000) ∧ (S'1.reads + 5 * (↑(jB ta.size tb.size) : Int) ≤ 1800000000000000000) ∧ (∀ S'2 : Arn, (∀ i1 : Int,
    ((TrR S'1 hs2 (ta.list ++ (k, v) :: tb.list) (jB ta.size tb.size) (4 * jB ta.size tb.size) S'2 i1) → (((balN (↑ta.size : Int) (↑tb.size : Int)) → ((((S'2.nd i1).left) = (x)) ∧ (((S'2.nd i1).right) = (r)) ∧ ((S'2.nu) = (S'1.nu + 1)))) → (K (SV.one (TV.at (At.val (Value.int IntKind.u32 (i1))))) [(Chunk.box [(At.ptr 1 0), (At.slc 2), (At.slc 3), (At.val (Value.int IntKind.u64 (S'2.reads)))]), (Chunk.box [(At.slc 4), (At.slc 5), (At.slc 6), (At.val (Value.int IntKind.u32 (S'2.fresh)))]), (Chunk.row true (EC.node) (S'2.nodes)), (Chunk.row true (EC.int) (S'2.counts)), (Chunk.row true (EC.bool) (S'2.used)), (Chunk.row true (EC.u32) (S'2.gen)), (Chunk.row true (EC.u32) (S'2.rel))] [0, 1, 2, 3, 4, 5, 6]))))))))))))))))) ∧ (∃ hs1 : List Int, (∃ t : Tr, ((Wf S' (l :: hs1)) ∧ (Rep S' t l) ∧ (t.Bal) ∧ (Asc t.list) ∧ (t.size < n) ∧ (t.size ≤ 700000) ∧ (4 * (↑(gN (t.size + 1)) : Int) + 1 ≤ S'.free) ∧ (hs1.length + t.size ≤ 600000000) ∧ (S'.reads + (20 * (↑(gN (t.size + 1)) : Int) + 5) ≤ 1600000000000000000) ∧ (∀ S'1 : Arn, (∀ x : Int, (∀ m : Nat, ((m ≤ sB t.size (flt (frK key eq) t.list).length) → ((TrR S' hs1 (flt (frK key eq) t.list) m (5 * m) S'1 x) → (∃ hs2 : List Int, (∃ ta : Tr, (∃ tb : Tr, ((Wf S'1 (x :: r :: hs2)) ∧ (Rep S'1 ta x) ∧ (Rep S'1 tb r) ∧ (ta.Bal) ∧ (tb.Bal) ∧ (ta.size + tb.size ≤ 900000) ∧ ((↑(jB ta.size tb.size) : Int) ≤ S'1.free) ∧ (hs2.length ≤ 700000000) ∧ (S'1.reads + 5 * (↑(jB ta.size tb.size) : Int) ≤ 1800000000000000000) ∧ (∀ S'2 : Arn, (∀ i1 : Int,
    ((TrR S'1 hs2 (ta.list ++ (k, v) :: tb.list) (jB ta.size tb.size) (4 * jB ta.size tb.size) S'2 i1) → (((balN (↑ta.size : Int) (↑tb.size : Int)) → ((((S'2.nd i1).left) = (x)) ∧ (((S'2.nd i1).right) = (r)) ∧ ((S'2.nu) = (S'1.nu + 1)))) → (K (SV.one (TV.at (At.val (Value.int IntKind.u32 (i1))))) [(Chunk.box [(At.ptr 1 0), (At.slc 2), (At.slc 3), (At.val (Value.int IntKind.u64 (S'2.reads)))]), (Chunk.box [(At.slc 4), (At.slc 5), (At.slc 6), (At.val (Value.int IntKind.u32 (S'2.fresh)))]), (Chunk.row true (EC.node) (S'2.nodes)), (Chunk.row true (EC.int) (S'2.counts)), (Chunk.row true (EC.bool) (S'2.used)), (Chunk.row true (EC.u32) (S'2.gen)), (Chunk.row true (EC.u32) (S'2.rel))] [0, 1, 2, 3, 4, 5, 6]))))))))))))))))))) ((brS (decide (k < key)) ((∃ hs1 : List Int, ((Wf S' (l :: hs1)) ∧ (∀ S'1 : Arn, (∀ fr : Int, ((Wf S'1 hs1) → ((Kept S' S'1) → (∃ hs2 : List Int, (∃ t : Tr, ((Wf S'1 (r :: hs2)) ∧ (Rep S'1 t r) ∧ (t.Bal) ∧ (Asc t.list) ∧ (t.size < n) ∧ (t.size ≤ 700000) ∧ (4 * (↑(gN (t.size + 1)) : Int) + 1 ≤ S'1.free) ∧ (hs2.length + t.size ≤ 600000000) ∧ (S'1.reads + (20 * (↑(gN (t.size + 1)) : Int) + 5) ≤ 1600000000000000000) ∧ (∀ S'2 : Arn, (∀ x : Int, (∀ m : Nat, ((m ≤ sB t.size (flt (frK key eq) t.list).length) → ((TrR S'1 hs2 (flt (frK key eq) t.list) m (5 * m) S'2 x) →
    (K (SV.one (TV.at (At.val (Value.int IntKind.u32 (x))))) [(Chunk.box [(At.ptr 1 0), (At.slc 2), (At.slc 3), (At.val (Value.int IntKind.u64 (S'2.reads)))]), (Chunk.box [(At.slc 4), (At.slc 5), (At.slc 6), (At.val (Value.int IntKind.u32 (S'2.fresh)))]), (Chunk.row true (EC.node) (S'2.nodes)), (Chunk.row true (EC.int) (S'2.counts)), (Chunk.row true (EC.bool) (S'2.used)), (Chunk.row true (EC.u32) (S'2.gen)), (Chunk.row true (EC.u32) (S'2.rel))] [0, 1, 2, 3, 4, 5, 6])))))))))))))))) ((∃ hs1 : List Int, ((Wf S' (l :: hs1)) ∧ (∀ S'1 : Arn, (∀ fr : Int, ((Wf S'1 hs1) → ((Kept S' S'1) → (brS (!eq) ((K (SV.one (TV.at (At.val (Value.int IntKind.u32 (r))))) [(Chunk.box [(At.ptr 1 0), (At.slc 2), (At.slc 3), (At.val (Value.int IntKind.u64 (S'1.reads)))]), (Chunk.box [(At.slc 4), (At.slc 5), (At.slc 6), (At.val (Value.int IntKind.u32 (S'1.fresh)))]), (Chunk.row true (EC.node) (S'1.nodes)), (Chunk.row true (EC.int) (S'1.counts)), (Chunk.row true (EC.bool) (S'1.used)), (Chunk.row true (EC.u32) (S'1.gen)), (Chunk.row true (EC.u32) (S'1.rel))] [0, 1, 2, 3, 4, 5, 6])) ((∃ hs2 : List Int, (∃ ta : Tr, (∃ tb : Tr, ((Wf S'1 (0 :: r :: hs2)) ∧ (Rep S'1 ta 0) ∧ (Rep S'1 tb r) ∧ (ta.Bal) ∧ (tb.Bal) ∧ (ta.size + tb.size ≤ 900000) ∧ ((↑(jB ta.size tb.size) : Int) ≤ S'1.free) ∧ (hs2.length ≤ 700000000) ∧ (S'1.reads + 5 * (↑(jB ta.size tb.size) : Int) ≤ 1800000000000000000) ∧ (∀ S'2 : Arn, (∀ i1 : Int, ((TrR S'1 hs2 (ta.list ++ (k, v) :: tb.list) (jB ta.size tb.size) (4 * jB ta.size tb.size) S'2 i1) →
    (((balN (↑ta.size : Int) (↑tb.size : Int)) → ((((S'2.nd i1).left) = 0) ∧ (((S'2.nd i1).right) = (r)) ∧ ((S'2.nu) = (S'1.nu + 1)))) → (K (SV.one (TV.at (At.val (Value.int IntKind.u32 (i1))))) [(Chunk.box [(At.ptr 1 0), (At.slc 2), (At.slc 3), (At.val (Value.int IntKind.u64 (S'2.reads)))]), (Chunk.box [(At.slc 4), (At.slc 5), (At.slc 6), (At.val (Value.int IntKind.u32 (S'2.fresh)))]), (Chunk.row true (EC.node) (S'2.nodes)), (Chunk.row true (EC.int) (S'2.counts)), (Chunk.row true (EC.bool) (S'2.used)), (Chunk.row true (EC.u32) (S'2.gen)), (Chunk.row true (EC.u32) (S'2.rel))] [0, 1, 2, 3, 4, 5, 6]))))))))))))))))))))))))))))))))) = _ by kernel_rfl) ?_
  have hrd := hw.rds
  refine brS_of (fun d => ?_) fun d => ?_
  · have d : i = 0 := by simpa using d
    subst d
    have e := h1.zero hw
    subst e
    exact h S 0 0 (Nat.zero_le _) ⟨Got.refl hw, .nil, rfl, rfl, trivial⟩
  · have d : i ≠ 0 := by simpa using d
    obtain ⟨a, k1, v1, b, e⟩ := rep_ne h1 d
    subst e
    have zz := node_size a b k1 v1
    rw [zz] at hfu hz hf hl hr h
    obtain ⟨bb, ba, bbb⟩ := bal
    have asc' : Asc (a.list ++ (k1, v1) :: b.list) := asc
    have h' : ∀ S' x m, m ≤ sB (a.size + b.size + 1) (flt (frK key eq) (a.list ++ (k1, v1) :: b.list)).length → TrR S hs (flt (frK key eq) (a.list ++ (k1, v1) :: b.list)) m (5 * m) S' x → K (.one (.at (vU x))) (chS S') W7 := h
    rw [show a.size + b.size + 1 + 1 = a.size + b.size + 2 by omega] at hf hr
    obtain ⟨asca, ascb, ltk, gtk⟩ := asc_parts asc'
    have ga := gN_l bb (by omega)
    have gb := gN_r bb (by omega)
    refine ⟨hs, a, k1, v1, b, hw, h1, by omega, by omega, fun S1 l r o => ?_⟩
    have f1 := o.got.free hw
    have q1 := o.got.rd
    refine brS_of (fun d => ?_) fun d => brS_of (fun e => ?_) fun e => ?_
    · have d : key < k1 := of_decide_eq_true d
      (repeat' apply And.intro)
      all_goals
        refine ⟨r :: hs, a, o.got.wf, o.repl, ba, asca, by omega, by omega, by omega, by simp; omega, by omega, fun S2 x m hm tr => ?_⟩
        obtain ⟨t, rt, lt, bt⟩ := tr.tree
        have l2 : t.size ≤ a.size := by rw [← t.list_len, lt]; have := flt_len (p := frK key eq) (l := a.list); rw [a.list_len] at this; exact this
        have l3 : (flt (frK key eq) a.list).length = t.size := by rw [← lt, t.list_len]
        rw [l3] at hm
        have sj := sB_join bb l2 (by omega)
        have sm := sB_max (n := a.size + b.size + 1) (o := t.size + b.size + 1) (by omega) (by omega)
        rw [show a.size + b.size + 1 + 1 = a.size + b.size + 2 by omega] at sm
        have jq := jB_pos t.size b.size
        have f2 := tr.got.free o.got.wf
        have q2 := tr.got.rd
        refine ⟨hs, t, b, tr.got.wf, rt, o.repr.held o.got.wf tr.got.stay (.inr (by simp)), bt, bbb, by omega, by omega, by omega, by omega, fun S3 q tj _ => h' S3 q (m + jB t.size b.size) ?_ ⟨?_, ?_⟩⟩
        · rw [fr_low asc' d, List.length_append, List.length_cons, l3, b.list_len]
          exact Nat.le_trans (by omega) sj
        · exact ((o.got.seq tr.got (h := hs) (fun _ h => h) (fun _ h => by simp [h])).seq tj.got (fun _ h => h) (fun _ h => h)).mono (by omega) (by omega)
        · obtain ⟨t', rt', lt', bt'⟩ := tj.tree
          exact ⟨t', rt', by rw [lt', lt, fr_low asc' d], bt'⟩
    · have e : k1 < key := of_decide_eq_true e
      refine ⟨r :: hs, o.got.wf, fun S2 fr w2 kp => ?_⟩
      have g2 := rel_got o.got.wf w2 kp
      have f2 := g2.free o.got.wf
      have q2 := g2.rd
      have rb : Rep S2 b r := o.repr.held o.got.wf g2.stay (.inr (by simp))
      refine ⟨hs, b, w2, rb, bbb, ascb, by omega, by omega, by omega, by omega, by omega, fun S3 x m hm tr => h' S3 x (m + 1) ?_ ⟨?_, ?_⟩⟩
      · rw [fr_high asc' e]
        exact Nat.le_trans (Nat.succ_le_succ hm) (sB_up bb (by omega)).1
      · exact ((o.got.seq g2 (h := hs) (fun _ h => h) (fun _ h => by simp [h])).seq tr.got (fun _ h => h) (fun _ h => h)).mono (by omega) (by omega)
      · rw [fr_high asc' e]; exact tr.tree
    · have d : ¬ key < k1 := of_decide_eq_false d
      have e : ¬ k1 < key := of_decide_eq_false e
      have ek : key = k1 := by omega
      subst ek
      refine ⟨r :: hs, o.got.wf, fun S2 fr w2 kp => ?_⟩
      have g2 := rel_got o.got.wf w2 kp
      have f2 := g2.free o.got.wf
      have q2 := g2.rd
      have rb : Rep S2 b r := o.repr.held o.got.wf g2.stay (.inr (by simp))
      have g12 : Got S hs 0 1 S2 (r :: hs) := (o.got.seq g2 (h := hs) (fun _ h => h) (fun _ h => by simp [h])).mono (by omega) (by omega)
      refine brS_of (fun c => ?_) fun c => ?_
      · have c : eq = false := by simpa using c
        subst c
        exact h' S2 r 1 (sB_one _ _) ⟨g12.mono (by omega) (by omega), b, rb, by rw [fr_at asc']; rfl, bbb⟩
      · have c : eq = true := by simpa using c
        subst c
        have sz := sB_zero (l := a.size) (r := b.size) (by omega)
        have sm := sB_max (n := a.size + b.size + 1) (o := b.size + 1) (by omega) (by omega)
        rw [show a.size + b.size + 1 + 1 = a.size + b.size + 2 by omega] at sm
        have jq := jB_pos 0 b.size
        have zn : Tr.nil.size = 0 := rfl
        refine ⟨hs, .nil, b, w2.zero_cons (by simp; omega), rfl, rb, trivial, bbb, by omega, by rw [zn]; omega, by omega, by rw [zn]; omega, fun S3 q tj _ => h' S3 q (jB 0 b.size) ?_ ⟨?_, ?_⟩⟩
        · rw [fr_at asc', if_pos rfl, List.length_cons, b.list_len]; exact sz
        · exact (g12.seq tj.got (h := hs) (fun _ h => h) (fun _ h => h)).mono (by rw [zn]; omega) (by rw [zn]; omega)
        · obtain ⟨t', rt', lt', bt'⟩ := tj.tree
          exact ⟨t', rt', by rw [lt', fr_at asc', if_pos rfl]; rfl, bt'⟩
theorem s_frm : ∀ n, SoundT C0 98 (tCut frK n) := by
  intro n
  induction n with
  | zero =>
    refine .of Try.func98 (by decide) rfl fun args H K h hB => ?_
    exfalso
    unfold tCut at h
    split at h <;> try exact h.elim
    unfold arM at h
    split at h <;> try exact h.elim
    obtain ⟨_, _, _, _, _, _, h1, _⟩ := h
    omega
  | succ n ih =>
    refine .ofW W7 Try.func98 (by decide) rfl fun args H K h hB => ?_
    unfold tCut at h
    split at h <;> try exact h.elim
    unfold arM at h
    split at h <;> try exact h.elim
    rename_i i key eq _ rd fr nd ct us gn rl
    obtain ⟨hs, t, h1, h2, h3, h4, h5, h6, h7, h8, h9, h10⟩ := h
    exact ⟨aFrm n, ⟨frame C0.ok s_opn _, frame C0.ok ih _, frame C0.ok s_join _, frame C0.ok s_rel _, trivial⟩, vc_frm n ⟨us, gn, rl, fr, nd, ct, rd⟩ i key eq K hs t h1 h2 h3 h4 h5 h6 h7 h8 h9 h10⟩
theorem vc_to (n : Nat) (S : Arn) (i key : Int) (eq : Bool) (K : KT) (hs : List Int) (t : Tr) (hw : Wf S (i :: hs)) (h1 : Rep S t i) (bal : t.Bal) (asc : Asc t.list) (hfu : t.size < n + 1) (hz : t.size ≤ 700000) (hf : 4 * (gN (t.size + 1) : Int) + 1 ≤ S.free) (hl : hs.length + t.size ≤ 600000000) (hr : S.reads + (20 * gN (t.size + 1) + 5) ≤ 1600000000000000000)
    (h : ∀ S' x m, m ≤ sB t.size (flt (toK key eq) t.list).length → TrR S hs (flt (toK key eq) t.list) m (5 * m) S' x → K (.one (.at (vU x))) (chS S') W7) :
    vc C0 (aTo n) Try.f96 [.at (.ptr 0 0), .at (vU i), .at (vI key), .at (vB eq)] (chS S) (normK 7 (wideK W7 K)) := by
  refine Eq.mp (show (brS (i == 0) ((K (SV.one (TV.at (At.val (Value.int IntKind.u32 0)))) [(Chunk.box [(At.ptr 1 0), (At.slc 2), (At.slc 3), (At.val (Value.int IntKind.u64 (S.reads)))]), (Chunk.box [(At.slc 4), (At.slc 5), (At.slc 6), (At.val (Value.int IntKind.u32 (S.fresh)))]), (Chunk.row true (EC.node) (S.nodes)), (Chunk.row true (EC.int) (S.counts)), (Chunk.row true (EC.bool) (S.used)), (Chunk.row true (EC.u32) (S.gen)), (Chunk.row true (EC.u32) (S.rel))] [0, 1, 2, 3, 4, 5, 6])) ((∃ hs : List Int, (∃ a : Tr, (∃ k : Int, (∃ v : Int, (∃ b : Tr, ((Wf S (i :: hs)) ∧ (Rep S (a.node k v b) i) ∧ (hs.length ≤ 900000000) ∧ (S.reads ≤ 3000000000000000000) ∧ (∀ S' : Arn, (∀ l : Int, (∀ r : Int, ((OpnR S hs a k v b S' l r) → (brS (decide (k < key)) (((∃ hs1 : List Int, (∃ t : Tr, ((Wf S' (r :: hs1)) ∧ (Rep S' t r) ∧ (t.Bal) ∧ (Asc t.list) ∧ (t.size < n) ∧ (t.size ≤ 700000) ∧ (4 * (↑(gN (t.size + 1)) : Int) + 1 ≤ S'.free) ∧ (hs1.length + t.size ≤ 600000000) ∧ (S'.reads + (20 * (↑(gN (t.size + 1)) : Int) + 5) ≤ 1600000000000000000) ∧ (∀ S'1 : Arn, (∀ x : Int, (∀ m : Nat, ((m ≤ sB t.size (flt (toK key eq) t.list).length) → ((TrR S' hs1 (flt (toK key eq) t.list) m (5 * m) S'1 x) → (∃ hs2 : List Int, (∃ ta : Tr, (∃ tb : Tr, ((Wf S'1 (l :: x :: hs2)) ∧ (Rep S'1 ta l) ∧ (Rep S'1 tb x) ∧ (ta.Bal) ∧ (tb.Bal) ∧ (ta.size + tb.size ≤ 900000) ∧ ((↑(jB ta.size tb.size) : Int) ≤ S'1.free) ∧ (hs2.length ≤ 700000000) ∧ (S'1.reads + 5 * (↑(jB ta.size tb.size) : Int) ≤ 1800000000000000000) ∧ (∀ S'2 : Arn, (∀ i1 : Int,
    ((TrR S'1 hs2 (ta.list ++ (k, v) :: tb.list) (jB ta.size tb.size) (4 * jB ta.size tb.size) S'2 i1) → (((balN (↑ta.size : Int) (↑tb.size : Int)) → ((((S'2.nd i1).left) = (l)) ∧ (((S'2.nd i1).right) = (x)) ∧ ((S'2.nu) = (S'1.nu + 1)))) → (K (SV.one (TV.at (At.val (Value.int IntKind.u32 (i1))))) [(Chunk.box [(At.ptr 1 0), (At.slc 2), (At.slc 3), (At.val (Value.int IntKind.u64 (S'2.reads)))]), (Chunk.box [(At.slc 4), (At.slc 5), (At.slc 6), (At.val (Value.int IntKind.u32 (S'2.fresh)))]), (Chunk.row true (EC.node) (S'2.nodes)), (Chunk.row true (EC.int) (S'2.counts)), (Chunk.row true (EC.bool) (S'2.used)), (Chunk.row true (EC.u32) (S'2.gen)), (Chunk.row true (EC.u32) (S'2.rel))] [0, 1, 2, 3, 4, 5, 6]))))))))))))))))) ∧ (∃ hs1 : List Int, (∃ t : Tr, ((Wf S' (r :: hs1)) ∧ (Rep S' t r) ∧ (t.Bal) ∧ (Asc t.list) ∧ (t.size < n) ∧ (t.size ≤ 700000) ∧ (4 * (↑(gN (t.size + 1)) : Int) + 1 ≤ S'.free) ∧ (hs1.length + t.size ≤ 600000000) ∧ (S'.reads + (20 * (↑(gN (t.size + 1)) : Int) + 5) ≤ 1600000000000000000) ∧ (∀ S'1 : Arn, (∀ x : Int, (∀ m : Nat, ((m ≤ sB t.size (flt (toK key eq) t.list).length) → ((TrR S' hs1 (flt (toK key eq) t.list) m (5 * m) S'1 x) → (∃ hs2 : List Int, (∃ ta : Tr, (∃ tb : Tr, ((Wf S'1 (l :: x :: hs2)) ∧ (Rep S'1 ta l) ∧ (Rep S'1 tb x) ∧ (ta.Bal) ∧ (tb.Bal) ∧ (ta.size + tb.size ≤ 900000) ∧ ((↑(jB ta.size tb.size) : Int) ≤ S'1.free) ∧ (hs2.length ≤ 700000000) ∧ (S'1.reads + 5 * (↑(jB ta.size tb.size) : Int) ≤ 1800000000000000000) ∧ (∀ S'2 : Arn, (∀ i1 : Int,
    ((TrR S'1 hs2 (ta.list ++ (k, v) :: tb.list) (jB ta.size tb.size) (4 * jB ta.size tb.size) S'2 i1) → (((balN (↑ta.size : Int) (↑tb.size : Int)) → ((((S'2.nd i1).left) = (l)) ∧ (((S'2.nd i1).right) = (x)) ∧ ((S'2.nu) = (S'1.nu + 1)))) → (K (SV.one (TV.at (At.val (Value.int IntKind.u32 (i1))))) [(Chunk.box [(At.ptr 1 0), (At.slc 2), (At.slc 3), (At.val (Value.int IntKind.u64 (S'2.reads)))]), (Chunk.box [(At.slc 4), (At.slc 5), (At.slc 6), (At.val (Value.int IntKind.u32 (S'2.fresh)))]), (Chunk.row true (EC.node) (S'2.nodes)), (Chunk.row true (EC.int) (S'2.counts)), (Chunk.row true (EC.bool) (S'2.used)), (Chunk.row true (EC.u32) (S'2.gen)), (Chunk.row true (EC.u32) (S'2.rel))] [0, 1, 2, 3, 4, 5, 6]))))))))))))))))))) ((brS (decide (k > key)) ((∃ hs1 : List Int, ((Wf S' (r :: hs1)) ∧ (∀ S'1 : Arn, (∀ fr : Int, ((Wf S'1 hs1) → ((Kept S' S'1) → (∃ hs2 : List Int, (∃ t : Tr, ((Wf S'1 (l :: hs2)) ∧ (Rep S'1 t l) ∧ (t.Bal) ∧ (Asc t.list) ∧ (t.size < n) ∧ (t.size ≤ 700000) ∧ (4 * (↑(gN (t.size + 1)) : Int) + 1 ≤ S'1.free) ∧ (hs2.length + t.size ≤ 600000000) ∧ (S'1.reads + (20 * (↑(gN (t.size + 1)) : Int) + 5) ≤ 1600000000000000000) ∧ (∀ S'2 : Arn, (∀ x : Int, (∀ m : Nat, ((m ≤ sB t.size (flt (toK key eq) t.list).length) → ((TrR S'1 hs2 (flt (toK key eq) t.list) m (5 * m) S'2 x) →
    (K (SV.one (TV.at (At.val (Value.int IntKind.u32 (x))))) [(Chunk.box [(At.ptr 1 0), (At.slc 2), (At.slc 3), (At.val (Value.int IntKind.u64 (S'2.reads)))]), (Chunk.box [(At.slc 4), (At.slc 5), (At.slc 6), (At.val (Value.int IntKind.u32 (S'2.fresh)))]), (Chunk.row true (EC.node) (S'2.nodes)), (Chunk.row true (EC.int) (S'2.counts)), (Chunk.row true (EC.bool) (S'2.used)), (Chunk.row true (EC.u32) (S'2.gen)), (Chunk.row true (EC.u32) (S'2.rel))] [0, 1, 2, 3, 4, 5, 6])))))))))))))))) ((∃ hs1 : List Int, ((Wf S' (r :: hs1)) ∧ (∀ S'1 : Arn, (∀ fr : Int, ((Wf S'1 hs1) → ((Kept S' S'1) → (brS (!eq) ((K (SV.one (TV.at (At.val (Value.int IntKind.u32 (l))))) [(Chunk.box [(At.ptr 1 0), (At.slc 2), (At.slc 3), (At.val (Value.int IntKind.u64 (S'1.reads)))]), (Chunk.box [(At.slc 4), (At.slc 5), (At.slc 6), (At.val (Value.int IntKind.u32 (S'1.fresh)))]), (Chunk.row true (EC.node) (S'1.nodes)), (Chunk.row true (EC.int) (S'1.counts)), (Chunk.row true (EC.bool) (S'1.used)), (Chunk.row true (EC.u32) (S'1.gen)), (Chunk.row true (EC.u32) (S'1.rel))] [0, 1, 2, 3, 4, 5, 6])) ((∃ hs2 : List Int, (∃ ta : Tr, (∃ tb : Tr, ((Wf S'1 (l :: 0 :: hs2)) ∧ (Rep S'1 ta l) ∧ (Rep S'1 tb 0) ∧ (ta.Bal) ∧ (tb.Bal) ∧ (ta.size + tb.size ≤ 900000) ∧ ((↑(jB ta.size tb.size) : Int) ≤ S'1.free) ∧ (hs2.length ≤ 700000000) ∧ (S'1.reads + 5 * (↑(jB ta.size tb.size) : Int) ≤ 1800000000000000000) ∧ (∀ S'2 : Arn, (∀ i1 : Int, ((TrR S'1 hs2 (ta.list ++ (k, v) :: tb.list) (jB ta.size tb.size) (4 * jB ta.size tb.size) S'2 i1) →
    (((balN (↑ta.size : Int) (↑tb.size : Int)) → ((((S'2.nd i1).left) = (l)) ∧ (((S'2.nd i1).right) = 0) ∧ ((S'2.nu) = (S'1.nu + 1)))) → (K (SV.one (TV.at (At.val (Value.int IntKind.u32 (i1))))) [(Chunk.box [(At.ptr 1 0), (At.slc 2), (At.slc 3), (At.val (Value.int IntKind.u64 (S'2.reads)))]), (Chunk.box [(At.slc 4), (At.slc 5), (At.slc 6), (At.val (Value.int IntKind.u32 (S'2.fresh)))]), (Chunk.row true (EC.node) (S'2.nodes)), (Chunk.row true (EC.int) (S'2.counts)), (Chunk.row true (EC.bool) (S'2.used)), (Chunk.row true (EC.u32) (S'2.gen)), (Chunk.row true (EC.u32) (S'2.rel))] [0, 1, 2, 3, 4, 5, 6]))))))))))))))))))))))))))))))))) = _ by kernel_rfl) ?_
  have hrd := hw.rds
  refine brS_of (fun d => ?_) fun d => ?_
  · have d : i = 0 := by simpa using d
    subst d
    have e := h1.zero hw
    subst e
    exact h S 0 0 (Nat.zero_le _) ⟨Got.refl hw, .nil, rfl, rfl, trivial⟩
  · have d : i ≠ 0 := by simpa using d
    obtain ⟨a, k1, v1, b, e⟩ := rep_ne h1 d
    subst e
    have zz := node_size a b k1 v1
    rw [zz] at hfu hz hf hl hr h
    obtain ⟨bb, ba, bbb⟩ := bal
    have asc' : Asc (a.list ++ (k1, v1) :: b.list) := asc
    have h' : ∀ S' x m, m ≤ sB (a.size + b.size + 1) (flt (toK key eq) (a.list ++ (k1, v1) :: b.list)).length → TrR S hs (flt (toK key eq) (a.list ++ (k1, v1) :: b.list)) m (5 * m) S' x → K (.one (.at (vU x))) (chS S') W7 := h
    rw [show a.size + b.size + 1 + 1 = a.size + b.size + 2 by omega] at hf hr
    obtain ⟨asca, ascb, ltk, gtk⟩ := asc_parts asc'
    have ga := gN_l bb (by omega)
    have gb := gN_r bb (by omega)
    refine ⟨hs, a, k1, v1, b, hw, h1, by omega, by omega, fun S1 l r o => ?_⟩
    have f1 := o.got.free hw
    have q1 := o.got.rd
    have w1 : Wf S1 (r :: l :: hs) := o.got.wf.perm (List.Perm.swap _ _ _)
    refine brS_of (fun d => ?_) fun d => brS_of (fun e => ?_) fun e => ?_
    · have d : k1 < key := of_decide_eq_true d
      (repeat' apply And.intro)
      all_goals
        refine ⟨l :: hs, b, w1, o.repr, bbb, ascb, by omega, by omega, by omega, by simp; omega, by omega, fun S2 x m hm tr => ?_⟩
        obtain ⟨t, rt, lt, bt⟩ := tr.tree
        have l2 : t.size ≤ b.size := by rw [← t.list_len, lt]; have := flt_len (p := toK key eq) (l := b.list); rw [b.list_len] at this; exact this
        have l3 : (flt (toK key eq) b.list).length = t.size := by rw [← lt, t.list_len]
        rw [l3] at hm
        have sj := sB_join (balN_comm bb) l2 (by omega)
        rw [jB_comm, show b.size + a.size + 1 = a.size + b.size + 1 by omega] at sj
        have sm := sB_max (n := a.size + b.size + 1) (o := t.size + a.size + 1) (by omega) (by omega)
        rw [show a.size + b.size + 1 + 1 = a.size + b.size + 2 by omega] at sm
        have jq := jB_pos a.size t.size
        have f2 := tr.got.free o.got.wf
        have q2 := tr.got.rd
        refine ⟨hs, a, t, tr.got.wf.perm (List.Perm.swap _ _ _), o.repl.held o.got.wf tr.got.stay (.inr (by simp)), rt, ba, bt, by omega, by omega, by omega, by omega, fun S3 q tj _ => h' S3 q (m + jB a.size t.size) ?_ ⟨?_, ?_⟩⟩
        · rw [to_high asc' d, List.length_append, List.length_cons, l3, a.list_len, show a.size + (t.size + 1) = t.size + a.size + 1 by omega]
          exact Nat.le_trans (by omega) sj
        · exact ((o.got.seq tr.got (h := hs) (fun _ h => h) (fun _ h => by simp [h])).seq tj.got (fun _ h => h) (fun _ h => h)).mono (by omega) (by omega)
        · obtain ⟨t', rt', lt', bt'⟩ := tj.tree
          exact ⟨t', rt', by rw [lt', lt, to_high asc' d], bt'⟩
    · have e : key < k1 := of_decide_eq_true e
      refine ⟨l :: hs, w1, fun S2 fr w2 kp => ?_⟩
      have g2 := rel_got w1 w2 kp
      have f2 := g2.free w1
      have q2 := g2.rd
      have ra : Rep S2 a l := o.repl.held o.got.wf g2.stay (.inr (by simp))
      refine ⟨hs, a, w2, ra, ba, asca, by omega, by omega, by omega, by omega, by omega, fun S3 x m hm tr => h' S3 x (m + 1) ?_ ⟨?_, ?_⟩⟩
      · rw [to_low asc' e]
        exact Nat.le_trans (Nat.succ_le_succ hm) (sB_up bb (by omega)).2
      · exact ((o.got.seq g2 (h := hs) (fun _ h => h) (fun _ h => by simp [h])).seq tr.got (fun _ h => h) (fun _ h => h)).mono (by omega) (by omega)
      · rw [to_low asc' e]; exact tr.tree
    · have d : ¬ k1 < key := of_decide_eq_false d
      have e : ¬ key < k1 := of_decide_eq_false e
      have ek : key = k1 := by omega
      subst ek
      refine ⟨l :: hs, w1, fun S2 fr w2 kp => ?_⟩
      have g2 := rel_got w1 w2 kp
      have f2 := g2.free w1
      have q2 := g2.rd
      have ra : Rep S2 a l := o.repl.held o.got.wf g2.stay (.inr (by simp))
      have g12 : Got S hs 0 1 S2 (l :: hs) := (o.got.seq g2 (h := hs) (fun _ h => h) (fun _ h => by simp [h])).mono (by omega) (by omega)
      refine brS_of (fun c => ?_) fun c => ?_
      · have c : eq = false := by simpa using c
        subst c
        exact h' S2 l 1 (sB_one _ _) ⟨g12.mono (by omega) (by omega), a, ra, by rw [to_at asc']; rfl, ba⟩
      · have c : eq = true := by simpa using c
        subst c
        have sz := sB_zero (l := b.size) (r := a.size) (by omega)
        rw [show b.size + a.size + 1 = a.size + b.size + 1 by omega, jB_comm] at sz
        have sm := sB_max (n := a.size + b.size + 1) (o := a.size + 1) (by omega) (by omega)
        rw [show a.size + b.size + 1 + 1 = a.size + b.size + 2 by omega] at sm
        have jq := jB_pos a.size 0
        have zn : Tr.nil.size = 0 := rfl
        refine ⟨hs, a, .nil, (w2.zero_cons (by simp; omega)).perm (List.Perm.swap _ _ _), ra, rfl, ba, trivial, by omega, by rw [zn]; omega, by omega, by rw [zn]; omega, fun S3 q tj _ => h' S3 q (jB a.size 0) ?_ ⟨?_, ?_⟩⟩
        · rw [to_at asc', if_pos rfl, List.length_append, a.list_len]; exact sz
        · exact (g12.seq tj.got (h := hs) (fun _ h => h) (fun _ h => h)).mono (by rw [zn]; omega) (by rw [zn]; omega)
        · obtain ⟨t', rt', lt', bt'⟩ := tj.tree
          exact ⟨t', rt', by rw [lt', to_at asc', if_pos rfl]; rfl, bt'⟩
theorem s_to : ∀ n, SoundT C0 96 (tCut toK n) := by
  intro n
  induction n with
  | zero =>
    refine .of Try.func96 (by decide) rfl fun args H K h hB => ?_
    exfalso
    unfold tCut at h
    split at h <;> try exact h.elim
    unfold arM at h
    split at h <;> try exact h.elim
    obtain ⟨_, _, _, _, _, _, h1, _⟩ := h
    omega
  | succ n ih =>
    refine .ofW W7 Try.func96 (by decide) rfl fun args H K h hB => ?_
    unfold tCut at h
    split at h <;> try exact h.elim
    unfold arM at h
    split at h <;> try exact h.elim
    rename_i i key eq _ rd fr nd ct us gn rl
    obtain ⟨hs, t, h1, h2, h3, h4, h5, h6, h7, h8, h9, h10⟩ := h
    exact ⟨aTo n, ⟨frame C0.ok s_opn _, frame C0.ok ih _, frame C0.ok s_join _, frame C0.ok s_rel _, trivial⟩, vc_to n ⟨us, gn, rl, fr, nd, ct, rd⟩ i key eq K hs t h1 h2 h3 h4 h5 h6 h7 h8 h9 h10⟩
end Go.Proofs.Ytjbkckcjmmmooaa.Sx
end
section
/- The greatest height of a balanced tree, and few reads. -/
namespace Go.Proofs.Ytjbkckcjmmmooaa.Sx
open Go

/-KEEP Wf exW inU wtsL-/
noncomputable def aWts : Ann C0 := { Γ := [], rounds := fun n => if n = 4 then 82 else 0 }
def tWts : Tfm C0 := fun args H K => match args, H with
  | [], [] => K (.one (.agg (wtsL.map fun n => vI n))) [] []
  | _, _ => False
def wC : Nat → Int → Prop → Prop
  | 0, _, Q => Q
  | n + 1, h, Q => (0 ≤ IntKind.i64.wrap (h - 1)) ∧ (IntKind.i64.wrap (h - 1) < ((81 : Nat) : Int)) ∧ (0 ≤ IntKind.i64.wrap (h - 1)) ∧ (IntKind.i64.wrap (h - 1) < ((81 : Nat) : Int)) ∧ (0 ≤ h) ∧ (h < ((81 : Nat) : Int)) ∧ wC n (IntKind.i64.wrap (h + 1)) Q
theorem wC_of : ∀ (n : Nat) (h : Int) (Q : Prop), 1 ≤ h → h + n ≤ 81 → Q → wC n h Q
  | 0, _, _, _, _, q => q
  | n + 1, h, Q, h1, h2, q => by
    have e1 := wrap_id (x := h - 1) (by omega) (by omega)
    have e2 := wrap_id (x := h + 1) (by omega) (by omega)
    unfold wC
    rw [e1, e2]
    exact ⟨by omega, by omega, by omega, by omega, by omega, by omega, wC_of n (h + 1) Q (by omega) (by omega) q⟩
theorem s_wts : SoundT C0 107 tWts := by
  refine .of Try.func107 (by decide) rfl fun args H K h hB => ?_
  unfold tWts at h
  split at h <;> try exact h.elim
  refine ⟨aWts, trivial, Eq.mp (show ((0 : Int) ≤ 0 ∧ (0 : Int) < ((81 : Nat) : Int) ∧ wC 80 1 (K (.one (.agg (wtsL.map fun n => vI n))) [] [])) = _ by kernel_rfl) ?_⟩
  exact ⟨by decide, by decide, wC_of 80 1 _ (by decide) (by decide) h⟩
noncomputable def aMh : Ann C0 := { Γ := [(107, frameT [] tWts)], rounds := fun n => if n = 5 then 82 else 0 }
def mhC (k : Int) (Q : Int → Prop) : List Int → Int → Prop
  | [], h => Q h
  | w :: l, h => (0 ≤ IntKind.i64.wrap (h + 1)) ∧ (IntKind.i64.wrap (h + 1) < ((81 : Nat) : Int)) ∧ brS (decide (IntKind.i64.wrap (w - 1) ≤ k)) (mhC k Q l (IntKind.i64.wrap (h + 1))) (Q h)
theorem mhC_of {k : Int} {Q : Int → Prop} : ∀ (l : List Int) (h : Int), 0 ≤ h → h + l.length ≤ 80 → (∀ w ∈ l, 0 ≤ w ∧ w ≤ 1000000000000) → Q (hnC l h k) → mhC k Q l h
  | [], _, _, _, _, q => q
  | w :: l, h, h1, h2, h3, q => by
    have hw := h3 w (by simp)
    have hl : (w :: l).length = l.length + 1 := rfl
    unfold mhC
    rw [wrap_id (x := h + 1) (by omega) (by omega), wrap_id (x := w - 1) (by omega) (by omega)]
    unfold hnC at q
    refine ⟨by omega, by omega, brS_of (fun c => ?_) fun c => ?_⟩
    · rw [if_pos (of_decide_eq_true c)] at q
      exact mhC_of l (h + 1) (by omega) (by omega) (fun x hx => h3 x (by simp [hx])) q
    · rw [if_neg (of_decide_eq_false c)] at q; exact q
def tMh : Tfm C0 := fun args H K => match args, H with
  | [.at (.val (.int .i64 k))], [] => 0 ≤ k ∧ k ≤ 2147483647 ∧ ∀ h, h = Hn k → K (.one (.at (vI h))) [] []
  | _, _ => False
theorem s_mh : SoundT C0 73 tMh := by
  refine .of Try.func73 (by decide) rfl fun args H K h hB => ?_
  unfold tMh at h
  split at h <;> try exact h.elim
  rename_i k
  obtain ⟨h1, h2, h⟩ := h
  refine ⟨aMh, ⟨frame C0.ok s_wts _, trivial⟩, Eq.mp (show (brS (decide (k < 0)) (K (.one (.at (vI (-1)))) [] []) (brS (decide (k > 2147483647)) (K (.one (.at (vI (-1)))) [] []) (mhC k (fun h => K (.one (.at (vI h))) [] []) (wtsL.drop 1) 0))) = _ by kernel_rfl) ?_⟩
  refine brS_of (fun c => by have := of_decide_eq_true c; omega) fun _ => brS_of (fun c => by have := of_decide_eq_true c; omega) fun _ => mhC_of _ 0 (by decide) (by decide) (by decide) (h _ rfl)
noncomputable def aHt : Ann C0 := { Γ := [(73, frameT [] tMh)] }
theorem s_ht : SoundT C0 24 tMh := by
  refine .of Try.func24 (by decide) rfl fun args H K h hB => ?_
  unfold tMh at h
  split at h <;> try exact h.elim
  rename_i k
  exact ⟨aHt, ⟨frame C0.ok s_mh _, trivial⟩, Eq.mp (show (0 ≤ k ∧ k ≤ 2147483647 ∧ ∀ h, h = Hn k → K (.one (.at (vI h))) [] []) = _ by kernel_rfl) h⟩
noncomputable def aWi : Ann C0 := { Γ := [(19, frameT [] tReads)] }
def tWi : Tfm C0 := fun args H K => match args with
  | [.at (.ptr 0 0), .at (.val (.int .u64 r)), .at (.val (.int .i64 m))] => arM H fun S => 0 ≤ r ∧ r ≤ S.reads ∧ S.reads ≤ 4000000000000000000 ∧ S.reads - r ≤ m ∧ m ≤ 4000000000000000000 ∧ K (.one (.at (vB true))) (chS S) []
  | _ => False
theorem s_wi : SoundT C0 23 tWi := by
  refine .of Try.func23 (by decide) rfl fun args H K h hB => ?_
  unfold tWi at h
  split at h <;> try exact h.elim
  rename_i r m
  unfold arM at h
  split at h <;> try exact h.elim
  rename_i rd fr nd ct us gn rl
  have key : ∀ S : Arn, 0 ≤ r → r ≤ S.reads → S.reads ≤ 4000000000000000000 → S.reads - r ≤ m → m ≤ 4000000000000000000 → K (.one (.at (vB true))) (chS S) [] → vc C0 aWi Try.f23 [.at (.ptr 0 0), .at (vU64 r), .at (vI m)] (chS S) (normK 7 K) := fun S h1 h2 h3 h4 h5 h => by
    refine Eq.mp (show (brS (decide (S.reads ≥ r)) ((K (SV.one (TV.at (At.val (Value.bool (decide (IntKind.u64.wrap (S.reads - r) ≤ IntKind.u64.wrap m)))))) [(Chunk.box [(At.ptr 1 0), (At.slc 2), (At.slc 3), (At.val (Value.int IntKind.u64 (S.reads)))]), (Chunk.box [(At.slc 4), (At.slc 5), (At.slc 6), (At.val (Value.int IntKind.u32 (S.fresh)))]), (Chunk.row true (EC.node) (S.nodes)), (Chunk.row true (EC.int) (S.counts)), (Chunk.row true (EC.bool) (S.used)), (Chunk.row true (EC.u32) (S.gen)), (Chunk.row true (EC.u32) (S.rel))] [])) ((K (SV.one (TV.at (At.val (Value.bool false)))) [(Chunk.box [(At.ptr 1 0), (At.slc 2), (At.slc 3), (At.val (Value.int IntKind.u64 (S.reads)))]), (Chunk.box [(At.slc 4), (At.slc 5), (At.slc 6), (At.val (Value.int IntKind.u32 (S.fresh)))]), (Chunk.row true (EC.node) (S.nodes)), (Chunk.row true (EC.int) (S.counts)), (Chunk.row true (EC.bool) (S.used)), (Chunk.row true (EC.u32) (S.gen)), (Chunk.row true (EC.u32) (S.rel))] []))) = _ by kernel_rfl) ?_
    rw [wrap_u64 (x := S.reads - r) (by omega) (by omega), wrap_u64 (x := m) (by omega) (by omega)]
    refine brS_of (fun _ => ?_) fun c => by have := of_decide_eq_false c; omega
    rw [show decide (S.reads - r ≤ m) = true from decide_eq_true h4]
    exact h
  exact ⟨aWi, ⟨frame C0.ok s_rds _, trivial⟩, key ⟨us, gn, rl, fr, nd, ct, rd⟩ h.1 h.2.1 h.2.2.1 h.2.2.2.1 h.2.2.2.2.1 h.2.2.2.2.2⟩
end Go.Proofs.Ytjbkckcjmmmooaa.Sx
end
