/- Walking two patches side by side, for Compose. -/
import Derived.Test.YtdgodcamadalhaaSxRj
namespace Go.Proofs.Ytdgodcamadalhaa
theorem pairs_step {α β : Type} {ka : α → Int} {kb : β → Int} {l : List α} {m : List β} (a : Nat → α) (b : Nat → β) (ha : ∀ n, n < l.length → l[n]? = some (a n)) (hb : ∀ n, n < m.length → m[n]? = some (b n)) {i k : Nat}
    (hi : i ≤ l.length) (hk : k ≤ m.length) (hne : i < l.length ∨ k < m.length) {inP inQ : Bool} (hP : inP = (decide (i < l.length) && (decide (k = m.length) || decide (ka (a i) ≤ kb (b k)))))
    (hQ : inQ = (decide (k < m.length) && (decide (i = l.length) || decide (kb (b k) ≤ ka (a i))))) :
    (inP = true ∨ inQ = true) ∧ (inP = true → i < l.length) ∧ (inQ = true → k < m.length) ∧
    pairs ka kb (l.drop i) (m.drop k) = (if inP then some (a i) else none, if inQ then some (b k) else none) :: pairs ka kb (l.drop (if inP then i + 1 else i)) (m.drop (if inQ then k + 1 else k)) := by
  by_cases h1 : i < l.length
  · have e1 := Sx.drop_cons (ha i h1)
    by_cases h2 : k < m.length
    · have e2 := Sx.drop_cons (hb k h2)
      have n1 : ¬ k = m.length := by omega
      have n2 : ¬ i = l.length := by omega
      simp only [h1, h2, n1, n2, decide_true, decide_false, Bool.true_and, Bool.false_or] at hP hQ
      rcases Int.lt_trichotomy (ka (a i)) (kb (b k)) with h | h | h
      · have : inP = true := by rw [hP]; simp; omega
        subst this
        have : inQ = false := by rw [hQ]; simp; omega
        subst this
        simp [e1, e2, pairs, h, h1]
      · have : inP = true := by rw [hP]; simp; omega
        subst this
        have : inQ = true := by rw [hQ]; simp; omega
        subst this
        simp [e1, e2, pairs, h, h1, h2]
      · have : inP = false := by rw [hP]; simp; omega
        subst this
        have : inQ = true := by rw [hQ]; simp; omega
        subst this
        have h' : ¬ ka (a i) < kb (b k) := by omega
        simp [e1, e2, pairs, h, h2, h']
    · have hk' : k = m.length := by omega
      have : inP = true := by rw [hP]; simp [h1, hk']
      subst this
      have : inQ = false := by rw [hQ]; simp [h2]
      subst this
      simp [e1, h1, hk', pairs]
  · have hi' : i = l.length := by omega
    have h2 : k < m.length := by omega
    have e2 := Sx.drop_cons (hb k h2)
    have : inP = false := by rw [hP]; simp [h1]
    subst this
    have : inQ = true := by rw [hQ]; simp [h2, hi']
    subst this
    simp [e2, h2, hi', pairs]
end Go.Proofs.Ytdgodcamadalhaa
namespace Go.Proofs.Ytdgodcamadalhaa.Sx
open Go

def inL (p q : List Chg) (i k : Nat) : Bool := decide (i < p.length) && (decide (k = q.length) || decide ((cA p i).key ≤ (cA q k).key))
structure XBo (G : List Chg → List Chg → Nat → Nat → List Chg → Prop) (p q : List Chg) where
  i : Nat
  k : Nat
  out : List Chg
  inP : Bool
  inQ : Bool
  h : i ≤ p.length ∧ k ≤ q.length ∧ out.length ≤ i + k ∧ G p q i k out
structure XBc (G : List Chg → List Chg → Nat → Nat → List Chg → Prop) (p q : List Chg) extends XBo G p q where
  go : Bool
  hg : go = (decide (i < p.length) || decide (k < q.length))
structure XBp (G : List Chg → List Chg → Nat → Nat → List Chg → Prop) (p q : List Chg) extends XBo G p q where
  hp : inP = inL p q i k
structure XBq (G : List Chg → List Chg → Nat → Nat → List Chg → Prop) (p q : List Chg) extends XBp G p q where
  hq : inQ = inL q p k i
def GCmp (p q : List Chg) (i k : Nat) (out : List Chg) : Prop := comp p q = (compGo (pC (p.drop i) (q.drop k))).map (out ++ ·)
noncomputable def aBothC (p q : List Chg) : Ann C0 := { Γ := [(60, frameT [] tCmp1)], inv := fun n => match n with
  | 2 => some { X := XBo GCmp p q, sl := [8, 7], tf := fun x => [vi .i64 x.k, vi .i64 x.i], hf := fun x => [.box [.slc 1], .row true EC.chg x.out, .row false EC.chg p, .row false EC.chg q], μ := fun x => p.length + q.length - (x.i + x.k), wr := [0, 1] }
  | 2002 => some { X := XBc GCmp p q, sl := [22], tf := fun x => [vb x.go], hf := fun x => [.box [.slc 1], .row true EC.chg x.out, .row false EC.chg p, .row false EC.chg q], wr := [0, 1], rel := fun T _ x => slotI T 7 x.i ∧ slotI T 8 x.k }
  | 1005 => some { X := XBp GCmp p q, sl := [11], tf := fun x => [vb x.inP], hf := fun x => [.box [.slc 1], .row true EC.chg x.out, .row false EC.chg p, .row false EC.chg q, .box [vI 0, vI 0, vI 0, vI 0], .box [vI 0, vI 0, vI 0, vI 0]], wr := [0, 1], rel := fun T _ x => slotI T 7 x.i ∧ slotI T 8 x.k }
  | 1006 => some { X := XBq GCmp p q, sl := [12], tf := fun x => [vb x.inQ], hf := fun x => [.box [.slc 1], .row true EC.chg x.out, .row false EC.chg p, .row false EC.chg q, .box [vI 0, vI 0, vI 0, vI 0], .box [vI 0, vI 0, vI 0, vI 0]], wr := [0, 1], rel := fun T _ x => slotI T 7 x.i ∧ slotI T 8 x.k ∧ slotB T 11 x.inP }
  | _ => none }
def tBothC : Tfm C0 := fun args H K => match args, H with
  | [.at (.slc 2), .at (.slc 3), .at (.fn 60 [0])], [.box [.slc 1], .row true .chg [], .row false .chg p, .row false .chg q] => p.length + q.length ≤ 1000000 ∧
    ∀ (ok : Bool) (out' : List Chg), ok = (comp p q).isSome → (∀ r, comp p q = some r → out' = r) → K (.one (.at (vB ok))) [.box [.slc 1], .row true EC.chg out', .row false EC.chg p, .row false EC.chg q] [0, 1]
  | _, _ => False
def inc (b : Bool) (i : Nat) : Nat := if b then i + 1 else i
theorem both_next {p q : List Chg} {i k : Nat} {inP inQ : Bool} (hi : i ≤ p.length) (hk : k ≤ q.length) (hne : i < p.length ∨ k < q.length) (hP : inP = inL p q i k) (hQ : inQ = inL q p k i) :
    (inP = true ∨ inQ = true) ∧ (inP = true → i < p.length) ∧ (inQ = true → k < q.length) ∧ pC (p.drop i) (q.drop k) = onPair (cA p i) inP (cA q k) inQ :: pC (p.drop (inc inP i)) (q.drop (inc inQ k)) := by
  obtain ⟨h1, h2, h3, h4⟩ := pairs_step (ka := Chg.key) (kb := Chg.key) (cA p) (cA q) (fun n hn => cA_get hn) (fun n hn => cA_get hn) hi hk hne hP hQ
  exact ⟨h1, h2, h3, h4⟩
theorem comp1_len (z : Option Chg × Option Chg) : (comp1 z).length ≤ 2 := by
  obtain ⟨a, b⟩ := z
  cases a <;> cases b <;> simp [comp1]
  rename_i c d
  cases mkChg c.key c.before d.after <;> simp
theorem comp1_len' (c d : Chg) (inP inQ : Bool) : (comp1 (onPair c inP d inQ)).length ≤ inP.toNat + inQ.toNat := by
  cases inP <;> cases inQ <;> simp [onPair, comp1]
  cases mkChg c.key c.before d.after <;> simp
theorem cmp_step {p q : List Chg} {i k : Nat} {out : List Chg} (h : i ≤ p.length ∧ k ≤ q.length ∧ out.length ≤ i + k ∧ GCmp p q i k out) (hne : i < p.length ∨ k < q.length) {inP inQ : Bool} (hP : inP = inL p q i k) (hQ : inQ = inL q p k i)
    {c d : Chg} (hc : inP = true → c = cA p i) (hd : inQ = true → d = cA q k) {ok : Bool} {out' : List Chg} (hok : ok = meet1 (onPair c inP d inQ)) (ho : ok = true → out' = out ++ comp1 (onPair c inP d inQ)) :
    (ok = false → comp p q = none) ∧ (ok = true → inc inP i ≤ p.length ∧ inc inQ k ≤ q.length ∧ out'.length ≤ inc inP i + inc inQ k ∧ GCmp p q (inc inP i) (inc inQ k) out') := by
  obtain ⟨h1, h2, h3, h4⟩ := both_next h.1 h.2.1 hne hP hQ
  have e : onPair c inP d inQ = onPair (cA p i) inP (cA q k) inQ := by
    unfold onPair
    cases inP <;> cases inQ <;> simp_all
  rw [e] at hok ho
  have hg := h.2.2.2
  unfold GCmp at hg
  rw [h4] at hg
  simp only [compGo] at hg
  refine ⟨fun hf => ?_, fun ht => ⟨?_, ?_, ?_, ?_⟩⟩
  · rw [← hok, hf] at hg; simpa using hg
  · unfold inc; split
    · rename_i hh; have := h2 hh; omega
    · exact h.1
  · unfold inc; split
    · rename_i hh; have := h3 hh; omega
    · exact h.2.1
  · rw [ho ht, List.length_append]
    have := comp1_len' (cA p i) (cA q k) inP inQ
    have := h.2.2.1
    cases inP <;> cases inQ <;> simp_all [inc] <;> omega
  · rw [← hok, ht] at hg
    unfold GCmp
    rw [ho ht]
    simp only [if_true, Option.map_map] at hg
    rw [hg]
    congr 1
    funext x
    simp
theorem cmp_end {p q : List Chg} {i k : Nat} {out : List Chg} (h : i ≤ p.length ∧ k ≤ q.length ∧ out.length ≤ i + k ∧ GCmp p q i k out) (hne : ¬ (i < p.length ∨ k < q.length)) : comp p q = some out := by
  have h1 : i = p.length := by omega
  have h2 : k = q.length := by omega
  have hg := h.2.2.2
  unfold GCmp at hg
  rw [hg, h1, h2, List.drop_length, List.drop_length]
  simp [pC, pairs, compGo]

theorem vc_bothC (p q : List Chg) (K : KT) (hsm : p.length + q.length ≤ 1000000)
    (h : ∀ (ok : Bool) (out' : List Chg), ok = (comp p q).isSome → (∀ r, comp p q = some r → out' = r) → K (.one (.at (vB ok))) [.box [.slc 1], .row true EC.chg out', .row false EC.chg p, .row false EC.chg q] [0, 1]) :
    vc C0 (aBothC p q) Try.f59 [.at (.slc 2), .at (.slc 3), .at (.fn 60 [0])] [.box [.slc 1], .row true EC.chg [], .row false EC.chg p, .row false EC.chg q] (normK 4 (wideK [0, 1] K)) := by
  refine Eq.mp (show ((∃ x : XBo GCmp p q,
  (True ∧
  (True ∧
  True ∧
  ((At.fn 60 [0]) = (At.fn 60 [0])) ∧
  ((Value.int IntKind.i64 0) = (Value.int IntKind.i64 ((↑x.i : Int)))) ∧
  ((Value.int IntKind.i64 0) = (Value.int IntKind.i64 ((↑x.k : Int)))) ∧
  True) ∧
  (True ∧
  True) ∧
  ([] = (x.out)) ∧
  ((p) = (p)) ∧
  ((q) = (q)) ∧
  True)) ∧
(∀ x : XBo GCmp p q,
  (True →
  ((brS (decide ((↑x.i : Int) < (↑p.length : Int)))
    ((∃ x1 : XBc GCmp p q,
      (((((↑x.i : Int)) = ((↑x1.i : Int))) ∧
      (((↑x.k : Int)) = ((↑x1.k : Int)))) ∧
      (True ∧
      True ∧
      ((At.fn 60 [0]) = (At.fn 60 [0])) ∧
      ((Value.int IntKind.i64 ((↑x.i : Int))) = (Value.int IntKind.i64 ((↑x.i : Int)))) ∧
      ((Value.int IntKind.i64 ((↑x.k : Int))) = (Value.int IntKind.i64 ((↑x.k : Int)))) ∧
      ((Value.bool true) = (Value.bool (x1.go))) ∧
      True) ∧
      (True ∧
      True) ∧
      ((x.out) = (x1.out)) ∧
      ((p) = (p)) ∧
      ((q) = (q)) ∧
      True)))
    ((∃ x1 : XBc GCmp p q,
      (((((↑x.i : Int)) = ((↑x1.i : Int))) ∧
      (((↑x.k : Int)) = ((↑x1.k : Int)))) ∧
      (True ∧
      True ∧
      ((At.fn 60 [0]) = (At.fn 60 [0])) ∧
      ((Value.int IntKind.i64 ((↑x.i : Int))) = (Value.int IntKind.i64 ((↑x.i : Int)))) ∧
      ((Value.int IntKind.i64 ((↑x.k : Int))) = (Value.int IntKind.i64 ((↑x.k : Int)))) ∧
      ((Value.bool (decide ((↑x.k : Int) < (↑q.length : Int)))) = (Value.bool (x1.go))) ∧
      True) ∧
      (True ∧
      True) ∧
      ((x.out) = (x1.out)) ∧
      ((p) = (p)) ∧
      ((q) = (q)) ∧
      True)))) ∧
  (∀ x1 : XBc GCmp p q,
    (((((↑x.i : Int)) = ((↑x1.i : Int))) ∧
    (((↑x.k : Int)) = ((↑x1.k : Int)))) →
    (brS (x1.go)
      (((brS (decide ((↑x.i : Int) < (↑p.length : Int)))
        ((brS ((↑x.k : Int) == (↑q.length : Int))
          ((∃ x2 : XBp GCmp p q,
            (((((↑x.i : Int)) = ((↑x2.i : Int))) ∧
            (((↑x.k : Int)) = ((↑x2.k : Int)))) ∧
            (True ∧
            True ∧
            ((At.fn 60 [0]) = (At.fn 60 [0])) ∧
            ((Value.int IntKind.i64 ((↑x.i : Int))) = (Value.int IntKind.i64 ((↑x.i : Int)))) ∧
            ((Value.int IntKind.i64 ((↑x.k : Int))) = (Value.int IntKind.i64 ((↑x.k : Int)))) ∧
            True ∧
            True ∧
            ((Value.bool true) = (Value.bool (x2.inP))) ∧
            True) ∧
            (True ∧
            True) ∧
            ((x1.out) = (x2.out)) ∧
            ((p) = (p)) ∧
            ((q) = (q)) ∧
            (((Value.int IntKind.i64 0) = (Value.int IntKind.i64 0)) ∧
            ((Value.int IntKind.i64 0) = (Value.int IntKind.i64 0)) ∧
            ((Value.int IntKind.i64 0) = (Value.int IntKind.i64 0)) ∧
            ((Value.int IntKind.i64 0) = (Value.int IntKind.i64 0)) ∧
            True) ∧
            (((Value.int IntKind.i64 0) = (Value.int IntKind.i64 0)) ∧
            ((Value.int IntKind.i64 0) = (Value.int IntKind.i64 0)) ∧
            ((Value.int IntKind.i64 0) = (Value.int IntKind.i64 0)) ∧
            ((Value.int IntKind.i64 0) = (Value.int IntKind.i64 0)) ∧
            True) ∧
            True)))
          (((0 ≤ (↑x.i : Int)) ∧
          ((↑x.i : Int) < (↑p.length : Int)) ∧
          (0 ≤ (↑x.k : Int)) ∧
          ((↑x.k : Int) < (↑q.length : Int)) ∧
          (∃ x2 : XBp GCmp p q,
            (((((↑x.i : Int)) = ((↑x2.i : Int))) ∧
            (((↑x.k : Int)) = ((↑x2.k : Int)))) ∧
            (True ∧
            True ∧
            ((At.fn 60 [0]) = (At.fn 60 [0])) ∧
            ((Value.int IntKind.i64 ((↑x.i : Int))) = (Value.int IntKind.i64 ((↑x.i : Int)))) ∧
            ((Value.int IntKind.i64 ((↑x.k : Int))) = (Value.int IntKind.i64 ((↑x.k : Int)))) ∧
            True ∧
            True ∧
            ((Value.bool (decide ((cA p x.i).key ≤ (cA q x.k).key))) = (Value.bool (x2.inP))) ∧
            True) ∧
            (True ∧
            True) ∧
            ((x1.out) = (x2.out)) ∧
            ((p) = (p)) ∧
            ((q) = (q)) ∧
            (((Value.int IntKind.i64 0) = (Value.int IntKind.i64 0)) ∧
            ((Value.int IntKind.i64 0) = (Value.int IntKind.i64 0)) ∧
            ((Value.int IntKind.i64 0) = (Value.int IntKind.i64 0)) ∧
            ((Value.int IntKind.i64 0) = (Value.int IntKind.i64 0)) ∧
            True) ∧
            (((Value.int IntKind.i64 0) = (Value.int IntKind.i64 0)) ∧
            ((Value.int IntKind.i64 0) = (Value.int IntKind.i64 0)) ∧
            ((Value.int IntKind.i64 0) = (Value.int IntKind.i64 0)) ∧
            ((Value.int IntKind.i64 0) = (Value.int IntKind.i64 0)) ∧
            True) ∧
            True))))))
        ((∃ x2 : XBp GCmp p q,
          (((((↑x.i : Int)) = ((↑x2.i : Int))) ∧
          (((↑x.k : Int)) = ((↑x2.k : Int)))) ∧
          (True ∧
          True ∧
          ((At.fn 60 [0]) = (At.fn 60 [0])) ∧
          ((Value.int IntKind.i64 ((↑x.i : Int))) = (Value.int IntKind.i64 ((↑x.i : Int)))) ∧
          ((Value.int IntKind.i64 ((↑x.k : Int))) = (Value.int IntKind.i64 ((↑x.k : Int)))) ∧
          True ∧
          True ∧
          ((Value.bool false) = (Value.bool (x2.inP))) ∧
          True) ∧
          (True ∧
          True) ∧
          ((x1.out) = (x2.out)) ∧
          ((p) = (p)) ∧
          ((q) = (q)) ∧
          (((Value.int IntKind.i64 0) = (Value.int IntKind.i64 0)) ∧
          ((Value.int IntKind.i64 0) = (Value.int IntKind.i64 0)) ∧
          ((Value.int IntKind.i64 0) = (Value.int IntKind.i64 0)) ∧
          ((Value.int IntKind.i64 0) = (Value.int IntKind.i64 0)) ∧
          True) ∧
          (((Value.int IntKind.i64 0) = (Value.int IntKind.i64 0)) ∧
          ((Value.int IntKind.i64 0) = (Value.int IntKind.i64 0)) ∧
          ((Value.int IntKind.i64 0) = (Value.int IntKind.i64 0)) ∧
          ((Value.int IntKind.i64 0) = (Value.int IntKind.i64 0)) ∧
          True) ∧
          True)))) ∧
      (∀ x2 : XBp GCmp p q,
        (((((↑x.i : Int)) = ((↑x2.i : Int))) ∧
        (((↑x.k : Int)) = ((↑x2.k : Int)))) →
        ((brS (decide ((↑x.k : Int) < (↑q.length : Int)))
          ((brS ((↑x.i : Int) == (↑p.length : Int))
            ((∃ x3 : XBq GCmp p q,
              (((((↑x.i : Int)) = ((↑x3.i : Int))) ∧
              (((↑x.k : Int)) = ((↑x3.k : Int))) ∧
              ((x2.inP) = (x3.inP))) ∧
              (True ∧
              True ∧
              ((At.fn 60 [0]) = (At.fn 60 [0])) ∧
              ((Value.int IntKind.i64 ((↑x.i : Int))) = (Value.int IntKind.i64 ((↑x.i : Int)))) ∧
              ((Value.int IntKind.i64 ((↑x.k : Int))) = (Value.int IntKind.i64 ((↑x.k : Int)))) ∧
              True ∧
              True ∧
              ((Value.bool (x2.inP)) = (Value.bool (x2.inP))) ∧
              ((Value.bool true) = (Value.bool (x3.inQ))) ∧
              True) ∧
              (True ∧
              True) ∧
              ((x2.out) = (x3.out)) ∧
              ((p) = (p)) ∧
              ((q) = (q)) ∧
              (((Value.int IntKind.i64 0) = (Value.int IntKind.i64 0)) ∧
              ((Value.int IntKind.i64 0) = (Value.int IntKind.i64 0)) ∧
              ((Value.int IntKind.i64 0) = (Value.int IntKind.i64 0)) ∧
              ((Value.int IntKind.i64 0) = (Value.int IntKind.i64 0)) ∧
              True) ∧
              (((Value.int IntKind.i64 0) = (Value.int IntKind.i64 0)) ∧
              ((Value.int IntKind.i64 0) = (Value.int IntKind.i64 0)) ∧
              ((Value.int IntKind.i64 0) = (Value.int IntKind.i64 0)) ∧
              ((Value.int IntKind.i64 0) = (Value.int IntKind.i64 0)) ∧
              True) ∧
              True)))
            (((0 ≤ (↑x.k : Int)) ∧
            ((↑x.k : Int) < (↑q.length : Int)) ∧
            (0 ≤ (↑x.i : Int)) ∧
            ((↑x.i : Int) < (↑p.length : Int)) ∧
            (∃ x3 : XBq GCmp p q,
              (((((↑x.i : Int)) = ((↑x3.i : Int))) ∧
              (((↑x.k : Int)) = ((↑x3.k : Int))) ∧
              ((x2.inP) = (x3.inP))) ∧
              (True ∧
              True ∧
              ((At.fn 60 [0]) = (At.fn 60 [0])) ∧
              ((Value.int IntKind.i64 ((↑x.i : Int))) = (Value.int IntKind.i64 ((↑x.i : Int)))) ∧
              ((Value.int IntKind.i64 ((↑x.k : Int))) = (Value.int IntKind.i64 ((↑x.k : Int)))) ∧
              True ∧
              True ∧
              ((Value.bool (x2.inP)) = (Value.bool (x2.inP))) ∧
              ((Value.bool (decide ((cA q x.k).key ≤ (cA p x.i).key))) = (Value.bool (x3.inQ))) ∧
              True) ∧
              (True ∧
              True) ∧
              ((x2.out) = (x3.out)) ∧
              ((p) = (p)) ∧
              ((q) = (q)) ∧
              (((Value.int IntKind.i64 0) = (Value.int IntKind.i64 0)) ∧
              ((Value.int IntKind.i64 0) = (Value.int IntKind.i64 0)) ∧
              ((Value.int IntKind.i64 0) = (Value.int IntKind.i64 0)) ∧
              ((Value.int IntKind.i64 0) = (Value.int IntKind.i64 0)) ∧
              True) ∧
              (((Value.int IntKind.i64 0) = (Value.int IntKind.i64 0)) ∧
              ((Value.int IntKind.i64 0) = (Value.int IntKind.i64 0)) ∧
              ((Value.int IntKind.i64 0) = (Value.int IntKind.i64 0)) ∧
              ((Value.int IntKind.i64 0) = (Value.int IntKind.i64 0)) ∧
              True) ∧
              True))))))
          ((∃ x3 : XBq GCmp p q,
            (((((↑x.i : Int)) = ((↑x3.i : Int))) ∧
            (((↑x.k : Int)) = ((↑x3.k : Int))) ∧
            ((x2.inP) = (x3.inP))) ∧
            (True ∧
            True ∧
            ((At.fn 60 [0]) = (At.fn 60 [0])) ∧
            ((Value.int IntKind.i64 ((↑x.i : Int))) = (Value.int IntKind.i64 ((↑x.i : Int)))) ∧
            ((Value.int IntKind.i64 ((↑x.k : Int))) = (Value.int IntKind.i64 ((↑x.k : Int)))) ∧
            True ∧
            True ∧
            ((Value.bool (x2.inP)) = (Value.bool (x2.inP))) ∧
            ((Value.bool false) = (Value.bool (x3.inQ))) ∧
            True) ∧
            (True ∧
            True) ∧
            ((x2.out) = (x3.out)) ∧
            ((p) = (p)) ∧
            ((q) = (q)) ∧
            (((Value.int IntKind.i64 0) = (Value.int IntKind.i64 0)) ∧
            ((Value.int IntKind.i64 0) = (Value.int IntKind.i64 0)) ∧
            ((Value.int IntKind.i64 0) = (Value.int IntKind.i64 0)) ∧
            ((Value.int IntKind.i64 0) = (Value.int IntKind.i64 0)) ∧
            True) ∧
            (((Value.int IntKind.i64 0) = (Value.int IntKind.i64 0)) ∧
            ((Value.int IntKind.i64 0) = (Value.int IntKind.i64 0)) ∧
            ((Value.int IntKind.i64 0) = (Value.int IntKind.i64 0)) ∧
            ((Value.int IntKind.i64 0) = (Value.int IntKind.i64 0)) ∧
            True) ∧
            True)))) ∧
        (∀ x3 : XBq GCmp p q,
          (((((↑x.i : Int)) = ((↑x3.i : Int))) ∧
          (((↑x.k : Int)) = ((↑x3.k : Int))) ∧
          ((x2.inP) = (x3.inP))) →
          (brS (x2.inP)
            (((0 ≤ (↑x.i : Int)) ∧
            ((↑x.i : Int) < (↑p.length : Int)) ∧
            (brS (x3.inQ)
              (((0 ≤ (↑x.k : Int)) ∧
              ((↑x.k : Int) < (↑q.length : Int)) ∧
              (x2.inP = true ∨ x3.inQ = true) ∧
              (x3.out.length ≤ 2000000) ∧
              (∀ ok : Bool,
                (∀ out' : List Chg,
                  (((ok) = (meet1 (onPair { kind := (cA p x.i).kind, key := (cA p x.i).key, old := (cA p x.i).old, new := (cA p x.i).new : Chg } x2.inP { kind := (cA q x.k).kind, key := (cA q x.k).key, old := (cA q x.k).old, new := (cA q x.k).new : Chg } x3.inQ))) →
                  ((((ok) = true) →
                  ((out') = (x3.out.append (comp1 (onPair { kind := (cA p x.i).kind, key := (cA p x.i).key, old := (cA p x.i).old, new := (cA p x.i).new : Chg } x2.inP { kind := (cA q x.k).kind, key := (cA q x.k).key, old := (cA q x.k).old, new := (cA q x.k).new : Chg } x3.inQ))))) →
                  (brS (!ok)
                    ((K (SV.one (TV.at (At.val (Value.bool false)))) [(Chunk.box [(At.slc 1)]), (Chunk.row true (EC.chg) (out')), (Chunk.row false (EC.chg) (p)), (Chunk.row false (EC.chg) (q))] [0, 1]))
                    ((∃ x' : XBo GCmp p q,
                      (True ∧
                      ((True ∧
                      True ∧
                      ((At.fn 60 [0]) = (At.fn 60 [0])) ∧
                      ((Value.int IntKind.i64 (IntKind.i64.wrap ((↑x.i : Int) + 1))) = (Value.int IntKind.i64 ((↑x'.i : Int)))) ∧
                      ((Value.int IntKind.i64 (IntKind.i64.wrap ((↑x.k : Int) + 1))) = (Value.int IntKind.i64 ((↑x'.k : Int)))) ∧
                      True) ∧
                      (True ∧
                      True) ∧
                      ((out') = (x'.out)) ∧
                      ((p) = (p)) ∧
                      ((q) = (q)) ∧
                      True) ∧
                      (p.length + q.length - (x'.i + x'.k) < p.length + q.length - (x.i + x.k))))))))))))
              (((x2.inP = true ∨ x3.inQ = true) ∧
              (x3.out.length ≤ 2000000) ∧
              (∀ ok : Bool,
                (∀ out' : List Chg,
                  (((ok) = (meet1 (onPair { kind := (cA p x.i).kind, key := (cA p x.i).key, old := (cA p x.i).old, new := (cA p x.i).new : Chg } x2.inP { kind := 0, key := 0, old := 0, new := 0 : Chg } x3.inQ))) →
                  ((((ok) = true) →
                  ((out') = (x3.out.append (comp1 (onPair { kind := (cA p x.i).kind, key := (cA p x.i).key, old := (cA p x.i).old, new := (cA p x.i).new : Chg } x2.inP { kind := 0, key := 0, old := 0, new := 0 : Chg } x3.inQ))))) →
                  (brS (!ok)
                    ((K (SV.one (TV.at (At.val (Value.bool false)))) [(Chunk.box [(At.slc 1)]), (Chunk.row true (EC.chg) (out')), (Chunk.row false (EC.chg) (p)), (Chunk.row false (EC.chg) (q))] [0, 1]))
                    ((∃ x' : XBo GCmp p q,
                      (True ∧
                      ((True ∧
                      True ∧
                      ((At.fn 60 [0]) = (At.fn 60 [0])) ∧
                      ((Value.int IntKind.i64 (IntKind.i64.wrap ((↑x.i : Int) + 1))) = (Value.int IntKind.i64 ((↑x'.i : Int)))) ∧
                      ((Value.int IntKind.i64 ((↑x.k : Int))) = (Value.int IntKind.i64 ((↑x'.k : Int)))) ∧
                      True) ∧
                      (True ∧
                      True) ∧
                      ((out') = (x'.out)) ∧
                      ((p) = (p)) ∧
                      ((q) = (q)) ∧
                      True) ∧
                      (p.length + q.length - (x'.i + x'.k) < p.length + q.length - (x.i + x.k)))))))))))))))
            ((brS (x3.inQ)
              (((0 ≤ (↑x.k : Int)) ∧
              ((↑x.k : Int) < (↑q.length : Int)) ∧
              (x2.inP = true ∨ x3.inQ = true) ∧
              (x3.out.length ≤ 2000000) ∧
              (∀ ok : Bool,
                (∀ out' : List Chg,
                  (((ok) = (meet1 (onPair { kind := 0, key := 0, old := 0, new := 0 : Chg } x2.inP { kind := (cA q x.k).kind, key := (cA q x.k).key, old := (cA q x.k).old, new := (cA q x.k).new : Chg } x3.inQ))) →
                  ((((ok) = true) →
                  ((out') = (x3.out.append (comp1 (onPair { kind := 0, key := 0, old := 0, new := 0 : Chg } x2.inP { kind := (cA q x.k).kind, key := (cA q x.k).key, old := (cA q x.k).old, new := (cA q x.k).new : Chg } x3.inQ))))) →
                  (brS (!ok)
                    ((K (SV.one (TV.at (At.val (Value.bool false)))) [(Chunk.box [(At.slc 1)]), (Chunk.row true (EC.chg) (out')), (Chunk.row false (EC.chg) (p)), (Chunk.row false (EC.chg) (q))] [0, 1]))
                    ((∃ x' : XBo GCmp p q,
                      (True ∧
                      ((True ∧
                      True ∧
                      ((At.fn 60 [0]) = (At.fn 60 [0])) ∧
                      ((Value.int IntKind.i64 ((↑x.i : Int))) = (Value.int IntKind.i64 ((↑x'.i : Int)))) ∧
                      ((Value.int IntKind.i64 (IntKind.i64.wrap ((↑x.k : Int) + 1))) = (Value.int IntKind.i64 ((↑x'.k : Int)))) ∧
                      True) ∧
                      (True ∧
                      True) ∧
                      ((out') = (x'.out)) ∧
                      ((p) = (p)) ∧
                      ((q) = (q)) ∧
                      True) ∧
                      (p.length + q.length - (x'.i + x'.k) < p.length + q.length - (x.i + x.k))))))))))))
              (((x2.inP = true ∨ x3.inQ = true) ∧
              (x3.out.length ≤ 2000000) ∧
              (∀ ok : Bool,
                (∀ out' : List Chg,
                  (((ok) = (meet1 (onPair { kind := 0, key := 0, old := 0, new := 0 : Chg } x2.inP { kind := 0, key := 0, old := 0, new := 0 : Chg } x3.inQ))) →
                  ((((ok) = true) →
                  ((out') = (x3.out.append (comp1 (onPair { kind := 0, key := 0, old := 0, new := 0 : Chg } x2.inP { kind := 0, key := 0, old := 0, new := 0 : Chg } x3.inQ))))) →
                  (brS (!ok)
                    ((K (SV.one (TV.at (At.val (Value.bool false)))) [(Chunk.box [(At.slc 1)]), (Chunk.row true (EC.chg) (out')), (Chunk.row false (EC.chg) (p)), (Chunk.row false (EC.chg) (q))] [0, 1]))
                    ((∃ x' : XBo GCmp p q,
                      (True ∧
                      ((True ∧
                      True ∧
                      ((At.fn 60 [0]) = (At.fn 60 [0])) ∧
                      ((Value.int IntKind.i64 ((↑x.i : Int))) = (Value.int IntKind.i64 ((↑x'.i : Int)))) ∧
                      ((Value.int IntKind.i64 ((↑x.k : Int))) = (Value.int IntKind.i64 ((↑x'.k : Int)))) ∧
                      True) ∧
                      (True ∧
                      True) ∧
                      ((out') = (x'.out)) ∧
                      ((p) = (p)) ∧
                      ((q) = (q)) ∧
                      True) ∧
                      (p.length + q.length - (x'.i + x'.k) < p.length + q.length - (x.i + x.k))))))))))))))))))))))
      ((K (SV.one (TV.at (At.val (Value.bool true)))) [(Chunk.box [(At.slc 1)]), (Chunk.row true (EC.chg) (x1.out)), (Chunk.row false (EC.chg) (p)), (Chunk.row false (EC.chg) (q))] [0, 1]))))))))) = _ by kernel_rfl) ?_
  refine ⟨⟨⟨0, 0, [], false, false, Nat.zero_le _, Nat.zero_le _, Nat.zero_le _, by unfold GCmp comp; simp⟩, by simp⟩, fun x _ => ⟨?_, fun x1 r1 => brS_of (fun hgo => ⟨?_, fun x2 r2 => ⟨?_, fun x3 r3 => ?_⟩⟩) fun hgo => ?_⟩⟩
  · refine brS_of (fun c1 => ⟨⟨x, true, ?_⟩, ?_⟩) fun c1 => ⟨⟨x, decide ((x.k : Int) < (q.length : Int)), ?_⟩, ?_⟩
    · simp at c1; simp [c1]
    · simp
    · simp only [decide_eq_false_iff_not] at c1
      have : ¬ x.i < p.length := by omega
      simp [this]
    · simp
  · obtain ⟨e1, e2⟩ := r1
    have e1 : x.i = x1.i := by omega
    have e2 : x.k = x1.k := by omega
    rw [e1, e2]
    have hh := x1.h
    refine brS_of (fun c1 => brS_of (fun c2 => ⟨⟨⟨x1.i, x1.k, x1.out, true, false, x1.h⟩, ?_⟩, ?_⟩) fun c2 => ⟨by omega, ?_, by omega, ?_, ⟨⟨x1.i, x1.k, x1.out, decide ((cA p x1.i).key ≤ (cA q x1.k).key), false, x1.h⟩, ?_⟩, ?_⟩) fun c1 => ⟨⟨⟨x1.i, x1.k, x1.out, false, false, x1.h⟩, ?_⟩, ?_⟩
    all_goals try simp only [decide_eq_true_eq, decide_eq_false_iff_not, beq_iff_eq, beq_eq_false_iff_ne, ne_eq] at c1 c2
    all_goals try simp only [decide_eq_false_iff_not] at c1
    · have d1 : x1.i < p.length := by omega
      have d2 : x1.k = q.length := by omega
      simp [inL, d1, d2]
    · simp
    · omega
    · omega
    · have d1 : x1.i < p.length := by omega
      have d2 : ¬ x1.k = q.length := by omega
      simp [inL, d1, d2]
    · simp
    · have d1 : ¬ x1.i < p.length := by omega
      simp [inL, d1]
    · simp
  · obtain ⟨e1, e2⟩ := r1
    obtain ⟨e3, e4⟩ := r2
    have e1 : x.i = x2.i := by omega
    have e2 : x.k = x2.k := by omega
    rw [e1, e2]
    have hh := x2.h
    refine brS_of (fun c1 => brS_of (fun c2 => ⟨⟨⟨⟨x2.i, x2.k, x2.out, x2.inP, true, x2.h⟩, x2.hp⟩, ?_⟩, ?_⟩) fun c2 => ⟨by omega, ?_, by omega, ?_, ⟨⟨⟨x2.i, x2.k, x2.out, x2.inP, decide ((cA q x2.k).key ≤ (cA p x2.i).key), x2.h⟩, x2.hp⟩, ?_⟩, ?_⟩) fun c1 => ⟨⟨⟨⟨x2.i, x2.k, x2.out, x2.inP, false, x2.h⟩, x2.hp⟩, ?_⟩, ?_⟩
    all_goals try simp only [decide_eq_true_eq, decide_eq_false_iff_not, beq_iff_eq, beq_eq_false_iff_ne, ne_eq] at c1 c2
    all_goals try simp only [decide_eq_false_iff_not] at c1
    · have d1 : x2.k < q.length := by omega
      have d2 : x2.i = p.length := by omega
      simp [inL, d1, d2]
    · simp
    · omega
    · omega
    · have d1 : x2.k < q.length := by omega
      have d2 : ¬ x2.i = p.length := by omega
      simp [inL, d1, d2]
    · simp
    · have d1 : ¬ x2.k < q.length := by omega
      simp [inL, d1]
    · simp
  · obtain ⟨e1, e2⟩ := r1
    obtain ⟨e3, e4, e5⟩ := r3
    have hne : x.i < p.length ∨ x.k < q.length := by
      have hg := x1.hg
      rw [hgo] at hg
      have hg := hg.symm
      simp only [Bool.or_eq_true, decide_eq_true_eq] at hg
      omega
    have e3 : x3.i = x.i := by omega
    have e4 : x3.k = x.k := by omega
    have hP : x2.inP = inL p q x.i x.k := by rw [e5, x3.hp, e3, e4]
    have hQ : x3.inQ = inL q p x.k x.i := by rw [x3.hq, e3, e4]
    have hG := x3.h
    rw [e3, e4] at hG
    obtain ⟨g1, g2, g3, _⟩ := both_next hG.1 hG.2.1 hne hP hQ
    have hl : x3.out.length ≤ 2000000 := by omega
    have go : ∀ {c d : Chg} {ok : Bool} {out' : List Chg}, (x2.inP = true → c = cA p x.i) → (x3.inQ = true → d = cA q x.k) → ok = meet1 (onPair c x2.inP d x3.inQ) → (ok = true → out' = x3.out ++ comp1 (onPair c x2.inP d x3.inQ)) →
        (ok = false → comp p q = none) ∧ (ok = true → inc x2.inP x.i ≤ p.length ∧ inc x3.inQ x.k ≤ q.length ∧ out'.length ≤ inc x2.inP x.i + inc x3.inQ x.k ∧ GCmp p q (inc x2.inP x.i) (inc x3.inQ x.k) out') :=
      fun hc hd hok ho => cmp_step hG hne hP hQ hc hd hok ho
    have w1 : x.i < p.length → IntKind.i64.wrap ((x.i : Int) + 1) = ((x.i + 1 : Nat) : Int) := fun hlt => wrap_next hlt (by omega)
    have w2 : x.k < q.length → IntKind.i64.wrap ((x.k : Int) + 1) = ((x.k + 1 : Nat) : Int) := fun hlt => wrap_next hlt (by omega)
    refine brS_of (fun a1 => ⟨by omega, ?_, brS_of (fun a2 => ⟨by omega, ?_, g1, hl, fun ok out' hok ho => ?_⟩) fun a2 => ⟨g1, hl, fun ok out' hok ho => ?_⟩⟩) fun a1 => brS_of (fun a2 => ⟨by omega, ?_, g1, hl, fun ok out' hok ho => ?_⟩) fun a2 => ⟨g1, hl, fun ok out' hok ho => ?_⟩
    · have := g2 a1; omega
    · have := g3 a2; omega
    · obtain ⟨z1, z2⟩ := go (fun _ => rfl) (fun _ => rfl) hok ho
      refine brS_of (fun b1 => ?_) fun b1 => ?_
      · have b1 : ok = false := by simpa using b1
        exact h false out' (by rw [z1 b1]; rfl) (by rw [z1 b1]; intro r hr; cases hr)
      · have b1 : ok = true := by simpa using b1
        have z3 := z2 b1
        rw [a1, a2] at z3
        simp only [inc, if_true] at z3
        have := g2 a1; have := g3 a2
        rw [w1 (g2 a1), w2 (g3 a2)]
        refine ⟨⟨_, _, out', false, false, z3⟩, ?_⟩
        simp
        omega
    · obtain ⟨z1, z2⟩ := go (fun _ => rfl) (fun hh => by rw [a2] at hh; cases hh) hok ho
      refine brS_of (fun b1 => ?_) fun b1 => ?_
      · have b1 : ok = false := by simpa using b1
        exact h false out' (by rw [z1 b1]; rfl) (by rw [z1 b1]; intro r hr; cases hr)
      · have b1 : ok = true := by simpa using b1
        have z3 := z2 b1
        rw [a1, a2] at z3
        simp only [inc, if_true, Bool.false_eq_true, if_false] at z3
        have := g2 a1
        rw [w1 (g2 a1)]
        refine ⟨⟨_, _, out', false, false, z3⟩, ?_⟩
        simp
        omega
    · have := g3 a2; omega
    · obtain ⟨z1, z2⟩ := go (fun hh => by rw [a1] at hh; cases hh) (fun _ => rfl) hok ho
      refine brS_of (fun b1 => ?_) fun b1 => ?_
      · have b1 : ok = false := by simpa using b1
        exact h false out' (by rw [z1 b1]; rfl) (by rw [z1 b1]; intro r hr; cases hr)
      · have b1 : ok = true := by simpa using b1
        have z3 := z2 b1
        rw [a1, a2] at z3
        simp only [inc, if_true, Bool.false_eq_true, if_false] at z3
        have := g3 a2
        rw [w2 (g3 a2)]
        refine ⟨⟨_, _, out', false, false, z3⟩, ?_⟩
        simp
        omega
    · rw [a1, a2] at g1; simp at g1
  · have hne : ¬ (x1.i < p.length ∨ x1.k < q.length) := by
      have hg := x1.hg
      rw [hgo] at hg
      have hg := hg.symm
      simp only [Bool.or_eq_false_iff, decide_eq_false_iff_not] at hg
      omega
    have e := cmp_end x1.h hne
    exact h true x1.out (by rw [e]; rfl) (by rw [e]; intro r hr; exact Option.some.inj hr)
theorem s_bothC : SoundT C0 59 tBothC := by
  refine .ofW [0, 1] Try.func59 (by decide) rfl fun args H K h hB => ?_
  unfold tBothC at h
  split at h <;> try exact h.elim
  rename_i p q
  exact ⟨aBothC p q, ⟨frame C0.ok s_cmp1 _, trivial⟩, vc_bothC p q K h.1 h.2⟩
end Go.Proofs.Ytdgodcamadalhaa.Sx
