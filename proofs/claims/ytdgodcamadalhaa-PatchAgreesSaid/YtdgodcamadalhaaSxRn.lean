/- Invert and Between. -/
import Derived.Test.YtdgodcamadalhaaSxRm
namespace Go.Proofs.Ytdgodcamadalhaa.Sx
open Go

def invR (p : List Chg) : List Chg × Int := if valB p then (inv p, 0) else ([], 1)
theorem chgR_inv {c d : Chg} {ok : Bool} (h : ChgR c.key c.after.isSome (c.after.getD 0) c.before.isSome (c.before.getD 0) d ok) : d = inv1 c := by
  obtain ⟨_, h2, h3⟩ := h _ _ rfl rfl rfl rfl
  unfold inv1
  cases hc : mkChg c.key c.after c.before with
  | none => exact h2 hc
  | some e => exact h3 e hc
structure XNp {α : Type} (p : List α) where
  i : Nat
  h : i ≤ p.length
structure XND (p : List Chg) where
  i : Nat
  d : Chg
  h : d = inv1 (cA p i)
noncomputable def aInv (p : List Chg) : Ann C0 := { quiet := [62, 61, 63], Γ := [(38, frameT [] tValid), (62, frameT [] (tBefore mayA)), (61, frameT [] (tAfter mayA)), (63, frameT [] tChange)], inv := fun k => match k with
  | 5 => some { X := XNp p, sl := [14, 4], tf := fun x => [vi .i64 x.i, .one (.at (.slc 1))], hf := fun x => [.row false EC.chg p, .row true EC.chg ((p.take x.i).map inv1)], μ := fun x => p.length - x.i }
  | 1008 => some { X := XND p, sl := [7], tf := fun _ => [.one (.at (.ptr 2 0))], hf := fun x => [.row false EC.chg p, .row true EC.chg ((p.take x.i).map inv1), .box [vI x.d.kind, vI x.d.key, vI x.d.old, vI x.d.new]], rel := fun T _ x => slotI T 14 x.i }
  | _ => none }
def tInv : Tfm C0 := fun args H K => match args, H with
  | [.at (.slc 0)], [.row false .chg p] => p.length ≤ 1000000 ∧ ∀ (r : List Chg) (e : Int), (r, e) = invR p → K (.tup [.at (.slc 1), .at (vI e)]) [.row false EC.chg p, .row true EC.chg r] []
  | _, _ => False
def btwR (l m : List Ent) : List Chg × Int := if ascB l && ascB m then (btw l m, 0) else ([], 1)
def inE (l m : List Ent) (i k : Nat) : Bool := decide (i < l.length) && (decide (k = m.length) || decide ((eA l i).1 ≤ (eA m k).1))
structure XWo (l m : List Ent) where
  i : Nat
  k : Nat
  out : List Chg
  inP : Bool
  inQ : Bool
  h : i ≤ l.length ∧ k ≤ m.length ∧ out.length ≤ i + k ∧ btw l m = out ++ (pE (l.drop i) (m.drop k)).flatMap btw1
structure XWc (l m : List Ent) extends XWo l m where
  go : Bool
  hg : go = (decide (i < l.length) || decide (k < m.length))
structure XWp (l m : List Ent) extends XWo l m where
  hp : inP = inE l m i k
structure XWq (l m : List Ent) extends XWp l m where
  hq : inQ = inE m l k i
noncomputable def aBtw (l m : List Ent) : Ann C0 := { Γ := [(65, frameT [] tAsc), (63, frameT [] tChange)], inv := fun n => match n with
  | 5 => some { X := XWo l m, sl := [8, 7, 6], tf := fun x => [vi .i64 x.k, vi .i64 x.i, .one (.at (.slc 2))], hf := fun x => [.row false EC.ent l, .row false EC.ent m, .row true EC.chg x.out], μ := fun x => l.length + m.length - (x.i + x.k) }
  | 2005 => some { X := XWc l m, sl := [33], tf := fun x => [vb x.go], hf := fun x => [.row false EC.ent l, .row false EC.ent m, .row true EC.chg x.out], rel := fun T _ x => slotI T 7 x.i ∧ slotI T 8 x.k }
  | 1009 => some { X := XWp l m, sl := [12], tf := fun x => [vb x.inP], hf := fun x => [.row false EC.ent l, .row false EC.ent m, .row true EC.chg x.out, .box [vB false, vI 0], .box [vB false, vI 0]], rel := fun T _ x => slotI T 7 x.i ∧ slotI T 8 x.k }
  | 1010 => some { X := XWq l m, sl := [13], tf := fun x => [vb x.inQ], hf := fun x => [.row false EC.ent l, .row false EC.ent m, .row true EC.chg x.out, .box [vB false, vI 0], .box [vB false, vI 0]], rel := fun T _ x => slotI T 7 x.i ∧ slotI T 8 x.k ∧ slotB T 12 x.inP }
  | _ => none }
def tBtw : Tfm C0 := fun args H K => match args, H with
  | [.at (.slc 0), .at (.slc 1)], [.row false .ent l, .row false .ent m] => l.length + m.length ≤ 1000000 ∧ ∀ (r : List Chg) (e : Int), (r, e) = btwR l m → K (.tup [.at (.slc 2), .at (vI e)]) [.row false EC.ent l, .row false EC.ent m, .row true EC.chg r] []
  | _, _ => False
theorem vc_inv (p : List Chg) (K : KT) (hsm : p.length ≤ 1000000) (h : ∀ (r : List Chg) (e : Int), (r, e) = invR p → K (.tup [.at (.slc 1), .at (vI e)]) [.row false EC.chg p, .row true EC.chg r] []) :
    vc C0 (aInv p) Try.f33 [.at (.slc 0)] [.row false EC.chg p] (normK 1 K) := by
  refine Eq.mp (show (brS (!valB p)
  ((K (SV.tup [(TV.at (At.slc 1)), (TV.at (At.val (Value.int IntKind.i64 1)))]) [(Chunk.row false (EC.chg) (p)), (Chunk.row true (EC.chg) [])] []))
  (((∃ x : XNp p,
    (True ∧
    (True ∧
    True ∧
    ((Value.int IntKind.i64 ((↑p.length : Int))) = (Value.int IntKind.i64 ((↑p.length : Int)))) ∧
    ((Value.int IntKind.i64 0) = (Value.int IntKind.i64 ((↑x.i : Int)))) ∧
    True) ∧
    ((p) = (p)) ∧
    ([] = (List.map inv1 (List.take x.i p))) ∧
    True)) ∧
  (∀ x : XNp p,
    (True →
    (brS (decide ((↑x.i : Int) < (↑p.length : Int)))
      (((0 ≤ (↑x.i : Int)) ∧
      ((↑x.i : Int) < (↑p.length : Int)) ∧
      ((∀ x1 : Option Int,
        (((x1) = ({ kind := (cA p x.i).kind, key := (cA p x.i).key, old := (cA p x.i).old, new := (cA p x.i).new : Chg }.after)) →
        ((∀ x2 : Option Int,
          (((x2) = ({ kind := (cA p x.i).kind, key := (cA p x.i).key, old := (cA p x.i).old, new := (cA p x.i).new : Chg }.before)) →
          ((∀ d : Chg,
            (∀ ok : Bool,
              ((ChgR (cA p x.i).key x1.isSome (x1.getD 0) x2.isSome (x2.getD 0) d ok) →
              (∃ x3 : XND p,
                ((((↑x.i : Int)) = ((↑x3.i : Int))) ∧
                (True ∧
                True ∧
                True ∧
                ((Value.int IntKind.i64 ((↑p.length : Int))) = (Value.int IntKind.i64 ((↑p.length : Int)))) ∧
                ((Value.int IntKind.i64 ((↑x.i : Int))) = (Value.int IntKind.i64 ((↑x.i : Int)))) ∧
                True) ∧
                ((p) = (p)) ∧
                ((List.map inv1 (List.take x.i p)) = (List.map inv1 (List.take x3.i p))) ∧
                (((Value.int IntKind.i64 (d.kind)) = (Value.int IntKind.i64 (x3.d.kind))) ∧
                ((Value.int IntKind.i64 (d.key)) = (Value.int IntKind.i64 (x3.d.key))) ∧
                ((Value.int IntKind.i64 (d.old)) = (Value.int IntKind.i64 (x3.d.old))) ∧
                ((Value.int IntKind.i64 (d.new)) = (Value.int IntKind.i64 (x3.d.new))) ∧
                True) ∧
                True))))) ∧
          (∀ d : Chg,
            (∀ ok : Bool,
              ((ChgR (cA p x.i).key x1.isSome (x1.getD 0) x2.isSome (x2.getD 0) d ok) →
              (∃ x3 : XND p,
                ((((↑x.i : Int)) = ((↑x3.i : Int))) ∧
                (True ∧
                True ∧
                True ∧
                ((Value.int IntKind.i64 ((↑p.length : Int))) = (Value.int IntKind.i64 ((↑p.length : Int)))) ∧
                ((Value.int IntKind.i64 ((↑x.i : Int))) = (Value.int IntKind.i64 ((↑x.i : Int)))) ∧
                True) ∧
                ((p) = (p)) ∧
                ((List.map inv1 (List.take x.i p)) = (List.map inv1 (List.take x3.i p))) ∧
                (((Value.int IntKind.i64 (d.kind)) = (Value.int IntKind.i64 (x3.d.kind))) ∧
                ((Value.int IntKind.i64 (d.key)) = (Value.int IntKind.i64 (x3.d.key))) ∧
                ((Value.int IntKind.i64 (d.old)) = (Value.int IntKind.i64 (x3.d.old))) ∧
                ((Value.int IntKind.i64 (d.new)) = (Value.int IntKind.i64 (x3.d.new))) ∧
                True) ∧
                True)))))))) ∧
        (∀ x2 : Option Int,
          (((x2) = ({ kind := (cA p x.i).kind, key := (cA p x.i).key, old := (cA p x.i).old, new := (cA p x.i).new : Chg }.before)) →
          (∀ d : Chg,
            (∀ ok : Bool,
              ((ChgR (cA p x.i).key x1.isSome (x1.getD 0) x2.isSome (x2.getD 0) d ok) →
              (∃ x3 : XND p,
                ((((↑x.i : Int)) = ((↑x3.i : Int))) ∧
                (True ∧
                True ∧
                True ∧
                ((Value.int IntKind.i64 ((↑p.length : Int))) = (Value.int IntKind.i64 ((↑p.length : Int)))) ∧
                ((Value.int IntKind.i64 ((↑x.i : Int))) = (Value.int IntKind.i64 ((↑x.i : Int)))) ∧
                True) ∧
                ((p) = (p)) ∧
                ((List.map inv1 (List.take x.i p)) = (List.map inv1 (List.take x3.i p))) ∧
                (((Value.int IntKind.i64 (d.kind)) = (Value.int IntKind.i64 (x3.d.kind))) ∧
                ((Value.int IntKind.i64 (d.key)) = (Value.int IntKind.i64 (x3.d.key))) ∧
                ((Value.int IntKind.i64 (d.old)) = (Value.int IntKind.i64 (x3.d.old))) ∧
                ((Value.int IntKind.i64 (d.new)) = (Value.int IntKind.i64 (x3.d.new))) ∧
                True) ∧
                True)))))))))) ∧
      (∀ x1 : Option Int,
        (((x1) = ({ kind := (cA p x.i).kind, key := (cA p x.i).key, old := (cA p x.i).old, new := (cA p x.i).new : Chg }.after)) →
        (∀ x2 : Option Int,
          (((x2) = ({ kind := (cA p x.i).kind, key := (cA p x.i).key, old := (cA p x.i).old, new := (cA p x.i).new : Chg }.before)) →
          (∀ d : Chg,
            (∀ ok : Bool,
              ((ChgR (cA p x.i).key x1.isSome (x1.getD 0) x2.isSome (x2.getD 0) d ok) →
              (∃ x3 : XND p,
                ((((↑x.i : Int)) = ((↑x3.i : Int))) ∧
                (True ∧
                True ∧
                True ∧
                ((Value.int IntKind.i64 ((↑p.length : Int))) = (Value.int IntKind.i64 ((↑p.length : Int)))) ∧
                ((Value.int IntKind.i64 ((↑x.i : Int))) = (Value.int IntKind.i64 ((↑x.i : Int)))) ∧
                True) ∧
                ((p) = (p)) ∧
                ((List.map inv1 (List.take x.i p)) = (List.map inv1 (List.take x3.i p))) ∧
                (((Value.int IntKind.i64 (d.kind)) = (Value.int IntKind.i64 (x3.d.kind))) ∧
                ((Value.int IntKind.i64 (d.key)) = (Value.int IntKind.i64 (x3.d.key))) ∧
                ((Value.int IntKind.i64 (d.old)) = (Value.int IntKind.i64 (x3.d.old))) ∧
                ((Value.int IntKind.i64 (d.new)) = (Value.int IntKind.i64 (x3.d.new))) ∧
                True) ∧
                True)))))))))) ∧
      (∀ x1 : XND p,
        ((((↑x.i : Int)) = ((↑x1.i : Int))) →
        ((((List.map inv1 (List.take x1.i p)).length + [{ kind := x1.d.kind, key := x1.d.key, old := x1.d.old, new := x1.d.new : Chg }].length) * bytesOf C0 EC.chg ≤ 140737488355328) ∧
        (∃ x' : XNp p,
          (True ∧
          ((True ∧
          True ∧
          ((Value.int IntKind.i64 ((↑p.length : Int))) = (Value.int IntKind.i64 ((↑p.length : Int)))) ∧
          ((Value.int IntKind.i64 (IntKind.i64.wrap ((↑x.i : Int) + 1))) = (Value.int IntKind.i64 ((↑x'.i : Int)))) ∧
          True) ∧
          ((p) = (p)) ∧
          ((List.map inv1 (List.take x1.i p) ++ [{ kind := x1.d.kind, key := x1.d.key, old := x1.d.old, new := x1.d.new : Chg }]) = (List.map inv1 (List.take x'.i p))) ∧
          True) ∧
          (p.length - x'.i < p.length - x.i))))))))
      ((K (SV.tup [(TV.at (At.slc 1)), (TV.at (At.val (Value.int IntKind.i64 0)))]) [(Chunk.row false (EC.chg) (p)), (Chunk.row true (EC.chg) (List.map inv1 (List.take x.i p)))] [])))))))) = _ by kernel_rfl) ?_
  simp only [bytes_chg]
  refine brS_of (fun c1 => h [] 1 (by simp at c1; simp [invR, c1])) fun c1 => ⟨⟨⟨0, Nat.zero_le _⟩, by simp⟩, fun x _ => brS_of (fun hi => ⟨by omega, by simpa using hi, ?_, fun x1 r1 => ?_⟩) fun hi => ?_⟩
  · repeat' (first | refine And.intro ?_ ?_ | intro _)
    all_goals (rename_i hR; subst_vars; exact ⟨⟨x.i, _, chgR_inv (c := cA p x.i) hR⟩, by simp⟩)
  · have hi : x.i < p.length := by simpa using hi
    have r1 : x1.i = x.i := by omega
    have hs := take_snoc (cA_get hi)
    have hd := x1.h
    rw [r1] at hd
    rw [wrap_next hi (by omega), r1]
    refine ⟨?_, ⟨x.i + 1, by omega⟩, ?_⟩
    · simp; omega
    · have e : List.map inv1 (List.take x.i p) ++ [x1.d] = List.map inv1 (List.take (x.i + 1) p) := by rw [hs, hd]; simp
      refine ⟨trivial, ⟨⟨trivial, trivial, trivial, rfl, trivial⟩, trivial, e, trivial⟩, ?_⟩
      show p.length - (x.i + 1) < _
      omega
  · have hi : x.i = p.length := by have := x.h; simp at hi; omega
    have h2 : ∀ z : List Chg, z = inv p → K (.tup [.at (.slc 1), .at (vI 0)]) [.row false EC.chg p, .row true EC.chg z] [] := fun z hz => h z 0 (by simp at c1; simp [invR, c1, hz])
    exact h2 _ (by rw [hi]; exact congrArg (List.map inv1) (List.take_length (l := p)))
theorem s_inv : SoundT C0 33 tInv := by
  refine .of Try.func33 (by decide) rfl fun args H K h hB => ?_
  unfold tInv at h
  split at h <;> try exact h.elim
  rename_i p
  exact ⟨aInv p, ⟨frame C0.ok s_valid _, frame C0.ok s_before _, frame C0.ok s_after _, frame C0.ok s_change _, trivial⟩, vc_inv p K h.1 h.2⟩

def ifO {α : Type} (b : Bool) (x : α) : Option α := if b then some x else none
theorem pE_next {l m : List Ent} {i k : Nat} {inP inQ : Bool} (hi : i ≤ l.length) (hk : k ≤ m.length) (hne : i < l.length ∨ k < m.length) (hP : inP = inE l m i k) (hQ : inQ = inE m l k i) :
    (inP = true ∨ inQ = true) ∧ (inP = true → i < l.length) ∧ (inQ = true → k < m.length) ∧ (inP = true → inQ = true → (eA l i).1 = (eA m k).1) ∧ pE (l.drop i) (m.drop k) = (ifO inP (eA l i), ifO inQ (eA m k)) :: pE (l.drop (inc inP i)) (m.drop (inc inQ k)) := by
  obtain ⟨h1, h2, h3, h4⟩ := pairs_step (ka := (Prod.fst : Ent → Int)) (kb := (Prod.fst : Ent → Int)) (eA l) (eA m) (fun n hn => eA_get hn) (fun n hn => eA_get hn) hi hk hne hP hQ
  refine ⟨h1, h2, h3, fun p q => ?_, h4⟩
  have e1 := h2 p
  have e2 := h3 q
  rw [p] at hP
  rw [q] at hQ
  unfold inE at hP hQ
  have n1 : ¬ k = m.length := by omega
  have n2 : ¬ i = l.length := by omega
  simp only [e1, e2, n1, n2, decide_true, decide_false, Bool.true_and, Bool.false_or] at hP hQ
  have hP := of_decide_eq_true hP.symm
  have hQ := of_decide_eq_true hQ.symm
  omega
theorem chg_list {k : Int} {x y : Option Int} {d : Chg} {ok : Bool} (h : ok = (mkChg k x y).isSome ∧ ∀ e, mkChg k x y = some e → d = e) : (mkChg k x y).toList = if ok then [d] else [] := by
  obtain ⟨h1, h2⟩ := h
  cases hc : mkChg k x y with
  | none => rw [hc] at h1; rw [h1]; rfl
  | some e => rw [hc] at h1; rw [h1, h2 e hc]; rfl
theorem btw_step {l m : List Ent} {i k : Nat} {out : List Chg} (h : i ≤ l.length ∧ k ≤ m.length ∧ out.length ≤ i + k ∧ btw l m = out ++ (pE (l.drop i) (m.drop k)).flatMap btw1) (hne : i < l.length ∨ k < m.length) {inP inQ : Bool} (hP : inP = inE l m i k) (hQ : inQ = inE m l k i)
    {d : Chg} {ok : Bool} {key : Int} (hk : pkey Prod.fst Prod.fst (ifO inP (eA l i), ifO inQ (eA m k)) = key) (hc : ok = (mkChg key ((ifO inP (eA l i)).map Prod.snd) ((ifO inQ (eA m k)).map Prod.snd)).isSome ∧ ∀ e, mkChg key ((ifO inP (eA l i)).map Prod.snd) ((ifO inQ (eA m k)).map Prod.snd) = some e → d = e) :
    inc inP i ≤ l.length ∧ inc inQ k ≤ m.length ∧ ∀ out', out' = out ++ (if ok then [d] else []) → out'.length ≤ inc inP i + inc inQ k ∧ btw l m = out' ++ (pE (l.drop (inc inP i)) (m.drop (inc inQ k))).flatMap btw1 := by
  obtain ⟨h1, h2, h3, _, h4⟩ := pE_next h.1 h.2.1 hne hP hQ
  refine ⟨?_, ?_, fun out' ho => ⟨?_, ?_⟩⟩
  · unfold inc; split
    · rename_i hh; have := h2 hh; omega
    · exact h.1
  · unfold inc; split
    · rename_i hh; have := h3 hh; omega
    · exact h.2.1
  · rw [ho, List.length_append]
    have q1 : (if ok = true then [d] else []).length ≤ 1 := by split <;> simp
    have q2 := h.2.2.1
    cases inP <;> cases inQ <;> simp only [inc, if_true, Bool.false_eq_true, if_false] at h1 ⊢ <;> first | omega | simp at h1
  · have hg := h.2.2.2
    rw [h4, List.flatMap_cons] at hg
    rw [hg, ho, ← chg_list hc, List.append_assoc]
    congr 2
    unfold btw1
    rw [hk]

theorem vc_btw (l m : List Ent) (K : KT) (hsm : l.length + m.length ≤ 1000000) (h : ∀ (r : List Chg) (e : Int), (r, e) = btwR l m → K (.tup [.at (.slc 2), .at (vI e)]) [.row false EC.ent l, .row false EC.ent m, .row true EC.chg r] []) :
    vc C0 (aBtw l m) Try.f37 [.at (.slc 0), .at (.slc 1)] [.row false EC.ent l, .row false EC.ent m] (normK 2 K) := by
  refine Eq.mp (show (brS (!ascB l)
  ((K (SV.tup [(TV.at (At.slc 2)), (TV.at (At.val (Value.int IntKind.i64 1)))]) [(Chunk.row false (EC.ent) (l)), (Chunk.row false (EC.ent) (m)), (Chunk.row true (EC.chg) [])] []))
  ((brS (!ascB m)
    ((K (SV.tup [(TV.at (At.slc 2)), (TV.at (At.val (Value.int IntKind.i64 1)))]) [(Chunk.row false (EC.ent) (l)), (Chunk.row false (EC.ent) (m)), (Chunk.row true (EC.chg) [])] []))
    (((∃ x : XWo l m,
      (True ∧
      (True ∧
      True ∧
      True ∧
      ((Value.int IntKind.i64 0) = (Value.int IntKind.i64 ((↑x.i : Int)))) ∧
      ((Value.int IntKind.i64 0) = (Value.int IntKind.i64 ((↑x.k : Int)))) ∧
      True) ∧
      ((l) = (l)) ∧
      ((m) = (m)) ∧
      ([] = (x.out)) ∧
      True)) ∧
    (∀ x : XWo l m,
      (True →
      ((brS (decide ((↑x.i : Int) < (↑l.length : Int)))
        ((∃ x1 : XWc l m,
          (((((↑x.i : Int)) = ((↑x1.i : Int))) ∧
          (((↑x.k : Int)) = ((↑x1.k : Int)))) ∧
          (True ∧
          True ∧
          True ∧
          ((Value.int IntKind.i64 ((↑x.i : Int))) = (Value.int IntKind.i64 ((↑x.i : Int)))) ∧
          ((Value.int IntKind.i64 ((↑x.k : Int))) = (Value.int IntKind.i64 ((↑x.k : Int)))) ∧
          ((Value.bool true) = (Value.bool (x1.go))) ∧
          True) ∧
          ((l) = (l)) ∧
          ((m) = (m)) ∧
          ((x.out) = (x1.out)) ∧
          True)))
        ((∃ x1 : XWc l m,
          (((((↑x.i : Int)) = ((↑x1.i : Int))) ∧
          (((↑x.k : Int)) = ((↑x1.k : Int)))) ∧
          (True ∧
          True ∧
          True ∧
          ((Value.int IntKind.i64 ((↑x.i : Int))) = (Value.int IntKind.i64 ((↑x.i : Int)))) ∧
          ((Value.int IntKind.i64 ((↑x.k : Int))) = (Value.int IntKind.i64 ((↑x.k : Int)))) ∧
          ((Value.bool (decide ((↑x.k : Int) < (↑m.length : Int)))) = (Value.bool (x1.go))) ∧
          True) ∧
          ((l) = (l)) ∧
          ((m) = (m)) ∧
          ((x.out) = (x1.out)) ∧
          True)))) ∧
      (∀ x1 : XWc l m,
        (((((↑x.i : Int)) = ((↑x1.i : Int))) ∧
        (((↑x.k : Int)) = ((↑x1.k : Int)))) →
        (brS (x1.go)
          (((brS (decide ((↑x.i : Int) < (↑l.length : Int)))
            ((brS ((↑x.k : Int) == (↑m.length : Int))
              ((∃ x2 : XWp l m,
                (((((↑x.i : Int)) = ((↑x2.i : Int))) ∧
                (((↑x.k : Int)) = ((↑x2.k : Int)))) ∧
                (True ∧
                True ∧
                True ∧
                ((Value.int IntKind.i64 ((↑x.i : Int))) = (Value.int IntKind.i64 ((↑x.i : Int)))) ∧
                ((Value.int IntKind.i64 ((↑x.k : Int))) = (Value.int IntKind.i64 ((↑x.k : Int)))) ∧
                True ∧
                True ∧
                ((Value.int IntKind.i64 0) = (Value.int IntKind.i64 0)) ∧
                ((Value.bool true) = (Value.bool (x2.inP))) ∧
                True) ∧
                ((l) = (l)) ∧
                ((m) = (m)) ∧
                ((x1.out) = (x2.out)) ∧
                (((Value.bool false) = (Value.bool false)) ∧
                ((Value.int IntKind.i64 0) = (Value.int IntKind.i64 0)) ∧
                True) ∧
                (((Value.bool false) = (Value.bool false)) ∧
                ((Value.int IntKind.i64 0) = (Value.int IntKind.i64 0)) ∧
                True) ∧
                True)))
              (((0 ≤ (↑x.i : Int)) ∧
              ((↑x.i : Int) < (↑l.length : Int)) ∧
              (0 ≤ (↑x.k : Int)) ∧
              ((↑x.k : Int) < (↑m.length : Int)) ∧
              (∃ x2 : XWp l m,
                (((((↑x.i : Int)) = ((↑x2.i : Int))) ∧
                (((↑x.k : Int)) = ((↑x2.k : Int)))) ∧
                (True ∧
                True ∧
                True ∧
                ((Value.int IntKind.i64 ((↑x.i : Int))) = (Value.int IntKind.i64 ((↑x.i : Int)))) ∧
                ((Value.int IntKind.i64 ((↑x.k : Int))) = (Value.int IntKind.i64 ((↑x.k : Int)))) ∧
                True ∧
                True ∧
                ((Value.int IntKind.i64 0) = (Value.int IntKind.i64 0)) ∧
                ((Value.bool (decide ((eA l x.i).fst ≤ (eA m x.k).fst))) = (Value.bool (x2.inP))) ∧
                True) ∧
                ((l) = (l)) ∧
                ((m) = (m)) ∧
                ((x1.out) = (x2.out)) ∧
                (((Value.bool false) = (Value.bool false)) ∧
                ((Value.int IntKind.i64 0) = (Value.int IntKind.i64 0)) ∧
                True) ∧
                (((Value.bool false) = (Value.bool false)) ∧
                ((Value.int IntKind.i64 0) = (Value.int IntKind.i64 0)) ∧
                True) ∧
                True))))))
            ((∃ x2 : XWp l m,
              (((((↑x.i : Int)) = ((↑x2.i : Int))) ∧
              (((↑x.k : Int)) = ((↑x2.k : Int)))) ∧
              (True ∧
              True ∧
              True ∧
              ((Value.int IntKind.i64 ((↑x.i : Int))) = (Value.int IntKind.i64 ((↑x.i : Int)))) ∧
              ((Value.int IntKind.i64 ((↑x.k : Int))) = (Value.int IntKind.i64 ((↑x.k : Int)))) ∧
              True ∧
              True ∧
              ((Value.int IntKind.i64 0) = (Value.int IntKind.i64 0)) ∧
              ((Value.bool false) = (Value.bool (x2.inP))) ∧
              True) ∧
              ((l) = (l)) ∧
              ((m) = (m)) ∧
              ((x1.out) = (x2.out)) ∧
              (((Value.bool false) = (Value.bool false)) ∧
              ((Value.int IntKind.i64 0) = (Value.int IntKind.i64 0)) ∧
              True) ∧
              (((Value.bool false) = (Value.bool false)) ∧
              ((Value.int IntKind.i64 0) = (Value.int IntKind.i64 0)) ∧
              True) ∧
              True)))) ∧
          (∀ x2 : XWp l m,
            (((((↑x.i : Int)) = ((↑x2.i : Int))) ∧
            (((↑x.k : Int)) = ((↑x2.k : Int)))) →
            ((brS (decide ((↑x.k : Int) < (↑m.length : Int)))
              ((brS ((↑x.i : Int) == (↑l.length : Int))
                ((∃ x3 : XWq l m,
                  (((((↑x.i : Int)) = ((↑x3.i : Int))) ∧
                  (((↑x.k : Int)) = ((↑x3.k : Int))) ∧
                  ((x2.inP) = (x3.inP))) ∧
                  (True ∧
                  True ∧
                  True ∧
                  ((Value.int IntKind.i64 ((↑x.i : Int))) = (Value.int IntKind.i64 ((↑x.i : Int)))) ∧
                  ((Value.int IntKind.i64 ((↑x.k : Int))) = (Value.int IntKind.i64 ((↑x.k : Int)))) ∧
                  True ∧
                  True ∧
                  ((Value.int IntKind.i64 0) = (Value.int IntKind.i64 0)) ∧
                  ((Value.bool (x2.inP)) = (Value.bool (x2.inP))) ∧
                  ((Value.bool true) = (Value.bool (x3.inQ))) ∧
                  True) ∧
                  ((l) = (l)) ∧
                  ((m) = (m)) ∧
                  ((x2.out) = (x3.out)) ∧
                  (((Value.bool false) = (Value.bool false)) ∧
                  ((Value.int IntKind.i64 0) = (Value.int IntKind.i64 0)) ∧
                  True) ∧
                  (((Value.bool false) = (Value.bool false)) ∧
                  ((Value.int IntKind.i64 0) = (Value.int IntKind.i64 0)) ∧
                  True) ∧
                  True)))
                (((0 ≤ (↑x.k : Int)) ∧
                ((↑x.k : Int) < (↑m.length : Int)) ∧
                (0 ≤ (↑x.i : Int)) ∧
                ((↑x.i : Int) < (↑l.length : Int)) ∧
                (∃ x3 : XWq l m,
                  (((((↑x.i : Int)) = ((↑x3.i : Int))) ∧
                  (((↑x.k : Int)) = ((↑x3.k : Int))) ∧
                  ((x2.inP) = (x3.inP))) ∧
                  (True ∧
                  True ∧
                  True ∧
                  ((Value.int IntKind.i64 ((↑x.i : Int))) = (Value.int IntKind.i64 ((↑x.i : Int)))) ∧
                  ((Value.int IntKind.i64 ((↑x.k : Int))) = (Value.int IntKind.i64 ((↑x.k : Int)))) ∧
                  True ∧
                  True ∧
                  ((Value.int IntKind.i64 0) = (Value.int IntKind.i64 0)) ∧
                  ((Value.bool (x2.inP)) = (Value.bool (x2.inP))) ∧
                  ((Value.bool (decide ((eA m x.k).fst ≤ (eA l x.i).fst))) = (Value.bool (x3.inQ))) ∧
                  True) ∧
                  ((l) = (l)) ∧
                  ((m) = (m)) ∧
                  ((x2.out) = (x3.out)) ∧
                  (((Value.bool false) = (Value.bool false)) ∧
                  ((Value.int IntKind.i64 0) = (Value.int IntKind.i64 0)) ∧
                  True) ∧
                  (((Value.bool false) = (Value.bool false)) ∧
                  ((Value.int IntKind.i64 0) = (Value.int IntKind.i64 0)) ∧
                  True) ∧
                  True))))))
              ((∃ x3 : XWq l m,
                (((((↑x.i : Int)) = ((↑x3.i : Int))) ∧
                (((↑x.k : Int)) = ((↑x3.k : Int))) ∧
                ((x2.inP) = (x3.inP))) ∧
                (True ∧
                True ∧
                True ∧
                ((Value.int IntKind.i64 ((↑x.i : Int))) = (Value.int IntKind.i64 ((↑x.i : Int)))) ∧
                ((Value.int IntKind.i64 ((↑x.k : Int))) = (Value.int IntKind.i64 ((↑x.k : Int)))) ∧
                True ∧
                True ∧
                ((Value.int IntKind.i64 0) = (Value.int IntKind.i64 0)) ∧
                ((Value.bool (x2.inP)) = (Value.bool (x2.inP))) ∧
                ((Value.bool false) = (Value.bool (x3.inQ))) ∧
                True) ∧
                ((l) = (l)) ∧
                ((m) = (m)) ∧
                ((x2.out) = (x3.out)) ∧
                (((Value.bool false) = (Value.bool false)) ∧
                ((Value.int IntKind.i64 0) = (Value.int IntKind.i64 0)) ∧
                True) ∧
                (((Value.bool false) = (Value.bool false)) ∧
                ((Value.int IntKind.i64 0) = (Value.int IntKind.i64 0)) ∧
                True) ∧
                True)))) ∧
            (∀ x3 : XWq l m,
              (((((↑x.i : Int)) = ((↑x3.i : Int))) ∧
              (((↑x.k : Int)) = ((↑x3.k : Int))) ∧
              ((x2.inP) = (x3.inP))) →
              (brS (x2.inP)
                (((0 ≤ (↑x.i : Int)) ∧
                ((↑x.i : Int) < (↑l.length : Int)) ∧
                (0 ≤ (↑x.i : Int)) ∧
                ((↑x.i : Int) < (↑l.length : Int)) ∧
                (brS (x3.inQ)
                  (((0 ≤ (↑x.k : Int)) ∧
                  ((↑x.k : Int) < (↑m.length : Int)) ∧
                  (0 ≤ (↑x.k : Int)) ∧
                  ((↑x.k : Int) < (↑m.length : Int)) ∧
                  (∀ d : Chg,
                    (∀ ok : Bool,
                      ((ChgR (eA m x.k).fst true (eA l x.i).snd true (eA m x.k).snd d ok) →
                      (brS (ok)
                        ((((x3.out.length + [{ kind := d.kind, key := d.key, old := d.old, new := d.new : Chg }].length) * bytesOf C0 EC.chg ≤ 140737488355328) ∧
                        (∃ x' : XWo l m,
                          (True ∧
                          ((True ∧
                          True ∧
                          True ∧
                          ((Value.int IntKind.i64 (IntKind.i64.wrap ((↑x.i : Int) + 1))) = (Value.int IntKind.i64 ((↑x'.i : Int)))) ∧
                          ((Value.int IntKind.i64 (IntKind.i64.wrap ((↑x.k : Int) + 1))) = (Value.int IntKind.i64 ((↑x'.k : Int)))) ∧
                          True) ∧
                          ((l) = (l)) ∧
                          ((m) = (m)) ∧
                          ((x3.out ++ [{ kind := d.kind, key := d.key, old := d.old, new := d.new : Chg }]) = (x'.out)) ∧
                          True) ∧
                          (l.length + m.length - (x'.i + x'.k) < l.length + m.length - (x.i + x.k))))))
                        ((∃ x' : XWo l m,
                          (True ∧
                          ((True ∧
                          True ∧
                          True ∧
                          ((Value.int IntKind.i64 (IntKind.i64.wrap ((↑x.i : Int) + 1))) = (Value.int IntKind.i64 ((↑x'.i : Int)))) ∧
                          ((Value.int IntKind.i64 (IntKind.i64.wrap ((↑x.k : Int) + 1))) = (Value.int IntKind.i64 ((↑x'.k : Int)))) ∧
                          True) ∧
                          ((l) = (l)) ∧
                          ((m) = (m)) ∧
                          ((x3.out) = (x'.out)) ∧
                          True) ∧
                          (l.length + m.length - (x'.i + x'.k) < l.length + m.length - (x.i + x.k)))))))))))
                  ((∀ d : Chg,
                    (∀ ok : Bool,
                      ((ChgR (eA l x.i).fst true (eA l x.i).snd false 0 d ok) →
                      (brS (ok)
                        ((((x3.out.length + [{ kind := d.kind, key := d.key, old := d.old, new := d.new : Chg }].length) * bytesOf C0 EC.chg ≤ 140737488355328) ∧
                        (∃ x' : XWo l m,
                          (True ∧
                          ((True ∧
                          True ∧
                          True ∧
                          ((Value.int IntKind.i64 (IntKind.i64.wrap ((↑x.i : Int) + 1))) = (Value.int IntKind.i64 ((↑x'.i : Int)))) ∧
                          ((Value.int IntKind.i64 ((↑x.k : Int))) = (Value.int IntKind.i64 ((↑x'.k : Int)))) ∧
                          True) ∧
                          ((l) = (l)) ∧
                          ((m) = (m)) ∧
                          ((x3.out ++ [{ kind := d.kind, key := d.key, old := d.old, new := d.new : Chg }]) = (x'.out)) ∧
                          True) ∧
                          (l.length + m.length - (x'.i + x'.k) < l.length + m.length - (x.i + x.k))))))
                        ((∃ x' : XWo l m,
                          (True ∧
                          ((True ∧
                          True ∧
                          True ∧
                          ((Value.int IntKind.i64 (IntKind.i64.wrap ((↑x.i : Int) + 1))) = (Value.int IntKind.i64 ((↑x'.i : Int)))) ∧
                          ((Value.int IntKind.i64 ((↑x.k : Int))) = (Value.int IntKind.i64 ((↑x'.k : Int)))) ∧
                          True) ∧
                          ((l) = (l)) ∧
                          ((m) = (m)) ∧
                          ((x3.out) = (x'.out)) ∧
                          True) ∧
                          (l.length + m.length - (x'.i + x'.k) < l.length + m.length - (x.i + x.k)))))))))))))
                ((brS (x3.inQ)
                  (((0 ≤ (↑x.k : Int)) ∧
                  ((↑x.k : Int) < (↑m.length : Int)) ∧
                  (0 ≤ (↑x.k : Int)) ∧
                  ((↑x.k : Int) < (↑m.length : Int)) ∧
                  (∀ d : Chg,
                    (∀ ok : Bool,
                      ((ChgR (eA m x.k).fst false 0 true (eA m x.k).snd d ok) →
                      (brS (ok)
                        ((((x3.out.length + [{ kind := d.kind, key := d.key, old := d.old, new := d.new : Chg }].length) * bytesOf C0 EC.chg ≤ 140737488355328) ∧
                        (∃ x' : XWo l m,
                          (True ∧
                          ((True ∧
                          True ∧
                          True ∧
                          ((Value.int IntKind.i64 ((↑x.i : Int))) = (Value.int IntKind.i64 ((↑x'.i : Int)))) ∧
                          ((Value.int IntKind.i64 (IntKind.i64.wrap ((↑x.k : Int) + 1))) = (Value.int IntKind.i64 ((↑x'.k : Int)))) ∧
                          True) ∧
                          ((l) = (l)) ∧
                          ((m) = (m)) ∧
                          ((x3.out ++ [{ kind := d.kind, key := d.key, old := d.old, new := d.new : Chg }]) = (x'.out)) ∧
                          True) ∧
                          (l.length + m.length - (x'.i + x'.k) < l.length + m.length - (x.i + x.k))))))
                        ((∃ x' : XWo l m,
                          (True ∧
                          ((True ∧
                          True ∧
                          True ∧
                          ((Value.int IntKind.i64 ((↑x.i : Int))) = (Value.int IntKind.i64 ((↑x'.i : Int)))) ∧
                          ((Value.int IntKind.i64 (IntKind.i64.wrap ((↑x.k : Int) + 1))) = (Value.int IntKind.i64 ((↑x'.k : Int)))) ∧
                          True) ∧
                          ((l) = (l)) ∧
                          ((m) = (m)) ∧
                          ((x3.out) = (x'.out)) ∧
                          True) ∧
                          (l.length + m.length - (x'.i + x'.k) < l.length + m.length - (x.i + x.k)))))))))))
                  ((∀ d : Chg,
                    (∀ ok : Bool,
                      ((ChgR 0 false 0 false 0 d ok) →
                      (brS (ok)
                        ((((x3.out.length + [{ kind := d.kind, key := d.key, old := d.old, new := d.new : Chg }].length) * bytesOf C0 EC.chg ≤ 140737488355328) ∧
                        (∃ x' : XWo l m,
                          (True ∧
                          ((True ∧
                          True ∧
                          True ∧
                          ((Value.int IntKind.i64 ((↑x.i : Int))) = (Value.int IntKind.i64 ((↑x'.i : Int)))) ∧
                          ((Value.int IntKind.i64 ((↑x.k : Int))) = (Value.int IntKind.i64 ((↑x'.k : Int)))) ∧
                          True) ∧
                          ((l) = (l)) ∧
                          ((m) = (m)) ∧
                          ((x3.out ++ [{ kind := d.kind, key := d.key, old := d.old, new := d.new : Chg }]) = (x'.out)) ∧
                          True) ∧
                          (l.length + m.length - (x'.i + x'.k) < l.length + m.length - (x.i + x.k))))))
                        ((∃ x' : XWo l m,
                          (True ∧
                          ((True ∧
                          True ∧
                          True ∧
                          ((Value.int IntKind.i64 ((↑x.i : Int))) = (Value.int IntKind.i64 ((↑x'.i : Int)))) ∧
                          ((Value.int IntKind.i64 ((↑x.k : Int))) = (Value.int IntKind.i64 ((↑x'.k : Int)))) ∧
                          True) ∧
                          ((l) = (l)) ∧
                          ((m) = (m)) ∧
                          ((x3.out) = (x'.out)) ∧
                          True) ∧
                          (l.length + m.length - (x'.i + x'.k) < l.length + m.length - (x.i + x.k))))))))))))))))))))
          ((K (SV.tup [(TV.at (At.slc 2)), (TV.at (At.val (Value.int IntKind.i64 0)))]) [(Chunk.row false (EC.ent) (l)), (Chunk.row false (EC.ent) (m)), (Chunk.row true (EC.chg) (x1.out))] []))))))))))))) = _ by kernel_rfl) ?_
  simp only [bytes_chg]
  refine brS_of (fun c1 => h [] 1 (by simp at c1; simp [btwR, c1])) fun c1 => brS_of (fun c2 => h [] 1 (by simp at c2; simp [btwR, c2])) fun c2 => ⟨⟨⟨0, 0, [], false, false, Nat.zero_le _, Nat.zero_le _, Nat.zero_le _, by unfold btw; simp⟩, by simp⟩, fun x _ => ⟨?_, fun x1 r1 => brS_of (fun hgo => ⟨?_, fun x2 r2 => ⟨?_, fun x3 r3 => ?_⟩⟩) fun hgo => ?_⟩⟩
  · refine brS_of (fun c1 => ⟨⟨x, true, ?_⟩, ?_⟩) fun c1 => ⟨⟨x, decide ((x.k : Int) < (m.length : Int)), ?_⟩, ?_⟩
    · simp at c1; simp [c1]
    · simp
    · simp only [decide_eq_false_iff_not] at c1
      have : ¬ x.i < l.length := by omega
      simp [this]
    · simp
  · obtain ⟨e1, e2⟩ := r1
    have e1 : x.i = x1.i := by omega
    have e2 : x.k = x1.k := by omega
    rw [e1, e2]
    have hh := x1.h
    refine brS_of (fun c1 => brS_of (fun c2 => ⟨⟨⟨x1.i, x1.k, x1.out, true, false, x1.h⟩, ?_⟩, ?_⟩) fun c2 => ⟨by omega, ?_, by omega, ?_, ⟨⟨x1.i, x1.k, x1.out, decide ((eA l x1.i).1 ≤ (eA m x1.k).1), false, x1.h⟩, ?_⟩, ?_⟩) fun c1 => ⟨⟨⟨x1.i, x1.k, x1.out, false, false, x1.h⟩, ?_⟩, ?_⟩
    all_goals try simp only [decide_eq_true_eq, decide_eq_false_iff_not, beq_iff_eq, beq_eq_false_iff_ne, ne_eq] at c1 c2
    all_goals try simp only [decide_eq_false_iff_not] at c1
    · have d1 : x1.i < l.length := by omega
      have d2 : x1.k = m.length := by omega
      simp [inE, d1, d2]
    · simp
    · omega
    · omega
    · have d1 : x1.i < l.length := by omega
      have d2 : ¬ x1.k = m.length := by omega
      simp [inE, d1, d2]
    · simp
    · have d1 : ¬ x1.i < l.length := by omega
      simp [inE, d1]
    · simp
  · obtain ⟨e1, e2⟩ := r1
    obtain ⟨e3, e4⟩ := r2
    have e1 : x.i = x2.i := by omega
    have e2 : x.k = x2.k := by omega
    rw [e1, e2]
    have hh := x2.h
    refine brS_of (fun c1 => brS_of (fun c2 => ⟨⟨⟨⟨x2.i, x2.k, x2.out, x2.inP, true, x2.h⟩, x2.hp⟩, ?_⟩, ?_⟩) fun c2 => ⟨by omega, ?_, by omega, ?_, ⟨⟨⟨x2.i, x2.k, x2.out, x2.inP, decide ((eA m x2.k).1 ≤ (eA l x2.i).1), x2.h⟩, x2.hp⟩, ?_⟩, ?_⟩) fun c1 => ⟨⟨⟨⟨x2.i, x2.k, x2.out, x2.inP, false, x2.h⟩, x2.hp⟩, ?_⟩, ?_⟩
    all_goals try simp only [decide_eq_true_eq, decide_eq_false_iff_not, beq_iff_eq, beq_eq_false_iff_ne, ne_eq] at c1 c2
    all_goals try simp only [decide_eq_false_iff_not] at c1
    · have d1 : x2.k < m.length := by omega
      have d2 : x2.i = l.length := by omega
      simp [inE, d1, d2]
    · simp
    · omega
    · omega
    · have d1 : x2.k < m.length := by omega
      have d2 : ¬ x2.i = l.length := by omega
      simp [inE, d1, d2]
    · simp
    · have d1 : ¬ x2.k < m.length := by omega
      simp [inE, d1]
    · simp
  · obtain ⟨e1, e2⟩ := r1
    obtain ⟨e3, e4, e5⟩ := r3
    have hne : x.i < l.length ∨ x.k < m.length := by
      have hg := x1.hg
      rw [hgo] at hg
      have hg := hg.symm
      simp only [Bool.or_eq_true, decide_eq_true_eq] at hg
      omega
    have e3 : x3.i = x.i := by omega
    have e4 : x3.k = x.k := by omega
    have hP : x2.inP = inE l m x.i x.k := by rw [e5, x3.hp, e3, e4]
    have hQ : x3.inQ = inE m l x.k x.i := by rw [x3.hq, e3, e4]
    have hG := x3.h
    rw [e3, e4] at hG
    obtain ⟨g1, g2, g3, hb, _⟩ := pE_next hG.1 hG.2.1 hne hP hQ
    have hl : x3.out.length ≤ 2000000 := by omega
    have w1 : x.i < l.length → IntKind.i64.wrap ((x.i : Int) + 1) = ((x.i + 1 : Nat) : Int) := fun hlt => wrap_next hlt (by omega)
    have w2 : x.k < m.length → IntKind.i64.wrap ((x.k : Int) + 1) = ((x.k + 1 : Nat) : Int) := fun hlt => wrap_next hlt (by omega)
    refine brS_of (fun a1 => ⟨by omega, ?_, by omega, ?_, brS_of (fun a2 => ⟨by omega, ?_, by omega, ?_, fun d ok hR => ?_⟩) fun a2 => fun d ok hR => ?_⟩) fun a1 => brS_of (fun a2 => ⟨by omega, ?_, by omega, ?_, fun d ok hR => ?_⟩) fun a2 => fun d ok hR => ?_
    · have := g2 a1; omega
    · have := g2 a1; omega
    · have := g3 a2; omega
    · have := g3 a2; omega
    · skip
      have hc := chgR_some (x := some (eA l x.i).2) (y := some (eA m x.k).2) hR
      have z := btw_step hG hne hP hQ (d := d) (ok := ok) (key := (eA m x.k).1) (by rw [a1, a2] <;> exact hb a1 a2) (by rw [a1, a2]; exact hc)
      rw [a1, a2] at z
      simp only [inc, if_true, Bool.false_eq_true, if_false] at z
      have := g2 a1
      have := g3 a2
      rw [w1 (g2 a1), w2 (g3 a2)]
      refine brS_of (fun b1 => ⟨?_, ⟨⟨_, _, x3.out ++ [d], false, false, z.1, z.2.1, z.2.2 _ (by rw [b1]; rfl)⟩, ?_⟩⟩) fun b1 => ⟨⟨_, _, x3.out, false, false, z.1, z.2.1, z.2.2 _ (by rw [b1]; simp)⟩, ?_⟩
      · simp only [List.length_singleton]; omega
      · simp; omega
      · simp; omega
    · skip
      have hc := chgR_some (x := some (eA l x.i).2) (y := none) hR
      have z := btw_step hG hne hP hQ (d := d) (ok := ok) (key := (eA l x.i).1) (by rw [a1, a2] <;> rfl) (by rw [a1, a2]; exact hc)
      rw [a1, a2] at z
      simp only [inc, if_true, Bool.false_eq_true, if_false] at z
      have := g2 a1
      skip
      rw [w1 (g2 a1)]
      refine brS_of (fun b1 => ⟨?_, ⟨⟨_, _, x3.out ++ [d], false, false, z.1, z.2.1, z.2.2 _ (by rw [b1]; rfl)⟩, ?_⟩⟩) fun b1 => ⟨⟨_, _, x3.out, false, false, z.1, z.2.1, z.2.2 _ (by rw [b1]; simp)⟩, ?_⟩
      · simp only [List.length_singleton]; omega
      · simp; omega
      · simp; omega
    · have := g3 a2; omega
    · have := g3 a2; omega
    · skip
      have hc := chgR_some (x := none) (y := some (eA m x.k).2) hR
      have z := btw_step hG hne hP hQ (d := d) (ok := ok) (key := (eA m x.k).1) (by rw [a1, a2] <;> rfl) (by rw [a1, a2]; exact hc)
      rw [a1, a2] at z
      simp only [inc, if_true, Bool.false_eq_true, if_false] at z
      skip
      have := g3 a2
      rw [w2 (g3 a2)]
      refine brS_of (fun b1 => ⟨?_, ⟨⟨_, _, x3.out ++ [d], false, false, z.1, z.2.1, z.2.2 _ (by rw [b1]; rfl)⟩, ?_⟩⟩) fun b1 => ⟨⟨_, _, x3.out, false, false, z.1, z.2.1, z.2.2 _ (by rw [b1]; simp)⟩, ?_⟩
      · simp only [List.length_singleton]; omega
      · simp; omega
      · simp; omega
    · rw [a1, a2] at g1; simp at g1
  · have hne : ¬ (x1.i < l.length ∨ x1.k < m.length) := by
      have hg := x1.hg
      rw [hgo] at hg
      have hg := hg.symm
      simp only [Bool.or_eq_false_iff, decide_eq_false_iff_not] at hg
      omega
    have hh := x1.h
    have e : btw l m = x1.out := by
      have h1 : x1.i = l.length := by omega
      have h2 : x1.k = m.length := by omega
      rw [hh.2.2.2, h1, h2, List.drop_length, List.drop_length]
      simp [pairs]
    exact h x1.out 0 (by simp at c1 c2; simp [btwR, c1, c2, e])
theorem s_btw : SoundT C0 37 tBtw := by
  refine .of Try.func37 (by decide) rfl fun args H K h hB => ?_
  unfold tBtw at h
  split at h <;> try exact h.elim
  rename_i l m
  exact ⟨aBtw l m, ⟨frame C0.ok s_asc _, frame C0.ok s_change _, trivial⟩, vc_btw l m K h.1 h.2⟩
end Go.Proofs.Ytdgodcamadalhaa.Sx
