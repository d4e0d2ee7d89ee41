/- A part of the proof. -/
import Derived.Test.YtbonbaccmlomhaaG4
section
/- The reference's lists: what their functions answer. -/
namespace Go.Proofs.Ytbonbaccmlomhaa.Sx
open Go

theorem wrap_in {x : Int} (h0 : -9223372036854775808 ≤ x) (h1 : x ≤ 9223372036854775807) : IntKind.i64.wrap x = x := by
  rw [IntKind.wrap_i64]; omega
def iA (p : List Int) (n : Nat) : Int := p.getD n 0
theorem drop_eq_iff {α : Type} {l m : List α} {k : Nat} {x y : α} (hl : l[k]? = some x) (hm : m[k]? = some y) : (l.drop k = m.drop k) ↔ x = y ∧ l.drop (k + 1) = m.drop (k + 1) := by
  rw [drop_cons hl, drop_cons hm, List.cons.injEq]
def sameB {α : Type} [DecidableEq α] (l m : List α) : Bool := decide (l = m)
structure XS {α : Type} [DecidableEq α] (l m : List α) where
  i : Nat
  h : i ≤ l.length ∧ l.length = m.length ∧ sameB l m = decide (l.drop i = m.drop i)
theorem XS.stop {α : Type} [DecidableEq α] {l m : List α} (z : XS l m) {x y : α} (hx : l[z.i]? = some x) (hy : m[z.i]? = some y) (hne : x ≠ y) : sameB l m = false := by
  rw [z.h.2.2]; apply decide_eq_false; rw [drop_eq_iff hx hy]; exact fun h => hne h.1
theorem XS.next {α : Type} [DecidableEq α] {l m : List α} (z : XS l m) {x y : α} (hx : l[z.i]? = some x) (hy : m[z.i]? = some y) (he : x = y) : ∃ z' : XS l m, z'.i = z.i + 1 := by
  have h1 := (List.getElem?_eq_some_iff.1 hx).1
  refine ⟨⟨z.i + 1, by omega, z.h.2.1, ?_⟩, rfl⟩
  rw [z.h.2.2]
  apply decide_eq_decide.2
  rw [drop_eq_iff hx hy]
  exact ⟨fun h => h.2, fun h => ⟨he, h⟩⟩
theorem XS.fin {α : Type} [DecidableEq α] {l m : List α} (z : XS l m) (h : z.i = l.length) : sameB l m = true := by
  rw [z.h.2.2, h, List.drop_length, z.h.2.1, List.drop_length]; rfl
noncomputable def aSame (e : EC) {α : Type} [DecidableEq α] (l m : List α) (L M : List (C0.α e)) : Ann C0 := { Γ := [], inv := fun n => match n with
  | 4 => some { X := XS l m, sl := [5], tf := fun x => [vi .i64 x.i], hf := fun _ => [.row false e L, .row false e M], μ := fun x => l.length - x.i }
  | _ => none }
def tSame_chg : Tfm C0 := fun args H K => match args, H with
  | [.at (.slc 0), .at (.slc 1)], [.row false .chg l, .row false .chg m] => K (.one (.at (vB (sameB (α := Chg) l m)))) [.row false EC.chg l, .row false EC.chg m] []
  | _, _ => False
def tSame_ent : Tfm C0 := fun args H K => match args, H with
  | [.at (.slc 0), .at (.slc 1)], [.row false .ent l, .row false .ent m] => K (.one (.at (vB (sameB (α := Ent) l m)))) [.row false EC.ent l, .row false EC.ent m] []
  | _, _ => False
def tSame_i64 : Tfm C0 := fun args H K => match args, H with
  | [.at (.slc 0), .at (.slc 1)], [.row false .i64 l, .row false .i64 m] => K (.one (.at (vB (sameB (α := Int) l m)))) [.row false EC.i64 l, .row false EC.i64 m] []
  | _, _ => False
theorem vc_sameC (l m : List Chg) (K : KT) (hmax : l.length ≤ 9223372036854775807) (h : K (.one (.at (vB (sameB l m)))) [.row false EC.chg l, .row false EC.chg m] []) :
    vc C0 (aSame EC.chg l m l m) Try.f61 [.at (.slc 0), .at (.slc 1)] [.row false EC.chg l, .row false EC.chg m] (normK 2 K) := by
  refine Eq.mp (show (brS ((↑l.length : Int) != (↑m.length : Int)) ((K (SV.one (TV.at (At.val (Value.bool false)))) [(Chunk.row false (EC.chg) (l)), (Chunk.row false (EC.chg) (m))] [])) (((∃ x : XS l m, (True ∧ (True ∧ True ∧ ((Value.int IntKind.i64 0) = (Value.int IntKind.i64 ((↑x.i : Int)))) ∧ True) ∧ ((l) = (l)) ∧ ((m) = (m)) ∧ True)) ∧ (∀ x : XS l m, (True → (brS (decide ((↑x.i : Int) < (↑l.length : Int))) (((0 ≤ (↑x.i : Int)) ∧ ((↑x.i : Int) < (↑l.length : Int)) ∧ (0 ≤ (↑x.i : Int)) ∧ ((↑x.i : Int) < (↑m.length : Int)) ∧ (brS (!((cA l x.i).kind == (cA m x.i).kind && ((cA l x.i).key == (cA m x.i).key && ((cA l x.i).old == (cA m x.i).old && ((cA l x.i).new == (cA m x.i).new && true))))) ((K (SV.one (TV.at (At.val (Value.bool false)))) [(Chunk.row false (EC.chg) (l)), (Chunk.row false (EC.chg) (m))] [])) ((∃ x' : XS l m, (True ∧ ((True ∧ True ∧ ((Value.int IntKind.i64 (IntKind.i64.wrap ((↑x.i : Int) + 1))) = (Value.int IntKind.i64 ((↑x'.i : Int)))) ∧ True) ∧ ((l) = (l)) ∧ ((m) = (m)) ∧ True) ∧ (l.length - x'.i < l.length - x.i))))))) ((K (SV.one (TV.at (At.val (Value.bool true)))) [(Chunk.row false (EC.chg) (l)), (Chunk.row false (EC.chg) (m))] [])))))))) = _ by kernel_rfl) ?_
  refine brS_of (fun hl => ?_) fun hl => ⟨⟨⟨0, Nat.zero_le _, by simp at hl; omega, rfl⟩, by simp⟩, fun x _ => brS_of (fun hi => ?_) fun hi => ?_⟩
  · have e : sameB l m = false := by
      apply decide_eq_false
      intro e
      subst e
      simp at hl
    rw [e] at h; exact h
  · have hi : x.i < l.length := by simpa using hi
    have hl := x.h.2.1
    have h1 := cA_get hi
    have h2 := cA_get (p := m) (n := x.i) (by omega)
    simp only [chg_eqB]
    refine ⟨by omega, by omega, by omega, by omega, brS_of (fun hd => ?_) fun hd => ?_⟩
    · have e := x.stop h1 h2 (by simpa using hd)
      rw [e] at h; exact h
    · obtain ⟨z, hz⟩ := x.next h1 h2 (by simpa using hd)
      refine ⟨z, trivial, ?_, ?_⟩
      · rw [wrap_in (by omega) (by omega), hz]; simp
      · show l.length - z.i < l.length - x.i
        omega
  · have hi : x.i = l.length := by have := x.h.1; simp at hi; omega
    have e := x.fin hi
    rw [e] at h; exact h
theorem s_sameC : SoundT C0 61 tSame_chg := by
  refine .of Try.func61 (by decide) rfl fun args H K h hB => ?_
  unfold tSame_chg at h
  split at h <;> try exact h.elim
  rename_i l m
  exact ⟨aSame EC.chg (α := Chg) l m l m, trivial, vc_sameC l m K (hB 0 _ _ _ rfl) h⟩
theorem asc_step {l : List Ent} {k : Nat} {x y : Ent} (hx : l[k]? = some x) (hy : l[k + 1]? = some y) : Asc (l.drop k) ↔ x.1 < y.1 ∧ Asc (l.drop (k + 1)) := by
  rw [drop_cons hx, drop_cons hy]
  constructor
  · intro h; exact ⟨h.head _ (by simp), h.tail⟩
  · rintro ⟨h1, h2⟩
    refine h2.cons fun z hz => ?_
    rcases List.mem_cons.1 hz with rfl | hz
    · exact h1
    · have := h2.head z hz; omega
structure XA (l : List Ent) where
  i : Nat
  h : 1 ≤ i ∧ (i ≤ l.length ∨ i = 1) ∧ (Asc l ↔ Asc (l.drop (i - 1)))
theorem XA.split {l : List Ent} (z : XA l) (hi : z.i < l.length) : (ascB l = true ↔ (eA l (z.i - 1)).1 < (eA l z.i).1 ∧ Asc (l.drop z.i)) := by
  obtain ⟨k, hk⟩ : ∃ k, z.i = k + 1 := ⟨z.i - 1, by have := z.h.1; omega⟩
  have h1 := eA_get (p := l) (n := k) (by omega)
  have h2 := eA_get (p := l) (n := k + 1) (by omega)
  have h3 := asc_step h1 h2
  have h4 := z.h.2.2
  rw [hk] at h4 ⊢
  simp only [Nat.add_sub_cancel] at h4 ⊢
  rw [ascB, decide_eq_true_eq, h4, h3]
theorem XA.fin {l : List Ent} (z : XA l) (hi : l.length ≤ z.i) : ascB l = true := by
  rw [ascB, decide_eq_true_eq, z.h.2.2]
  have : (l.drop (z.i - 1)).length ≤ 1 := by simp; omega
  match l.drop (z.i - 1), this with
  | [], _ => exact Srt.nil
  | [x], _ => exact Srt.nil.cons (by simp)
def tAsc : Tfm C0 := fun args H K => match args, H with
  | [.at (.slc 0)], [.row false .ent l] => K (.one (.at (vB (ascB l)))) [.row false EC.ent l] []
  | _, _ => False
noncomputable def aAsc (l : List Ent) : Ann C0 := { Γ := [], inv := fun n => match n with
  | 2 => some { X := XA l, sl := [3], tf := fun x => [vi .i64 x.i], hf := fun _ => [.row false EC.ent l], μ := fun x => l.length - x.i }
  | _ => none }
structure XGet (l : List Ent) (q : Int) where
  i : Nat
  h : i ≤ l.length ∧ getE l q = getE (l.drop i) q
noncomputable def aGet (l : List Ent) (q : Int) : Ann C0 := { Γ := [], inv := fun n => match n with
  | 2 => some { X := XGet l q, sl := [6], tf := fun x => [vi .i64 x.i], hf := fun _ => [.row false EC.ent l], μ := fun x => l.length - x.i }
  | _ => none }
def tGet : Tfm C0 := fun args H K => match args, H with
  | [.at (.slc 0), .at (.val (.int .i64 q))], [.row false .ent l] => ∀ x : Option Int, x = getE l q → K (.tup [.at (vI (x.getD 0)), .at (vB x.isSome)]) [.row false EC.ent l] []
  | _, _ => False
def outE (l : List Ent) (lo hi : Int) : List Ent := l.filter fun x => decide (x.1 < lo) || decide (hi < x.1)
structure XOut (l : List Ent) (lo hi : Int) where
  i : Nat
  h : i ≤ l.length
noncomputable def aOut (l : List Ent) (lo hi : Int) : Ann C0 := { Γ := [], inv := fun n => match n with
  | 3 => some { X := XOut l lo hi, sl := [8, 7], tf := fun x => [vi .i64 x.i, .one (.at (.slc 1))], hf := fun x => [.row false EC.ent l, .row true EC.ent (outE (l.take x.i) lo hi)], μ := fun x => l.length - x.i }
  | _ => none }
def tOut : Tfm C0 := fun args H K => match args, H with
  | [.at (.slc 0), .at (.val (.int .i64 lo)), .at (.val (.int .i64 hi))], [.row false .ent l] => l.length ≤ 1000000 ∧ K (.one (.at (.slc 1))) [.row false EC.ent l, .row true EC.ent (outE l lo hi)] []
  | _, _ => False
theorem outE_snoc {l : List Ent} {lo hi : Int} {i : Nat} {x : Ent} (h : l[i]? = some x) : outE (l.take (i + 1)) lo hi = outE (l.take i) lo hi ++ (if (decide (x.1 < lo) || decide (hi < x.1)) = true then [x] else []) := by
  rw [take_snoc h]
  unfold outE
  rw [List.filter_append]
  simp only [List.filter_cons, List.filter_nil]
theorem outE_len (l : List Ent) (lo hi : Int) (i : Nat) : (outE (l.take i) lo hi).length ≤ i := by
  unfold outE
  exact Nat.le_trans (List.length_filter_le _ _) (List.length_take_le _ _)
theorem vc_out (l : List Ent) (lo hi : Int) (K : KT) (hsm : l.length ≤ 1000000) (h : K (.one (.at (.slc 1))) [.row false EC.ent l, .row true EC.ent (outE l lo hi)] []) :
    vc C0 (aOut l lo hi) Try.f103 [.at (.slc 0), .at (.val (.int .i64 lo)), .at (.val (.int .i64 hi))] [.row false EC.ent l] (normK 1 K) := by
  refine Eq.mp (show ((∃ x : XOut l lo hi, (True ∧ (True ∧ ((Value.int IntKind.i64 (lo)) = (Value.int IntKind.i64 (lo))) ∧ ((Value.int IntKind.i64 (hi)) = (Value.int IntKind.i64 (hi))) ∧ True ∧ ((Value.int IntKind.i64 0) = (Value.int IntKind.i64 ((↑x.i : Int)))) ∧ True) ∧ ((l) = (l)) ∧ ([] = (outE (List.take x.i l) lo hi)) ∧ True)) ∧
(∀ x : XOut l lo hi, (True → (brS (decide ((↑x.i : Int) < (↑l.length : Int))) (((0 ≤ (↑x.i : Int)) ∧ ((↑x.i : Int) < (↑l.length : Int)) ∧ (brS (decide ((eA l x.i).fst < lo)) (((0 ≤ (↑x.i : Int)) ∧ ((↑x.i : Int) < (↑l.length : Int)) ∧ (((outE (List.take x.i l) lo hi).length + [((eA l x.i).fst, (eA l x.i).snd)].length) * bytesOf C0 EC.ent ≤ 140737488355328) ∧ (∃ x' : XOut l lo hi, (True ∧ ((True ∧ ((Value.int IntKind.i64 (lo)) = (Value.int IntKind.i64 (lo))) ∧ ((Value.int IntKind.i64 (hi)) = (Value.int IntKind.i64 (hi))) ∧ True ∧ ((Value.int IntKind.i64 (IntKind.i64.wrap ((↑x.i : Int) + 1))) = (Value.int IntKind.i64 ((↑x'.i : Int)))) ∧ True) ∧ ((l) = (l)) ∧ ((outE (List.take x.i l) lo hi ++ [((eA l x.i).fst, (eA l x.i).snd)]) = (outE (List.take x'.i l) lo hi)) ∧ True) ∧ (l.length - x'.i < l.length - x.i))))) (((0 ≤ (↑x.i : Int)) ∧ ((↑x.i : Int) < (↑l.length : Int)) ∧ (brS (decide ((eA l x.i).fst > hi)) (((0 ≤ (↑x.i : Int)) ∧ ((↑x.i : Int) < (↑l.length : Int)) ∧ (((outE (List.take x.i l) lo hi).length + [((eA l x.i).fst, (eA l x.i).snd)].length) * bytesOf C0 EC.ent ≤ 140737488355328) ∧ (∃ x' : XOut l lo hi, (True ∧ ((True ∧
    ((Value.int IntKind.i64 (lo)) = (Value.int IntKind.i64 (lo))) ∧ ((Value.int IntKind.i64 (hi)) = (Value.int IntKind.i64 (hi))) ∧ True ∧ ((Value.int IntKind.i64 (IntKind.i64.wrap ((↑x.i : Int) + 1))) = (Value.int IntKind.i64 ((↑x'.i : Int)))) ∧ True) ∧ ((l) = (l)) ∧ ((outE (List.take x.i l) lo hi ++ [((eA l x.i).fst, (eA l x.i).snd)]) = (outE (List.take x'.i l) lo hi)) ∧ True) ∧ (l.length - x'.i < l.length - x.i))))) ((∃ x' : XOut l lo hi, (True ∧ ((True ∧ ((Value.int IntKind.i64 (lo)) = (Value.int IntKind.i64 (lo))) ∧ ((Value.int IntKind.i64 (hi)) = (Value.int IntKind.i64 (hi))) ∧ True ∧ ((Value.int IntKind.i64 (IntKind.i64.wrap ((↑x.i : Int) + 1))) = (Value.int IntKind.i64 ((↑x'.i : Int)))) ∧ True) ∧ ((l) = (l)) ∧ ((outE (List.take x.i l) lo hi) = (outE (List.take x'.i l) lo hi)) ∧ True) ∧ (l.length - x'.i < l.length - x.i)))))))))) ((K (SV.one (TV.at (At.slc 1))) [(Chunk.row false (EC.ent) (l)), (Chunk.row true (EC.ent) (outE (List.take x.i l) lo hi))] [])))))) = _ by kernel_rfl) ?_
  refine ⟨⟨⟨0, Nat.zero_le _⟩, by simp [outE]⟩, fun x _ => brS_of (fun hi' => ?_) fun hi' => ?_⟩
  · have hi' : x.i < l.length := by simpa using hi'
    have hx := eA_get hi'
    have hs := outE_snoc (lo := lo) (hi := hi) hx
    have hlen := outE_len l lo hi x.i
    have nx : XOut l lo hi := ⟨x.i + 1, by omega⟩
    have w1 : IntKind.i64.wrap ((x.i : Int) + 1) = ((x.i + 1 : Nat) : Int) := by rw [wrap_in (by omega) (by omega)]; simp
    simp only [w1, bytes_ent]
    refine ⟨by omega, by omega, brS_of (fun h1 => ⟨by omega, by omega, ?_, ⟨⟨x.i + 1, by omega⟩, ?_⟩⟩) fun h1 => ⟨by omega, by omega, brS_of (fun h2 => ⟨by omega, by omega, ?_, ⟨⟨x.i + 1, by omega⟩, ?_⟩⟩) fun h2 => ⟨⟨x.i + 1, by omega⟩, ?_⟩⟩⟩
    · simp; omega
    · rw [if_pos (by simp only [decide_eq_true_eq] at h1; simp [h1])] at hs
      simp [hs]; omega
    · simp; omega
    · rw [if_pos (by simp only [decide_eq_true_eq] at h2; simp; omega)] at hs
      simp [hs]; omega
    · rw [if_neg (by simp only [decide_eq_false_iff_not] at h1 h2; simp; omega)] at hs
      simp [hs]; omega
  · have hi' : x.i = l.length := by have := x.h; simp at hi'; omega
    rw [hi', List.take_length]
    exact h
theorem s_out : SoundT C0 103 tOut := by
  refine .of Try.func103 (by decide) rfl fun args H K h hB => ?_
  unfold tOut at h
  split at h <;> try exact h.elim
  rename_i lo hi l
  exact ⟨aOut l lo hi, trivial, vc_out l lo hi K h.1 h.2⟩
structure XIns (l : List Ent) (e : Ent) where
  i : Nat
  acc : List Ent
  put : Bool
  h : i ≤ l.length ∧ acc.length ≤ i + put.toNat ∧ insE l e = acc ++ insGo e put (l.drop i)
noncomputable def aIns (l : List Ent) (e : Ent) : Ann C0 := { Γ := [], inv := fun n => match n with
  | 4 => some { X := XIns l e, sl := [7, 6, 5, 3], tf := fun x => [vi .i64 x.i, vb x.put, .one (.at (.slc 2)), .one (.at (.ptr 1 0))], hf := fun x => [.row false EC.ent l, .box [vI e.1, vI e.2], .row true EC.ent x.acc], μ := fun x => l.length - x.i }
  | _ => none }
def tIns : Tfm C0 := fun args H K => match args, H with
  | [.at (.slc 0), .agg [.val (.int .i64 k), .val (.int .i64 v)]], [.row false .ent l] => l.length ≤ 1000000 ∧ K (.one (.at (.slc 1))) [.row false EC.ent l, .row true EC.ent (insE l (k, v))] []
  | _, _ => False
theorem insGo_step {e x : Ent} {put : Bool} {l : List Ent} {i : Nat} (h : l[i]? = some x) : insGo e put (l.drop i) = (if !put && decide (e.1 ≤ x.1) then [e] else []) ++ ((if x.1 = e.1 then [] else [x]) ++ insGo e (put || decide (e.1 ≤ x.1)) (l.drop (i + 1))) := by
  rw [drop_cons h, insGo]
theorem XIns.next {l : List Ent} {e : Ent} (z : XIns l e) {x : Ent} (hx : l[z.i]? = some x) {put' : Bool} {acc' : List Ent} (hp : put' = (z.put || decide (e.1 ≤ x.1)))
    (ha : acc' = z.acc ++ ((if !z.put && decide (e.1 ≤ x.1) then [e] else []) ++ (if x.1 = e.1 then [] else [x]))) : ∃ z' : XIns l e, z'.i = z.i + 1 ∧ z'.put = put' ∧ z'.acc = acc' := by
  have h1 := (List.getElem?_eq_some_iff.1 hx).1
  obtain ⟨hi, hl, he⟩ := z.h
  rw [insGo_step hx] at he
  refine ⟨⟨z.i + 1, acc', put', by omega, ?_, ?_⟩, rfl, rfl, rfl⟩
  · subst hp ha
    have h2 : (if x.1 = e.1 then ([] : List Ent) else [x]).length ≤ 1 := by split <;> simp
    cases hz : z.put <;> rw [hz] at hl <;> by_cases hc : e.1 ≤ x.1 <;> simp [hc] at hl ⊢ <;> omega
  · subst hp ha
    rw [he]; simp only [List.append_assoc]
theorem XIns.fin {l : List Ent} {e : Ent} (z : XIns l e) (h : z.i = l.length) : insE l e = z.acc ++ (if z.put then [] else [e]) := by
  rw [z.h.2.2, h, List.drop_length]; rfl
theorem vc_ins (l : List Ent) (k v : Int) (K : KT) (hsm : l.length ≤ 1000000) (h : K (.one (.at (.slc 1))) [.row false EC.ent l, .row true EC.ent (insE l (k, v))] []) :
    vc C0 (aIns l (k, v)) Try.f60 [.at (.slc 0), .agg [.val (.int .i64 k), .val (.int .i64 v)]] [.row false EC.ent l] (normK 1 K) := by
  refine Eq.mp (show ((∃ x : XIns l (k, v), (True ∧ (True ∧ True ∧ True ∧ ((Value.bool false) = (Value.bool (x.put))) ∧ ((Value.int IntKind.i64 0) = (Value.int IntKind.i64 ((↑x.i : Int)))) ∧ True) ∧ ((l) = (l)) ∧ (((Value.int IntKind.i64 (k)) = (Value.int IntKind.i64 (k))) ∧ ((Value.int IntKind.i64 (v)) = (Value.int IntKind.i64 (v))) ∧ True) ∧ ([] = (x.acc)) ∧ True)) ∧
(∀ x : XIns l (k, v), (True → (brS (decide ((↑x.i : Int) < (↑l.length : Int))) ((brS (!x.put) (((0 ≤ (↑x.i : Int)) ∧ ((↑x.i : Int) < (↑l.length : Int)) ∧ (brS (decide ((eA l x.i).fst ≥ k)) ((((x.acc.length + [(k, v)].length) * bytesOf C0 EC.ent ≤ 140737488355328) ∧ (0 ≤ (↑x.i : Int)) ∧ ((↑x.i : Int) < (↑l.length : Int)) ∧ (brS ((eA l x.i).fst != k) (((0 ≤ (↑x.i : Int)) ∧ ((↑x.i : Int) < (↑l.length : Int)) ∧ (((x.acc ++ [(k, v)]).length + [((eA l x.i).fst, (eA l x.i).snd)].length) * bytesOf C0 EC.ent ≤ 140737488355328) ∧ (∃ x' : XIns l (k, v), (True ∧ ((True ∧ True ∧ True ∧ ((Value.bool true) = (Value.bool (x'.put))) ∧ ((Value.int IntKind.i64 (IntKind.i64.wrap ((↑x.i : Int) + 1))) = (Value.int IntKind.i64 ((↑x'.i : Int)))) ∧ True) ∧ ((l) = (l)) ∧ (((Value.int IntKind.i64 (k)) = (Value.int IntKind.i64 (k))) ∧ ((Value.int IntKind.i64 (v)) = (Value.int IntKind.i64 (v))) ∧ True) ∧ ((x.acc ++ [(k, v)] ++ [((eA l x.i).fst, (eA l x.i).snd)]) = (x'.acc)) ∧ True) ∧ (l.length - x'.i < l.length - x.i))))) ((∃ x' : XIns l (k, v), (True ∧ ((True ∧ True ∧ True ∧ ((Value.bool true) = (Value.bool (x'.put))) ∧
    ((Value.int IntKind.i64 (IntKind.i64.wrap ((↑x.i : Int) + 1))) = (Value.int IntKind.i64 ((↑x'.i : Int)))) ∧ True) ∧ ((l) = (l)) ∧ (((Value.int IntKind.i64 (k)) = (Value.int IntKind.i64 (k))) ∧ ((Value.int IntKind.i64 (v)) = (Value.int IntKind.i64 (v))) ∧ True) ∧ ((x.acc ++ [(k, v)]) = (x'.acc)) ∧ True) ∧ (l.length - x'.i < l.length - x.i))))))) (((0 ≤ (↑x.i : Int)) ∧ ((↑x.i : Int) < (↑l.length : Int)) ∧ (brS ((eA l x.i).fst != k) (((0 ≤ (↑x.i : Int)) ∧ ((↑x.i : Int) < (↑l.length : Int)) ∧ ((x.acc.length + [((eA l x.i).fst, (eA l x.i).snd)].length) * bytesOf C0 EC.ent ≤ 140737488355328) ∧ (∃ x' : XIns l (k, v), (True ∧ ((True ∧ True ∧ True ∧ ((Value.bool (x.put)) = (Value.bool (x'.put))) ∧ ((Value.int IntKind.i64 (IntKind.i64.wrap ((↑x.i : Int) + 1))) = (Value.int IntKind.i64 ((↑x'.i : Int)))) ∧ True) ∧ ((l) = (l)) ∧ (((Value.int IntKind.i64 (k)) = (Value.int IntKind.i64 (k))) ∧ ((Value.int IntKind.i64 (v)) = (Value.int IntKind.i64 (v))) ∧ True) ∧ ((x.acc ++ [((eA l x.i).fst, (eA l x.i).snd)]) = (x'.acc)) ∧ True) ∧ (l.length - x'.i < l.length - x.i))))) ((∃ x' : XIns l (k, v), (True ∧ ((True ∧ True ∧ True ∧ ((Value.bool (x.put)) = (Value.bool (x'.put))) ∧ ((Value.int IntKind.i64 (IntKind.i64.wrap ((↑x.i : Int) + 1))) = (Value.int IntKind.i64 ((↑x'.i : Int)))) ∧ True) ∧ ((l) = (l)) ∧ (((Value.int IntKind.i64 (k)) = (Value.int IntKind.i64 (k))) ∧ ((Value.int IntKind.i64 (v)) = (Value.int IntKind.i64 (v))) ∧ True) ∧ ((x.acc) = (x'.acc)) ∧ True) ∧
    (l.length - x'.i < l.length - x.i)))))))))) (((0 ≤ (↑x.i : Int)) ∧ ((↑x.i : Int) < (↑l.length : Int)) ∧ (brS ((eA l x.i).fst != k) (((0 ≤ (↑x.i : Int)) ∧ ((↑x.i : Int) < (↑l.length : Int)) ∧ ((x.acc.length + [((eA l x.i).fst, (eA l x.i).snd)].length) * bytesOf C0 EC.ent ≤ 140737488355328) ∧ (∃ x' : XIns l (k, v), (True ∧ ((True ∧ True ∧ True ∧ ((Value.bool (x.put)) = (Value.bool (x'.put))) ∧ ((Value.int IntKind.i64 (IntKind.i64.wrap ((↑x.i : Int) + 1))) = (Value.int IntKind.i64 ((↑x'.i : Int)))) ∧ True) ∧ ((l) = (l)) ∧ (((Value.int IntKind.i64 (k)) = (Value.int IntKind.i64 (k))) ∧ ((Value.int IntKind.i64 (v)) = (Value.int IntKind.i64 (v))) ∧ True) ∧ ((x.acc ++ [((eA l x.i).fst, (eA l x.i).snd)]) = (x'.acc)) ∧ True) ∧ (l.length - x'.i < l.length - x.i))))) ((∃ x' : XIns l (k, v), (True ∧ ((True ∧ True ∧ True ∧ ((Value.bool (x.put)) = (Value.bool (x'.put))) ∧ ((Value.int IntKind.i64 (IntKind.i64.wrap ((↑x.i : Int) + 1))) = (Value.int IntKind.i64 ((↑x'.i : Int)))) ∧ True) ∧ ((l) = (l)) ∧ (((Value.int IntKind.i64 (k)) = (Value.int IntKind.i64 (k))) ∧ ((Value.int IntKind.i64 (v)) = (Value.int IntKind.i64 (v))) ∧ True) ∧ ((x.acc) = (x'.acc)) ∧ True) ∧ (l.length - x'.i < l.length - x.i))))))))) ((brS (!x.put) ((((x.acc.length + [(k, v)].length) * bytesOf C0 EC.ent ≤ 140737488355328) ∧ (K (SV.one (TV.at (At.slc 1))) [(Chunk.row false (EC.ent) (l)), (Chunk.row true (EC.ent) (x.acc ++ [(k, v)]))] [])))
    ((K (SV.one (TV.at (At.slc 1))) [(Chunk.row false (EC.ent) (l)), (Chunk.row true (EC.ent) (x.acc))] [])))))))) = _ by kernel_rfl) ?_
  refine ⟨⟨⟨0, [], false, Nat.zero_le _, by simp, by simp⟩, by simp⟩, fun x _ => brS_of (fun hi => ?_) fun hi => ?_⟩
  · have hi : x.i < l.length := by simpa using hi
    have hx := eA_get hi
    have hlen := x.h.2.1
    have hpt : x.put.toNat ≤ 1 := by cases x.put <;> decide
    have w1 : IntKind.i64.wrap ((x.i : Int) + 1) = ((x.i + 1 : Nat) : Int) := by rw [wrap_in (by omega) (by omega)]; simp
    simp only [w1, bytes_ent]
    have go : ∀ (put' : Bool) (acc' : List Ent), put' = (x.put || decide (k ≤ (eA l x.i).1)) → acc' = x.acc ++ ((if !x.put && decide (k ≤ (eA l x.i).1) then [(k, v)] else []) ++ (if (eA l x.i).1 = k then [] else [eA l x.i])) →
        ∃ z' : XIns l (k, v), z'.i = x.i + 1 ∧ z'.put = put' ∧ z'.acc = acc' := fun put' acc' hp ha => x.next hx hp ha
    refine brS_of (fun hp => ⟨by omega, by omega, brS_of (fun hc => ⟨?_, by omega, by omega, brS_of (fun hn => ⟨by omega, by omega, ?_, ?_⟩) fun hn => ?_⟩) fun hc => ⟨by omega, by omega, brS_of (fun hn => ⟨by omega, by omega, ?_, ?_⟩) fun hn => ?_⟩⟩) fun hp => ⟨by omega, by omega, brS_of (fun hn => ⟨by omega, by omega, ?_, ?_⟩) fun hn => ?_⟩
    all_goals try simp only [decide_eq_true_eq, decide_eq_false_iff_not, bne_iff_ne, ne_eq, Bool.not_eq_true', Bool.not_eq_false', bne_eq_false_iff_eq, ge_iff_le] at *
    all_goals first
      | (simp; omega)
      | (obtain ⟨z', e1, e2, e3⟩ := go _ _ rfl rfl
         refine ⟨z', ?_⟩
         simp [*]
         omega)
  · have hi : x.i = l.length := by have := x.h.1; simp at hi; omega
    have hf := x.fin hi
    have hlen := x.h.2.1
    have hpt : x.put.toNat ≤ 1 := by cases x.put <;> decide
    refine brS_of (fun hp => ⟨?_, ?_⟩) fun hp => ?_
    · simp [bytes_ent]; omega
    · simp at hp; rw [hp] at hf; simp at hf; rw [hf] at h; exact h
    · simp at hp; rw [hp] at hf; simp at hf; rw [hf] at h; exact h
theorem s_ins : SoundT C0 60 tIns := by
  refine .of Try.func60 (by decide) rfl fun args H K h hB => ?_
  unfold tIns at h
  split at h <;> try exact h.elim
  rename_i k v l
  exact ⟨aIns l (k, v), trivial, vc_ins l k v K h.1 h.2⟩
noncomputable def aDel : Ann C0 := { Γ := [(103, frameT [] tOut)] }
def tDel : Tfm C0 := fun args H K => match args, H with
  | [.at (.slc 0), .at (.val (.int .i64 q))], [.row false .ent l] => l.length ≤ 1000000 ∧ K (.one (.at (.slc 1))) [.row false EC.ent l, .row true EC.ent (outE l q q)] []
  | _, _ => False
theorem vc_del (l : List Ent) (q : Int) (K : KT) (h1 : l.length ≤ 1000000) (h2 : K (.one (.at (.slc 1))) [.row false EC.ent l, .row true EC.ent (outE l q q)] []) :
    vc C0 aDel Try.f58 [.at (.slc 0), .at (.val (.int .i64 q))] [.row false EC.ent l] (normK 1 K) := by
  have e : ((l.length ≤ 1000000) ∧
(K (SV.one (TV.at (At.slc 1))) [(Chunk.row false (EC.ent) (l)), (Chunk.row true (EC.ent) (outE l q q))] [])) = vc C0 aDel Try.f58 [.at (.slc 0), .at (.val (.int .i64 q))] [.row false EC.ent l] (normK 1 K) := by kernel_rfl
  rw [← e]
  exact ⟨h1, h2⟩
theorem s_del : SoundT C0 58 tDel := by
  refine .of Try.func58 (by decide) rfl fun args H K h hB => ?_
  unfold tDel at h
  split at h <;> try exact h.elim
  rename_i q l
  have hG : GOK C0 aDel.Γ := ⟨frame C0.ok s_out _, trivial⟩
  exact ⟨aDel, hG, vc_del l q K h.1 h.2⟩
structure XLst (l : List Ent) (most : Int) where
  i : Nat
  h : i ≤ l.length ∧ (i : Int) ≤ most
noncomputable def aLst (l : List Ent) (most : Int) : Ann C0 := { Γ := [(60, frameT [] tIns)], inv := fun n => match n with
  | 3 => some { X := XLst l most, sl := [6, 5], tf := fun x => [vi .i64 x.i, .one (.at (.slc 1))], hf := fun x => [.row false EC.ent l, .row true EC.ent (listE l x.i)], μ := fun x => l.length - x.i }
  | _ => none }
def tLst : Tfm C0 := fun args H K => match args, H with
  | [.at (.slc 0), .at (.val (.int .i64 most))], [.row false .ent l] => 0 ≤ most ∧ most ≤ 1000000 ∧ K (.one (.at (.slc 1))) [.row false EC.ent l, .row true EC.ent (listE l most.toNat)] []
  | _, _ => False
theorem listE_snoc {l : List Ent} {i : Nat} {x : Ent} (h : l[i]? = some x) : listE l (i + 1) = insE (listE l i) x := by
  unfold listE
  rw [take_snoc h]
  simp
theorem listE_full {l : List Ent} {n : Nat} (h : l.length ≤ n) : listE l n = listE l l.length := by
  unfold listE
  rw [List.take_of_length_le h, List.take_of_length_le (Nat.le_refl _)]
theorem vc_lst (l : List Ent) (most : Int) (K : KT) (hmax : l.length ≤ 9223372036854775807) (h0 : 0 ≤ most) (h1 : most ≤ 1000000) (h : K (.one (.at (.slc 1))) [.row false EC.ent l, .row true EC.ent (listE l most.toNat)] []) :
    vc C0 (aLst l most) Try.f36 [.at (.slc 0), .at (.val (.int .i64 most))] [.row false EC.ent l] (normK 1 K) := by
  refine Eq.mp (show ((∃ x : XLst l most, (True ∧ (True ∧ ((Value.int IntKind.i64 (most)) = (Value.int IntKind.i64 (most))) ∧ True ∧ ((Value.int IntKind.i64 0) = (Value.int IntKind.i64 ((↑x.i : Int)))) ∧ True) ∧ ((l) = (l)) ∧ ([] = (listE l x.i)) ∧ True)) ∧
(∀ x : XLst l most, (True → (brS (decide ((↑x.i : Int) < (↑l.length : Int))) ((brS (decide ((↑x.i : Int) < most)) (((0 ≤ (↑x.i : Int)) ∧ ((↑x.i : Int) < (↑l.length : Int)) ∧ ((listE l x.i).length ≤ 1000000) ∧ (∃ x' : XLst l most, (True ∧ ((True ∧ ((Value.int IntKind.i64 (most)) = (Value.int IntKind.i64 (most))) ∧ True ∧ ((Value.int IntKind.i64 (IntKind.i64.wrap ((↑x.i : Int) + 1))) = (Value.int IntKind.i64 ((↑x'.i : Int)))) ∧ True) ∧ ((l) = (l)) ∧ ((insE (listE l x.i) ((eA l x.i).fst, (eA l x.i).snd)) = (listE l x'.i)) ∧ True) ∧ (l.length - x'.i < l.length - x.i))))) ((K (SV.one (TV.at (At.slc 1))) [(Chunk.row false (EC.ent) (l)), (Chunk.row true (EC.ent) (listE l x.i))] [])))) ((K (SV.one (TV.at (At.slc 1))) [(Chunk.row false (EC.ent) (l)), (Chunk.row true (EC.ent) (listE l x.i))] [])))))) = _ by kernel_rfl) ?_
  refine ⟨⟨⟨0, Nat.zero_le _, h0⟩, by simp [listE]⟩, fun x _ => brS_of (fun hi => brS_of (fun hm => ?_) fun hm => ?_) fun hi => ?_⟩
  · have hi : x.i < l.length := by simpa using hi
    have hm : (x.i : Int) < most := by simpa using hm
    have hs := listE_snoc (eA_get hi)
    have hlen := (listE_spec l x.i).2
    have w1 : IntKind.i64.wrap ((x.i : Int) + 1) = ((x.i + 1 : Nat) : Int) := by rw [wrap_in (by omega) (by omega)]; simp
    simp only [w1]
    refine ⟨by omega, by omega, by omega, ⟨x.i + 1, by omega, by omega⟩, ?_⟩
    simp [hs]; omega
  · have e : most.toNat = x.i := by have := x.h.2; simp at hm; omega
    rw [e] at h; exact h
  · have hi : x.i = l.length := by have := x.h.1; simp at hi; omega
    have := x.h.2
    rw [listE_full (n := most.toNat) (by omega), ← hi] at h; exact h
theorem s_lst : SoundT C0 36 tLst := by
  refine .of Try.func36 (by decide) rfl fun args H K h hB => ?_
  unfold tLst at h
  split at h <;> try exact h.elim
  rename_i most l
  exact ⟨aLst l most, ⟨frame C0.ok s_ins _, trivial⟩, vc_lst l most K (hB 0 _ _ _ rfl) h.1 h.2.1 h.2.2⟩
def tChoose : Tfm C0 := fun args H K => match args, H with
  | [.at (.val (.int .i64 p)), .at (.val (.int .i64 v)), .at (.val (.int .i64 w))], [] => ∀ x, x = chooseP p v w → K (.one (.at (vI x))) [] []
  | _, _ => False
def tMod : Tfm C0 := fun args H K => match args, H with
  | [.at (.val (.int .i64 k)), .at (.val (.int .i64 n))], [] => 0 < n ∧ n ≤ 9223372036854775807 ∧ ∀ x, x = k % n → K (.one (.at (vI x))) [] []
  | _, _ => False
theorem s_mod : SoundT C0 26 tMod := by
  refine .of Try.func26 (by decide) rfl fun args H K h hB => ⟨A0, trivial, ?_⟩
  unfold tMod at h
  split at h <;> try exact h.elim
  rename_i k n
  obtain ⟨h0, h1, h⟩ := h
  have h := h _ rfl
  refine Eq.mp (show ((n ≠ 0) ∧
(brS (decide (k.tmod n < 0)) ((K (SV.one (TV.at (At.val (Value.int IntKind.i64 (IntKind.i64.wrap (k.tmod n + n)))))) [] [])) ((K (SV.one (TV.at (At.val (Value.int IntKind.i64 (k.tmod n))))) [] [])))) = _ by kernel_rfl) ⟨by omega, brS_of (fun e => ?_) fun e => ?_⟩
  all_goals simp only [decide_eq_true_eq, decide_eq_false_iff_not] at e
  · have e1 : k.tmod n + n = k % n := by
      rw [Int.tmod_eq_emod] at e ⊢
      split at e <;> rename_i hc
      · have := Int.emod_nonneg k (show n ≠ 0 by omega); omega
      · rw [if_neg hc]
        have : (n.natAbs : Int) = n := by omega
        omega
    have h2 := Int.emod_nonneg k (show n ≠ 0 by omega)
    have h3 := Int.emod_lt_of_pos k h0
    rw [e1, wrap_in (by omega) (by omega)]; exact h
  · have e1 : k.tmod n = k % n := by
      rw [Int.tmod_eq_emod] at e ⊢
      split at e <;> rename_i hc
      · rw [if_pos hc]; omega
      · have h3 := Int.emod_lt_of_pos k h0
        have : (n.natAbs : Int) = n := by omega
        omega
    rw [e1]; exact h
structure XN (n : Nat) where
  i : Nat
  h : i ≤ n
def kF (xs : List Int) (l : List Ent) (i : Nat) : List Ent := keysOf (xs ++ (l.take i).map Prod.fst)
theorem kF_snoc {xs : List Int} {l : List Ent} {i : Nat} {x : Ent} (h : l[i]? = some x) : kF xs l (i + 1) = insE (kF xs l i) (x.1, 0) := by
  unfold kF
  rw [take_snoc h, List.map_append, ← List.append_assoc]
  exact keysOf_snoc _ _
theorem kF_len (xs : List Int) (l : List Ent) (i : Nat) : (kF xs l i).length ≤ xs.length + l.length := by
  have := (keysOf_spec (xs ++ (l.take i).map Prod.fst)).2.1
  unfold kF
  simp at this ⊢
  omega
theorem kF_zero (xs : List Int) (l : List Ent) : kF xs l 0 = keysOf xs := by simp [kF]
theorem kF_full (xs : List Int) (l : List Ent) : kF xs l l.length = keysOf (xs ++ l.map Prod.fst) := by simp [kF]
noncomputable def aKeys (l m n : List Ent) : Ann C0 := { Γ := [(60, frameT [] tIns)], inv := fun k => match k with
  | 3 => some { X := XN l.length, sl := [8, 7], tf := fun x => [vi .i64 x.i, .one (.at (.slc 3))], hf := fun x => [.row false EC.ent l, .row false EC.ent m, .row false EC.ent n, .row true EC.ent (kF [] l x.i)], μ := fun x => l.length - x.i }
  | 7 => some { X := XN m.length, sl := [9, 7], tf := fun x => [vi .i64 x.i, .one (.at (.slc 3))], hf := fun x => [.row false EC.ent l, .row false EC.ent m, .row false EC.ent n, .row true EC.ent (kF (l.map Prod.fst) m x.i)], μ := fun x => m.length - x.i }
  | 11 => some { X := XN n.length, sl := [10, 7], tf := fun x => [vi .i64 x.i, .one (.at (.slc 3))], hf := fun x => [.row false EC.ent l, .row false EC.ent m, .row false EC.ent n, .row true EC.ent (kF (l.map Prod.fst ++ m.map Prod.fst) n x.i)], μ := fun x => n.length - x.i }
  | 16 => some { X := XN (kF (l.map Prod.fst ++ m.map Prod.fst) n n.length).length, sl := [12, 7, 11], tf := fun x => [vi .i64 x.i, .one (.at (.slc 3)), .one (.at (.slc 4))], hf := fun x => [.row false EC.ent l, .row false EC.ent m, .row false EC.ent n, .row true EC.ent (kF (l.map Prod.fst ++ m.map Prod.fst) n n.length), .row true EC.i64 (((kF (l.map Prod.fst ++ m.map Prod.fst) n n.length).take x.i).map Prod.fst)], μ := fun x => (kF (l.map Prod.fst ++ m.map Prod.fst) n n.length).length - x.i }
  | _ => none }
def tKeys : Tfm C0 := fun args H K => match args, H with
  | [.at (.slc 0), .at (.slc 1), .at (.slc 2)], [.row false .ent l, .row false .ent m, .row false .ent n] => l.length + m.length + n.length ≤ 1000000 ∧ K (.one (.at (.slc 3))) [.row false EC.ent l, .row false EC.ent m, .row false EC.ent n, .row true EC.i64 (keys3 l m n)] []
  | _, _ => False
theorem keys3_eq (l m n : List Ent) : keys3 l m n = (kF (l.map Prod.fst ++ m.map Prod.fst) n n.length).map Prod.fst := by
  rw [kF_full]; simp [keys3]
set_option maxHeartbeats 1000000 in
theorem vc_keys (l m n : List Ent) (K : KT) (hsm : l.length + m.length + n.length ≤ 1000000) (h : K (.one (.at (.slc 3))) [.row false EC.ent l, .row false EC.ent m, .row false EC.ent n, .row true EC.i64 (keys3 l m n)] []) :
    vc C0 (aKeys l m n) Try.f17 [.at (.slc 0), .at (.slc 1), .at (.slc 2)] [.row false EC.ent l, .row false EC.ent m, .row false EC.ent n] (normK 3 K) := by
  refine Eq.mp (show ((∃ x : XN l.length, (True ∧ (True ∧ True ∧ True ∧ True ∧ ((Value.int IntKind.i64 0) = (Value.int IntKind.i64 ((↑x.i : Int)))) ∧ True) ∧ ((l) = (l)) ∧ ((m) = (m)) ∧ ((n) = (n)) ∧ ([] = (kF [] l x.i)) ∧ True)) ∧
(∀ x : XN l.length, (True → (brS (decide ((↑x.i : Int) < (↑l.length : Int))) (((0 ≤ (↑x.i : Int)) ∧ ((↑x.i : Int) < (↑l.length : Int)) ∧ ((kF [] l x.i).length ≤ 1000000) ∧ (∃ x' : XN l.length, (True ∧ ((True ∧ True ∧ True ∧ True ∧ ((Value.int IntKind.i64 (IntKind.i64.wrap ((↑x.i : Int) + 1))) = (Value.int IntKind.i64 ((↑x'.i : Int)))) ∧ True) ∧ ((l) = (l)) ∧ ((m) = (m)) ∧ ((n) = (n)) ∧ ((insE (kF [] l x.i) ((eA l x.i).fst, 0)) = (kF [] l x'.i)) ∧ True) ∧ (l.length - x'.i < l.length - x.i))))) (((∃ x1 : XN m.length, (True ∧ (True ∧ True ∧ True ∧ ((Value.int IntKind.i64 0) = (Value.int IntKind.i64 ((↑x1.i : Int)))) ∧ True) ∧ ((l) = (l)) ∧ ((m) = (m)) ∧ ((n) = (n)) ∧ ((kF [] l x.i) = (kF (List.map Prod.fst l) m x1.i)) ∧ True)) ∧ (∀ x1 : XN m.length, (True → (brS (decide ((↑x1.i : Int) < (↑m.length : Int))) (((0 ≤ (↑x1.i : Int)) ∧ ((↑x1.i : Int) < (↑m.length : Int)) ∧ ((kF (List.map Prod.fst l) m x1.i).length ≤ 1000000) ∧ (∃ x' : XN m.length, (True ∧ ((True ∧ True ∧ True ∧ ((Value.int IntKind.i64 (IntKind.i64.wrap ((↑x1.i : Int) + 1))) = (Value.int IntKind.i64 ((↑x'.i : Int)))) ∧ True) ∧ ((l) = (l)) ∧ ((m) = (m)) ∧ ((n) = (n)) ∧ ((insE (kF (List.map Prod.fst l) m x1.i) ((eA m x1.i).fst, 0)) = (kF (List.map Prod.fst l) m x'.i)) ∧ True) ∧
    (m.length - x'.i < m.length - x1.i))))) (((∃ x2 : XN n.length, (True ∧ (True ∧ True ∧ ((Value.int IntKind.i64 0) = (Value.int IntKind.i64 ((↑x2.i : Int)))) ∧ True) ∧ ((l) = (l)) ∧ ((m) = (m)) ∧ ((n) = (n)) ∧ ((kF (List.map Prod.fst l) m x1.i) = (kF (List.map Prod.fst l ++ List.map Prod.fst m) n x2.i)) ∧ True)) ∧ (∀ x2 : XN n.length, (True → (brS (decide ((↑x2.i : Int) < (↑n.length : Int))) (((0 ≤ (↑x2.i : Int)) ∧ ((↑x2.i : Int) < (↑n.length : Int)) ∧ ((kF (List.map Prod.fst l ++ List.map Prod.fst m) n x2.i).length ≤ 1000000) ∧ (∃ x' : XN n.length, (True ∧ ((True ∧ True ∧ ((Value.int IntKind.i64 (IntKind.i64.wrap ((↑x2.i : Int) + 1))) = (Value.int IntKind.i64 ((↑x'.i : Int)))) ∧ True) ∧ ((l) = (l)) ∧ ((m) = (m)) ∧ ((n) = (n)) ∧ ((insE (kF (List.map Prod.fst l ++ List.map Prod.fst m) n x2.i) ((eA n x2.i).fst, 0)) = (kF (List.map Prod.fst l ++ List.map Prod.fst m) n x'.i)) ∧ True) ∧ (n.length - x'.i < n.length - x2.i))))) (((∃ x3 : XN (kF (List.map Prod.fst l ++ List.map Prod.fst m) n n.length).length, (True ∧ (True ∧ True ∧ ((Value.int IntKind.i64 0) = (Value.int IntKind.i64 ((↑x3.i : Int)))) ∧ True) ∧ ((l) = (l)) ∧ ((m) = (m)) ∧ ((n) = (n)) ∧ ((kF (List.map Prod.fst l ++ List.map Prod.fst m) n x2.i) = (kF (List.map Prod.fst l ++ List.map Prod.fst m) n n.length)) ∧ ([] = (List.map Prod.fst (List.take x3.i (kF (List.map Prod.fst l ++ List.map Prod.fst m) n n.length)))) ∧ True)) ∧ (∀ x3 : XN (kF (List.map Prod.fst l ++ List.map Prod.fst m) n n.length).length, (True →
    (brS (decide ((↑x3.i : Int) < (↑(kF (List.map Prod.fst l ++ List.map Prod.fst m) n n.length).length : Int))) (((0 ≤ (↑x3.i : Int)) ∧ ((↑x3.i : Int) < (↑(kF (List.map Prod.fst l ++ List.map Prod.fst m) n n.length).length : Int)) ∧ (((List.map Prod.fst (List.take x3.i (kF (List.map Prod.fst l ++ List.map Prod.fst m) n n.length))).length + [(eA (kF (List.map Prod.fst l ++ List.map Prod.fst m) n n.length) x3.i).fst].length) * bytesOf C0 EC.i64 ≤ 140737488355328) ∧ (∃ x' : XN (kF (List.map Prod.fst l ++ List.map Prod.fst m) n n.length).length, (True ∧ ((True ∧ True ∧ ((Value.int IntKind.i64 (IntKind.i64.wrap ((↑x3.i : Int) + 1))) = (Value.int IntKind.i64 ((↑x'.i : Int)))) ∧ True) ∧ ((l) = (l)) ∧ ((m) = (m)) ∧ ((n) = (n)) ∧ ((kF (List.map Prod.fst l ++ List.map Prod.fst m) n n.length) = (kF (List.map Prod.fst l ++ List.map Prod.fst m) n n.length)) ∧ ((List.map Prod.fst (List.take x3.i (kF (List.map Prod.fst l ++ List.map Prod.fst m) n n.length)) ++ [(eA (kF (List.map Prod.fst l ++ List.map Prod.fst m) n n.length) x3.i).fst]) = (List.map Prod.fst (List.take x'.i (kF (List.map Prod.fst l ++ List.map Prod.fst m) n n.length)))) ∧ True) ∧ ((kF (List.map Prod.fst l ++ List.map Prod.fst m) n n.length).length - x'.i < (kF (List.map Prod.fst l ++ List.map Prod.fst m) n n.length).length - x3.i)))))
    ((K (SV.one (TV.at (At.slc 3))) [(Chunk.row false (EC.ent) (l)), (Chunk.row false (EC.ent) (m)), (Chunk.row false (EC.ent) (n)), (Chunk.row true (EC.i64) (List.map Prod.fst (List.take x3.i (kF (List.map Prod.fst l ++ List.map Prod.fst m) n n.length))))] []))))))))))))))))))))) = _ by kernel_rfl) ?_
  have nxt : ∀ {k i : Nat}, i < k → k ≤ 1000000 → IntKind.i64.wrap ((i : Int) + 1) = ((i + 1 : Nat) : Int) := fun {k i} h1 h2 => by rw [wrap_in (by omega) (by omega)]; simp
  refine ⟨⟨⟨0, Nat.zero_le _⟩, by simp [kF_zero, keysOf]⟩, fun x _ => brS_of (fun hi => ?_) fun hi => ?_⟩
  · have hi : x.i < l.length := by simpa using hi
    have hs := kF_snoc (xs := []) (eA_get hi)
    have hlen := kF_len [] l x.i
    simp only [nxt hi (by omega)]
    refine ⟨by omega, by omega, by simp at hlen; omega, ⟨x.i + 1, by omega⟩, ?_⟩
    simp [hs]; omega
  have hi : x.i = l.length := by have := x.h; simp at hi; omega
  refine ⟨⟨⟨0, Nat.zero_le _⟩, by simp [kF_zero, hi, kF_full]⟩, fun x _ => brS_of (fun hi => ?_) fun hi => ?_⟩
  · have hi : x.i < m.length := by simpa using hi
    have hs := kF_snoc (xs := l.map Prod.fst) (eA_get hi)
    have hlen := kF_len (l.map Prod.fst) m x.i
    simp only [nxt hi (by omega)]
    refine ⟨by omega, by omega, by simp at hlen; omega, ⟨x.i + 1, by omega⟩, ?_⟩
    simp [hs]; omega
  have hi : x.i = m.length := by have := x.h; simp at hi; omega
  refine ⟨⟨⟨0, Nat.zero_le _⟩, by simp [kF_zero, hi, kF_full]⟩, fun x _ => brS_of (fun hi => ?_) fun hi => ?_⟩
  · have hi : x.i < n.length := by simpa using hi
    have hs := kF_snoc (xs := l.map Prod.fst ++ m.map Prod.fst) (eA_get hi)
    have hlen := kF_len (l.map Prod.fst ++ m.map Prod.fst) n x.i
    simp only [nxt hi (by omega)]
    refine ⟨by omega, by omega, by simp at hlen; omega, ⟨x.i + 1, by omega⟩, ?_⟩
    simp [hs]; omega
  have hi : x.i = n.length := by have := x.h; simp at hi; omega
  have hlen := kF_len (l.map Prod.fst ++ m.map Prod.fst) n n.length
  rw [hi]
  rw [keys3_eq] at h
  generalize kF (l.map Prod.fst ++ m.map Prod.fst) n n.length = all at *
  simp at hlen
  refine ⟨⟨⟨0, Nat.zero_le _⟩, by simp⟩, fun x _ => brS_of (fun hi => ?_) fun hi => ?_⟩
  · have hi : x.i < all.length := by simpa using hi
    have hs := take_snoc (eA_get hi)
    simp only [nxt hi (by omega), bytes_i64]
    refine ⟨by omega, by omega, by simp; omega, ⟨x.i + 1, by omega⟩, ?_⟩
    simp [hs]; omega
  · have hi : x.i = all.length := by have := x.h; simp at hi; omega
    have h2 : ∀ z : List Int, z = all.map Prod.fst → K (.one (.at (.slc 3))) [.row false EC.ent l, .row false EC.ent m, .row false EC.ent n, .row true EC.i64 z] [] := fun z hz => by subst hz; exact h
    exact h2 _ (by rw [hi]; exact congrArg (List.map Prod.fst) (List.take_length (l := all)))
theorem s_keys : SoundT C0 17 tKeys := by
  refine .of Try.func17 (by decide) rfl fun args H K h hB => ?_
  unfold tKeys at h
  split at h <;> try exact h.elim
  rename_i l m n
  exact ⟨aKeys l m n, ⟨frame C0.ok s_ins _, trivial⟩, vc_keys l m n K h.1 h.2⟩
structure XU (l m : List Ent) (p : Int) where
  i : Nat
  h : i ≤ m.length
noncomputable def aUni (l m : List Ent) (p : Int) : Ann C0 := { rounds := fun n => if n = 3 then 1 else 0, Γ := [(60, frameT [] tIns), (47, frameT [] tGet), (81, frameT [] tChoose)], inv := fun k => match k with
  | 3 => some { X := XU l m p, sl := [8, 7], tf := fun x => [vi .i64 x.i, .one (.at (.slc 2))], hf := fun x => [.row false EC.ent l, .row false EC.ent m, .row true EC.ent (uniE l (m.take x.i) p)], μ := fun x => m.length - x.i }
  | _ => none }
def tUni : Tfm C0 := fun args H K => match args, H with
  | [.at (.slc 0), .at (.slc 1), .at (.val (.int .i64 p))], [.row false .ent l, .row false .ent m] => l.length + m.length ≤ 1000000 ∧ (m.length = 0 → K (.one (.at (.slc 0))) [.row false EC.ent l, .row false EC.ent m] []) ∧ K (.one (.at (.slc 2))) [.row false EC.ent l, .row false EC.ent m, .row true EC.ent (uniE l m p)] []
  | _, _ => False
def difD (k : Int) (a b : Option Int) : List Chg := match a with
  | none => [⟨1, k, 0, b.getD 0⟩]
  | some v => match b with
    | none => [⟨2, k, v, 0⟩]
    | some w => if v = w then [] else [⟨3, k, v, w⟩]
def dif1 (l m : List Ent) (k : Int) : List Chg := difD k (getE l k) (getE m k)
def difE (l m : List Ent) : List Chg := (keys3 l m []).flatMap (dif1 l m)
theorem dif1_len (l m : List Ent) (k : Int) : (dif1 l m k).length ≤ 1 := by
  unfold dif1 difD; repeat' split
  all_goals simp
theorem flatMap1_len {α β : Type} {f : α → List β} (h : ∀ x, (f x).length ≤ 1) (l : List α) : (l.flatMap f).length ≤ l.length := by
  induction l with
  | nil => simp
  | cons x l ih => have := h x; rw [List.flatMap_cons, List.length_append, List.length_cons]; omega
theorem difE_len (l m : List Ent) : (difE l m).length ≤ l.length + m.length := by
  have h1 := flatMap1_len (dif1_len l m) (keys3 l m [])
  have h2 := keys3_len l m []
  unfold difE
  rw [List.length_nil] at h2
  omega
theorem dif1_mk {l m : List Ent} {k : Int} (h : (getE l k).isSome = true ∨ (getE m k).isSome = true) : dif1 l m k = (mkChg k (getE l k) (getE m k)).toList := by
  unfold dif1 difD
  cases h1 : getE l k <;> cases h2 : getE m k <;> simp_all [mkChg]
  split <;> simp_all
theorem flatMap_congr' {α β : Type} {f g : α → List β} {l : List α} (h : ∀ x ∈ l, f x = g x) : l.flatMap f = l.flatMap g := by
  induction l with
  | nil => rfl
  | cons x l ih => rw [List.flatMap_cons, List.flatMap_cons, h x (by simp), ih fun y hy => h y (by simp [hy])]
theorem difE_btw {l m : List Ent} (hl : Asc l) (hm : Asc m) : difE l m = btw l m := by
  have hk := keys3_srt l m []
  have e : difE l m = (keys3 l m []).flatMap fun k => (mkChg k (getE l k) (getE m k)).toList := by
    unfold difE
    refine flatMap_congr' fun k hk => ?_
    rcases (keys3_mem l m [] k).1 hk with h | h | h
    · exact dif1_mk (.inl h)
    · exact dif1_mk (.inr h)
    · simp [getE] at h
  have hf : ∀ (x : Int) (y : Chg), mkChg x (getE l x) (getE m x) = some y → y.key = id x := fun x y h => (mkChg_some h).1
  refine Srt.ext (key := Chg.key) ?_ (btw_srt hl hm) fun k => ?_
  · rw [e]; exact flatOpt_srt (ka := id) (kb := Chg.key) _ hf hk
  · rw [e, flatOpt_fnd (ka := id) (kb := Chg.key) _ hf hk, btw_fnd hl hm, fnd_id]
    split
    · rfl
    · rename_i hn
      rw [keys3_mem] at hn
      have h1 : getE l k = none := by cases h : getE l k <;> simp_all
      have h2 : getE m k = none := by cases h : getE m k <;> simp_all
      rw [h1, h2]; rfl
structure XDif (l m : List Ent) where
  i : Nat
  h : i ≤ (keys3 l m []).length
noncomputable def aDif (l m : List Ent) : Ann C0 := { Γ := [(17, frameT [] tKeys), (47, frameT [] tGet)], inv := fun k => match k with
  | 4 => some { X := XDif l m, sl := [7, 6, 5], tf := fun x => [vi .i64 x.i, .one (.at (.slc 2)), .one (.at (.slc 3))], hf := fun x => [.row false EC.ent l, .row false EC.ent m, .row true EC.i64 (keys3 l m []), .row true EC.chg (((keys3 l m []).take x.i).flatMap (dif1 l m))], μ := fun x => (keys3 l m []).length - x.i }
  | _ => none }
def tDif : Tfm C0 := fun args H K => match args, H with
  | [.at (.slc 0), .at (.slc 1)], [.row false .ent l, .row false .ent m] => l.length + m.length ≤ 1000000 ∧ K (.one (.at (.slc 2))) [.row false EC.ent l, .row false EC.ent m, .row true EC.chg (difE l m)] []
  | _, _ => False
end Go.Proofs.Ytbonbaccmlomhaa.Sx
end
section
/- What is still to come of two trees, as plain data: what a walk through both finds is the patch between their lists. -/
namespace Go.Proofs.Ytbonbaccmlomhaa.Sx
open Go

def itZ : ItemT := ⟨0, 0, 0, 0, false⟩
def lastI (l : List ItemT) : ItemT := l.getLastD itZ
def pushL (S : Arn) (l : List ItemT) (i : Int) : List ItemT := if i = 0 then l else l ++ [⟨i, (S.nd i).size, 0, 0, false⟩]
def expL (S : Arn) (l : List ItemT) : List ItemT := pushL S (pushL S l.dropLast (S.nd (lastI l).index).right ++ [⟨0, 0, (S.nd (lastI l).index).key, (S.nd (lastI l).index).value, true⟩]) (S.nd (lastI l).index).left

inductive Part where
  | tr (t : Tr)
  | en (e : Ent)
def Part.list : Part → List Ent
  | .tr t => t.list
  | .en e => [e]
def Part.w : Part → Nat
  | .tr t => 2 * t.size
  | .en _ => 1
def flatP (ps : List Part) : List Ent := ps.flatMap Part.list
def wgt : List Part → Nat
  | [] => 0
  | p :: ps => p.w + wgt ps
def PartR (S : Arn) : Part → ItemT → Prop
  | .tr t, x => x.single = false ∧ S.us x.index = true ∧ Rep S t x.index ∧ x.size = t.size
  | .en e, x => x.single = true ∧ x.key = e.1 ∧ x.value = e.2
def StkR (S : Arn) : List Part → List ItemT → Prop
  | [], l => l = []
  | p :: ps, l => l ≠ [] ∧ PartR S p (lastI l) ∧ StkR S ps l.dropLast
def trP (t : Tr) (ps : List Part) : List Part := match t with
  | .nil => ps
  | .node .. => .tr t :: ps

variable {S : Arn} {hs : List Int}
theorem lastI_snoc (l : List ItemT) (x : ItemT) : lastI (l ++ [x]) = x := by simp [lastI]
theorem lastI_at {l : List ItemT} (h : l ≠ []) : l.dropLast ++ [lastI l] = l := by
  unfold lastI
  rw [List.getLastD_eq_getLast?, List.getLast?_eq_some_getLast h]
  exact List.dropLast_concat_getLast h
theorem StkR.push {ps : List Part} {l : List ItemT} (h : StkR S ps l) {p : Part} {x : ItemT} (hp : PartR S p x) : StkR S (p :: ps) (l ++ [x]) :=
  ⟨by simp, by rw [lastI_snoc]; exact hp, by rw [List.dropLast_concat]; exact h⟩
theorem flatP_trP (t : Tr) (ps : List Part) : flatP (trP t ps) = t.list ++ flatP ps := by
  cases t <;> simp [trP, flatP, Part.list, Tr.list]
theorem wgt_trP (t : Tr) (ps : List Part) : wgt (trP t ps) = 2 * t.size + wgt ps := by
  cases t <;> simp [trP, wgt, Part.w, Tr.size]
theorem StkR.tree (w : Wf S hs) {ps : List Part} {l : List ItemT} (h : StkR S ps l) {t : Tr} {i : Int} (hr : Rep S t i) : StkR S (trP t ps) (pushL S l i) := by
  cases t with
  | nil =>
    have : i = 0 := hr
    subst this
    simpa [trP, pushL] using h
  | node a k v b =>
    have hu := hr.1
    have := (w.pos hu).1
    rw [pushL, if_neg (by omega)]
    exact h.push (show PartR S (.tr (.node a k v b)) _ from ⟨rfl, hu, hr, hr.size w⟩)
theorem StkR.exp (w : Wf S hs) {a b : Tr} {k v : Int} {ps : List Part} {l : List ItemT} (h : StkR S (.tr (.node a k v b) :: ps) l) : StkR S (trP a (.en (k, v) :: trP b ps)) (expL S l) := by
  obtain ⟨_, ⟨_, _, ⟨_, h2, h3, h4, h5⟩, _⟩, h6⟩ := h
  exact ((h6.tree w h5).push (show PartR S (.en (k, v)) _ from ⟨rfl, h2, h3⟩)).tree w h4
theorem StkR.len (w : Wf S hs) : ∀ {ps : List Part} {l : List ItemT}, StkR S ps l → l.length ≤ wgt ps
  | [], l, h => by have : l = [] := h; simp [this]
  | p :: ps, l, h => by
    obtain ⟨h1, h2, h3⟩ := h
    have := StkR.len w h3
    have h4 := congrArg List.length (lastI_at h1)
    rw [List.length_append] at h4
    have : 1 ≤ p.w := by
      cases p with
      | en e => exact Nat.le_refl 1
      | tr t =>
        cases t with
        | nil =>
          have h5 : (lastI l).index = 0 := h2.2.2.1
          have := (w.pos h2.2.1).1
          omega
        | node a k v b => simp [Part.w, Tr.size]; omega
    simp only [wgt, List.length_singleton] at *
    omega
theorem StkR.empty {ps : List Part} (h : StkR S ps []) : ps = [] := by
  cases ps with
  | nil => rfl
  | cons p ps => exact absurd rfl h.1
theorem StkR.cons {ps : List Part} {l : List ItemT} (h : StkR S ps l) (hl : l ≠ []) : ∃ p qs, ps = p :: qs ∧ PartR S p (lastI l) ∧ StkR S qs l.dropLast := by
  cases ps with
  | nil => exact absurd h hl
  | cons p ps => exact ⟨p, ps, rfl, h.2⟩
theorem PartR.tree (w : Wf S hs) {p : Part} {x : ItemT} (h : PartR S p x) (hx : x.single = false) : ∃ a k v b, p = .tr (.node a k v b) ∧ S.us x.index = true ∧ Rep S (.node a k v b) x.index ∧ x.size = 1 + a.size + b.size := by
  cases p with
  | en e => have := h.1; rw [hx] at this; cases this
  | tr t =>
    cases t with
    | nil =>
      have h5 : x.index = 0 := h.2.2.1
      have := (w.pos h.2.1).1
      omega
    | node a k v b => exact ⟨a, k, v, b, rfl, h.2.1, h.2.2.1, by rw [h.2.2.2]; simp [Tr.size]⟩
theorem PartR.ent {p : Part} {x : ItemT} (h : PartR S p x) (hx : x.single = true) : p = .en (x.key, x.value) := by
  cases p with
  | en e => obtain ⟨_, h1, h2⟩ := h; rw [h1, h2]
  | tr t => have := h.1; rw [hx] at this; cases this

/-! ### What a visitor finds -/
def goV {σ : Type} (f : Chg → σ → σ × Bool) : σ → List Chg → σ
  | s, [] => s
  | s, c :: cs => if (f c s).2 then goV f (f c s).1 cs else (f c s).1
def stepV {σ : Type} (f : Chg → σ → σ × Bool) (cs : List Chg) (s : σ) : σ × Bool := match cs with
  | [] => (s, true)
  | c :: _ => f c s
theorem goV_step {σ : Type} (f : Chg → σ → σ × Bool) {cs : List Chg} (h : cs.length ≤ 1) (s : σ) (rest : List Chg) : goV f s (cs ++ rest) = if (stepV f cs s).2 then goV f (stepV f cs s).1 rest else (stepV f cs s).1 := by
  match cs, h with
  | [], _ => simp [stepV]
  | [c], _ => rfl
/-- What a pair says. -/
def pairC (k l r : Int) (inL inR : Bool) : List Chg := if inL then (if inR then (if l = r then [] else [⟨3, k, l, r⟩]) else [⟨2, k, l, 0⟩]) else [⟨1, k, 0, r⟩]
theorem pairC_len (k l r : Int) (a b : Bool) : (pairC k l r a b).length ≤ 1 := by
  unfold pairC; repeat' split
  all_goals simp
theorem pE_common (l A B : List Ent) : pE (l ++ A) (l ++ B) = l.map (fun x => (some x, some x)) ++ pE A B := by
  induction l with
  | nil => rfl
  | cons x l ih =>
    show pairs Prod.fst Prod.fst (x :: (l ++ A)) (x :: (l ++ B)) = _
    rw [pairs, if_neg (by omega), if_neg (by omega)]
    exact congrArg _ ih
theorem btw_common (l A B : List Ent) : btw (l ++ A) (l ++ B) = btw A B := by
  unfold btw
  rw [pE_common, List.flatMap_append]
  have : (l.map fun x => (some x, some x)).flatMap btw1 = [] := by
    rw [List.flatMap_eq_nil_iff]
    intro z hz
    obtain ⟨x, _, rfl⟩ := List.mem_map.1 hz
    simp [btw1, mkChg]
  rw [this]; rfl
theorem btw_left (e : Ent) (A : List Ent) : btw (e :: A) [] = pairC e.1 e.2 0 true false ++ btw A [] := by
  unfold btw pE
  rw [pairs, List.flatMap_cons]
  rfl
theorem btw_right (e : Ent) (B : List Ent) : btw [] (e :: B) = pairC e.1 0 e.2 false true ++ btw [] B := by
  unfold btw pE
  rw [pairs, List.flatMap_cons]
  rfl
theorem btw_lt {e f : Ent} (h : e.1 < f.1) (A B : List Ent) : btw (e :: A) (f :: B) = pairC e.1 e.2 0 true false ++ btw A (f :: B) := by
  unfold btw pE
  rw [pairs, if_pos h, List.flatMap_cons]
  rfl
theorem btw_gt {e f : Ent} (h : f.1 < e.1) (A B : List Ent) : btw (e :: A) (f :: B) = pairC f.1 0 f.2 false true ++ btw (e :: A) B := by
  unfold btw pE
  rw [pairs, if_neg (by omega), if_pos h, List.flatMap_cons]
  rfl
theorem btw_eq {e f : Ent} (h : e.1 = f.1) (A B : List Ent) : btw (e :: A) (f :: B) = pairC f.1 e.2 f.2 true true ++ btw A B := by
  unfold btw pE
  rw [pairs, if_neg (by omega), if_neg (by omega), List.flatMap_cons]
  congr 1
  simp only [btw1, mkChg, pkey, pairC, Option.map]
  split <;> simp_all

/-! ### The walk's steps -/
def wI (x : ItemT) : Nat := if x.single then 1 else 2 * x.size.toNat
def wL (l : List ItemT) : Nat := (l.map wI).sum
theorem wL_snoc (l : List ItemT) (x : ItemT) : wL (l ++ [x]) = wL l + wI x := by simp [wL]
theorem wL_last {l : List ItemT} (h : l ≠ []) : wL l = wL l.dropLast + wI (lastI l) := by
  conv => lhs; rw [← lastI_at h]
  exact wL_snoc _ _
theorem StkR.wgt : ∀ {ps : List Part} {l : List ItemT}, StkR S ps l → wL l = Sx.wgt ps
  | [], l, h => by have : l = [] := h; subst this; rfl
  | p :: ps, l, h => by
    obtain ⟨h1, h2, h3⟩ := h
    rw [wL_last h1, StkR.wgt h3, Sx.wgt]
    have : wI (lastI l) = p.w := by
      cases p with
      | en e => have := h2.1; simp [wI, this, Part.w]
      | tr t => have h4 := h2.1; have h5 := h2.2.2.2; simp [wI, h4, Part.w, h5]
    omega
structure PIn {σ : Type} (S : Arn) (f : Chg → σ → σ × Bool) (fin : σ) (sz : σ → Nat) (W Z : Nat) (l r : List ItemT) (s : σ) (m : Nat) : Prop where
  ex : ∃ ps qs, StkR S ps l ∧ StkR S qs r ∧ goV f s (btw (flatP ps) (flatP qs)) = fin
  rd : m + 3 * (wL l + wL r) ≤ 2 + 3 * W
  zs : sz s + (wL l + wL r) ≤ Z
section
variable {σ : Type} {f : Chg → σ → σ × Bool} {fin s : σ} {sz : σ → Nat} {W Z m : Nat} {l r : List ItemT}
theorem PIn.init (w : Wf S hs) {x y : Int} {t1 t2 : Tr} (h1 : Rep S t1 x) (h2 : Rep S t2 y) (hm : m ≤ 2) (hz : sz s + 2 * (t1.size + t2.size) ≤ Z) : PIn S f (goV f s (btw t1.list t2.list)) sz (2 * (t1.size + t2.size)) Z (pushL S [] x) (pushL S [] y) s m := by
  have a1 : StkR S (trP t1 []) (pushL S [] x) := StkR.tree w (show StkR S [] [] from rfl) h1
  have a2 : StkR S (trP t2 []) (pushL S [] y) := StkR.tree w (show StkR S [] [] from rfl) h2
  have e1 := a1.wgt
  have e2 := a2.wgt
  rw [wgt_trP] at e1 e2
  simp only [Sx.wgt] at e1 e2
  refine ⟨⟨_, _, a1, a2, ?_⟩, by omega, by omega⟩
  rw [flatP_trP, flatP_trP]
  simp [flatP]
theorem PIn.len (w : Wf S hs) (h : PIn S f fin sz W Z l r s m) : l.length ≤ Z ∧ r.length ≤ Z ∧ sz s ≤ Z ∧ m ≤ 2 + 3 * W := by
  obtain ⟨⟨ps, qs, h1, h2, _⟩, h3, h4⟩ := h
  have := h1.len w; have := h2.len w
  have := h1.wgt; have := h2.wgt
  omega
theorem PIn.done (h : PIn S f fin sz W Z [] [] s m) : s = fin := by
  obtain ⟨⟨ps, qs, h1, h2, h3⟩, _, _⟩ := h
  rw [h1.empty, h2.empty] at h3
  have e : btw (flatP []) (flatP []) = [] := by
    show btw [] [] = []
    unfold btw pE; rw [pairs]; rfl
  rw [e] at h3
  exact h3
theorem PIn.common (w : Wf S hs) (h : PIn S f fin sz W Z l r s m) (hl : l ≠ []) (hr : r ≠ []) (h1 : (lastI l).single = false) (h2 : (lastI r).single = false) (he : (lastI l).index = (lastI r).index) : PIn S f fin sz W Z l.dropLast r.dropLast s m ∧ wL l.dropLast + wL r.dropLast < wL l + wL r := by
  obtain ⟨⟨ps, qs, a1, a2, a3⟩, a4, a5⟩ := h
  obtain ⟨p, ps', rfl, b1, b2⟩ := a1.cons hl
  obtain ⟨q, qs', rfl, c1, c2⟩ := a2.cons hr
  obtain ⟨x, k, v, y, rfl, d1, d2, d3⟩ := b1.tree w h1
  obtain ⟨x', k', v', y', rfl, e1, e2, e3⟩ := c1.tree w h2
  rw [he] at d2
  have ei := Rep.inj (w.us0 (Int.le_refl 0)) d2 e2
  rw [← ei] at a3
  have f1 := wL_last hl
  have f2 := wL_last hr
  have f3 : 1 ≤ wI (lastI l) := by simp [wI, h1]; omega
  refine ⟨⟨⟨ps', qs', b2, c2, ?_⟩, by omega, by omega⟩, by omega⟩
  rw [← a3]
  simp only [flatP, List.flatMap_cons, Part.list]
  rw [btw_common]
theorem wL_exp (w : Wf S hs) {ps : List Part} {a b : Tr} {k v : Int} (h : StkR S (.tr (.node a k v b) :: ps) l) : wL (expL S l) + 1 = wL l := by
  have h1 := (h.exp w).wgt
  have h2 := h.wgt
  rw [wgt_trP] at h1
  simp only [Sx.wgt, Part.w, Tr.size] at h1 h2
  rw [wgt_trP] at h1
  omega
theorem flatP_exp (a b : Tr) (k v : Int) (ps : List Part) : flatP (trP a (.en (k, v) :: trP b ps)) = flatP (.tr (.node a k v b) :: ps) := by
  rw [flatP_trP]
  show a.list ++ ((k, v) :: flatP (trP b ps)) = _
  rw [flatP_trP]
  simp [flatP, Part.list, Tr.list]
theorem PIn.left (w : Wf S hs) (h : PIn S f fin sz W Z l r s m) (hl : l ≠ []) (h1 : (lastI l).single = false) : S.us (lastI l).index = true ∧ ∀ k, k ≤ 3 → PIn S f fin sz W Z (expL S l) r s (m + k) ∧ wL (expL S l) + wL r < wL l + wL r := by
  obtain ⟨⟨ps, qs, a1, a2, a3⟩, a4, a5⟩ := h
  obtain ⟨p, ps', rfl, b1, b2⟩ := a1.cons hl
  obtain ⟨x, k, v, y, rfl, d1, d2, d3⟩ := b1.tree w h1
  have e := wL_exp w a1
  refine ⟨d1, fun n hn => ⟨⟨⟨_, qs, a1.exp w, a2, ?_⟩, by omega, by omega⟩, by omega⟩⟩
  rw [flatP_exp]; exact a3
theorem PIn.right (w : Wf S hs) (h : PIn S f fin sz W Z l r s m) (hr : r ≠ []) (h1 : (lastI r).single = false) : S.us (lastI r).index = true ∧ ∀ k, k ≤ 3 → PIn S f fin sz W Z l (expL S r) s (m + k) ∧ wL l + wL (expL S r) < wL l + wL r := by
  obtain ⟨⟨ps, qs, a1, a2, a3⟩, a4, a5⟩ := h
  obtain ⟨p, qs', rfl, b1, b2⟩ := a2.cons hr
  obtain ⟨x, k, v, y, rfl, d1, d2, d3⟩ := b1.tree w h1
  have e := wL_exp w a2
  refine ⟨d1, fun n hn => ⟨⟨⟨ps, _, a1, a2.exp w, ?_⟩, by omega, by omega⟩, by omega⟩⟩
  rw [flatP_exp]; exact a3
def inL (l r : List ItemT) : Bool := decide (l ≠ []) && (decide (r = []) || decide ((lastI l).key ≤ (lastI r).key))
def popI (b : Bool) (l : List ItemT) : List ItemT := if b then l.dropLast else l
/-- The next pair: both tops are entries, or one stack is empty. -/
theorem PIn.visit (h : PIn S f fin sz W Z l r s m) (hsz : ∀ c s, sz (f c s).1 ≤ sz s + 1) (hne : ¬ (l = [] ∧ r = [])) (h1 : l ≠ [] → (lastI l).single = true) (h2 : r ≠ [] → (lastI r).single = true) (s' : σ) (b : Bool)
    (hv : (s', b) = stepV f (pairC (if inL r l then (lastI r).key else (lastI l).key) (if inL l r then (lastI l).value else 0) (if inL r l then (lastI r).value else 0) (inL l r) (inL r l)) s) :
    (b = false → s' = fin) ∧ (b = true → PIn S f fin sz W Z (popI (inL l r) l) (popI (inL r l) r) s' m) ∧ wL (popI (inL l r) l) + wL (popI (inL r l) r) < wL l + wL r := by
  obtain ⟨⟨ps, qs, a1, a2, a3⟩, a4, a5⟩ := h
  have key : ∀ (k x y : Int) (ps' qs' : List Part) (L R : List ItemT) (c d : Bool), (s', b) = stepV f (pairC k x y c d) s → btw (flatP ps) (flatP qs) = pairC k x y c d ++ btw (flatP ps') (flatP qs') → StkR S ps' L → StkR S qs' R → wL L + wL R < wL l + wL r →
      (b = false → s' = fin) ∧ (b = true → PIn S f fin sz W Z L R s' m) ∧ wL L + wL R < wL l + wL r := by
    intro k x y ps' qs' L R c d hv e b1 b2 b3
    rw [e, goV_step f (pairC_len _ _ _ _ _), ← hv] at a3
    have hs : sz s' ≤ sz s + 1 := by
      have hl := pairC_len k x y c d
      have e1 : s' = (stepV f (pairC k x y c d) s).1 := by rw [← hv]
      rw [e1]
      unfold stepV
      split
      · exact Nat.le_succ _
      · exact hsz _ _
    refine ⟨fun hb => ?_, fun hb => ⟨⟨ps', qs', b1, b2, ?_⟩, by omega, by omega⟩, b3⟩
    · rw [hb] at a3; simpa using a3
    · rw [hb] at a3; simpa using a3
  have w1 : l ≠ [] → wL l = wL l.dropLast + 1 := fun c => by rw [wL_last c]; simp [wI, h1 c]
  have w2 : r ≠ [] → wL r = wL r.dropLast + 1 := fun c => by rw [wL_last c]; simp [wI, h2 c]
  by_cases cl : l = []
  · have cr : r ≠ [] := fun c => hne ⟨cl, c⟩
    obtain ⟨q, qs', rfl, c1, c2⟩ := a2.cons cr
    have eq := c1.ent (h2 cr)
    subst cl
    have ep := a1.empty
    subst ep eq
    have i1 : inL [] r = false := by simp [inL]
    have i2 : inL r [] = true := by simp [inL, cr]
    rw [i1, i2] at hv ⊢
    refine key _ _ _ [] qs' _ _ _ _ hv ?_ a1 c2 ?_
    · exact btw_right _ _
    · have := w2 cr; simp [popI]; omega
  · obtain ⟨p, ps', rfl, b1, b2⟩ := a1.cons cl
    have ep := b1.ent (h1 cl)
    subst ep
    by_cases cr : r = []
    · subst cr
      have eq := a2.empty
      subst eq
      have i1 : inL l [] = true := by simp [inL, cl]
      have i2 : inL [] l = false := by simp [inL]
      rw [i1, i2] at hv ⊢
      refine key _ _ _ ps' [] _ _ _ _ hv ?_ b2 a2 ?_
      · exact btw_left _ _
      · have := w1 cl; simp [popI]; omega
    · obtain ⟨q, qs', rfl, c1, c2⟩ := a2.cons cr
      have eq := c1.ent (h2 cr)
      subst eq
      have v1 := w1 cl
      have v2 := w2 cr
      rcases Int.lt_trichotomy (lastI l).key (lastI r).key with hlt | heq | hgt
      · have i1 : inL l r = true := by simp [inL, cl, cr]; omega
        have i2 : inL r l = false := by simp [inL, cl, cr]; omega
        rw [i1, i2] at hv ⊢
        refine key _ _ _ ps' (_ :: qs') _ _ _ _ hv ?_ b2 a2 ?_
        · exact btw_lt hlt _ _
        · simp [popI]; omega
      · have i1 : inL l r = true := by simp [inL, cl, cr]; omega
        have i2 : inL r l = true := by simp [inL, cl, cr]; omega
        rw [i1, i2] at hv ⊢
        refine key _ _ _ ps' qs' _ _ _ _ hv ?_ b2 c2 ?_
        · exact btw_eq heq _ _
        · simp [popI]; omega
      · have i1 : inL l r = false := by simp [inL, cl, cr]; omega
        have i2 : inL r l = true := by simp [inL, cl, cr]; omega
        rw [i1, i2] at hv ⊢
        refine key _ _ _ (_ :: ps') qs' _ _ _ _ hv ?_ a1 c2 ?_
        · exact btw_gt hgt _ _
        · simp [popI]; omega
end
end Go.Proofs.Ytbonbaccmlomhaa.Sx
end
section
/- What is still to come of a tree: push, pop, top, expand. -/
namespace Go.Proofs.Ytbonbaccmlomhaa.Sx
open Go

/-KEEP Wf exW inU Arn.cap Arn.free rdS pushL lastI expL-/
abbrev chSd (l : List ItemT) (S : Arn) : List (Chunk C0) := [.box [.slc 2], .box [.ptr 3 0, .slc 4, .slc 5, vU64 S.reads], .row true EC.item l, .box [.slc 6, .slc 7, .slc 8, vU S.fresh], .row true EC.node S.nodes, .row true EC.int S.counts, .row true EC.bool S.used, .row true EC.u32 S.gen, .row true EC.u32 S.rel]
def sdM (H : List (Chunk C0)) (k : List ItemT → Arn → Prop) : Prop := match H with
  | [.box [.slc 2], .box [.ptr 3 0, .slc 4, .slc 5, .val (.int .u64 rd)], .row true .item l, .box [.slc 6, .slc 7, .slc 8, .val (.int .u32 fr)], .row true .node nd, .row true .int ct, .row true .bool us, .row true .u32 gn, .row true .u32 rl] => k l ⟨us, gn, rl, fr, nd, ct, rd⟩
  | _ => False
abbrev itA (x : ItemT) : TV := .agg [vU x.index, vI x.size, vI x.key, vI x.value, vB x.single]
noncomputable def aPush : Ann C0 := { Γ := [(49, frameT [] tSize)] }
def tPush : Tfm C0 := fun args H K => match args with
  | [.at (.ptr 0 0), .at (.ptr 1 0), .at (.val (.int .u32 i))] => sdM H fun l S => inU i ∧ exW S ∧ (i = 0 ∨ S.us i = true) ∧ S.reads < 4000000000000000000 ∧ l.length ≤ 1000000 ∧ ∀ l' S' m, l' = pushL S l i → S' = rdS S m → m ≤ 1 → K (.tup []) (chSd l' S') [0, 1, 2]
  | _ => False
noncomputable def aPop : Ann C0 := { Γ := [], trunc := fun n => n = 13 }
def tPop : Tfm C0 := fun args H K => match args, H with
  | [.at (.ptr 0 0)], [.box [.slc 1], .row true .item l] => 0 < l.length ∧ l.length ≤ 1000000 ∧ ∀ l', l' = l.dropLast → K (.tup []) [.box [.slc 1], .row true EC.item l'] [0, 1]
  | _, _ => False
def tTop : Tfm C0 := fun args H K => match args, H with
  | [.at (.ptr 0 0)], [.box [.slc 1], .row true .item l] => l.length ≤ 1000000 ∧ ∀ x b, x = lastI l → b = decide (l ≠ []) → K (.tup [itA x, .at (vB b)]) [.box [.slc 1], .row true EC.item l] []
  | _, _ => False
noncomputable def aExp : Ann C0 := { Γ := [(152, frameT [] tTop), (153, frameT [] tPop), (63, frameT [] tNode), (151, frameT [] tPush)] }
def tExp : Tfm C0 := fun args H K => match args with
  | [.at (.ptr 0 0), .at (.ptr 1 0)] => sdM H fun l S => 0 < l.length ∧ exW S ∧ S.us (lastI l).index = true ∧ S.reads ≤ 3000000000000000000 ∧ l.length ≤ 900000 ∧ ∀ l' S' m, l' = expL S l → S' = rdS S m → m ≤ 3 → K (.tup []) (chSd l' S') [0, 1, 2]
  | _ => False
theorem pushL_len (S : Arn) (l : List ItemT) (i : Int) : (pushL S l i).length ≤ l.length + 1 := by
  unfold pushL; split <;> simp
theorem vc_push (l : List ItemT) (S : Arn) (i : Int) (K : KT) (h1 : inU i) (h2 : exW S) (h3 : S.reads < 4000000000000000000) (h4 : l.length ≤ 1000000) (h : ∀ l' S' m, l' = pushL S l i → S' = rdS S m → m ≤ 1 → K (.tup []) (chSd l' S') [0, 1, 2]) :
    vc C0 aPush Try.f151 [.at (.ptr 0 0), .at (.ptr 1 0), .at (vU i)] (chSd l S) (normK 9 (wideK [0, 1, 2] K)) := by
  refine Eq.mp (show (brS (i != 0) ((((inU i) ∧ (exW S) ∧ (S.reads < 4000000000000000000) ∧ (∀ S' : Arn, (((S') = (rdS S (S.us i).toNat)) → (((l.length + [{ index := i, size := (S.nd i).size, key := 0, value := 0, single := false : ItemT }].length) * bytesOf C0 EC.item ≤ 140737488355328) ∧ (K (SV.tup []) [(Chunk.box [(At.slc 2)]), (Chunk.box [(At.ptr 3 0), (At.slc 4), (At.slc 5), (At.val (Value.int IntKind.u64 (S'.reads)))]), (Chunk.row true (EC.item) (l ++ [{ index := i, size := (S.nd i).size, key := 0, value := 0, single := false : ItemT }])), (Chunk.box [(At.slc 6), (At.slc 7), (At.slc 8), (At.val (Value.int IntKind.u32 (S'.fresh)))]), (Chunk.row true (EC.node) (S'.nodes)), (Chunk.row true (EC.int) (S'.counts)), (Chunk.row true (EC.bool) (S'.used)), (Chunk.row true (EC.u32) (S'.gen)), (Chunk.row true (EC.u32) (S'.rel))] [0, 1, 2]))))) ∧ (inU i) ∧ (exW S) ∧ (S.reads < 4000000000000000000) ∧ (∀ S' : Arn, (((S') = (rdS S (S.us i).toNat)) → ((((l.length + [{ index := i, size := (S.nd i).size, key := 0, value := 0, single := false : ItemT }].length) * bytesOf C0 EC.item ≤ 140737488355328) ∧
    (K (SV.tup []) [(Chunk.box [(At.slc 2)]), (Chunk.box [(At.ptr 3 0), (At.slc 4), (At.slc 5), (At.val (Value.int IntKind.u64 (S'.reads)))]), (Chunk.row true (EC.item) (l ++ [{ index := i, size := (S.nd i).size, key := 0, value := 0, single := false : ItemT }])), (Chunk.box [(At.slc 6), (At.slc 7), (At.slc 8), (At.val (Value.int IntKind.u32 (S'.fresh)))]), (Chunk.row true (EC.node) (S'.nodes)), (Chunk.row true (EC.int) (S'.counts)), (Chunk.row true (EC.bool) (S'.used)), (Chunk.row true (EC.u32) (S'.gen)), (Chunk.row true (EC.u32) (S'.rel))] [0, 1, 2])) ∧ ((l.length + [{ index := i, size := (S.nd i).size, key := 0, value := 0, single := false : ItemT }].length) * bytesOf C0 EC.item ≤ 140737488355328) ∧ (K (SV.tup []) [(Chunk.box [(At.slc 2)]), (Chunk.box [(At.ptr 3 0), (At.slc 4), (At.slc 5), (At.val (Value.int IntKind.u64 (S'.reads)))]), (Chunk.row true (EC.item) (l ++ [{ index := i, size := (S.nd i).size, key := 0, value := 0, single := false : ItemT }])), (Chunk.box [(At.slc 6), (At.slc 7), (At.slc 8), (At.val (Value.int IntKind.u32 (S'.fresh)))]), (Chunk.row true (EC.node) (S'.nodes)), (Chunk.row true (EC.int) (S'.counts)), (Chunk.row true (EC.bool) (S'.used)), (Chunk.row true (EC.u32) (S'.gen)), (Chunk.row true (EC.u32) (S'.rel))] [0, 1, 2]))))))
    ((K (SV.tup []) [(Chunk.box [(At.slc 2)]), (Chunk.box [(At.ptr 3 0), (At.slc 4), (At.slc 5), (At.val (Value.int IntKind.u64 (S.reads)))]), (Chunk.row true (EC.item) (l)), (Chunk.box [(At.slc 6), (At.slc 7), (At.slc 8), (At.val (Value.int IntKind.u32 (S.fresh)))]), (Chunk.row true (EC.node) (S.nodes)), (Chunk.row true (EC.int) (S.counts)), (Chunk.row true (EC.bool) (S.used)), (Chunk.row true (EC.u32) (S.gen)), (Chunk.row true (EC.u32) (S.rel))] [0, 1, 2]))) = _ by kernel_rfl) ?_
  refine brS_of (fun c => ?_) fun c => ?_
  · have c : i ≠ 0 := by simpa using c
    have e := h (l ++ [⟨i, (S.nd i).size, 0, 0, false⟩]) (rdS S (S.us i).toNat) (S.us i).toNat (if_neg c).symm rfl (by cases S.us i <;> decide)
    have hb : (l.length + [({ index := i, size := (S.nd i).size, key := 0, value := 0, single := false } : ItemT)].length) * bytesOf C0 EC.item ≤ 140737488355328 := by
      rw [bytes_item, List.length_singleton]; omega
    exact ⟨⟨h1, h2, h3, fun S' e' => ⟨hb, by subst e'; exact e⟩⟩, h1, h2, h3, fun S' e' => ⟨⟨hb, by subst e'; exact e⟩, hb, by subst e'; exact e⟩⟩
  · have c : i = 0 := by simpa using c
    exact h l S 0 (if_pos c).symm (rdS_zero S).symm (Nat.zero_le _)
theorem s_push : SoundT C0 151 tPush := by
  refine .ofW [0, 1, 2] Try.func151 (by decide) rfl fun args H K h hB => ?_
  unfold tPush at h
  split at h <;> try exact h.elim
  unfold sdM at h
  split at h <;> try exact h.elim
  rename_i i _ rd l fr nd ct us gn rl
  obtain ⟨h1, h2, _, h3, h4, h5⟩ := h
  exact ⟨aPush, ⟨frame C0.ok s_size _, trivial⟩, vc_push l ⟨us, gn, rl, fr, nd, ct, rd⟩ i K h1 h2 h3 h4 h5⟩
theorem wrap_len1 {n : Nat} (h : 0 < n) (h2 : n ≤ 1000000) : IntKind.i64.wrap ((n : Int) - 1) = ((n - 1 : Nat) : Int) := by
  rw [wrap_id (by omega) (by omega)]; omega
theorem vc_pop (l : List ItemT) (K : KT) (h1 : 0 < l.length) (h2 : l.length ≤ 1000000) (h : ∀ l', l' = l.dropLast → K (.tup []) [.box [.slc 1], .row true EC.item l'] [0, 1]) :
    vc C0 aPop Try.f153 [.at (.ptr 0 0)] [.box [.slc 1], .row true EC.item l] (normK 2 (wideK [0, 1] K)) := by
  refine Eq.mp (show (((0 ≤ IntKind.i64.wrap ((↑l.length : Int) - 1)) ∧
(IntKind.i64.wrap ((↑l.length : Int) - 1) ≤ (↑l.length : Int)) ∧
(K (SV.tup []) [(Chunk.box [(At.slc 1)]), (Chunk.row true (EC.item) (List.take (IntKind.i64.wrap ((↑l.length : Int) - 1)).toNat l))] [0, 1])) ∧
(0 ≤ IntKind.i64.wrap ((↑l.length : Int) - 1)) ∧
(IntKind.i64.wrap ((↑l.length : Int) - 1) ≤ (↑l.length : Int)) ∧
(K (SV.tup []) [(Chunk.box [(At.slc 1)]), (Chunk.row true (EC.item) (List.take (IntKind.i64.wrap ((↑l.length : Int) - 1)).toNat l))] [0, 1])) = _ by kernel_rfl) ?_
  have e := wrap_len1 h1 h2
  have hk := h (List.take (IntKind.i64.wrap ((l.length : Int) - 1)).toNat l) (by rw [e, List.dropLast_eq_take]; rfl)
  exact ⟨⟨by omega, by omega, hk⟩, by omega, by omega, hk⟩
theorem s_pop : SoundT C0 153 tPop := by
  refine .ofW [0, 1] Try.func153 (by decide) rfl fun args H K h hB => ?_
  unfold tPop at h
  split at h <;> try exact h.elim
  rename_i l
  obtain ⟨h1, h2, h3⟩ := h
  exact ⟨aPop, trivial, vc_pop l K h1 h2 h3⟩
theorem vc_top (l : List ItemT) (K : KT) (h1 : l.length ≤ 1000000) (h : ∀ x b, x = lastI l → b = decide (l ≠ []) → K (.tup [itA x, .at (vB b)]) [.box [.slc 1], .row true EC.item l] []) :
    vc C0 A0 Try.f152 [.at (.ptr 0 0)] [.box [.slc 1], .row true EC.item l] (normK 2 K) := by
  refine Eq.mp (show (brS ((↑l.length : Int) == 0) ((K (SV.tup [(TV.agg [(At.val (Value.int IntKind.u32 0)), (At.val (Value.int IntKind.i64 0)), (At.val (Value.int IntKind.i64 0)), (At.val (Value.int IntKind.i64 0)), (At.val (Value.bool false))]), (TV.at (At.val (Value.bool false)))]) [(Chunk.box [(At.slc 1)]), (Chunk.row true (EC.item) (l))] [])) (((0 ≤ IntKind.i64.wrap ((↑l.length : Int) - 1)) ∧ (IntKind.i64.wrap ((↑l.length : Int) - 1) < (↑l.length : Int)) ∧ (K (SV.tup [(TV.agg [(At.val (Value.int IntKind.u32 ((l.getD (IntKind.i64.wrap ((↑l.length : Int) - 1)).toNat { index := 0, size := 0, key := 0, value := 0, single := false : ItemT }).index))), (At.val (Value.int IntKind.i64 ((l.getD (IntKind.i64.wrap ((↑l.length : Int) - 1)).toNat { index := 0, size := 0, key := 0, value := 0, single := false : ItemT }).size))), (At.val (Value.int IntKind.i64 ((l.getD (IntKind.i64.wrap ((↑l.length : Int) - 1)).toNat { index := 0, size := 0, key := 0, value := 0, single := false : ItemT }).key))), (At.val (Value.int IntKind.i64 ((l.getD (IntKind.i64.wrap ((↑l.length : Int) - 1)).toNat { index := 0, size := 0, key := 0, value := 0, single := false : ItemT }).value))), (At.val (Value.bool ((l.getD (IntKind.i64.wrap ((↑l.length : Int) - 1)).toNat { index := 0, size := 0, key := 0, value := 0, single := false : ItemT }).single)))]), (TV.at (At.val (Value.bool true)))]) [(Chunk.box [(At.slc 1)]), (Chunk.row true (EC.item) (l))] [])))) = _ by kernel_rfl) ?_
  refine brS_of (fun c => ?_) fun c => ?_
  · have c : l.length = 0 := by have : (l.length : Int) = 0 := by simpa using c
                                omega
    have c : l = [] := List.eq_nil_of_length_eq_zero c
    subst c
    exact h ⟨0, 0, 0, 0, false⟩ false rfl (by simp)
  · have c : 0 < l.length := by have : ¬ (l.length : Int) = 0 := by simpa using c
                                omega
    have e := wrap_len1 c h1
    refine ⟨by omega, by omega, h _ true ?_ ?_⟩
    · rw [e, lastI, List.getLastD_eq_getLast?, List.getLast?_eq_getElem?, List.getD_eq_getElem?_getD]; rfl
    · have : l ≠ [] := by intro d; rw [d] at c; exact absurd c (by decide)
      simp [this]
theorem s_top : SoundT C0 152 tTop := by
  refine .of Try.func152 (by decide) rfl fun args H K h hB => ?_
  unfold tTop at h
  split at h <;> try exact h.elim
  rename_i l
  exact ⟨A0, trivial, vc_top l K h.1 h.2⟩
theorem vc_exp (l : List ItemT) (S : Arn) (K : KT) (h1 : 0 < l.length) (h2 : exW S) (h3 : S.us (lastI l).index = true) (h4 : S.reads ≤ 3000000000000000000) (h5 : l.length ≤ 900000) (h : ∀ l' S' m, l' = expL S l → S' = rdS S m → m ≤ 3 → K (.tup []) (chSd l' S') [0, 1, 2]) :
    vc C0 aExp Try.f154 [.at (.ptr 0 0), .at (.ptr 1 0)] (chSd l S) (normK 9 (wideK [0, 1, 2] K)) := by
  refine Eq.mp (show ((l.length ≤ 1000000) ∧
(∀ x : ItemT, (∀ b : Bool, (((x) = (lastI l)) → (((b) = (decide (l ≠ []))) → ((0 < l.length) ∧ (l.length ≤ 1000000) ∧ (∀ l' : List ItemT, (((l') = (l.dropLast)) → ((inU x.index) ∧ (exW S) ∧ (S.reads < 4000000000000000000) ∧ (∀ S' : Arn, (((S') = (rdS S (S.us x.index).toNat)) → (brS (!S.us x.index) ((K (SV.tup []) [(Chunk.box [(At.slc 2)]), (Chunk.box [(At.ptr 3 0), (At.slc 4), (At.slc 5), (At.val (Value.int IntKind.u64 (S'.reads)))]), (Chunk.row true (EC.item) (l')), (Chunk.box [(At.slc 6), (At.slc 7), (At.slc 8), (At.val (Value.int IntKind.u32 (S'.fresh)))]), (Chunk.row true (EC.node) (S'.nodes)), (Chunk.row true (EC.int) (S'.counts)), (Chunk.row true (EC.bool) (S'.used)), (Chunk.row true (EC.u32) (S'.gen)), (Chunk.row true (EC.u32) (S'.rel))] [0, 1, 2])) (((inU (S.nd x.index).right) ∧ (exW S') ∧ ((S.nd x.index).right = 0 ∨ S'.us (S.nd x.index).right = true) ∧ (S'.reads < 4000000000000000000) ∧ (l'.length ≤ 1000000) ∧ (∀ l'1 : List ItemT, (∀ S'1 : Arn, (∀ m : Nat, (((l'1) = (pushL S' l' (S.nd x.index).right)) → (((S'1) = (rdS S' m)) → ((m ≤ 1) → ((((l'1.length + [{ index := 0, size := 0, key := (S.nd x.index).key, value := (S.nd x.index).value, single := true : ItemT }].length) * bytesOf C0 EC.item ≤ 140737488355328) ∧ (inU (S.nd x.index).left) ∧ (exW S'1) ∧ ((S.nd x.index).left = 0 ∨ S'1.us (S.nd x.index).left = true) ∧ (S'1.reads < 4000000000000000000) ∧
    ((l'1 ++ [{ index := 0, size := 0, key := (S.nd x.index).key, value := (S.nd x.index).value, single := true : ItemT }]).length ≤ 1000000) ∧ (∀ l'2 : List ItemT, (∀ S'2 : Arn, (∀ m1 : Nat, (((l'2) = (pushL S'1 (l'1 ++ [{ index := 0, size := 0, key := (S.nd x.index).key, value := (S.nd x.index).value, single := true : ItemT }]) (S.nd x.index).left)) → (((S'2) = (rdS S'1 m1)) → ((m1 ≤ 1) → (K (SV.tup []) [(Chunk.box [(At.slc 2)]), (Chunk.box [(At.ptr 3 0), (At.slc 4), (At.slc 5), (At.val (Value.int IntKind.u64 (S'2.reads)))]), (Chunk.row true (EC.item) (l'2)), (Chunk.box [(At.slc 6), (At.slc 7), (At.slc 8), (At.val (Value.int IntKind.u32 (S'2.fresh)))]), (Chunk.row true (EC.node) (S'2.nodes)), (Chunk.row true (EC.int) (S'2.counts)), (Chunk.row true (EC.bool) (S'2.used)), (Chunk.row true (EC.u32) (S'2.gen)), (Chunk.row true (EC.u32) (S'2.rel))] [0, 1, 2])))))))) ∧ ((l'1.length + [{ index := 0, size := 0, key := (S.nd x.index).key, value := (S.nd x.index).value, single := true : ItemT }].length) * bytesOf C0 EC.item ≤ 140737488355328) ∧ (inU (S.nd x.index).left) ∧ (exW S'1) ∧ ((S.nd x.index).left = 0 ∨ S'1.us (S.nd x.index).left = true) ∧ (S'1.reads < 4000000000000000000) ∧ ((l'1 ++ [{ index := 0, size := 0, key := (S.nd x.index).key, value := (S.nd x.index).value, single := true : ItemT }]).length ≤ 1000000) ∧ (∀ l'2 : List ItemT, (∀ S'2 : Arn, (∀ m1 : Nat,
    (((l'2) = (pushL S'1 (l'1 ++ [{ index := 0, size := 0, key := (S.nd x.index).key, value := (S.nd x.index).value, single := true : ItemT }]) (S.nd x.index).left)) → (((S'2) = (rdS S'1 m1)) → ((m1 ≤ 1) → (K (SV.tup []) [(Chunk.box [(At.slc 2)]), (Chunk.box [(At.ptr 3 0), (At.slc 4), (At.slc 5), (At.val (Value.int IntKind.u64 (S'2.reads)))]), (Chunk.row true (EC.item) (l'2)), (Chunk.box [(At.slc 6), (At.slc 7), (At.slc 8), (At.val (Value.int IntKind.u32 (S'2.fresh)))]), (Chunk.row true (EC.node) (S'2.nodes)), (Chunk.row true (EC.int) (S'2.counts)), (Chunk.row true (EC.bool) (S'2.used)), (Chunk.row true (EC.u32) (S'2.gen)), (Chunk.row true (EC.u32) (S'2.rel))] [0, 1, 2])))))))))))))))))))))))))))) = _ by kernel_rfl) ?_
  obtain ⟨hs, hw⟩ := h2
  refine ⟨by omega, fun x b ex _ => ⟨h1, by omega, fun l' e' => ?_⟩⟩
  subst ex e'
  refine ⟨inU_of hw (.inr h3), ⟨hs, hw⟩, by omega, fun S' es => brS_of (fun d => ?_) fun _ => ?_⟩
  · have d : (!S.us (lastI l).index) = true := d
    rw [h3] at d; cases d
  have es : S' = rdS S 1 := by rw [es, h3]; rfl
  subst es
  have hk := hw.kid _ h3
  have hl := List.length_dropLast (xs := l)
  refine ⟨inU_of hw hk.2, ⟨hs, hw.rd (by omega)⟩, hk.2, by show S.reads + ((1 : Nat) : Int) < _; omega, by omega, fun l1 S1 m1 e1 e2 e3 => ?_⟩
  have e2 : S1 = rdS S (1 + m1) := by rw [e2, rdS_rdS]
  have hn := pushL_len (rdS S 1) l.dropLast (S.nd (lastI l).index).right
  rw [← e1] at hn
  subst e2
  have hb : (l1.length + [({ index := 0, size := 0, key := (S.nd (lastI l).index).key, value := (S.nd (lastI l).index).value, single := true } : ItemT)].length) * bytesOf C0 EC.item ≤ 140737488355328 := by
    rw [bytes_item, List.length_singleton]; omega
  have hh : ∀ l2 S2 m2, l2 = pushL (rdS S (1 + m1)) (l1 ++ [({ index := 0, size := 0, key := (S.nd (lastI l).index).key, value := (S.nd (lastI l).index).value, single := true } : ItemT)]) (S.nd (lastI l).index).left → S2 = rdS (rdS S (1 + m1)) m2 → m2 ≤ 1 → K (.tup []) (chSd l2 S2) [0, 1, 2] := by
    intro l2 S2 m2 f1 f2 f3
    refine h l2 S2 (1 + m1 + m2) ?_ ?_ (by omega)
    · rw [f1, e1]; rfl
    · rw [f2, rdS_rdS]
  have hz : (l1 ++ [({ index := 0, size := 0, key := (S.nd (lastI l).index).key, value := (S.nd (lastI l).index).value, single := true } : ItemT)]).length ≤ 1000000 := by
    rw [List.length_append, List.length_singleton]; omega
  have hr : (rdS S (1 + m1)).reads < 4000000000000000000 := by show S.reads + ((1 + m1 : Nat) : Int) < _; omega
  have hx : exW (rdS S (1 + m1)) := ⟨hs, hw.rd (by omega)⟩
  exact ⟨⟨hb, inU_of hw hk.1, hx, hk.1, hr, hz, hh⟩, hb, inU_of hw hk.1, hx, hk.1, hr, hz, hh⟩
theorem s_exp : SoundT C0 154 tExp := by
  refine .ofW [0, 1, 2] Try.func154 (by decide) rfl fun args H K h hB => ?_
  unfold tExp at h
  split at h <;> try exact h.elim
  unfold sdM at h
  split at h <;> try exact h.elim
  rename_i rd l fr nd ct us gn rl
  obtain ⟨h1, h2, h3, h4, h5, h6⟩ := h
  exact ⟨aExp, ⟨frame C0.ok s_top _, frame C0.ok s_pop _, frame C0.ok s_node _, frame C0.ok s_push _, trivial⟩, vc_exp l ⟨us, gn, rl, fr, nd, ct, rd⟩ K h1 h2 h3 h4 h5 h6⟩
end Go.Proofs.Ytbonbaccmlomhaa.Sx
end
section
/- What the walks of treework.Pairs share. -/
namespace Go.Proofs.Ytbonbaccmlomhaa.Sx
open Go

structure XP {σ : Type} (P : List ItemT → List ItemT → σ → Nat → Bool → Prop) where
  l : List ItemT
  r : List ItemT
  s : σ
  m : Nat
  c : Bool
  h : P l r s m c
abbrev bxI (x : ItemT) : Chunk C0 := .box [vU x.index, vI x.size, vI x.key, vI x.value, vB x.single]
def relP (a b : Nat) (H : List (Chunk C0)) (l r : List ItemT) : Prop := match H[a]?, H[b]? with
  | some (.row true .item l'), some (.row true .item r') => l' = l ∧ r' = r
  | _, _ => False
def ifI (b : Bool) (x : Int) : Int := if b then x else 0
def fR (lo hi : Int) (c : Chg) (s : List Chg) : List Chg × Bool := (if lo ≤ c.key ∧ c.key ≤ hi then s ++ [c] else s, decide (c.key < hi))
def fC (_ : Chg) (s : Int) : Int × Bool := (IntKind.i64.wrap (s + 1), true)
def fF (c : Chg) (_ : Chg × Bool) : (Chg × Bool) × Bool := ((c, true), false)
def tCom : Tfm C0 := fun args H K => match args, H with
  | [], [] => K (.one (.at (vB true))) [] []
  | _, _ => False
theorem s_com : SoundT C0 133 tCom := by
  refine .of Try.func133 (by decide) rfl fun args H K h hB => ⟨A0, trivial, ?_⟩
  unfold tCom at h
  split at h <;> try exact h.elim
  exact Eq.mp (show _ = _ by kernel_rfl) h
section
variable {σ : Type} (S : Arn) (f : Chg → σ → σ × Bool) (fin : σ) (sz : σ → Nat) (W Z : Nat)
def PA0 : List ItemT → List ItemT → σ → Nat → Bool → Prop := fun l r s m _ => PIn S f fin sz W Z l r s m
def PA1 : List ItemT → List ItemT → σ → Nat → Bool → Prop := fun l r s m c => PIn S f fin sz W Z l r s m ∧ (c = true ↔ l = [] ∧ r = [])
def PA2 : List ItemT → List ItemT → σ → Nat → Bool → Prop := fun l r s m c => PIn S f fin sz W Z l r s m ∧ ¬ (l = [] ∧ r = []) ∧ (c = true → l ≠ [] ∧ r ≠ [] ∧ (lastI l).single = false ∧ (lastI r).single = false ∧ (lastI l).index = (lastI r).index)
def PA3 : List ItemT → List ItemT → σ → Nat → Bool → Prop := fun l r s m c => PIn S f fin sz W Z l r s m ∧ ¬ (l = [] ∧ r = []) ∧ (c = true → l ≠ [] ∧ (lastI l).single = false) ∧ (c = false → l ≠ [] → (lastI l).single = false → r ≠ [] ∧ (lastI r).single = false)
def PA4 : List ItemT → List ItemT → σ → Nat → Bool → Prop := fun l r s m c => PIn S f fin sz W Z l r s m ∧ ¬ (l = [] ∧ r = []) ∧ (c = true → r ≠ [] ∧ (lastI r).single = false) ∧ (c = false → (l ≠ [] → (lastI l).single = true) ∧ (r ≠ [] → (lastI r).single = true))
def PA5 : List ItemT → List ItemT → σ → Nat → Bool → Prop := fun l r s m _ => PIn S f fin sz W Z l r s m ∧ ¬ (l = [] ∧ r = []) ∧ (l ≠ [] → (lastI l).single = true) ∧ (r ≠ [] → (lastI r).single = true)
end
theorem btw_self (l : List Ent) : btw l l = [] := by
  have e := btw_common l [] []
  simp only [List.append_nil] at e
  rw [e]
  unfold btw pE; rw [pairs]; rfl
theorem inL_or {l r : List ItemT} (h : ¬ (l = [] ∧ r = [])) (h2 : inL r l = false) : inL l r = true := by
  by_cases cl : l = []
  · by_cases cr : r = []
    · exact absurd ⟨cl, cr⟩ h
    · simp [inL, cl, cr] at h2
  · by_cases cr : r = []
    · simp [inL, cl, cr]
    · simp [inL, cl, cr] at h2 ⊢; omega
end Go.Proofs.Ytbonbaccmlomhaa.Sx
end
