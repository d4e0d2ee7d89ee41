/- A part of the proof. -/
import Derived.Test.YtmjnoiajenoinaaG4
import Derived.Test.YtmjnoiajenoinaaG5
section
/- The reference's lists: what their functions answer. -/
namespace Go.Proofs.Ytmjnoiajenoinaa.Sx
open Go

theorem wrap_in {x : Int} (h0 : -9223372036854775808 ≤ x) (h1 : x ≤ 9223372036854775807) : IntKind.i64.wrap x = x := by
  rw [IntKind.wrap_i64]; omega
def iA (p : List Int) (n : Nat) : Int := p.getD n 0
theorem drop_eq_iff {α : Type} {l m : List α} {k : Nat} {x y : α} (hl : l[k]? = some x) (hm : m[k]? = some y) : (l.drop k = m.drop k) ↔ x = y ∧ l.drop (k + 1) = m.drop (k + 1) := by
  rw [drop_cons hl, drop_cons hm, List.cons.injEq]
def sameB {α : Type} [DecidableEq α] (l m : List α) : Bool := decide (l = m)
structure XS {α : Type} [DecidableEq α] (l m : List α) where
  i : Nat
  h : i ≤ l.length ∧ l.length = m.length ∧ sameB l m = decide (l.drop i = m.drop i)
theorem XS.next {α : Type} [DecidableEq α] {l m : List α} (z : XS l m) {x y : α} (hx : l[z.i]? = some x) (hy : m[z.i]? = some y) (he : x = y) : ∃ z' : XS l m, z'.i = z.i + 1 := by
  have h1 := (List.getElem?_eq_some_iff.1 hx).1
  refine ⟨⟨z.i + 1, by omega, z.h.2.1, ?_⟩, rfl⟩
  rw [z.h.2.2]
  apply decide_eq_decide.2
  rw [drop_eq_iff hx hy]
  exact ⟨fun h => h.2, fun h => ⟨he, h⟩⟩
theorem XS.fin {α : Type} [DecidableEq α] {l m : List α} (z : XS l m) (h : z.i = l.length) : sameB l m = true := by
  rw [z.h.2.2, h, List.drop_length, z.h.2.1, List.drop_length]; rfl
noncomputable def aSame (e : EC) {α : Type} [DecidableEq α] (l m : List α) (L M : List (C0.α e)) : Ann C0 := { Γ := [], inv := fun n => match n with
  | 4 => some { X := XS l m, sl := [5], tf := fun x => [vi .i64 x.i], hf := fun _ => [.row false e L, .row false e M], μ := fun x => l.length - x.i }
  | _ => none }
def tSame_chg : Tfm C0 := fun args H K => match args, H with
  | [.at (.slc 0), .at (.slc 1)], [.row false .chg l, .row false .chg m] => K (.one (.at (vB (sameB (α := Chg) l m)))) [.row false EC.chg l, .row false EC.chg m] []
  | _, _ => False
def tSame_ent : Tfm C0 := fun args H K => match args, H with
  | [.at (.slc 0), .at (.slc 1)], [.row false .ent l, .row false .ent m] => K (.one (.at (vB (sameB (α := Ent) l m)))) [.row false EC.ent l, .row false EC.ent m] []
  | _, _ => False
def tSame_i64 : Tfm C0 := fun args H K => match args, H with
  | [.at (.slc 0), .at (.slc 1)], [.row false .i64 l, .row false .i64 m] => K (.one (.at (vB (sameB (α := Int) l m)))) [.row false EC.i64 l, .row false EC.i64 m] []
  | _, _ => False
theorem asc_step {l : List Ent} {k : Nat} {x y : Ent} (hx : l[k]? = some x) (hy : l[k + 1]? = some y) : Asc (l.drop k) ↔ x.1 < y.1 ∧ Asc (l.drop (k + 1)) := by
  rw [drop_cons hx, drop_cons hy]
  constructor
  · intro h; exact ⟨h.head _ (by simp), h.tail⟩
  · rintro ⟨h1, h2⟩
    refine h2.cons fun z hz => ?_
    rcases List.mem_cons.1 hz with rfl | hz
    · exact h1
    · have := h2.head z hz; omega
structure XA (l : List Ent) where
  i : Nat
  h : 1 ≤ i ∧ (i ≤ l.length ∨ i = 1) ∧ (Asc l ↔ Asc (l.drop (i - 1)))
theorem XA.split {l : List Ent} (z : XA l) (hi : z.i < l.length) : (ascB l = true ↔ (eA l (z.i - 1)).1 < (eA l z.i).1 ∧ Asc (l.drop z.i)) := by
  obtain ⟨k, hk⟩ : ∃ k, z.i = k + 1 := ⟨z.i - 1, by have := z.h.1; omega⟩
  have h1 := eA_get (p := l) (n := k) (by omega)
  have h2 := eA_get (p := l) (n := k + 1) (by omega)
  have h3 := asc_step h1 h2
  have h4 := z.h.2.2
  rw [hk] at h4 ⊢
  simp only [Nat.add_sub_cancel] at h4 ⊢
  rw [ascB, decide_eq_true_eq, h4, h3]
theorem XA.fin {l : List Ent} (z : XA l) (hi : l.length ≤ z.i) : ascB l = true := by
  rw [ascB, decide_eq_true_eq, z.h.2.2]
  have : (l.drop (z.i - 1)).length ≤ 1 := by simp; omega
  match l.drop (z.i - 1), this with
  | [], _ => exact Srt.nil
  | [x], _ => exact Srt.nil.cons (by simp)
def tAsc : Tfm C0 := fun args H K => match args, H with
  | [.at (.slc 0)], [.row false .ent l] => K (.one (.at (vB (ascB l)))) [.row false EC.ent l] []
  | _, _ => False
noncomputable def aAsc (l : List Ent) : Ann C0 := { Γ := [], inv := fun n => match n with
  | 2 => some { X := XA l, sl := [3], tf := fun x => [vi .i64 x.i], hf := fun _ => [.row false EC.ent l], μ := fun x => l.length - x.i }
  | _ => none }
structure XGet (l : List Ent) (q : Int) where
  i : Nat
  h : i ≤ l.length ∧ getE l q = getE (l.drop i) q
noncomputable def aGet (l : List Ent) (q : Int) : Ann C0 := { Γ := [], inv := fun n => match n with
  | 2 => some { X := XGet l q, sl := [6], tf := fun x => [vi .i64 x.i], hf := fun _ => [.row false EC.ent l], μ := fun x => l.length - x.i }
  | _ => none }
def tGet : Tfm C0 := fun args H K => match args, H with
  | [.at (.slc 0), .at (.val (.int .i64 q))], [.row false .ent l] => ∀ x : Option Int, x = getE l q → K (.tup [.at (vI (x.getD 0)), .at (vB x.isSome)]) [.row false EC.ent l] []
  | _, _ => False
def outE (l : List Ent) (lo hi : Int) : List Ent := l.filter fun x => decide (x.1 < lo) || decide (hi < x.1)
structure XOut (l : List Ent) (lo hi : Int) where
  i : Nat
  h : i ≤ l.length
noncomputable def aOut (l : List Ent) (lo hi : Int) : Ann C0 := { Γ := [], inv := fun n => match n with
  | 3 => some { X := XOut l lo hi, sl := [8, 7], tf := fun x => [vi .i64 x.i, .one (.at (.slc 1))], hf := fun x => [.row false EC.ent l, .row true EC.ent (outE (l.take x.i) lo hi)], μ := fun x => l.length - x.i }
  | _ => none }
def tOut : Tfm C0 := fun args H K => match args, H with
  | [.at (.slc 0), .at (.val (.int .i64 lo)), .at (.val (.int .i64 hi))], [.row false .ent l] => l.length ≤ 1000000 ∧ K (.one (.at (.slc 1))) [.row false EC.ent l, .row true EC.ent (outE l lo hi)] []
  | _, _ => False
theorem outE_snoc {l : List Ent} {lo hi : Int} {i : Nat} {x : Ent} (h : l[i]? = some x) : outE (l.take (i + 1)) lo hi = outE (l.take i) lo hi ++ (if (decide (x.1 < lo) || decide (hi < x.1)) = true then [x] else []) := by
  rw [take_snoc h]
  unfold outE
  rw [List.filter_append]
  simp only [List.filter_cons, List.filter_nil]
theorem outE_len (l : List Ent) (lo hi : Int) (i : Nat) : (outE (l.take i) lo hi).length ≤ i := by
  unfold outE
  exact Nat.le_trans (List.length_filter_le _ _) (List.length_take_le _ _)
theorem vc_out (l : List Ent) (lo hi : Int) (K : KT) (hsm : l.length ≤ 1000000) (h : K (.one (.at (.slc 1))) [.row false EC.ent l, .row true EC.ent (outE l lo hi)] []) :
    vc C0 (aOut l lo hi) Try.f74 [.at (.slc 0), .at (.val (.int .i64 lo)), .at (.val (.int .i64 hi))] [.row false EC.ent l] (normK 1 K) := by
  refine Eq.mp (show ((∃ x : XOut l lo hi, (True ∧ (True ∧ ((Value.int IntKind.i64 (lo)) = (Value.int IntKind.i64 (lo))) ∧ ((Value.int IntKind.i64 (hi)) = (Value.int IntKind.i64 (hi))) ∧ True ∧ ((Value.int IntKind.i64 0) = (Value.int IntKind.i64 ((↑x.i : Int)))) ∧ True) ∧ ((l) = (l)) ∧ ([] = (outE (List.take x.i l) lo hi)) ∧ True)) ∧
(∀ x : XOut l lo hi, (True → (brS (decide ((↑x.i : Int) < (↑l.length : Int))) (((0 ≤ (↑x.i : Int)) ∧ ((↑x.i : Int) < (↑l.length : Int)) ∧ (brS (decide ((eA l x.i).fst < lo)) (((0 ≤ (↑x.i : Int)) ∧ ((↑x.i : Int) < (↑l.length : Int)) ∧ (((outE (List.take x.i l) lo hi).length + [((eA l x.i).fst, (eA l x.i).snd)].length) * bytesOf C0 EC.ent ≤ 140737488355328) ∧ (∃ x' : XOut l lo hi, (True ∧ ((True ∧ ((Value.int IntKind.i64 (lo)) = (Value.int IntKind.i64 (lo))) ∧ ((Value.int IntKind.i64 (hi)) = (Value.int IntKind.i64 (hi))) ∧ True ∧ ((Value.int IntKind.i64 (IntKind.i64.wrap ((↑x.i : Int) + 1))) = (Value.int IntKind.i64 ((↑x'.i : Int)))) ∧ True) ∧ ((l) = (l)) ∧ ((outE (List.take x.i l) lo hi ++ [((eA l x.i).fst, (eA l x.i).snd)]) = (outE (List.take x'.i l) lo hi)) ∧ True) ∧ (l.length - x'.i < l.length - x.i))))) (((0 ≤ (↑x.i : Int)) ∧ ((↑x.i : Int) < (↑l.length : Int)) ∧ (brS (decide ((eA l x.i).fst > hi)) (((0 ≤ (↑x.i : Int)) ∧ ((↑x.i : Int) < (↑l.length : Int)) ∧ (((outE (List.take x.i l) lo hi).length + [((eA l x.i).fst, (eA l x.i).snd)].length) * bytesOf C0 EC.ent ≤ 140737488355328) ∧ (∃ x' : XOut l lo hi, (True ∧ ((True ∧
    ((Value.int IntKind.i64 (lo)) = (Value.int IntKind.i64 (lo))) ∧ ((Value.int IntKind.i64 (hi)) = (Value.int IntKind.i64 (hi))) ∧ True ∧ ((Value.int IntKind.i64 (IntKind.i64.wrap ((↑x.i : Int) + 1))) = (Value.int IntKind.i64 ((↑x'.i : Int)))) ∧ True) ∧ ((l) = (l)) ∧ ((outE (List.take x.i l) lo hi ++ [((eA l x.i).fst, (eA l x.i).snd)]) = (outE (List.take x'.i l) lo hi)) ∧ True) ∧ (l.length - x'.i < l.length - x.i))))) ((∃ x' : XOut l lo hi, (True ∧ ((True ∧ ((Value.int IntKind.i64 (lo)) = (Value.int IntKind.i64 (lo))) ∧ ((Value.int IntKind.i64 (hi)) = (Value.int IntKind.i64 (hi))) ∧ True ∧ ((Value.int IntKind.i64 (IntKind.i64.wrap ((↑x.i : Int) + 1))) = (Value.int IntKind.i64 ((↑x'.i : Int)))) ∧ True) ∧ ((l) = (l)) ∧ ((outE (List.take x.i l) lo hi) = (outE (List.take x'.i l) lo hi)) ∧ True) ∧ (l.length - x'.i < l.length - x.i)))))))))) ((K (SV.one (TV.at (At.slc 1))) [(Chunk.row false (EC.ent) (l)), (Chunk.row true (EC.ent) (outE (List.take x.i l) lo hi))] [])))))) = _ by kernel_rfl) ?_
  refine ⟨⟨⟨0, Nat.zero_le _⟩, by simp [outE]⟩, fun x _ => brS_of (fun hi' => ?_) fun hi' => ?_⟩
  · have hi' : x.i < l.length := by simpa using hi'
    have hx := eA_get hi'
    have hs := outE_snoc (lo := lo) (hi := hi) hx
    have hlen := outE_len l lo hi x.i
    have nx : XOut l lo hi := ⟨x.i + 1, by omega⟩
    have w1 : IntKind.i64.wrap ((x.i : Int) + 1) = ((x.i + 1 : Nat) : Int) := by rw [wrap_in (by omega) (by omega)]; simp
    simp only [w1, bytes_ent]
    refine ⟨by omega, by omega, brS_of (fun h1 => ⟨by omega, by omega, ?_, ⟨⟨x.i + 1, by omega⟩, ?_⟩⟩) fun h1 => ⟨by omega, by omega, brS_of (fun h2 => ⟨by omega, by omega, ?_, ⟨⟨x.i + 1, by omega⟩, ?_⟩⟩) fun h2 => ⟨⟨x.i + 1, by omega⟩, ?_⟩⟩⟩
    · simp; omega
    · rw [if_pos (by simp only [decide_eq_true_eq] at h1; simp [h1])] at hs
      simp [hs]; omega
    · simp; omega
    · rw [if_pos (by simp only [decide_eq_true_eq] at h2; simp; omega)] at hs
      simp [hs]; omega
    · rw [if_neg (by simp only [decide_eq_false_iff_not] at h1 h2; simp; omega)] at hs
      simp [hs]; omega
  · have hi' : x.i = l.length := by have := x.h; simp at hi'; omega
    rw [hi', List.take_length]
    exact h
theorem s_out : SoundT C0 74 tOut := by
  refine .of Try.func74 (by decide) rfl fun args H K h hB => ?_
  unfold tOut at h
  split at h <;> try exact h.elim
  rename_i lo hi l
  exact ⟨aOut l lo hi, trivial, vc_out l lo hi K h.1 h.2⟩
structure XIns (l : List Ent) (e : Ent) where
  i : Nat
  acc : List Ent
  put : Bool
  h : i ≤ l.length ∧ acc.length ≤ i + put.toNat ∧ insE l e = acc ++ insGo e put (l.drop i)
noncomputable def aIns (l : List Ent) (e : Ent) : Ann C0 := { Γ := [], inv := fun n => match n with
  | 4 => some { X := XIns l e, sl := [7, 6, 5, 3], tf := fun x => [vi .i64 x.i, vb x.put, .one (.at (.slc 2)), .one (.at (.ptr 1 0))], hf := fun x => [.row false EC.ent l, .box [vI e.1, vI e.2], .row true EC.ent x.acc], μ := fun x => l.length - x.i }
  | _ => none }
def tIns : Tfm C0 := fun args H K => match args, H with
  | [.at (.slc 0), .agg [.val (.int .i64 k), .val (.int .i64 v)]], [.row false .ent l] => l.length ≤ 1000000 ∧ K (.one (.at (.slc 1))) [.row false EC.ent l, .row true EC.ent (insE l (k, v))] []
  | _, _ => False
theorem insGo_step {e x : Ent} {put : Bool} {l : List Ent} {i : Nat} (h : l[i]? = some x) : insGo e put (l.drop i) = (if !put && decide (e.1 ≤ x.1) then [e] else []) ++ ((if x.1 = e.1 then [] else [x]) ++ insGo e (put || decide (e.1 ≤ x.1)) (l.drop (i + 1))) := by
  rw [drop_cons h, insGo]
theorem XIns.next {l : List Ent} {e : Ent} (z : XIns l e) {x : Ent} (hx : l[z.i]? = some x) {put' : Bool} {acc' : List Ent} (hp : put' = (z.put || decide (e.1 ≤ x.1)))
    (ha : acc' = z.acc ++ ((if !z.put && decide (e.1 ≤ x.1) then [e] else []) ++ (if x.1 = e.1 then [] else [x]))) : ∃ z' : XIns l e, z'.i = z.i + 1 ∧ z'.put = put' ∧ z'.acc = acc' := by
  have h1 := (List.getElem?_eq_some_iff.1 hx).1
  obtain ⟨hi, hl, he⟩ := z.h
  rw [insGo_step hx] at he
  refine ⟨⟨z.i + 1, acc', put', by omega, ?_, ?_⟩, rfl, rfl, rfl⟩
  · subst hp ha
    have h2 : (if x.1 = e.1 then ([] : List Ent) else [x]).length ≤ 1 := by split <;> simp
    cases hz : z.put <;> rw [hz] at hl <;> by_cases hc : e.1 ≤ x.1 <;> simp [hc] at hl ⊢ <;> omega
  · subst hp ha
    rw [he]; simp only [List.append_assoc]
theorem XIns.fin {l : List Ent} {e : Ent} (z : XIns l e) (h : z.i = l.length) : insE l e = z.acc ++ (if z.put then [] else [e]) := by
  rw [z.h.2.2, h, List.drop_length]; rfl
theorem vc_ins (l : List Ent) (k v : Int) (K : KT) (hsm : l.length ≤ 1000000) (h : K (.one (.at (.slc 1))) [.row false EC.ent l, .row true EC.ent (insE l (k, v))] []) :
    vc C0 (aIns l (k, v)) Try.f33 [.at (.slc 0), .agg [.val (.int .i64 k), .val (.int .i64 v)]] [.row false EC.ent l] (normK 1 K) := by
  refine Eq.mp (show ((∃ x : XIns l (k, v), (True ∧ (True ∧ True ∧ True ∧ ((Value.bool false) = (Value.bool (x.put))) ∧ ((Value.int IntKind.i64 0) = (Value.int IntKind.i64 ((↑x.i : Int)))) ∧ True) ∧ ((l) = (l)) ∧ (((Value.int IntKind.i64 (k)) = (Value.int IntKind.i64 (k))) ∧ ((Value.int IntKind.i64 (v)) = (Value.int IntKind.i64 (v))) ∧ True) ∧ ([] = (x.acc)) ∧ True)) ∧
(∀ x : XIns l (k, v), (True → (brS (decide ((↑x.i : Int) < (↑l.length : Int))) ((brS (!x.put) (((0 ≤ (↑x.i : Int)) ∧ ((↑x.i : Int) < (↑l.length : Int)) ∧ (brS (decide ((eA l x.i).fst ≥ k)) ((((x.acc.length + [(k, v)].length) * bytesOf C0 EC.ent ≤ 140737488355328) ∧ (0 ≤ (↑x.i : Int)) ∧ ((↑x.i : Int) < (↑l.length : Int)) ∧ (brS ((eA l x.i).fst != k) (((0 ≤ (↑x.i : Int)) ∧ ((↑x.i : Int) < (↑l.length : Int)) ∧ (((x.acc ++ [(k, v)]).length + [((eA l x.i).fst, (eA l x.i).snd)].length) * bytesOf C0 EC.ent ≤ 140737488355328) ∧ (∃ x' : XIns l (k, v), (True ∧ ((True ∧ True ∧ True ∧ ((Value.bool true) = (Value.bool (x'.put))) ∧ ((Value.int IntKind.i64 (IntKind.i64.wrap ((↑x.i : Int) + 1))) = (Value.int IntKind.i64 ((↑x'.i : Int)))) ∧ True) ∧ ((l) = (l)) ∧ (((Value.int IntKind.i64 (k)) = (Value.int IntKind.i64 (k))) ∧ ((Value.int IntKind.i64 (v)) = (Value.int IntKind.i64 (v))) ∧ True) ∧ ((x.acc ++ [(k, v)] ++ [((eA l x.i).fst, (eA l x.i).snd)]) = (x'.acc)) ∧ True) ∧ (l.length - x'.i < l.length - x.i))))) ((∃ x' : XIns l (k, v), (True ∧ ((True ∧ True ∧ True ∧ ((Value.bool true) = (Value.bool (x'.put))) ∧
    ((Value.int IntKind.i64 (IntKind.i64.wrap ((↑x.i : Int) + 1))) = (Value.int IntKind.i64 ((↑x'.i : Int)))) ∧ True) ∧ ((l) = (l)) ∧ (((Value.int IntKind.i64 (k)) = (Value.int IntKind.i64 (k))) ∧ ((Value.int IntKind.i64 (v)) = (Value.int IntKind.i64 (v))) ∧ True) ∧ ((x.acc ++ [(k, v)]) = (x'.acc)) ∧ True) ∧ (l.length - x'.i < l.length - x.i))))))) (((0 ≤ (↑x.i : Int)) ∧ ((↑x.i : Int) < (↑l.length : Int)) ∧ (brS ((eA l x.i).fst != k) (((0 ≤ (↑x.i : Int)) ∧ ((↑x.i : Int) < (↑l.length : Int)) ∧ ((x.acc.length + [((eA l x.i).fst, (eA l x.i).snd)].length) * bytesOf C0 EC.ent ≤ 140737488355328) ∧ (∃ x' : XIns l (k, v), (True ∧ ((True ∧ True ∧ True ∧ ((Value.bool (x.put)) = (Value.bool (x'.put))) ∧ ((Value.int IntKind.i64 (IntKind.i64.wrap ((↑x.i : Int) + 1))) = (Value.int IntKind.i64 ((↑x'.i : Int)))) ∧ True) ∧ ((l) = (l)) ∧ (((Value.int IntKind.i64 (k)) = (Value.int IntKind.i64 (k))) ∧ ((Value.int IntKind.i64 (v)) = (Value.int IntKind.i64 (v))) ∧ True) ∧ ((x.acc ++ [((eA l x.i).fst, (eA l x.i).snd)]) = (x'.acc)) ∧ True) ∧ (l.length - x'.i < l.length - x.i))))) ((∃ x' : XIns l (k, v), (True ∧ ((True ∧ True ∧ True ∧ ((Value.bool (x.put)) = (Value.bool (x'.put))) ∧ ((Value.int IntKind.i64 (IntKind.i64.wrap ((↑x.i : Int) + 1))) = (Value.int IntKind.i64 ((↑x'.i : Int)))) ∧ True) ∧ ((l) = (l)) ∧ (((Value.int IntKind.i64 (k)) = (Value.int IntKind.i64 (k))) ∧ ((Value.int IntKind.i64 (v)) = (Value.int IntKind.i64 (v))) ∧ True) ∧ ((x.acc) = (x'.acc)) ∧ True) ∧
    (l.length - x'.i < l.length - x.i)))))))))) (((0 ≤ (↑x.i : Int)) ∧ ((↑x.i : Int) < (↑l.length : Int)) ∧ (brS ((eA l x.i).fst != k) (((0 ≤ (↑x.i : Int)) ∧ ((↑x.i : Int) < (↑l.length : Int)) ∧ ((x.acc.length + [((eA l x.i).fst, (eA l x.i).snd)].length) * bytesOf C0 EC.ent ≤ 140737488355328) ∧ (∃ x' : XIns l (k, v), (True ∧ ((True ∧ True ∧ True ∧ ((Value.bool (x.put)) = (Value.bool (x'.put))) ∧ ((Value.int IntKind.i64 (IntKind.i64.wrap ((↑x.i : Int) + 1))) = (Value.int IntKind.i64 ((↑x'.i : Int)))) ∧ True) ∧ ((l) = (l)) ∧ (((Value.int IntKind.i64 (k)) = (Value.int IntKind.i64 (k))) ∧ ((Value.int IntKind.i64 (v)) = (Value.int IntKind.i64 (v))) ∧ True) ∧ ((x.acc ++ [((eA l x.i).fst, (eA l x.i).snd)]) = (x'.acc)) ∧ True) ∧ (l.length - x'.i < l.length - x.i))))) ((∃ x' : XIns l (k, v), (True ∧ ((True ∧ True ∧ True ∧ ((Value.bool (x.put)) = (Value.bool (x'.put))) ∧ ((Value.int IntKind.i64 (IntKind.i64.wrap ((↑x.i : Int) + 1))) = (Value.int IntKind.i64 ((↑x'.i : Int)))) ∧ True) ∧ ((l) = (l)) ∧ (((Value.int IntKind.i64 (k)) = (Value.int IntKind.i64 (k))) ∧ ((Value.int IntKind.i64 (v)) = (Value.int IntKind.i64 (v))) ∧ True) ∧ ((x.acc) = (x'.acc)) ∧ True) ∧ (l.length - x'.i < l.length - x.i))))))))) ((brS (!x.put) ((((x.acc.length + [(k, v)].length) * bytesOf C0 EC.ent ≤ 140737488355328) ∧ (K (SV.one (TV.at (At.slc 1))) [(Chunk.row false (EC.ent) (l)), (Chunk.row true (EC.ent) (x.acc ++ [(k, v)]))] [])))
    ((K (SV.one (TV.at (At.slc 1))) [(Chunk.row false (EC.ent) (l)), (Chunk.row true (EC.ent) (x.acc))] [])))))))) = _ by kernel_rfl) ?_
  refine ⟨⟨⟨0, [], false, Nat.zero_le _, by simp, by simp⟩, by simp⟩, fun x _ => brS_of (fun hi => ?_) fun hi => ?_⟩
  · have hi : x.i < l.length := by simpa using hi
    have hx := eA_get hi
    have hlen := x.h.2.1
    have hpt : x.put.toNat ≤ 1 := by cases x.put <;> decide
    have w1 : IntKind.i64.wrap ((x.i : Int) + 1) = ((x.i + 1 : Nat) : Int) := by rw [wrap_in (by omega) (by omega)]; simp
    simp only [w1, bytes_ent]
    have go : ∀ (put' : Bool) (acc' : List Ent), put' = (x.put || decide (k ≤ (eA l x.i).1)) → acc' = x.acc ++ ((if !x.put && decide (k ≤ (eA l x.i).1) then [(k, v)] else []) ++ (if (eA l x.i).1 = k then [] else [eA l x.i])) →
        ∃ z' : XIns l (k, v), z'.i = x.i + 1 ∧ z'.put = put' ∧ z'.acc = acc' := fun put' acc' hp ha => x.next hx hp ha
    refine brS_of (fun hp => ⟨by omega, by omega, brS_of (fun hc => ⟨?_, by omega, by omega, brS_of (fun hn => ⟨by omega, by omega, ?_, ?_⟩) fun hn => ?_⟩) fun hc => ⟨by omega, by omega, brS_of (fun hn => ⟨by omega, by omega, ?_, ?_⟩) fun hn => ?_⟩⟩) fun hp => ⟨by omega, by omega, brS_of (fun hn => ⟨by omega, by omega, ?_, ?_⟩) fun hn => ?_⟩
    all_goals try simp only [decide_eq_true_eq, decide_eq_false_iff_not, bne_iff_ne, ne_eq, Bool.not_eq_true', Bool.not_eq_false', bne_eq_false_iff_eq, ge_iff_le] at *
    all_goals first
      | (simp; omega)
      | (obtain ⟨z', e1, e2, e3⟩ := go _ _ rfl rfl
         refine ⟨z', ?_⟩
         simp [*]
         omega)
  · have hi : x.i = l.length := by have := x.h.1; simp at hi; omega
    have hf := x.fin hi
    have hlen := x.h.2.1
    have hpt : x.put.toNat ≤ 1 := by cases x.put <;> decide
    refine brS_of (fun hp => ⟨?_, ?_⟩) fun hp => ?_
    · simp [bytes_ent]; omega
    · simp at hp; rw [hp] at hf; simp at hf; rw [hf] at h; exact h
    · simp at hp; rw [hp] at hf; simp at hf; rw [hf] at h; exact h
theorem s_ins : SoundT C0 33 tIns := by
  refine .of Try.func33 (by decide) rfl fun args H K h hB => ?_
  unfold tIns at h
  split at h <;> try exact h.elim
  rename_i k v l
  exact ⟨aIns l (k, v), trivial, vc_ins l k v K h.1 h.2⟩
noncomputable def aDel : Ann C0 := { Γ := [(74, frameT [] tOut)] }
def tDel : Tfm C0 := fun args H K => match args, H with
  | [.at (.slc 0), .at (.val (.int .i64 q))], [.row false .ent l] => l.length ≤ 1000000 ∧ K (.one (.at (.slc 1))) [.row false EC.ent l, .row true EC.ent (outE l q q)] []
  | _, _ => False
theorem vc_del (l : List Ent) (q : Int) (K : KT) (h1 : l.length ≤ 1000000) (h2 : K (.one (.at (.slc 1))) [.row false EC.ent l, .row true EC.ent (outE l q q)] []) :
    vc C0 aDel Try.f30 [.at (.slc 0), .at (.val (.int .i64 q))] [.row false EC.ent l] (normK 1 K) := by
  have e : ((l.length ≤ 1000000) ∧
(K (SV.one (TV.at (At.slc 1))) [(Chunk.row false (EC.ent) (l)), (Chunk.row true (EC.ent) (outE l q q))] [])) = vc C0 aDel Try.f30 [.at (.slc 0), .at (.val (.int .i64 q))] [.row false EC.ent l] (normK 1 K) := by kernel_rfl
  rw [← e]
  exact ⟨h1, h2⟩
theorem s_del : SoundT C0 30 tDel := by
  refine .of Try.func30 (by decide) rfl fun args H K h hB => ?_
  unfold tDel at h
  split at h <;> try exact h.elim
  rename_i q l
  have hG : GOK C0 aDel.Γ := ⟨frame C0.ok s_out _, trivial⟩
  exact ⟨aDel, hG, vc_del l q K h.1 h.2⟩
structure XLst (l : List Ent) (most : Int) where
  i : Nat
  h : i ≤ l.length ∧ (i : Int) ≤ most
noncomputable def aLst (l : List Ent) (most : Int) : Ann C0 := { Γ := [(33, frameT [] tIns)], inv := fun n => match n with
  | 3 => some { X := XLst l most, sl := [6, 5], tf := fun x => [vi .i64 x.i, .one (.at (.slc 1))], hf := fun x => [.row false EC.ent l, .row true EC.ent (listE l x.i)], μ := fun x => l.length - x.i }
  | _ => none }
def tLst : Tfm C0 := fun args H K => match args, H with
  | [.at (.slc 0), .at (.val (.int .i64 most))], [.row false .ent l] => 0 ≤ most ∧ most ≤ 1000000 ∧ K (.one (.at (.slc 1))) [.row false EC.ent l, .row true EC.ent (listE l most.toNat)] []
  | _, _ => False
theorem listE_snoc {l : List Ent} {i : Nat} {x : Ent} (h : l[i]? = some x) : listE l (i + 1) = insE (listE l i) x := by
  unfold listE
  rw [take_snoc h]
  simp
theorem listE_full {l : List Ent} {n : Nat} (h : l.length ≤ n) : listE l n = listE l l.length := by
  unfold listE
  rw [List.take_of_length_le h, List.take_of_length_le (Nat.le_refl _)]
theorem vc_lst (l : List Ent) (most : Int) (K : KT) (hmax : l.length ≤ 9223372036854775807) (h0 : 0 ≤ most) (h1 : most ≤ 1000000) (h : K (.one (.at (.slc 1))) [.row false EC.ent l, .row true EC.ent (listE l most.toNat)] []) :
    vc C0 (aLst l most) Try.f36 [.at (.slc 0), .at (.val (.int .i64 most))] [.row false EC.ent l] (normK 1 K) := by
  refine Eq.mp (show ((∃ x : XLst l most, (True ∧ (True ∧ ((Value.int IntKind.i64 (most)) = (Value.int IntKind.i64 (most))) ∧ True ∧ ((Value.int IntKind.i64 0) = (Value.int IntKind.i64 ((↑x.i : Int)))) ∧ True) ∧ ((l) = (l)) ∧ ([] = (listE l x.i)) ∧ True)) ∧
(∀ x : XLst l most, (True → (brS (decide ((↑x.i : Int) < (↑l.length : Int))) ((brS (decide ((↑x.i : Int) < most)) (((0 ≤ (↑x.i : Int)) ∧ ((↑x.i : Int) < (↑l.length : Int)) ∧ ((listE l x.i).length ≤ 1000000) ∧ (∃ x' : XLst l most, (True ∧ ((True ∧ ((Value.int IntKind.i64 (most)) = (Value.int IntKind.i64 (most))) ∧ True ∧ ((Value.int IntKind.i64 (IntKind.i64.wrap ((↑x.i : Int) + 1))) = (Value.int IntKind.i64 ((↑x'.i : Int)))) ∧ True) ∧ ((l) = (l)) ∧ ((insE (listE l x.i) ((eA l x.i).fst, (eA l x.i).snd)) = (listE l x'.i)) ∧ True) ∧ (l.length - x'.i < l.length - x.i))))) ((K (SV.one (TV.at (At.slc 1))) [(Chunk.row false (EC.ent) (l)), (Chunk.row true (EC.ent) (listE l x.i))] [])))) ((K (SV.one (TV.at (At.slc 1))) [(Chunk.row false (EC.ent) (l)), (Chunk.row true (EC.ent) (listE l x.i))] [])))))) = _ by kernel_rfl) ?_
  refine ⟨⟨⟨0, Nat.zero_le _, h0⟩, by simp [listE]⟩, fun x _ => brS_of (fun hi => brS_of (fun hm => ?_) fun hm => ?_) fun hi => ?_⟩
  · have hi : x.i < l.length := by simpa using hi
    have hm : (x.i : Int) < most := by simpa using hm
    have hs := listE_snoc (eA_get hi)
    have hlen := (listE_spec l x.i).2
    have w1 : IntKind.i64.wrap ((x.i : Int) + 1) = ((x.i + 1 : Nat) : Int) := by rw [wrap_in (by omega) (by omega)]; simp
    simp only [w1]
    refine ⟨by omega, by omega, by omega, ⟨x.i + 1, by omega, by omega⟩, ?_⟩
    simp [hs]; omega
  · have e : most.toNat = x.i := by have := x.h.2; simp at hm; omega
    rw [e] at h; exact h
  · have hi : x.i = l.length := by have := x.h.1; simp at hi; omega
    have := x.h.2
    rw [listE_full (n := most.toNat) (by omega), ← hi] at h; exact h
theorem s_lst : SoundT C0 36 tLst := by
  refine .of Try.func36 (by decide) rfl fun args H K h hB => ?_
  unfold tLst at h
  split at h <;> try exact h.elim
  rename_i most l
  exact ⟨aLst l most, ⟨frame C0.ok s_ins _, trivial⟩, vc_lst l most K (hB 0 _ _ _ rfl) h.1 h.2.1 h.2.2⟩
def tChoose : Tfm C0 := fun args H K => match args, H with
  | [.at (.val (.int .i64 p)), .at (.val (.int .i64 v)), .at (.val (.int .i64 w))], [] => ∀ x, x = chooseP p v w → K (.one (.at (vI x))) [] []
  | _, _ => False
def tMod : Tfm C0 := fun args H K => match args, H with
  | [.at (.val (.int .i64 k)), .at (.val (.int .i64 n))], [] => 0 < n ∧ n ≤ 9223372036854775807 ∧ ∀ x, x = k % n → K (.one (.at (vI x))) [] []
  | _, _ => False
theorem s_mod : SoundT C0 10 tMod := by
  refine .of Try.func10 (by decide) rfl fun args H K h hB => ⟨A0, trivial, ?_⟩
  unfold tMod at h
  split at h <;> try exact h.elim
  rename_i k n
  obtain ⟨h0, h1, h⟩ := h
  have h := h _ rfl
  refine Eq.mp (show ((n ≠ 0) ∧
(brS (decide (k.tmod n < 0)) ((K (SV.one (TV.at (At.val (Value.int IntKind.i64 (IntKind.i64.wrap (k.tmod n + n)))))) [] [])) ((K (SV.one (TV.at (At.val (Value.int IntKind.i64 (k.tmod n))))) [] [])))) = _ by kernel_rfl) ⟨by omega, brS_of (fun e => ?_) fun e => ?_⟩
  all_goals simp only [decide_eq_true_eq, decide_eq_false_iff_not] at e
  · have e1 : k.tmod n + n = k % n := by
      rw [Int.tmod_eq_emod] at e ⊢
      split at e <;> rename_i hc
      · have := Int.emod_nonneg k (show n ≠ 0 by omega); omega
      · rw [if_neg hc]
        have : (n.natAbs : Int) = n := by omega
        omega
    have h2 := Int.emod_nonneg k (show n ≠ 0 by omega)
    have h3 := Int.emod_lt_of_pos k h0
    rw [e1, wrap_in (by omega) (by omega)]; exact h
  · have e1 : k.tmod n = k % n := by
      rw [Int.tmod_eq_emod] at e ⊢
      split at e <;> rename_i hc
      · rw [if_pos hc]; omega
      · have h3 := Int.emod_lt_of_pos k h0
        have : (n.natAbs : Int) = n := by omega
        omega
    rw [e1]; exact h
structure XN (n : Nat) where
  i : Nat
  h : i ≤ n
def kF (xs : List Int) (l : List Ent) (i : Nat) : List Ent := keysOf (xs ++ (l.take i).map Prod.fst)
def tKeys : Tfm C0 := fun args H K => match args, H with
  | [.at (.slc 0), .at (.slc 1), .at (.slc 2)], [.row false .ent l, .row false .ent m, .row false .ent n] => l.length + m.length + n.length ≤ 1000000 ∧ K (.one (.at (.slc 3))) [.row false EC.ent l, .row false EC.ent m, .row false EC.ent n, .row true EC.i64 (keys3 l m n)] []
  | _, _ => False
set_option maxHeartbeats 1000000 in
structure XU (l m : List Ent) (p : Int) where
  i : Nat
  h : i ≤ m.length
def tUni : Tfm C0 := fun args H K => match args, H with
  | [.at (.slc 0), .at (.slc 1), .at (.val (.int .i64 p))], [.row false .ent l, .row false .ent m] => l.length + m.length ≤ 1000000 ∧ (m.length = 0 → K (.one (.at (.slc 0))) [.row false EC.ent l, .row false EC.ent m] []) ∧ K (.one (.at (.slc 2))) [.row false EC.ent l, .row false EC.ent m, .row true EC.ent (uniE l m p)] []
  | _, _ => False
def difD (k : Int) (a b : Option Int) : List Chg := match a with
  | none => [⟨1, k, 0, b.getD 0⟩]
  | some v => match b with
    | none => [⟨2, k, v, 0⟩]
    | some w => if v = w then [] else [⟨3, k, v, w⟩]
def dif1 (l m : List Ent) (k : Int) : List Chg := difD k (getE l k) (getE m k)
def difE (l m : List Ent) : List Chg := (keys3 l m []).flatMap (dif1 l m)
structure XDif (l m : List Ent) where
  i : Nat
  h : i ≤ (keys3 l m []).length
end Go.Proofs.Ytmjnoiajenoinaa.Sx
end
section
/- Planting trees: the statements' helpers. -/
namespace Go.Proofs.Ytmjnoiajenoinaa.Sx
open Go

/-KEEP Wf Kept makeS relA nxt decS NodeR exW inU live Arn.cap Arn.free balN PlantR maxSize mkNode-/
def tLeast : Tfm C0 := fun args H K => match args, H with
  | [.at (.val (.int .i64 n))], [] => 0 ≤ n ∧ n ≤ 1000000 ∧ ∀ x, x = n / 4 → K (.one (.at (vI x))) [] []
  | _, _ => False
def balB (l r : Int) : Bool := decide (balN l r)
def tBal : Tfm C0 := fun args H K => match args, H with
  | [.at (.val (.int .i64 l)), .at (.val (.int .i64 r))], [] => 0 ≤ l ∧ l ≤ 1000000 ∧ 0 ≤ r ∧ r ≤ 1000000 ∧ ∀ b, b = balB l r → K (.one (.at (vB b))) [] []
  | _, _ => False
structure XPv (n : Int) where
  lo : Int
  h : 0 ≤ lo ∧ lo < n ∧ balN lo (n - 1 - lo)
noncomputable def aPivot (n : Int) : Ann C0 := { Γ := [(145, frameT [] tLeast), (144, frameT [] tBal)], inv := fun k => match k with
  | 2 => some { X := XPv n, sl := [5], tf := fun x => [vi .i64 x.lo], hf := fun _ => [], μ := fun x => x.lo.toNat }
  | 4 => some { X := XPv n, sl := [5], tf := fun x => [vi .i64 x.lo], hf := fun _ => [], μ := fun x => (n - x.lo).toNat }
  | _ => none }
def tPivot : Tfm C0 := fun args H K => match args, H with
  | [.at (.val (.int .i64 n)), .at (.val (.int .u64 t))], [] => 1 ≤ n ∧ n ≤ 100000 ∧ 0 ≤ t ∧ ∀ p, 0 ≤ p → p < n → balN p (n - 1 - p) → K (.one (.at (vI p))) [] []
  | _, _ => False
def tPlant (n : Nat) : Tfm C0 := fun args H K => match args with
  | [.at (.ptr 0 0), .at (.slc 7), .at (.val (.int .u64 t))] => arMr H fun S rest => match rest with
    | [.row false .ent l] => ∃ hs, Wf S hs ∧ l.length < n ∧ l.length ≤ 100000 ∧ (l.length : Int) ≤ S.free ∧ hs.length + l.length ≤ 900000000 ∧ 0 ≤ t ∧ ∀ S' i, PlantR S hs l S' i → K (.tup [.at (vU i), .at (vB true)]) (chS S' ++ [.row false EC.ent l]) W7
    | _ => False
  | _ => False
noncomputable def aPlant (n : Nat) : Ann C0 := { Γ := [(123, frameT [] tPivot), (80, frameT [] (tPlant n)), (13, frameT [] tMakeOk), (14, frameT [] tGive)] }
theorem vc_least (n : Int) (K : KT) (h1 : 0 ≤ n) (h2 : n ≤ 1000000) (h : ∀ x, x = n / 4 → K (.one (.at (vI x))) [] []) : vc C0 A0 Try.f145 [.at (vI n)] [] (normK 0 K) := by
  refine Eq.mp (show (K (SV.one (TV.at (At.val (Value.int IntKind.i64 (IntKind.i64.wrap ((if n > 0 then n else 0).tdiv 4)))))) [] []) = _ by kernel_rfl) ?_
  have e : (if n > 0 then n else 0) = n := by split <;> omega
  rw [e, Int.tdiv_eq_ediv_of_nonneg h1, wrap_id (by omega) (by omega)]
  exact h _ rfl
theorem s_least : SoundT C0 145 tLeast := by
  refine .of Try.func145 (by decide) rfl fun args H K h hB => ?_
  unfold tLeast at h
  split at h <;> try exact h.elim
  rename_i n
  exact ⟨A0, trivial, vc_least n K h.1 h.2.1 h.2.2⟩
theorem vc_bal (l r : Int) (K : KT) (h1 : 0 ≤ l) (h2 : l ≤ 1000000) (h3 : 0 ≤ r) (h4 : r ≤ 1000000) (h : ∀ b, b = balB l r → K (.one (.at (vB b))) [] []) : vc C0 A0 Try.f144 [.at (vI l), .at (vI r)] [] (normK 0 K) := by
  refine Eq.mp (show (brS (decide (l < 0)) ((K (SV.one (TV.at (At.val (Value.bool false)))) [] [])) ((brS (decide (l > 2147483647)) ((K (SV.one (TV.at (At.val (Value.bool false)))) [] [])) ((brS (decide (r < 0)) ((K (SV.one (TV.at (At.val (Value.bool false)))) [] [])) ((brS (decide (r > 2147483647)) ((K (SV.one (TV.at (At.val (Value.bool false)))) [] [])) ((brS (decide (IntKind.i64.wrap (l + 1) ≤ IntKind.i64.wrap (3 * IntKind.i64.wrap (r + 1)))) ((K (SV.one (TV.at (At.val (Value.bool (decide (IntKind.i64.wrap (r + 1) ≤ IntKind.i64.wrap (3 * IntKind.i64.wrap (l + 1)))))))) [] [])) ((K (SV.one (TV.at (At.val (Value.bool false)))) [] []))))))))))) = _ by kernel_rfl) ?_
  rw [wrap_id (x := l + 1) (by omega) (by omega), wrap_id (x := r + 1) (by omega) (by omega), wrap_id (x := 3 * (l + 1)) (by omega) (by omega), wrap_id (x := 3 * (r + 1)) (by omega) (by omega)]
  refine brS_of (fun c => ?_) fun _ => brS_of (fun c => ?_) fun _ => brS_of (fun c => ?_) fun _ => brS_of (fun c => ?_) fun _ => brS_of (fun c => ?_) fun c => ?_
  · have := of_decide_eq_true c; omega
  · have : l > 2147483647 := of_decide_eq_true c; omega
  · have := of_decide_eq_true c; omega
  · have : r > 2147483647 := of_decide_eq_true c; omega
  · have c : l + 1 ≤ 3 * (r + 1) := of_decide_eq_true c
    exact h _ (by unfold balB balN; simp [c])
  · have c : ¬ l + 1 ≤ 3 * (r + 1) := of_decide_eq_false c
    exact h _ (by unfold balB balN; simp [c])
theorem s_bal : SoundT C0 144 tBal := by
  refine .of Try.func144 (by decide) rfl fun args H K h hB => ?_
  unfold tBal at h
  split at h <;> try exact h.elim
  rename_i l r
  exact ⟨A0, trivial, vc_bal l r K h.1 h.2.1 h.2.2.1 h.2.2.2.1 h.2.2.2.2⟩
theorem vc_pivot (n t : Int) (K : KT) (h1 : 1 ≤ n) (h2 : n ≤ 100000) (h3 : 0 ≤ t) (h : ∀ p, 0 ≤ p → p < n → balN p (n - 1 - p) → K (.one (.at (vI p))) [] []) :
    vc C0 (aPivot n) Try.f123 [.at (vI n), .at (vU64 t)] [] (normK 0 K) := by
  refine Eq.mp (show ((0 ≤ n) ∧
(n ≤ 1000000) ∧
(∀ x : Int, (((x) = (n / 4)) → ((∃ x1 : XPv n, (True ∧ (((Value.int IntKind.i64 (n)) = (Value.int IntKind.i64 (n))) ∧ ((Value.int IntKind.u64 (t)) = (Value.int IntKind.u64 (t))) ∧ ((Value.int IntKind.i64 (x)) = (Value.int IntKind.i64 (x1.lo))) ∧ True) ∧ True)) ∧ (∀ x1 : XPv n, (True → (brS (decide (x1.lo > 0)) (((0 ≤ IntKind.i64.wrap (x1.lo - 1)) ∧ (IntKind.i64.wrap (x1.lo - 1) ≤ 1000000) ∧ (0 ≤ IntKind.i64.wrap (n - x1.lo)) ∧ (IntKind.i64.wrap (n - x1.lo) ≤ 1000000) ∧ (∀ b : Bool, (((b) = (balB (IntKind.i64.wrap (x1.lo - 1)) (IntKind.i64.wrap (n - x1.lo)))) → (brS (b) ((∃ x' : XPv n, (True ∧ ((((Value.int IntKind.i64 (n)) = (Value.int IntKind.i64 (n))) ∧ ((Value.int IntKind.u64 (t)) = (Value.int IntKind.u64 (t))) ∧ ((Value.int IntKind.i64 (IntKind.i64.wrap (x1.lo - 1))) = (Value.int IntKind.i64 (x'.lo))) ∧ True) ∧ True) ∧ (x'.lo.toNat < x1.lo.toNat)))) (((∃ x2 : XPv n, (True ∧ (((Value.int IntKind.i64 (n)) = (Value.int IntKind.i64 (n))) ∧ ((Value.int IntKind.u64 (t)) = (Value.int IntKind.u64 (t))) ∧ ((Value.int IntKind.i64 (x1.lo)) = (Value.int IntKind.i64 (x2.lo))) ∧ True) ∧ True)) ∧ (∀ x2 : XPv n, (True → (brS (decide (x2.lo < IntKind.i64.wrap (n - 1))) (((0 ≤ x2.lo) ∧ (x2.lo ≤ 1000000) ∧ (0 ≤ IntKind.i64.wrap (IntKind.i64.wrap (n - 1) - x2.lo)) ∧ (IntKind.i64.wrap (IntKind.i64.wrap (n - 1) - x2.lo) ≤ 1000000) ∧ (∀ b1 : Bool, (((b1) = (balB x2.lo (IntKind.i64.wrap (IntKind.i64.wrap (n - 1) - x2.lo)))) → (brS (!b1) ((∃ x' : XPv n, (True ∧
    ((((Value.int IntKind.i64 (n)) = (Value.int IntKind.i64 (n))) ∧ ((Value.int IntKind.u64 (t)) = (Value.int IntKind.u64 (t))) ∧ ((Value.int IntKind.i64 (IntKind.i64.wrap (x2.lo + 1))) = (Value.int IntKind.i64 (x'.lo))) ∧ True) ∧ True) ∧ ((n - x'.lo).toNat < (n - x2.lo).toNat)))) ((brS (decide (IntKind.i64.wrap (IntKind.i64.wrap (n - 1) - x2.lo) < x2.lo)) ((K (SV.one (TV.at (At.val (Value.int IntKind.i64 (IntKind.i64.wrap (n.tdiv 2)))))) [] [])) (((IntKind.u64.wrap (IntKind.i64.wrap (IntKind.i64.wrap (IntKind.i64.wrap (IntKind.i64.wrap (n - 1) - x2.lo) - x2.lo) + 1)) ≠ 0) ∧ (K (SV.one (TV.at (At.val (Value.int IntKind.i64 (IntKind.i64.wrap (x2.lo + IntKind.i64.wrap (t.tmod (IntKind.u64.wrap (IntKind.i64.wrap (IntKind.i64.wrap (IntKind.i64.wrap (IntKind.i64.wrap (n - 1) - x2.lo) - x2.lo) + 1)))))))))) [] [])))))))))) ((brS (decide (IntKind.i64.wrap (IntKind.i64.wrap (n - 1) - x2.lo) < x2.lo)) ((K (SV.one (TV.at (At.val (Value.int IntKind.i64 (IntKind.i64.wrap (n.tdiv 2)))))) [] [])) (((IntKind.u64.wrap (IntKind.i64.wrap (IntKind.i64.wrap (IntKind.i64.wrap (IntKind.i64.wrap (n - 1) - x2.lo) - x2.lo) + 1)) ≠ 0) ∧ (K (SV.one (TV.at (At.val (Value.int IntKind.i64 (IntKind.i64.wrap (x2.lo + IntKind.i64.wrap (t.tmod (IntKind.u64.wrap (IntKind.i64.wrap (IntKind.i64.wrap (IntKind.i64.wrap (IntKind.i64.wrap (n - 1) - x2.lo) - x2.lo) + 1)))))))))) [] []))))))))))))))) (((∃ x2 : XPv n, (True ∧ (((Value.int IntKind.i64 (n)) = (Value.int IntKind.i64 (n))) ∧
    ((Value.int IntKind.u64 (t)) = (Value.int IntKind.u64 (t))) ∧ ((Value.int IntKind.i64 (x1.lo)) = (Value.int IntKind.i64 (x2.lo))) ∧ True) ∧ True)) ∧ (∀ x2 : XPv n, (True → (brS (decide (x2.lo < IntKind.i64.wrap (n - 1))) (((0 ≤ x2.lo) ∧ (x2.lo ≤ 1000000) ∧ (0 ≤ IntKind.i64.wrap (IntKind.i64.wrap (n - 1) - x2.lo)) ∧ (IntKind.i64.wrap (IntKind.i64.wrap (n - 1) - x2.lo) ≤ 1000000) ∧ (∀ b : Bool, (((b) = (balB x2.lo (IntKind.i64.wrap (IntKind.i64.wrap (n - 1) - x2.lo)))) → (brS (!b) ((∃ x' : XPv n, (True ∧ ((((Value.int IntKind.i64 (n)) = (Value.int IntKind.i64 (n))) ∧ ((Value.int IntKind.u64 (t)) = (Value.int IntKind.u64 (t))) ∧ ((Value.int IntKind.i64 (IntKind.i64.wrap (x2.lo + 1))) = (Value.int IntKind.i64 (x'.lo))) ∧ True) ∧ True) ∧ ((n - x'.lo).toNat < (n - x2.lo).toNat)))) ((brS (decide (IntKind.i64.wrap (IntKind.i64.wrap (n - 1) - x2.lo) < x2.lo)) ((K (SV.one (TV.at (At.val (Value.int IntKind.i64 (IntKind.i64.wrap (n.tdiv 2)))))) [] [])) (((IntKind.u64.wrap (IntKind.i64.wrap (IntKind.i64.wrap (IntKind.i64.wrap (IntKind.i64.wrap (n - 1) - x2.lo) - x2.lo) + 1)) ≠ 0) ∧ (K (SV.one (TV.at (At.val (Value.int IntKind.i64 (IntKind.i64.wrap (x2.lo + IntKind.i64.wrap (t.tmod (IntKind.u64.wrap (IntKind.i64.wrap (IntKind.i64.wrap (IntKind.i64.wrap (IntKind.i64.wrap (n - 1) - x2.lo) - x2.lo) + 1)))))))))) [] [])))))))))) ((brS (decide (IntKind.i64.wrap (IntKind.i64.wrap (n - 1) - x2.lo) < x2.lo)) ((K (SV.one (TV.at (At.val (Value.int IntKind.i64 (IntKind.i64.wrap (n.tdiv 2)))))) [] []))
    (((IntKind.u64.wrap (IntKind.i64.wrap (IntKind.i64.wrap (IntKind.i64.wrap (IntKind.i64.wrap (n - 1) - x2.lo) - x2.lo) + 1)) ≠ 0) ∧ (K (SV.one (TV.at (At.val (Value.int IntKind.i64 (IntKind.i64.wrap (x2.lo + IntKind.i64.wrap (t.tmod (IntKind.u64.wrap (IntKind.i64.wrap (IntKind.i64.wrap (IntKind.i64.wrap (IntKind.i64.wrap (n - 1) - x2.lo) - x2.lo) + 1)))))))))) [] []))))))))))))))))) = _ by kernel_rfl) ?_
  refine ⟨by omega, by omega, fun x hx => ⟨⟨⟨x, by omega, by omega, ⟨by omega, by omega⟩⟩, trivial, ⟨rfl, rfl, rfl, trivial⟩, trivial⟩, fun x1 _ => ?_⟩⟩
  obtain ⟨k1, k2, k3, k4⟩ := x1.h
  rw [wrap_id (x := x1.lo - 1) (by omega) (by omega), wrap_id (x := n - x1.lo) (by omega) (by omega)]
  refine brS_of (fun c => ?_) fun c => ?_
  · have c : x1.lo > 0 := of_decide_eq_true c
    refine ⟨by omega, by omega, by omega, by omega, fun b hb => brS_of (fun d => ?_) fun d => ?_⟩
    · rw [d] at hb
      have hb : balN (x1.lo - 1) (n - x1.lo) := of_decide_eq_true hb.symm
      refine ⟨⟨x1.lo - 1, by omega, by omega, by rw [show n - 1 - (x1.lo - 1) = n - x1.lo by omega]; exact hb⟩, trivial, ⟨⟨rfl, rfl, rfl, trivial⟩, trivial⟩, ?_⟩
      show (x1.lo - 1).toNat < x1.lo.toNat
      omega
    · skip
      refine ⟨⟨x1, trivial, ⟨rfl, rfl, rfl, trivial⟩, trivial⟩, fun x2 _ => ?_⟩
      obtain ⟨l1, l2, l3, l4⟩ := x2.h
      rw [wrap_id (x := n - 1) (by omega) (by omega), wrap_id (x := n - 1 - x2.lo) (by omega) (by omega)]
      refine brS_of (fun e => ⟨l1, by omega, by omega, by omega, fun b1 hb1 => brS_of (fun f => ?_) fun f => ?_⟩) fun e => ?_
      · have e : b1 = true := by rw [hb1]; exact decide_eq_true ⟨l3, l4⟩
        rw [e] at f; cases f
      · skip
        rw [wrap_id (x := n - 1 - x2.lo - x2.lo) (by omega) (by omega), wrap_id (x := n - 1 - x2.lo - x2.lo + 1) (by omega) (by omega)]
        refine brS_of (fun g => ?_) fun g => ?_
        · have g : n - 1 - x2.lo < x2.lo := of_decide_eq_true g
          rw [Int.tdiv_eq_ediv_of_nonneg (by omega), wrap_id (by omega) (by omega)]
          exact h _ (by omega) (by omega) ⟨by omega, by omega⟩
        · have g : ¬ n - 1 - x2.lo < x2.lo := of_decide_eq_false g
          have hm := Int.emod_nonneg t (show n - 1 - x2.lo - x2.lo + 1 ≠ 0 by omega)
          have hm2 := Int.emod_lt_of_pos t (show 0 < n - 1 - x2.lo - x2.lo + 1 by omega)
          rw [wrap_u64 (by omega) (by omega), Int.tmod_eq_emod_of_nonneg h3, wrap_id (x := t % _) (by omega) (by omega), wrap_id (by omega) (by omega)]
          exact ⟨by omega, h _ (by omega) (by omega) ⟨by omega, by omega⟩⟩
      · skip
        rw [wrap_id (x := n - 1 - x2.lo - x2.lo) (by omega) (by omega), wrap_id (x := n - 1 - x2.lo - x2.lo + 1) (by omega) (by omega)]
        refine brS_of (fun g => ?_) fun g => ?_
        · have g : n - 1 - x2.lo < x2.lo := of_decide_eq_true g
          rw [Int.tdiv_eq_ediv_of_nonneg (by omega), wrap_id (by omega) (by omega)]
          exact h _ (by omega) (by omega) ⟨by omega, by omega⟩
        · have g : ¬ n - 1 - x2.lo < x2.lo := of_decide_eq_false g
          have hm := Int.emod_nonneg t (show n - 1 - x2.lo - x2.lo + 1 ≠ 0 by omega)
          have hm2 := Int.emod_lt_of_pos t (show 0 < n - 1 - x2.lo - x2.lo + 1 by omega)
          rw [wrap_u64 (by omega) (by omega), Int.tmod_eq_emod_of_nonneg h3, wrap_id (x := t % _) (by omega) (by omega), wrap_id (by omega) (by omega)]
          exact ⟨by omega, h _ (by omega) (by omega) ⟨by omega, by omega⟩⟩
  · skip
    refine ⟨⟨x1, trivial, ⟨rfl, rfl, rfl, trivial⟩, trivial⟩, fun x2 _ => ?_⟩
    obtain ⟨l1, l2, l3, l4⟩ := x2.h
    rw [wrap_id (x := n - 1) (by omega) (by omega), wrap_id (x := n - 1 - x2.lo) (by omega) (by omega)]
    refine brS_of (fun e => ⟨l1, by omega, by omega, by omega, fun b1 hb1 => brS_of (fun f => ?_) fun f => ?_⟩) fun e => ?_
    · have e : b1 = true := by rw [hb1]; exact decide_eq_true ⟨l3, l4⟩
      rw [e] at f; cases f
    · skip
      rw [wrap_id (x := n - 1 - x2.lo - x2.lo) (by omega) (by omega), wrap_id (x := n - 1 - x2.lo - x2.lo + 1) (by omega) (by omega)]
      refine brS_of (fun g => ?_) fun g => ?_
      · have g : n - 1 - x2.lo < x2.lo := of_decide_eq_true g
        rw [Int.tdiv_eq_ediv_of_nonneg (by omega), wrap_id (by omega) (by omega)]
        exact h _ (by omega) (by omega) ⟨by omega, by omega⟩
      · have g : ¬ n - 1 - x2.lo < x2.lo := of_decide_eq_false g
        have hm := Int.emod_nonneg t (show n - 1 - x2.lo - x2.lo + 1 ≠ 0 by omega)
        have hm2 := Int.emod_lt_of_pos t (show 0 < n - 1 - x2.lo - x2.lo + 1 by omega)
        rw [wrap_u64 (by omega) (by omega), Int.tmod_eq_emod_of_nonneg h3, wrap_id (x := t % _) (by omega) (by omega), wrap_id (by omega) (by omega)]
        exact ⟨by omega, h _ (by omega) (by omega) ⟨by omega, by omega⟩⟩
    · skip
      rw [wrap_id (x := n - 1 - x2.lo - x2.lo) (by omega) (by omega), wrap_id (x := n - 1 - x2.lo - x2.lo + 1) (by omega) (by omega)]
      refine brS_of (fun g => ?_) fun g => ?_
      · have g : n - 1 - x2.lo < x2.lo := of_decide_eq_true g
        rw [Int.tdiv_eq_ediv_of_nonneg (by omega), wrap_id (by omega) (by omega)]
        exact h _ (by omega) (by omega) ⟨by omega, by omega⟩
      · have g : ¬ n - 1 - x2.lo < x2.lo := of_decide_eq_false g
        have hm := Int.emod_nonneg t (show n - 1 - x2.lo - x2.lo + 1 ≠ 0 by omega)
        have hm2 := Int.emod_lt_of_pos t (show 0 < n - 1 - x2.lo - x2.lo + 1 by omega)
        rw [wrap_u64 (by omega) (by omega), Int.tmod_eq_emod_of_nonneg h3, wrap_id (x := t % _) (by omega) (by omega), wrap_id (by omega) (by omega)]
        exact ⟨by omega, h _ (by omega) (by omega) ⟨by omega, by omega⟩⟩
theorem s_pivot : SoundT C0 123 tPivot := by
  refine .of Try.func123 (by decide) rfl fun args H K h hB => ?_
  unfold tPivot at h
  split at h <;> try exact h.elim
  rename_i n t
  exact ⟨aPivot n, ⟨frame C0.ok s_least _, frame C0.ok s_bal _, trivial⟩, vc_pivot n t K h.1 h.2.1 h.2.2.1 h.2.2.2⟩
theorem wrap_u64_nonneg (x : Int) : 0 ≤ IntKind.u64.wrap x := by
  unfold IntKind.wrap
  simp [IntKind.signed, IntKind.bits]
  omega
theorem split_at {l : List Ent} {p : Nat} (hp : p < l.length) : l.take p ++ l.getD p (0, 0) :: l.drop (p + 1) = l := by
  have h : l[p]? = some (l.getD p (0, 0)) := by simp [List.getD_eq_getElem?_getD, List.getElem?_eq_getElem hp]
  rw [← drop_cons h, List.take_append_drop]
theorem vc_plant (n : Nat) (S : Arn) (l : List Ent) (t : Int) (K : KT) (hs : List Int) (hw : Wf S hs) (h1 : l.length < n + 1) (h2 : l.length ≤ 100000) (h3 : (l.length : Int) ≤ S.free) (h4 : hs.length + l.length ≤ 900000000) (h5 : 0 ≤ t)
    (h : ∀ S' i, PlantR S hs l S' i → K (.tup [.at (vU i), .at (vB true)]) (chS S' ++ [.row false EC.ent l]) W7) :
    vc C0 (aPlant n) Try.f80 [.at (.ptr 0 0), .at (.slc 7), .at (vU64 t)] (chS S ++ [.row false EC.ent l]) (normK 8 (wideK W7 K)) := by
  refine Eq.mp (show (brS ((↑l.length : Int) == 0) ((K (SV.tup [(TV.at (At.val (Value.int IntKind.u32 0))), (TV.at (At.val (Value.bool true)))]) [(Chunk.box [(At.ptr 1 0), (At.slc 2), (At.slc 3), (At.val (Value.int IntKind.u64 (S.reads)))]), (Chunk.box [(At.slc 4), (At.slc 5), (At.slc 6), (At.val (Value.int IntKind.u32 (S.fresh)))]), (Chunk.row true (EC.node) (S.nodes)), (Chunk.row true (EC.int) (S.counts)), (Chunk.row true (EC.bool) (S.used)), (Chunk.row true (EC.u32) (S.gen)), (Chunk.row true (EC.u32) (S.rel)), (Chunk.row false (EC.ent) (l))] [0, 1, 2, 3, 4, 5, 6])) (((1 ≤ (↑l.length : Int)) ∧ ((↑l.length : Int) ≤ 100000) ∧ (0 ≤ t) ∧ (∀ p : Int, ((0 ≤ p) → ((p < (↑l.length : Int)) → ((balN p ((↑l.length : Int) - 1 - p)) → (((0 : Int) ≤ 0) ∧ (0 ≤ p) ∧ (p ≤ (↑l.length : Int)) ∧ (∃ hs : List Int, ((Wf S hs) ∧ ((List.drop (Int.toNat 0) (List.take p.toNat l)).length < n) ∧ ((List.drop (Int.toNat 0) (List.take p.toNat l)).length ≤ 100000) ∧ ((↑(List.drop (Int.toNat 0) (List.take p.toNat l)).length : Int) ≤ S.free) ∧ (hs.length + (List.drop (Int.toNat 0) (List.take p.toNat l)).length ≤ 900000000) ∧ (0 ≤ IntKind.u64.wrap (IntKind.u64.wrap (t.tdiv 5) + IntKind.u64.wrap (t * 3))) ∧ (∀ S' : Arn, (∀ i : Int, ((PlantR S hs (List.drop (Int.toNat 0) (List.take p.toNat l)) S' i) → ((0 ≤ IntKind.i64.wrap (p + 1)) ∧ (IntKind.i64.wrap (p + 1) ≤ (↑l.length : Int)) ∧ ((↑l.length : Int) ≤ (↑l.length : Int)) ∧ (∃ hs1 : List Int, ((Wf S' hs1) ∧
    ((List.drop (IntKind.i64.wrap (p + 1)).toNat (List.take (↑l.length : Int).toNat l)).length < n) ∧ ((List.drop (IntKind.i64.wrap (p + 1)).toNat (List.take (↑l.length : Int).toNat l)).length ≤ 100000) ∧ ((↑(List.drop (IntKind.i64.wrap (p + 1)).toNat (List.take (↑l.length : Int).toNat l)).length : Int) ≤ S'.free) ∧ (hs1.length + (List.drop (IntKind.i64.wrap (p + 1)).toNat (List.take (↑l.length : Int).toNat l)).length ≤ 900000000) ∧ (0 ≤ IntKind.u64.wrap (IntKind.u64.wrap (IntKind.u64.wrap (t.tdiv 7) + IntKind.u64.wrap (t * 5)) + 1)) ∧ (∀ S'1 : Arn, (∀ i1 : Int, ((PlantR S' hs1 (List.drop (IntKind.i64.wrap (p + 1)).toNat (List.take (↑l.length : Int).toNat l)) S'1 i1) → ((0 ≤ p) ∧ (p < (↑l.length : Int)) ∧ (0 ≤ p) ∧ (p < (↑l.length : Int)) ∧ (exW S'1) ∧ (live S'1 i) ∧ (live S'1 i1) ∧ ((mkNode S'1 (l.getD p.toNat (0, 0)).fst (l.getD p.toNat (0, 0)).snd i i1).size ≤ maxSize) ∧ (0 < S'1.free) ∧ (∀ S'2 : Arn, (∀ i2 : Int, (((S'2) = (makeS S'1 (l.getD p.toNat (0, 0)).fst (l.getD p.toNat (0, 0)).snd i i1)) → (((i2) = (nxt S'1)) → (∃ hs2 : List Int, ((Wf S'2 (i :: hs2)) ∧ (((S'2.us i) = true) → (1 ≤ S'2.indeg i)) ∧ (∀ S'3 : Arn, (((S'3) = (relA S'2 i)) → (∃ hs3 : List Int, ((Wf S'3 (i1 :: hs3)) ∧ (((S'3.us i1) = true) → (1 ≤ S'3.indeg i1)) ∧ (∀ S'4 : Arn, (((S'4) = (relA S'3 i1)) →
    (K (SV.tup [(TV.at (At.val (Value.int IntKind.u32 (i2)))), (TV.at (At.val (Value.bool (i2 != 0))))]) [(Chunk.box [(At.ptr 1 0), (At.slc 2), (At.slc 3), (At.val (Value.int IntKind.u64 (S'4.reads)))]), (Chunk.box [(At.slc 4), (At.slc 5), (At.slc 6), (At.val (Value.int IntKind.u32 (S'4.fresh)))]), (Chunk.row true (EC.node) (S'4.nodes)), (Chunk.row true (EC.int) (S'4.counts)), (Chunk.row true (EC.bool) (S'4.used)), (Chunk.row true (EC.u32) (S'4.gen)), (Chunk.row true (EC.u32) (S'4.rel)), (Chunk.row false (EC.ent) (l))] [0, 1, 2, 3, 4, 5, 6]))))))))))))))))))))))))))))))))) = _ by kernel_rfl) ?_
  refine brS_of (fun c => ?_) fun c => ⟨?_, by omega, h5, fun p p0 p1 hb => ?_⟩
  · have e : l = [] := List.length_eq_zero_iff.1 (by simpa using c)
    have hr : PlantR S hs l S 0 := by rw [e]; exact PlantR.nil hw (by omega)
    exact h S 0 hr
  · have c : ¬ (l.length : Int) = 0 := by simpa using c
    omega
  · have hp : p.toNat < l.length := by omega
    have ea : List.drop (Int.toNat 0) (List.take p.toNat l) = l.take p.toNat := rfl
    rw [wrap_id (x := p + 1) (by omega) (by omega), ea, show (l.length : Int).toNat = l.length by omega, List.take_length, show (p + 1).toNat = p.toNat + 1 by omega]
    have la : (l.take p.toNat).length = p.toNat := by simp; omega
    have lb : (l.drop (p.toNat + 1)).length = l.length - (p.toNat + 1) := by simp
    have hf := hw.free_nonneg
    refine ⟨by decide, p0, by omega, hs, hw, by omega, by omega, by omega, by omega, wrap_u64_nonneg _, fun S1 il r1 => ?_⟩
    have hf1 := r1.wf.free_nonneg
    have n1 := r1.nu
    have c1 : S1.cap = S.cap := by unfold Arn.cap; rw [r1.len]
    refine ⟨by omega, by omega, by omega, il :: hs, r1.wf, by omega, by omega, by omega, by simp; omega, wrap_u64_nonneg _, fun S2 ir r2 => ?_⟩
    have hf2 := r2.wf.free_nonneg
    have n2 := r2.nu
    have c2 : S2.cap = S1.cap := by unfold Arn.cap; rw [r2.len]
    have hw2 : Wf S2 (il :: ir :: hs) := r2.wf.perm (List.Perm.swap _ _ _)
    have hfr : 0 < S2.free := by omega
    obtain ⟨tl, q1, q2, _⟩ := r1.rep
    obtain ⟨tr, q3, q4, _⟩ := r2.rep
    have q1' : Rep S2 tl il := q1.held r1.wf r2.stay (.inr (by simp))
    have s1 : tl.size = p.toNat := by rw [← tl.list_len, q2, la]
    have s2 : tr.size = l.length - (p.toNat + 1) := by rw [← tr.list_len, q4, lb]
    have hz : ∀ k v, (mkNode S2 k v il ir).size ≤ maxSize := fun k v => by rw [mk_size hw2 q1' q3]; unfold maxSize; omega
    refine ⟨p0, p1, p0, p1, ⟨_, hw2⟩, hw2.held il (by simp), hw2.held ir (by simp), hz _ _, hfr, fun S3 i e1 e2 => ?_⟩
    obtain ⟨t1, t2, t3, t4⟩ := node_two (k := (l.getD p.toNat (0, 0)).1) (v := (l.getD p.toNat (0, 0)).2) hw2 hfr (hz _ _) (by omega)
    subst e1
    refine ⟨_, t1, t2, fun S4 e3 => ?_⟩
    subst e3
    refine ⟨_, t3, t4, fun S5 e4 => ?_⟩
    have hx := (hw2.nxt_spec hfr).1
    have hi0 : (i != 0) = true := by rw [e2]; simp; omega
    rw [hi0]
    refine h S5 i ?_
    have hr : PlantR S hs (l.take p.toNat ++ l.getD p.toNat (0, 0) :: l.drop (p.toNat + 1)) S5 i := r1.node r2 (by rw [la, lb]; have e : ((l.length - (p.toNat + 1) : Nat) : Int) = (l.length : Int) - 1 - p := (by omega); rw [e, show (p.toNat : Int) = p by omega]; exact hb) fun tl' tr' x1 x2 => by
      rw [e4, e2]; exact node_ok hw2 hfr (hz _ _) (by omega) x1 x2
    rw [split_at hp] at hr
    exact hr
theorem s_plant : ∀ n, SoundT C0 80 (tPlant n) := by
  intro n
  induction n with
  | zero =>
    refine .of Try.func80 (by decide) rfl fun args H K h hB => ?_
    exfalso
    unfold tPlant at h
    split at h <;> try exact h.elim
    unfold arMr at h
    split at h <;> try exact h.elim
    split at h <;> try exact h.elim
    obtain ⟨_, _, h1, _⟩ := h
    omega
  | succ n ih =>
    refine .ofW W7 Try.func80 (by decide) rfl fun args H K h hB => ?_
    unfold tPlant at h
    split at h <;> try exact h.elim
    unfold arMr at h
    split at h <;> try exact h.elim
    split at h <;> try exact h.elim
    rename_i t _ rd fr nd ct us gn rl _ l
    obtain ⟨hs, h1, h2, h3, h4, h5, h6, h7⟩ := h
    exact ⟨aPlant n, ⟨frame C0.ok s_pivot _, frame C0.ok ih _, frame C0.ok s_makeOk _, frame C0.ok s_give _, trivial⟩, vc_plant n ⟨us, gn, rl, fr, nd, ct, rd⟩ l t K hs h1 h2 h3 h4 h5 h6 h7⟩
def tPlantA : Tfm C0 := fun args H K => match args with
  | [.at (.ptr 0 0), .at (.slc 7), .at (.val (.int .u64 t))] => arMr H fun S rest => match rest with
    | [.row false .ent l] => ∃ hs, Wf S hs ∧ l.length ≤ 100000 ∧ (l.length : Int) ≤ S.free ∧ hs.length + l.length ≤ 900000000 ∧ 0 ≤ t ∧ ∀ S' i, PlantR S hs l S' i → K (.tup [.at (vU i), .at (vB true)]) (chS S' ++ [.row false EC.ent l]) W7
    | _ => False
  | _ => False
theorem s_plantA : SoundT C0 80 tPlantA := (s_plant 100001).weak fun args H K h => by
  unfold tPlantA at h
  unfold tPlant
  split at h <;> try exact h.elim
  unfold arMr at h ⊢
  split at h <;> try exact h.elim
  split at h <;> try exact h.elim
  obtain ⟨hs, h1, h2, h3, h4, h5, h6⟩ := h
  exact ⟨hs, h1, by omega, h2, h3, h4, h5, h6⟩
end Go.Proofs.Ytmjnoiajenoinaa.Sx
end
section
/- Build, Grow, and the example of the chapter on bulk operations. -/
namespace Go.Proofs.Ytmjnoiajenoinaa.Sx
open Go

/-KEEP Wf exW inU live Arn.cap Arn.free Rep rdS Tr.size BuildR PlantR rangeR newS ascB-/
def tBldA : Tfm C0 := fun args H K => match args with
  | [.at (.ptr 0 0), .at (.slc 7)] => arMr H fun S rest => match rest with
    | [.row false .ent l] => ∃ hs, Wf S hs ∧ l.length ≤ 100000 ∧ (l.length : Int) ≤ S.free ∧ hs.length + l.length ≤ 800000000 ∧ ∀ S' i, BuildR S hs l S' i → K (.one (.at (vU i))) (chS S' ++ [.row false EC.ent l]) W7
    | _ => False
  | _ => False
noncomputable def aBuild (S : Arn) (l : List Ent) : Ann C0 := { Γ := [(18, frameT [] tFree), (132, frameT [] tBldA)], inv := fun n => match n with
  | 2 => some { X := XA l, sl := [6], tf := fun x => [vi .i64 x.i], hf := fun _ => chS S ++ [.row false EC.ent l], μ := fun x => l.length - x.i }
  | _ => none }
def tBuild : Tfm C0 := fun args H K => match args with
  | [.at (.ptr 0 0), .at (.slc 7)] => arMr H fun S rest => match rest with
    | [.row false .ent l] => ∃ hs, Wf S hs ∧ l.length ≤ 100000 ∧ hs.length + l.length ≤ 800000000 ∧ (ascB l = false → K (.tup [.at (vU 0), .at (vI 7)]) (chS S ++ [.row false EC.ent l]) W7) ∧
      (ascB l = true → S.free < l.length → K (.tup [.at (vU 0), .at (vI 2)]) (chS S ++ [.row false EC.ent l]) W7) ∧
      (ascB l = true → (l.length : Int) ≤ S.free → ∀ S' i, BuildR S hs l S' i → K (.tup [.at (vU i), .at (vI 0)]) (chS S' ++ [.row false EC.ent l]) W7)
    | _ => False
  | _ => False
abbrev chSk (k : Nat) (S : Arn) : List (Chunk C0) := [.box [.ptr (k + 1) 0, .slc (k + 2), .slc (k + 3), vU64 S.reads], .box [.slc (k + 4), .slc (k + 5), .slc (k + 6), vU S.fresh], .row true EC.node S.nodes, .row true EC.int S.counts, .row true EC.bool S.used, .row true EC.u32 S.gen, .row true EC.u32 S.rel]
noncomputable def aGrow : Ann C0 := { Γ := [(11, frameT [] tNew), (80, frameT [] tPlantA)] }
def tGrow : Tfm C0 := fun args H K => match args, H with
  | [.at (.slc 0), .at (.val (.int .u64 t)), .at (.val (.int .i64 sp))], [.row false .ent l] => 0 ≤ t ∧ 1 ≤ sp ∧ sp ≤ 30000 ∧ l.length ≤ 30000 ∧ ∀ S' i, PlantR (newS ((l.length : Int) + sp).toNat) [] l S' i → K (.tup [.at (.ptr 1 0), .at (vU i), .at (vB true)]) ([.row false EC.ent l] ++ chSk 1 S') []
  | _, _ => False
noncomputable def aAwake15 : Ann C0 := { Γ := [(11, frameT [] tNew), (101, frameT [] tBuild), (60, frameT [] tNode), (54, frameT [] tList)] }
def tAwake15 : Tfm C0 := fun args H K => match args, H with
  | [], [] => K (.one (.at (vB true))) [] []
  | _, _ => False
theorem new_free {c : Nat} (_ : 1 ≤ c) (_ : c ≤ 65536) : (newS c).free = c := by
  unfold Arn.free Arn.cap newS; simp
theorem vc_grow (l : List Ent) (t sp : Int) (K : KT) (h1 : 0 ≤ t) (h2 : 1 ≤ sp) (h3 : sp ≤ 30000) (h4 : l.length ≤ 30000) (h : ∀ S' i, PlantR (newS ((l.length : Int) + sp).toNat) [] l S' i → K (.tup [.at (.ptr 1 0), .at (vU i), .at (vB true)]) ([.row false EC.ent l] ++ chSk 1 S') []) :
    vc C0 aGrow Try.f37 [.at (.slc 0), .at (vU64 t), .at (vI sp)] [.row false EC.ent l] (normK 1 K) := by
  refine Eq.mp (show (((IntKind.i64.wrap ((↑l.length : Int) + sp) < 1 ∨ 65536 < IntKind.i64.wrap ((↑l.length : Int) + sp)) →
(K (SV.tup [(TV.at (At.val (Value.pointer none))), (TV.at (At.val (Value.int IntKind.u32 0))), (TV.at (At.val (Value.bool false)))]) [(Chunk.row false (EC.ent) (l))] [])) ∧
((1 ≤ IntKind.i64.wrap ((↑l.length : Int) + sp)) →
((IntKind.i64.wrap ((↑l.length : Int) + sp) ≤ 65536) →
(∀ S : Arn, (((S) = (newS (IntKind.i64.wrap ((↑l.length : Int) + sp)).toNat)) → (∃ hs : List Int, ((Wf S hs) ∧ (l.length ≤ 100000) ∧ ((↑l.length : Int) ≤ S.free) ∧ (hs.length + l.length ≤ 900000000) ∧ (0 ≤ t) ∧ (∀ S' : Arn, (∀ i : Int, ((PlantR S hs l S' i) → (K (SV.tup [(TV.at (At.ptr 1 0)), (TV.at (At.val (Value.int IntKind.u32 (i)))), (TV.at (At.val (Value.bool true)))]) [(Chunk.row false (EC.ent) (l)), (Chunk.box [(At.ptr 2 0), (At.slc 3), (At.slc 4), (At.val (Value.int IntKind.u64 (S'.reads)))]), (Chunk.box [(At.slc 5), (At.slc 6), (At.slc 7), (At.val (Value.int IntKind.u32 (S'.fresh)))]), (Chunk.row true (EC.node) (S'.nodes)), (Chunk.row true (EC.int) (S'.counts)), (Chunk.row true (EC.bool) (S'.used)), (Chunk.row true (EC.u32) (S'.gen)), (Chunk.row true (EC.u32) (S'.rel))] []))))))))))) = _ by kernel_rfl) ?_
  rw [wrap_id (x := (l.length : Int) + sp) (by omega) (by omega)]
  refine ⟨fun c => by omega, fun _ _ S hS => ?_⟩
  subst hS
  refine ⟨[], Wf.new (by omega) (by omega), by omega, ?_, by simp; omega, h1, h⟩
  rw [new_free (by omega) (by omega)]; omega
theorem s_grow : SoundT C0 37 tGrow := by
  refine .of Try.func37 (by decide) rfl fun args H K h hB => ?_
  unfold tGrow at h
  split at h <;> try exact h.elim
  rename_i t sp l
  obtain ⟨h1, h2, h3, h4, h5⟩ := h
  exact ⟨aGrow, ⟨frame C0.ok s_new _, frame C0.ok s_plantA _, trivial⟩, vc_grow l t sp K h1 h2 h3 h4 h5⟩
end Go.Proofs.Ytmjnoiajenoinaa.Sx
end
section
/- Cursors. -/
namespace Go.Proofs.Ytmjnoiajenoinaa.Sx
open Go

/-KEEP Wf exW inU live Arn.cap Arn.free Rep rdS retA Tr.size lsT gtT entO-/
structure Cur where
  root : Int
  lo : Int
  hi : Int
  place : Int
  ek : Int
  ev : Int
  closed : Bool
abbrev bxC (k : Nat) (c : Cur) : Chunk C0 := .box [.ptr k 0, vU c.root, vI c.lo, vI c.hi, vI c.place, vI c.ek, vI c.ev, vB c.closed]
abbrev chC (c : Cur) (S : Arn) : List (Chunk C0) := bxC 1 c :: chSk 1 S
def cuM (H : List (Chunk C0)) (k : Cur → Arn → Prop) : Prop := match H with
  | [.box [.ptr 1 0, .val (.int .u32 root), .val (.int .i64 lo), .val (.int .i64 hi), .val (.int .i64 place), .val (.int .i64 ek), .val (.int .i64 ev), .val (.bool closed)], .box [.ptr 2 0, .slc 3, .slc 4, .val (.int .u64 rd)], .box [.slc 5, .slc 6, .slc 7, .val (.int .u32 fr)], .row true .node nd, .row true .int ct, .row true .bool us, .row true .u32 gn, .row true .u32 rl] => k ⟨root, lo, hi, place, ek, ev, closed⟩ ⟨us, gn, rl, fr, nd, ct, rd⟩
  | _ => False
noncomputable def aOpen : Ann C0 := { Γ := [(61, frameT [] tRetain)] }
def tOpen : Tfm C0 := fun args H K => match args with
  | [.at (.ptr 0 0), .at (.val (.int .u32 i)), .at (.val (.int .i64 lo)), .at (.val (.int .i64 hi))] => arM H fun S => inU i ∧ exW S ∧ (i = 0 → K (.tup [.at (.ptr 7 0), .at (vI 0)]) (chS S ++ [bxC 0 ⟨i, lo, hi, 0, 0, 0, false⟩]) [3]) ∧
    (i ≠ 0 → S.us i = false → K (.tup [.at (.val (.pointer none)), .at (vI 1)]) (chS S) [3]) ∧ (S.us i = true → ∀ S', S' = retA S i → K (.tup [.at (.ptr 7 0), .at (vI 0)]) (chS S' ++ [bxC 0 ⟨i, lo, hi, 0, 0, 0, false⟩]) [3])
  | _ => False
def moveC (c : Cur) (o : Option Ent) (other : Int) : Cur × Option Ent := match o with
  | some e => if e.1 < c.lo ∨ c.hi < e.1 then ({ c with place := other, ek := 0, ev := 0 }, none) else ({ c with place := 1, ek := e.1, ev := e.2 }, some e)
  | none => ({ c with place := other, ek := 0, ev := 0 }, none)
def errE (o : Option Ent) : Int := if o.isSome then 0 else 4
def tMove : Tfm C0 := fun args H K => match args with
  | [.at (.ptr 0 0), .agg [.val (.int .i64 k), .val (.int .i64 v)], .at (.val (.bool ok)), .at (.val (.int .i64 other))] => cuM H fun c S => ∃ o : Option Ent, ok = o.isSome ∧ k = (o.getD (0, 0)).1 ∧ v = (o.getD (0, 0)).2 ∧ ∀ c' r, (c', r) = moveC c o other → K (.tup [entO r, .at (vI (errE r))]) (chC c' S) [0]
  | _ => False
structure XCu (P : Arn → Option Ent → Prop) where
  S : Arn
  o : Option Ent
  h : P S o
noncomputable def aCu_next (P1 P2 : Arn → Option Ent → Prop) (c : Cur) : Ann C0 := { quiet := [84, 86], Γ := [(84, frameT [] tLu_ceil), (86, frameT [] tLu_above), (85, frameT [] tMove)], inv := fun k => match k with
  | 1006 => some { X := XCu P1, sl := [2, 4, 5], tf := fun x => [.one (.at (.ptr 8 0)), .one (.at (.ptr 9 0)), vb x.o.isSome], hf := fun x => chC c x.S ++ [.box [vI 0, vI 0], .box [vI (x.o.getD (0, 0)).1, vI (x.o.getD (0, 0)).2]], wr := [1] }
  | 1009 => some { X := XCu P2, sl := [2, 6, 7], tf := fun x => [.one (.at (.ptr 8 0)), .one (.at (.ptr 9 0)), vb x.o.isSome], hf := fun x => chC c x.S ++ [.box [vI 0, vI 0], .box [vI (x.o.getD (0, 0)).1, vI (x.o.getD (0, 0)).2]], wr := [1] }
  | _ => none }
noncomputable def aCu_prev (P1 P2 : Arn → Option Ent → Prop) (c : Cur) : Ann C0 := { quiet := [125, 126], Γ := [(125, frameT [] tLu_floor), (126, frameT [] tLu_below), (85, frameT [] tMove)], inv := fun k => match k with
  | 1006 => some { X := XCu P1, sl := [2, 4, 5], tf := fun x => [.one (.at (.ptr 8 0)), .one (.at (.ptr 9 0)), vb x.o.isSome], hf := fun x => chC c x.S ++ [.box [vI 0, vI 0], .box [vI (x.o.getD (0, 0)).1, vI (x.o.getD (0, 0)).2]], wr := [1] }
  | 1009 => some { X := XCu P2, sl := [2, 6, 7], tf := fun x => [.one (.at (.ptr 8 0)), .one (.at (.ptr 9 0)), vb x.o.isSome], hf := fun x => chC c x.S ++ [.box [vI 0, vI 0], .box [vI (x.o.getD (0, 0)).1, vI (x.o.getD (0, 0)).2]], wr := [1] }
  | _ => none }
theorem vc_open (S : Arn) (i lo hi : Int) (K : KT) (hi1 : inU i) (hw : exW S) (ha : i = 0 → K (.tup [.at (.ptr 7 0), .at (vI 0)]) (chS S ++ [bxC 0 ⟨i, lo, hi, 0, 0, 0, false⟩]) [3])
    (hb : i ≠ 0 → S.us i = false → K (.tup [.at (.val (.pointer none)), .at (vI 1)]) (chS S) [3]) (hc : S.us i = true → ∀ S', S' = retA S i → K (.tup [.at (.ptr 7 0), .at (vI 0)]) (chS S' ++ [bxC 0 ⟨i, lo, hi, 0, 0, 0, false⟩]) [3]) :
    vc C0 aOpen Try.f40 [.at (.ptr 0 0), .at (vU i), .at (vI lo), .at (vI hi)] (chS S) (normK 7 (wideK [3] K)) := by
  refine Eq.mp (show ((inU i) ∧
(exW S) ∧
(((i) = 0) →
(K (SV.tup [(TV.at (At.ptr 7 0)), (TV.at (At.val (Value.int IntKind.i64 0)))]) [(Chunk.box [(At.ptr 1 0), (At.slc 2), (At.slc 3), (At.val (Value.int IntKind.u64 (S.reads)))]), (Chunk.box [(At.slc 4), (At.slc 5), (At.slc 6), (At.val (Value.int IntKind.u32 (S.fresh)))]), (Chunk.row true (EC.node) (S.nodes)), (Chunk.row true (EC.int) (S.counts)), (Chunk.row true (EC.bool) (S.used)), (Chunk.row true (EC.u32) (S.gen)), (Chunk.row true (EC.u32) (S.rel)), (Chunk.box [(At.ptr 0 0), (At.val (Value.int IntKind.u32 (i))), (At.val (Value.int IntKind.i64 (lo))), (At.val (Value.int IntKind.i64 (hi))), (At.val (Value.int IntKind.i64 0)), (At.val (Value.int IntKind.i64 0)), (At.val (Value.int IntKind.i64 0)), (At.val (Value.bool false))])] [3])) ∧
((i ≠ 0) →
(((S.us i) = false) →
(K (SV.tup [(TV.at (At.val (Value.pointer none))), (TV.at (At.val (Value.int IntKind.i64 1)))]) [(Chunk.box [(At.ptr 1 0), (At.slc 2), (At.slc 3), (At.val (Value.int IntKind.u64 (S.reads)))]), (Chunk.box [(At.slc 4), (At.slc 5), (At.slc 6), (At.val (Value.int IntKind.u32 (S.fresh)))]), (Chunk.row true (EC.node) (S.nodes)), (Chunk.row true (EC.int) (S.counts)), (Chunk.row true (EC.bool) (S.used)), (Chunk.row true (EC.u32) (S.gen)), (Chunk.row true (EC.u32) (S.rel))] [3]))) ∧
(((S.us i) = true) →
(∀ S' : Arn, (((S') = (retA S i)) →
    (K (SV.tup [(TV.at (At.ptr 7 0)), (TV.at (At.val (Value.int IntKind.i64 0)))]) [(Chunk.box [(At.ptr 1 0), (At.slc 2), (At.slc 3), (At.val (Value.int IntKind.u64 (S'.reads)))]), (Chunk.box [(At.slc 4), (At.slc 5), (At.slc 6), (At.val (Value.int IntKind.u32 (S'.fresh)))]), (Chunk.row true (EC.node) (S'.nodes)), (Chunk.row true (EC.int) (S'.counts)), (Chunk.row true (EC.bool) (S'.used)), (Chunk.row true (EC.u32) (S'.gen)), (Chunk.row true (EC.u32) (S'.rel)), (Chunk.box [(At.ptr 0 0), (At.val (Value.int IntKind.u32 (i))), (At.val (Value.int IntKind.i64 (lo))), (At.val (Value.int IntKind.i64 (hi))), (At.val (Value.int IntKind.i64 0)), (At.val (Value.int IntKind.i64 0)), (At.val (Value.int IntKind.i64 0)), (At.val (Value.bool false))])] [3]))))) = _ by kernel_rfl) ?_
  exact ⟨hi1, hw, ha, hb, hc⟩
theorem s_open : SoundT C0 40 tOpen := by
  refine .ofW [3] Try.func40 (by decide) rfl fun args H K h hB => ?_
  unfold tOpen at h
  split at h <;> try exact h.elim
  unfold arM at h
  split at h <;> try exact h.elim
  rename_i i lo hi _ rd fr nd ct us gn rl
  obtain ⟨h1, h2, h3, h4, h5⟩ := h
  exact ⟨aOpen, ⟨frame C0.ok s_retain _, trivial⟩, vc_open ⟨us, gn, rl, fr, nd, ct, rd⟩ i lo hi K h1 h2 h3 h4 h5⟩
theorem vc_move (c : Cur) (S : Arn) (k v other : Int) (ok : Bool) (K : KT) (o : Option Ent) (h1 : ok = o.isSome) (h2 : k = (o.getD (0, 0)).1) (h3 : v = (o.getD (0, 0)).2) (h : ∀ c' r, (c', r) = moveC c o other → K (.tup [entO r, .at (vI (errE r))]) (chC c' S) [0]) :
    vc C0 A0 Try.f85 [.at (.ptr 0 0), .agg [vI k, vI v], .at (vB ok), .at (vI other)] (chC c S) (normK 8 (wideK [0] K)) := by
  refine Eq.mp (show (brS (!ok) ((K (SV.tup [(TV.agg [(At.val (Value.int IntKind.i64 0)), (At.val (Value.int IntKind.i64 0))]), (TV.at (At.val (Value.int IntKind.i64 4)))]) [(Chunk.box [(At.ptr 1 0), (At.val (Value.int IntKind.u32 (c.root))), (At.val (Value.int IntKind.i64 (c.lo))), (At.val (Value.int IntKind.i64 (c.hi))), (At.val (Value.int IntKind.i64 (other))), (At.val (Value.int IntKind.i64 0)), (At.val (Value.int IntKind.i64 0)), (At.val (Value.bool (c.closed)))]), (Chunk.box [(At.ptr 2 0), (At.slc 3), (At.slc 4), (At.val (Value.int IntKind.u64 (S.reads)))]), (Chunk.box [(At.slc 5), (At.slc 6), (At.slc 7), (At.val (Value.int IntKind.u32 (S.fresh)))]), (Chunk.row true (EC.node) (S.nodes)), (Chunk.row true (EC.int) (S.counts)), (Chunk.row true (EC.bool) (S.used)), (Chunk.row true (EC.u32) (S.gen)), (Chunk.row true (EC.u32) (S.rel))] [0])) ((brS (decide (k < c.lo))
    ((K (SV.tup [(TV.agg [(At.val (Value.int IntKind.i64 0)), (At.val (Value.int IntKind.i64 0))]), (TV.at (At.val (Value.int IntKind.i64 4)))]) [(Chunk.box [(At.ptr 1 0), (At.val (Value.int IntKind.u32 (c.root))), (At.val (Value.int IntKind.i64 (c.lo))), (At.val (Value.int IntKind.i64 (c.hi))), (At.val (Value.int IntKind.i64 (other))), (At.val (Value.int IntKind.i64 0)), (At.val (Value.int IntKind.i64 0)), (At.val (Value.bool (c.closed)))]), (Chunk.box [(At.ptr 2 0), (At.slc 3), (At.slc 4), (At.val (Value.int IntKind.u64 (S.reads)))]), (Chunk.box [(At.slc 5), (At.slc 6), (At.slc 7), (At.val (Value.int IntKind.u32 (S.fresh)))]), (Chunk.row true (EC.node) (S.nodes)), (Chunk.row true (EC.int) (S.counts)), (Chunk.row true (EC.bool) (S.used)), (Chunk.row true (EC.u32) (S.gen)), (Chunk.row true (EC.u32) (S.rel))] [0])) ((brS (decide (k > c.hi))
    ((K (SV.tup [(TV.agg [(At.val (Value.int IntKind.i64 0)), (At.val (Value.int IntKind.i64 0))]), (TV.at (At.val (Value.int IntKind.i64 4)))]) [(Chunk.box [(At.ptr 1 0), (At.val (Value.int IntKind.u32 (c.root))), (At.val (Value.int IntKind.i64 (c.lo))), (At.val (Value.int IntKind.i64 (c.hi))), (At.val (Value.int IntKind.i64 (other))), (At.val (Value.int IntKind.i64 0)), (At.val (Value.int IntKind.i64 0)), (At.val (Value.bool (c.closed)))]), (Chunk.box [(At.ptr 2 0), (At.slc 3), (At.slc 4), (At.val (Value.int IntKind.u64 (S.reads)))]), (Chunk.box [(At.slc 5), (At.slc 6), (At.slc 7), (At.val (Value.int IntKind.u32 (S.fresh)))]), (Chunk.row true (EC.node) (S.nodes)), (Chunk.row true (EC.int) (S.counts)), (Chunk.row true (EC.bool) (S.used)), (Chunk.row true (EC.u32) (S.gen)), (Chunk.row true (EC.u32) (S.rel))] [0]))
    ((K (SV.tup [(TV.agg [(At.val (Value.int IntKind.i64 (k))), (At.val (Value.int IntKind.i64 (v)))]), (TV.at (At.val (Value.int IntKind.i64 0)))]) [(Chunk.box [(At.ptr 1 0), (At.val (Value.int IntKind.u32 (c.root))), (At.val (Value.int IntKind.i64 (c.lo))), (At.val (Value.int IntKind.i64 (c.hi))), (At.val (Value.int IntKind.i64 1)), (At.val (Value.int IntKind.i64 (k))), (At.val (Value.int IntKind.i64 (v))), (At.val (Value.bool (c.closed)))]), (Chunk.box [(At.ptr 2 0), (At.slc 3), (At.slc 4), (At.val (Value.int IntKind.u64 (S.reads)))]), (Chunk.box [(At.slc 5), (At.slc 6), (At.slc 7), (At.val (Value.int IntKind.u32 (S.fresh)))]), (Chunk.row true (EC.node) (S.nodes)), (Chunk.row true (EC.int) (S.counts)), (Chunk.row true (EC.bool) (S.used)), (Chunk.row true (EC.u32) (S.gen)), (Chunk.row true (EC.u32) (S.rel))] [0]))))))) = _ by kernel_rfl) ?_
  cases o with
  | none =>
    have h1 : ok = false := h1
    subst h1
    exact brS_of (fun _ => h _ none rfl) fun d => by cases d
  | some e =>
    have h1 : ok = true := h1
    have h2 : k = e.1 := h2
    have h3 : v = e.2 := h3
    obtain ⟨k', v'⟩ := e
    subst h1 h2 h3
    refine brS_of (fun d => by cases d) fun _ => brS_of (fun d => ?_) fun d => brS_of (fun e => ?_) fun e => ?_
    · exact h _ none (by simp only [moveC]; rw [if_pos (.inl (of_decide_eq_true d))])
    · exact h _ none (by simp only [moveC]; rw [if_pos (.inr (of_decide_eq_true e))])
    · exact h _ (some _) (by simp only [moveC]; rw [if_neg (fun q => q.elim (of_decide_eq_false d) (of_decide_eq_false e))])
theorem s_move : SoundT C0 85 tMove := by
  refine .ofW [0] Try.func85 (by decide) rfl fun args H K h hB => ?_
  unfold tMove at h
  split at h <;> try exact h.elim
  unfold cuM at h
  split at h <;> try exact h.elim
  rename_i k v ok other _ root lo hi place ek ev closed rd fr nd ct us gn rl
  obtain ⟨o, h1, h2, h3, h4⟩ := h
  exact ⟨A0, trivial, vc_move ⟨root, lo, hi, place, ek, ev, closed⟩ ⟨us, gn, rl, fr, nd, ct, rd⟩ k v other ok K o h1 h2 h3 h4⟩
def nextC (t : Tr) (c : Cur) : Cur × Option Ent × Int := if c.closed then (c, none, 6) else if c.place = 0 then ((moveC c (lsT t (fun k => decide (k ≥ c.lo)) none).1 2).1, (moveC c (lsT t (fun k => decide (k ≥ c.lo)) none).1 2).2, errE (moveC c (lsT t (fun k => decide (k ≥ c.lo)) none).1 2).2)
  else if c.place = 1 then ((moveC c (lsT t (fun k => decide (k > c.ek)) none).1 2).1, (moveC c (lsT t (fun k => decide (k > c.ek)) none).1 2).2, errE (moveC c (lsT t (fun k => decide (k > c.ek)) none).1 2).2) else (c, none, 4)
def tCu_next : Tfm C0 := fun args H K => match args with
  | [.at (.ptr 0 0)] => cuM H fun c S => ∃ hs t, Wf S hs ∧ Rep S t c.root ∧ t.size ≤ 1000000 ∧ S.reads + t.size ≤ 3000000000000000000 ∧ ∀ S' m c' r e, S' = rdS S m → m ≤ t.size → (c', r, e) = nextC t c → K (.tup [entO r, .at (vI e)]) (chC c' S') [0, 1]
  | _ => False
theorem vc_cu_next (c : Cur) (S : Arn) (K : KT) (hs : List Int) (t : Tr) (hw : Wf S hs) (hr : Rep S t c.root) (h1 : t.size ≤ 1000000) (h2 : S.reads + t.size ≤ 3000000000000000000)
    (h : ∀ S' m c' r e, S' = rdS S m → m ≤ t.size → (c', r, e) = nextC t c → K (.tup [entO r, .at (vI e)]) (chC c' S') [0, 1]) :
    vc C0 (aCu_next (fun S1 o => S1 = rdS S (lsT t (fun k => decide (k ≥ c.lo)) none).2 ∧ o = (lsT t (fun k => decide (k ≥ c.lo)) none).1) (fun S1 o => S1 = rdS S (lsT t (fun k => decide (k > c.ek)) none).2 ∧ o = (lsT t (fun k => decide (k > c.ek)) none).1) c)
      Try.f42 [.at (.ptr 0 0)] (chC c S) (normK 8 (wideK [0, 1] K)) := by
  generalize hP1 : (fun S1 o => S1 = rdS S (lsT t (fun k => decide (k ≥ c.lo)) none).2 ∧ o = (lsT t (fun k => decide (k ≥ c.lo)) none).1) = P1
  generalize hP2 : (fun S1 o => S1 = rdS S (lsT t (fun k => decide (k > c.ek)) none).2 ∧ o = (lsT t (fun k => decide (k > c.ek)) none).1) = P2
  refine Eq.mp (show (brS (c.closed) ((K (SV.tup [(TV.agg [(At.val (Value.int IntKind.i64 0)), (At.val (Value.int IntKind.i64 0))]), (TV.at (At.val (Value.int IntKind.i64 6)))]) [(Chunk.box [(At.ptr 1 0), (At.val (Value.int IntKind.u32 (c.root))), (At.val (Value.int IntKind.i64 (c.lo))), (At.val (Value.int IntKind.i64 (c.hi))), (At.val (Value.int IntKind.i64 (c.place))), (At.val (Value.int IntKind.i64 (c.ek))), (At.val (Value.int IntKind.i64 (c.ev))), (At.val (Value.bool (c.closed)))]), (Chunk.box [(At.ptr 2 0), (At.slc 3), (At.slc 4), (At.val (Value.int IntKind.u64 (S.reads)))]), (Chunk.box [(At.slc 5), (At.slc 6), (At.slc 7), (At.val (Value.int IntKind.u32 (S.fresh)))]), (Chunk.row true (EC.node) (S.nodes)), (Chunk.row true (EC.int) (S.counts)), (Chunk.row true (EC.bool) (S.used)), (Chunk.row true (EC.u32) (S.gen)), (Chunk.row true (EC.u32) (S.rel))] [0, 1])) ((brS (c.place == 0) ((((∃ hs : List Int, (∃ t : Tr, ((Wf S hs) ∧ (Rep S t c.root) ∧ (t.size ≤ 1000000) ∧ (S.reads + (↑t.size : Int) ≤ 3000000000000000000) ∧ (∀ S' : Arn, (∀ o : Option Ent, (((S') = (rdS S (lsT t (fun k => decide (k ≥ c.lo)) none).snd)) → (((o) = ((lsT t (fun k => decide (k ≥ c.lo)) none).fst)) → (∃ x : XCu P1, (True ∧ (True ∧ True ∧ True ∧ ((Value.bool (o.isSome)) = (Value.bool (x.o.isSome))) ∧ True) ∧ (True ∧ ((Value.int IntKind.u32 (c.root)) = (Value.int IntKind.u32 (c.root))) ∧ ((Value.int IntKind.i64 (c.lo)) = (Value.int IntKind.i64 (c.lo))) ∧ ((Value.int IntKind.i64 (c.hi)) = (Value.int IntKind.i64 (c.hi))) ∧
    ((Value.int IntKind.i64 (c.place)) = (Value.int IntKind.i64 (c.place))) ∧ ((Value.int IntKind.i64 (c.ek)) = (Value.int IntKind.i64 (c.ek))) ∧ ((Value.int IntKind.i64 (c.ev)) = (Value.int IntKind.i64 (c.ev))) ∧ ((Value.bool (c.closed)) = (Value.bool (c.closed))) ∧ True) ∧ (True ∧ True ∧ True ∧ ((Value.int IntKind.u64 (S'.reads)) = (Value.int IntKind.u64 (x.S.reads))) ∧ True) ∧ (True ∧ True ∧ True ∧ ((Value.int IntKind.u32 (S'.fresh)) = (Value.int IntKind.u32 (x.S.fresh))) ∧ True) ∧ ((S'.nodes) = (x.S.nodes)) ∧ ((S'.counts) = (x.S.counts)) ∧ ((S'.used) = (x.S.used)) ∧ ((S'.gen) = (x.S.gen)) ∧ ((S'.rel) = (x.S.rel)) ∧ (((Value.int IntKind.i64 0) = (Value.int IntKind.i64 0)) ∧ ((Value.int IntKind.i64 0) = (Value.int IntKind.i64 0)) ∧ True) ∧ (((Value.int IntKind.i64 ((o.getD (0, 0)).fst)) = (Value.int IntKind.i64 ((x.o.getD (0, 0)).fst))) ∧ ((Value.int IntKind.i64 ((o.getD (0, 0)).snd)) = (Value.int IntKind.i64 ((x.o.getD (0, 0)).snd))) ∧ True) ∧ True))))))))) ∧ (∃ hs : List Int, (∃ t : Tr, ((Wf S hs) ∧ (Rep S t c.root) ∧ (t.size ≤ 1000000) ∧ (S.reads + (↑t.size : Int) ≤ 3000000000000000000) ∧ (∀ S' : Arn, (∀ o : Option Ent, (((S') = (rdS S (lsT t (fun k => decide (k ≥ c.lo)) none).snd)) → (((o) = ((lsT t (fun k => decide (k ≥ c.lo)) none).fst)) → (∃ x : XCu P1, (True ∧ (True ∧ True ∧ True ∧ ((Value.bool (o.isSome)) = (Value.bool (x.o.isSome))) ∧ True) ∧ (True ∧ ((Value.int IntKind.u32 (c.root)) = (Value.int IntKind.u32 (c.root))) ∧
    ((Value.int IntKind.i64 (c.lo)) = (Value.int IntKind.i64 (c.lo))) ∧ ((Value.int IntKind.i64 (c.hi)) = (Value.int IntKind.i64 (c.hi))) ∧ ((Value.int IntKind.i64 (c.place)) = (Value.int IntKind.i64 (c.place))) ∧ ((Value.int IntKind.i64 (c.ek)) = (Value.int IntKind.i64 (c.ek))) ∧ ((Value.int IntKind.i64 (c.ev)) = (Value.int IntKind.i64 (c.ev))) ∧ ((Value.bool (c.closed)) = (Value.bool (c.closed))) ∧ True) ∧ (True ∧ True ∧ True ∧ ((Value.int IntKind.u64 (S'.reads)) = (Value.int IntKind.u64 (x.S.reads))) ∧ True) ∧ (True ∧ True ∧ True ∧ ((Value.int IntKind.u32 (S'.fresh)) = (Value.int IntKind.u32 (x.S.fresh))) ∧ True) ∧ ((S'.nodes) = (x.S.nodes)) ∧ ((S'.counts) = (x.S.counts)) ∧ ((S'.used) = (x.S.used)) ∧ ((S'.gen) = (x.S.gen)) ∧ ((S'.rel) = (x.S.rel)) ∧ (((Value.int IntKind.i64 0) = (Value.int IntKind.i64 0)) ∧ ((Value.int IntKind.i64 0) = (Value.int IntKind.i64 0)) ∧ True) ∧ (((Value.int IntKind.i64 ((o.getD (0, 0)).fst)) = (Value.int IntKind.i64 ((x.o.getD (0, 0)).fst))) ∧ ((Value.int IntKind.i64 ((o.getD (0, 0)).snd)) = (Value.int IntKind.i64 ((x.o.getD (0, 0)).snd))) ∧ True) ∧ True)))))))))) ∧ (∀ x : XCu P1, (True → (∃ o : Option Ent, (((x.o.isSome) = (o.isSome)) ∧ (((x.o.getD (0, 0)).fst) = ((o.getD (0, 0)).fst)) ∧ (((x.o.getD (0, 0)).snd) = ((o.getD (0, 0)).snd)) ∧ (∀ c' : Cur, (∀ r : Option Ent, (((Prod.mk (c') (r)) = (moveC c o 2)) →
    (K (SV.tup [(TV.agg [(At.val (Value.int IntKind.i64 ((r.getD (0, 0)).fst))), (At.val (Value.int IntKind.i64 ((r.getD (0, 0)).snd)))]), (TV.at (At.val (Value.int IntKind.i64 (errE r))))]) [(Chunk.box [(At.ptr 1 0), (At.val (Value.int IntKind.u32 (c'.root))), (At.val (Value.int IntKind.i64 (c'.lo))), (At.val (Value.int IntKind.i64 (c'.hi))), (At.val (Value.int IntKind.i64 (c'.place))), (At.val (Value.int IntKind.i64 (c'.ek))), (At.val (Value.int IntKind.i64 (c'.ev))), (At.val (Value.bool (c'.closed)))]), (Chunk.box [(At.ptr 2 0), (At.slc 3), (At.slc 4), (At.val (Value.int IntKind.u64 (x.S.reads)))]), (Chunk.box [(At.slc 5), (At.slc 6), (At.slc 7), (At.val (Value.int IntKind.u32 (x.S.fresh)))]), (Chunk.row true (EC.node) (x.S.nodes)), (Chunk.row true (EC.int) (x.S.counts)), (Chunk.row true (EC.bool) (x.S.used)), (Chunk.row true (EC.u32) (x.S.gen)), (Chunk.row true (EC.u32) (x.S.rel))] [0, 1])))))))))) ((brS (c.place == 1) ((((∃ hs : List Int, (∃ t : Tr, ((Wf S hs) ∧ (Rep S t c.root) ∧ (t.size ≤ 1000000) ∧ (S.reads + (↑t.size : Int) ≤ 3000000000000000000) ∧ (∀ S' : Arn, (∀ o : Option Ent, (((S') = (rdS S (lsT t (fun k => decide (k > c.ek)) none).snd)) → (((o) = ((lsT t (fun k => decide (k > c.ek)) none).fst)) → (∃ x : XCu P2, (True ∧ (True ∧ True ∧ True ∧ ((Value.bool (o.isSome)) = (Value.bool (x.o.isSome))) ∧ True) ∧ (True ∧ ((Value.int IntKind.u32 (c.root)) = (Value.int IntKind.u32 (c.root))) ∧ ((Value.int IntKind.i64 (c.lo)) = (Value.int IntKind.i64 (c.lo))) ∧
    ((Value.int IntKind.i64 (c.hi)) = (Value.int IntKind.i64 (c.hi))) ∧ ((Value.int IntKind.i64 (c.place)) = (Value.int IntKind.i64 (c.place))) ∧ ((Value.int IntKind.i64 (c.ek)) = (Value.int IntKind.i64 (c.ek))) ∧ ((Value.int IntKind.i64 (c.ev)) = (Value.int IntKind.i64 (c.ev))) ∧ ((Value.bool (c.closed)) = (Value.bool (c.closed))) ∧ True) ∧ (True ∧ True ∧ True ∧ ((Value.int IntKind.u64 (S'.reads)) = (Value.int IntKind.u64 (x.S.reads))) ∧ True) ∧ (True ∧ True ∧ True ∧ ((Value.int IntKind.u32 (S'.fresh)) = (Value.int IntKind.u32 (x.S.fresh))) ∧ True) ∧ ((S'.nodes) = (x.S.nodes)) ∧ ((S'.counts) = (x.S.counts)) ∧ ((S'.used) = (x.S.used)) ∧ ((S'.gen) = (x.S.gen)) ∧ ((S'.rel) = (x.S.rel)) ∧ (((Value.int IntKind.i64 0) = (Value.int IntKind.i64 0)) ∧ ((Value.int IntKind.i64 0) = (Value.int IntKind.i64 0)) ∧ True) ∧ (((Value.int IntKind.i64 ((o.getD (0, 0)).fst)) = (Value.int IntKind.i64 ((x.o.getD (0, 0)).fst))) ∧ ((Value.int IntKind.i64 ((o.getD (0, 0)).snd)) = (Value.int IntKind.i64 ((x.o.getD (0, 0)).snd))) ∧ True) ∧ True))))))))) ∧ (∃ hs : List Int, (∃ t : Tr, ((Wf S hs) ∧ (Rep S t c.root) ∧ (t.size ≤ 1000000) ∧ (S.reads + (↑t.size : Int) ≤ 3000000000000000000) ∧ (∀ S' : Arn, (∀ o : Option Ent, (((S') = (rdS S (lsT t (fun k => decide (k > c.ek)) none).snd)) → (((o) = ((lsT t (fun k => decide (k > c.ek)) none).fst)) → (∃ x : XCu P2, (True ∧ (True ∧ True ∧ True ∧ ((Value.bool (o.isSome)) = (Value.bool (x.o.isSome))) ∧ True) ∧ (True ∧
    ((Value.int IntKind.u32 (c.root)) = (Value.int IntKind.u32 (c.root))) ∧ ((Value.int IntKind.i64 (c.lo)) = (Value.int IntKind.i64 (c.lo))) ∧ ((Value.int IntKind.i64 (c.hi)) = (Value.int IntKind.i64 (c.hi))) ∧ ((Value.int IntKind.i64 (c.place)) = (Value.int IntKind.i64 (c.place))) ∧ ((Value.int IntKind.i64 (c.ek)) = (Value.int IntKind.i64 (c.ek))) ∧ ((Value.int IntKind.i64 (c.ev)) = (Value.int IntKind.i64 (c.ev))) ∧ ((Value.bool (c.closed)) = (Value.bool (c.closed))) ∧ True) ∧ (True ∧ True ∧ True ∧ ((Value.int IntKind.u64 (S'.reads)) = (Value.int IntKind.u64 (x.S.reads))) ∧ True) ∧ (True ∧ True ∧ True ∧ ((Value.int IntKind.u32 (S'.fresh)) = (Value.int IntKind.u32 (x.S.fresh))) ∧ True) ∧ ((S'.nodes) = (x.S.nodes)) ∧ ((S'.counts) = (x.S.counts)) ∧ ((S'.used) = (x.S.used)) ∧ ((S'.gen) = (x.S.gen)) ∧ ((S'.rel) = (x.S.rel)) ∧ (((Value.int IntKind.i64 0) = (Value.int IntKind.i64 0)) ∧ ((Value.int IntKind.i64 0) = (Value.int IntKind.i64 0)) ∧ True) ∧ (((Value.int IntKind.i64 ((o.getD (0, 0)).fst)) = (Value.int IntKind.i64 ((x.o.getD (0, 0)).fst))) ∧ ((Value.int IntKind.i64 ((o.getD (0, 0)).snd)) = (Value.int IntKind.i64 ((x.o.getD (0, 0)).snd))) ∧ True) ∧ True)))))))))) ∧ (∀ x : XCu P2, (True → (∃ o : Option Ent, (((x.o.isSome) = (o.isSome)) ∧ (((x.o.getD (0, 0)).fst) = ((o.getD (0, 0)).fst)) ∧ (((x.o.getD (0, 0)).snd) = ((o.getD (0, 0)).snd)) ∧ (∀ c' : Cur, (∀ r : Option Ent, (((Prod.mk (c') (r)) = (moveC c o 2)) →
    (K (SV.tup [(TV.agg [(At.val (Value.int IntKind.i64 ((r.getD (0, 0)).fst))), (At.val (Value.int IntKind.i64 ((r.getD (0, 0)).snd)))]), (TV.at (At.val (Value.int IntKind.i64 (errE r))))]) [(Chunk.box [(At.ptr 1 0), (At.val (Value.int IntKind.u32 (c'.root))), (At.val (Value.int IntKind.i64 (c'.lo))), (At.val (Value.int IntKind.i64 (c'.hi))), (At.val (Value.int IntKind.i64 (c'.place))), (At.val (Value.int IntKind.i64 (c'.ek))), (At.val (Value.int IntKind.i64 (c'.ev))), (At.val (Value.bool (c'.closed)))]), (Chunk.box [(At.ptr 2 0), (At.slc 3), (At.slc 4), (At.val (Value.int IntKind.u64 (x.S.reads)))]), (Chunk.box [(At.slc 5), (At.slc 6), (At.slc 7), (At.val (Value.int IntKind.u32 (x.S.fresh)))]), (Chunk.row true (EC.node) (x.S.nodes)), (Chunk.row true (EC.int) (x.S.counts)), (Chunk.row true (EC.bool) (x.S.used)), (Chunk.row true (EC.u32) (x.S.gen)), (Chunk.row true (EC.u32) (x.S.rel))] [0, 1]))))))))))
    ((K (SV.tup [(TV.agg [(At.val (Value.int IntKind.i64 0)), (At.val (Value.int IntKind.i64 0))]), (TV.at (At.val (Value.int IntKind.i64 4)))]) [(Chunk.box [(At.ptr 1 0), (At.val (Value.int IntKind.u32 (c.root))), (At.val (Value.int IntKind.i64 (c.lo))), (At.val (Value.int IntKind.i64 (c.hi))), (At.val (Value.int IntKind.i64 (c.place))), (At.val (Value.int IntKind.i64 (c.ek))), (At.val (Value.int IntKind.i64 (c.ev))), (At.val (Value.bool (c.closed)))]), (Chunk.box [(At.ptr 2 0), (At.slc 3), (At.slc 4), (At.val (Value.int IntKind.u64 (S.reads)))]), (Chunk.box [(At.slc 5), (At.slc 6), (At.slc 7), (At.val (Value.int IntKind.u32 (S.fresh)))]), (Chunk.row true (EC.node) (S.nodes)), (Chunk.row true (EC.int) (S.counts)), (Chunk.row true (EC.bool) (S.used)), (Chunk.row true (EC.u32) (S.gen)), (Chunk.row true (EC.u32) (S.rel))] [0, 1]))))))) = _ by kernel_rfl) ?_
  subst hP1 hP2
  refine brS_of (fun d => ?_) fun d => brS_of (fun e => ?_) fun e => ?_
  · exact h S 0 c none 6 (rdS_zero S).symm (Nat.zero_le _) (by rw [nextC, if_pos d])
  all_goals have d : ¬ c.closed = true := by rw [d]; decide
  · have e : c.place = 0 := by simpa using e
    refine ⟨⟨⟨hs, t, hw, hr, h1, h2, fun S1 o a1 a2 => ⟨⟨S1, o, a1, a2⟩, ?_⟩⟩, hs, t, hw, hr, h1, h2, fun S1 o a1 a2 => ⟨⟨S1, o, a1, a2⟩, ?_⟩⟩, fun x _ => ⟨x.o, rfl, rfl, rfl, fun c' r b4 => ?_⟩⟩
    · (repeat' first | exact trivial | exact rfl | refine And.intro ?_ ?_)
    · (repeat' first | exact trivial | exact rfl | refine And.intro ?_ ?_)
    · obtain ⟨x1, x2⟩ := x.h
      rw [x2] at b4
      refine h x.S _ c' r _ x1 (lsT_le _ _ _) ?_
      rw [nextC, if_neg d, if_pos e, ← b4]
  · have e : ¬ c.place = 0 := by simpa using e
    refine brS_of (fun f => ?_) fun f => ?_
    · have f : c.place = 1 := by simpa using f
      refine ⟨⟨⟨hs, t, hw, hr, h1, h2, fun S1 o a1 a2 => ⟨⟨S1, o, a1, a2⟩, ?_⟩⟩, hs, t, hw, hr, h1, h2, fun S1 o a1 a2 => ⟨⟨S1, o, a1, a2⟩, ?_⟩⟩, fun x _ => ⟨x.o, rfl, rfl, rfl, fun c' r b4 => ?_⟩⟩
      · (repeat' first | exact trivial | exact rfl | refine And.intro ?_ ?_)
      · (repeat' first | exact trivial | exact rfl | refine And.intro ?_ ?_)
      · obtain ⟨x1, x2⟩ := x.h
        rw [x2] at b4
        refine h x.S _ c' r _ x1 (lsT_le _ _ _) ?_
        rw [nextC, if_neg d, if_neg e, if_pos f, ← b4]
    · have f : ¬ c.place = 1 := by simpa using f
      exact h S 0 c none 4 (rdS_zero S).symm (Nat.zero_le _) (by rw [nextC, if_neg d, if_neg e, if_neg f])
theorem s_cu_next : SoundT C0 42 tCu_next := by
  refine .ofW [0, 1] Try.func42 (by decide) rfl fun args H K h hB => ?_
  unfold tCu_next at h
  split at h <;> try exact h.elim
  unfold cuM at h
  split at h <;> try exact h.elim
  rename_i root lo hi place ek ev closed rd fr nd ct us gn rl
  obtain ⟨hs, t, h1, h2, h3, h4, h5⟩ := h
  refine ⟨_, ?_, vc_cu_next ⟨root, lo, hi, place, ek, ev, closed⟩ ⟨us, gn, rl, fr, nd, ct, rd⟩ K hs t h1 h2 h3 h4 h5⟩
  exact ⟨frame C0.ok s_lu_ceil _, frame C0.ok s_lu_above _, frame C0.ok s_move _, trivial⟩
def prevC (t : Tr) (c : Cur) : Cur × Option Ent × Int := if c.closed then (c, none, 6) else if c.place = 2 then ((moveC c (gtT t (fun k => decide (k ≤ c.hi)) none).1 0).1, (moveC c (gtT t (fun k => decide (k ≤ c.hi)) none).1 0).2, errE (moveC c (gtT t (fun k => decide (k ≤ c.hi)) none).1 0).2)
  else if c.place = 1 then ((moveC c (gtT t (fun k => decide (k < c.ek)) none).1 0).1, (moveC c (gtT t (fun k => decide (k < c.ek)) none).1 0).2, errE (moveC c (gtT t (fun k => decide (k < c.ek)) none).1 0).2) else (c, none, 4)
def tCu_prev : Tfm C0 := fun args H K => match args with
  | [.at (.ptr 0 0)] => cuM H fun c S => ∃ hs t, Wf S hs ∧ Rep S t c.root ∧ t.size ≤ 1000000 ∧ S.reads + t.size ≤ 3000000000000000000 ∧ ∀ S' m c' r e, S' = rdS S m → m ≤ t.size → (c', r, e) = prevC t c → K (.tup [entO r, .at (vI e)]) (chC c' S') [0, 1]
  | _ => False
theorem vc_cu_prev (c : Cur) (S : Arn) (K : KT) (hs : List Int) (t : Tr) (hw : Wf S hs) (hr : Rep S t c.root) (h1 : t.size ≤ 1000000) (h2 : S.reads + t.size ≤ 3000000000000000000)
    (h : ∀ S' m c' r e, S' = rdS S m → m ≤ t.size → (c', r, e) = prevC t c → K (.tup [entO r, .at (vI e)]) (chC c' S') [0, 1]) :
    vc C0 (aCu_prev (fun S1 o => S1 = rdS S (gtT t (fun k => decide (k ≤ c.hi)) none).2 ∧ o = (gtT t (fun k => decide (k ≤ c.hi)) none).1) (fun S1 o => S1 = rdS S (gtT t (fun k => decide (k < c.ek)) none).2 ∧ o = (gtT t (fun k => decide (k < c.ek)) none).1) c)
      Try.f82 [.at (.ptr 0 0)] (chC c S) (normK 8 (wideK [0, 1] K)) := by
  generalize hP1 : (fun S1 o => S1 = rdS S (gtT t (fun k => decide (k ≤ c.hi)) none).2 ∧ o = (gtT t (fun k => decide (k ≤ c.hi)) none).1) = P1
  generalize hP2 : (fun S1 o => S1 = rdS S (gtT t (fun k => decide (k < c.ek)) none).2 ∧ o = (gtT t (fun k => decide (k < c.ek)) none).1) = P2
  refine Eq.mp (show (brS (c.closed) ((K (SV.tup [(TV.agg [(At.val (Value.int IntKind.i64 0)), (At.val (Value.int IntKind.i64 0))]), (TV.at (At.val (Value.int IntKind.i64 6)))]) [(Chunk.box [(At.ptr 1 0), (At.val (Value.int IntKind.u32 (c.root))), (At.val (Value.int IntKind.i64 (c.lo))), (At.val (Value.int IntKind.i64 (c.hi))), (At.val (Value.int IntKind.i64 (c.place))), (At.val (Value.int IntKind.i64 (c.ek))), (At.val (Value.int IntKind.i64 (c.ev))), (At.val (Value.bool (c.closed)))]), (Chunk.box [(At.ptr 2 0), (At.slc 3), (At.slc 4), (At.val (Value.int IntKind.u64 (S.reads)))]), (Chunk.box [(At.slc 5), (At.slc 6), (At.slc 7), (At.val (Value.int IntKind.u32 (S.fresh)))]), (Chunk.row true (EC.node) (S.nodes)), (Chunk.row true (EC.int) (S.counts)), (Chunk.row true (EC.bool) (S.used)), (Chunk.row true (EC.u32) (S.gen)), (Chunk.row true (EC.u32) (S.rel))] [0, 1])) ((brS (c.place == 2) ((((∃ hs : List Int, (∃ t : Tr, ((Wf S hs) ∧ (Rep S t c.root) ∧ (t.size ≤ 1000000) ∧ (S.reads + (↑t.size : Int) ≤ 3000000000000000000) ∧ (∀ S' : Arn, (∀ o : Option Ent, (((S') = (rdS S (gtT t (fun k => decide (k ≤ c.hi)) none).snd)) → (((o) = ((gtT t (fun k => decide (k ≤ c.hi)) none).fst)) → (∃ x : XCu P1, (True ∧ (True ∧ True ∧ True ∧ ((Value.bool (o.isSome)) = (Value.bool (x.o.isSome))) ∧ True) ∧ (True ∧ ((Value.int IntKind.u32 (c.root)) = (Value.int IntKind.u32 (c.root))) ∧ ((Value.int IntKind.i64 (c.lo)) = (Value.int IntKind.i64 (c.lo))) ∧ ((Value.int IntKind.i64 (c.hi)) = (Value.int IntKind.i64 (c.hi))) ∧
    ((Value.int IntKind.i64 (c.place)) = (Value.int IntKind.i64 (c.place))) ∧ ((Value.int IntKind.i64 (c.ek)) = (Value.int IntKind.i64 (c.ek))) ∧ ((Value.int IntKind.i64 (c.ev)) = (Value.int IntKind.i64 (c.ev))) ∧ ((Value.bool (c.closed)) = (Value.bool (c.closed))) ∧ True) ∧ (True ∧ True ∧ True ∧ ((Value.int IntKind.u64 (S'.reads)) = (Value.int IntKind.u64 (x.S.reads))) ∧ True) ∧ (True ∧ True ∧ True ∧ ((Value.int IntKind.u32 (S'.fresh)) = (Value.int IntKind.u32 (x.S.fresh))) ∧ True) ∧ ((S'.nodes) = (x.S.nodes)) ∧ ((S'.counts) = (x.S.counts)) ∧ ((S'.used) = (x.S.used)) ∧ ((S'.gen) = (x.S.gen)) ∧ ((S'.rel) = (x.S.rel)) ∧ (((Value.int IntKind.i64 0) = (Value.int IntKind.i64 0)) ∧ ((Value.int IntKind.i64 0) = (Value.int IntKind.i64 0)) ∧ True) ∧ (((Value.int IntKind.i64 ((o.getD (0, 0)).fst)) = (Value.int IntKind.i64 ((x.o.getD (0, 0)).fst))) ∧ ((Value.int IntKind.i64 ((o.getD (0, 0)).snd)) = (Value.int IntKind.i64 ((x.o.getD (0, 0)).snd))) ∧ True) ∧ True))))))))) ∧ (∃ hs : List Int, (∃ t : Tr, ((Wf S hs) ∧ (Rep S t c.root) ∧ (t.size ≤ 1000000) ∧ (S.reads + (↑t.size : Int) ≤ 3000000000000000000) ∧ (∀ S' : Arn, (∀ o : Option Ent, (((S') = (rdS S (gtT t (fun k => decide (k ≤ c.hi)) none).snd)) → (((o) = ((gtT t (fun k => decide (k ≤ c.hi)) none).fst)) → (∃ x : XCu P1, (True ∧ (True ∧ True ∧ True ∧ ((Value.bool (o.isSome)) = (Value.bool (x.o.isSome))) ∧ True) ∧ (True ∧ ((Value.int IntKind.u32 (c.root)) = (Value.int IntKind.u32 (c.root))) ∧
    ((Value.int IntKind.i64 (c.lo)) = (Value.int IntKind.i64 (c.lo))) ∧ ((Value.int IntKind.i64 (c.hi)) = (Value.int IntKind.i64 (c.hi))) ∧ ((Value.int IntKind.i64 (c.place)) = (Value.int IntKind.i64 (c.place))) ∧ ((Value.int IntKind.i64 (c.ek)) = (Value.int IntKind.i64 (c.ek))) ∧ ((Value.int IntKind.i64 (c.ev)) = (Value.int IntKind.i64 (c.ev))) ∧ ((Value.bool (c.closed)) = (Value.bool (c.closed))) ∧ True) ∧ (True ∧ True ∧ True ∧ ((Value.int IntKind.u64 (S'.reads)) = (Value.int IntKind.u64 (x.S.reads))) ∧ True) ∧ (True ∧ True ∧ True ∧ ((Value.int IntKind.u32 (S'.fresh)) = (Value.int IntKind.u32 (x.S.fresh))) ∧ True) ∧ ((S'.nodes) = (x.S.nodes)) ∧ ((S'.counts) = (x.S.counts)) ∧ ((S'.used) = (x.S.used)) ∧ ((S'.gen) = (x.S.gen)) ∧ ((S'.rel) = (x.S.rel)) ∧ (((Value.int IntKind.i64 0) = (Value.int IntKind.i64 0)) ∧ ((Value.int IntKind.i64 0) = (Value.int IntKind.i64 0)) ∧ True) ∧ (((Value.int IntKind.i64 ((o.getD (0, 0)).fst)) = (Value.int IntKind.i64 ((x.o.getD (0, 0)).fst))) ∧ ((Value.int IntKind.i64 ((o.getD (0, 0)).snd)) = (Value.int IntKind.i64 ((x.o.getD (0, 0)).snd))) ∧ True) ∧ True)))))))))) ∧ (∀ x : XCu P1, (True → (∃ o : Option Ent, (((x.o.isSome) = (o.isSome)) ∧ (((x.o.getD (0, 0)).fst) = ((o.getD (0, 0)).fst)) ∧ (((x.o.getD (0, 0)).snd) = ((o.getD (0, 0)).snd)) ∧ (∀ c' : Cur, (∀ r : Option Ent, (((Prod.mk (c') (r)) = (moveC c o 0)) →
    (K (SV.tup [(TV.agg [(At.val (Value.int IntKind.i64 ((r.getD (0, 0)).fst))), (At.val (Value.int IntKind.i64 ((r.getD (0, 0)).snd)))]), (TV.at (At.val (Value.int IntKind.i64 (errE r))))]) [(Chunk.box [(At.ptr 1 0), (At.val (Value.int IntKind.u32 (c'.root))), (At.val (Value.int IntKind.i64 (c'.lo))), (At.val (Value.int IntKind.i64 (c'.hi))), (At.val (Value.int IntKind.i64 (c'.place))), (At.val (Value.int IntKind.i64 (c'.ek))), (At.val (Value.int IntKind.i64 (c'.ev))), (At.val (Value.bool (c'.closed)))]), (Chunk.box [(At.ptr 2 0), (At.slc 3), (At.slc 4), (At.val (Value.int IntKind.u64 (x.S.reads)))]), (Chunk.box [(At.slc 5), (At.slc 6), (At.slc 7), (At.val (Value.int IntKind.u32 (x.S.fresh)))]), (Chunk.row true (EC.node) (x.S.nodes)), (Chunk.row true (EC.int) (x.S.counts)), (Chunk.row true (EC.bool) (x.S.used)), (Chunk.row true (EC.u32) (x.S.gen)), (Chunk.row true (EC.u32) (x.S.rel))] [0, 1])))))))))) ((brS (c.place == 1) ((((∃ hs : List Int, (∃ t : Tr, ((Wf S hs) ∧ (Rep S t c.root) ∧ (t.size ≤ 1000000) ∧ (S.reads + (↑t.size : Int) ≤ 3000000000000000000) ∧ (∀ S' : Arn, (∀ o : Option Ent, (((S') = (rdS S (gtT t (fun k => decide (k < c.ek)) none).snd)) → (((o) = ((gtT t (fun k => decide (k < c.ek)) none).fst)) → (∃ x : XCu P2, (True ∧ (True ∧ True ∧ True ∧ ((Value.bool (o.isSome)) = (Value.bool (x.o.isSome))) ∧ True) ∧ (True ∧ ((Value.int IntKind.u32 (c.root)) = (Value.int IntKind.u32 (c.root))) ∧ ((Value.int IntKind.i64 (c.lo)) = (Value.int IntKind.i64 (c.lo))) ∧
    ((Value.int IntKind.i64 (c.hi)) = (Value.int IntKind.i64 (c.hi))) ∧ ((Value.int IntKind.i64 (c.place)) = (Value.int IntKind.i64 (c.place))) ∧ ((Value.int IntKind.i64 (c.ek)) = (Value.int IntKind.i64 (c.ek))) ∧ ((Value.int IntKind.i64 (c.ev)) = (Value.int IntKind.i64 (c.ev))) ∧ ((Value.bool (c.closed)) = (Value.bool (c.closed))) ∧ True) ∧ (True ∧ True ∧ True ∧ ((Value.int IntKind.u64 (S'.reads)) = (Value.int IntKind.u64 (x.S.reads))) ∧ True) ∧ (True ∧ True ∧ True ∧ ((Value.int IntKind.u32 (S'.fresh)) = (Value.int IntKind.u32 (x.S.fresh))) ∧ True) ∧ ((S'.nodes) = (x.S.nodes)) ∧ ((S'.counts) = (x.S.counts)) ∧ ((S'.used) = (x.S.used)) ∧ ((S'.gen) = (x.S.gen)) ∧ ((S'.rel) = (x.S.rel)) ∧ (((Value.int IntKind.i64 0) = (Value.int IntKind.i64 0)) ∧ ((Value.int IntKind.i64 0) = (Value.int IntKind.i64 0)) ∧ True) ∧ (((Value.int IntKind.i64 ((o.getD (0, 0)).fst)) = (Value.int IntKind.i64 ((x.o.getD (0, 0)).fst))) ∧ ((Value.int IntKind.i64 ((o.getD (0, 0)).snd)) = (Value.int IntKind.i64 ((x.o.getD (0, 0)).snd))) ∧ True) ∧ True))))))))) ∧ (∃ hs : List Int, (∃ t : Tr, ((Wf S hs) ∧ (Rep S t c.root) ∧ (t.size ≤ 1000000) ∧ (S.reads + (↑t.size : Int) ≤ 3000000000000000000) ∧ (∀ S' : Arn, (∀ o : Option Ent, (((S') = (rdS S (gtT t (fun k => decide (k < c.ek)) none).snd)) → (((o) = ((gtT t (fun k => decide (k < c.ek)) none).fst)) → (∃ x : XCu P2, (True ∧ (True ∧ True ∧ True ∧ ((Value.bool (o.isSome)) = (Value.bool (x.o.isSome))) ∧ True) ∧ (True ∧
    ((Value.int IntKind.u32 (c.root)) = (Value.int IntKind.u32 (c.root))) ∧ ((Value.int IntKind.i64 (c.lo)) = (Value.int IntKind.i64 (c.lo))) ∧ ((Value.int IntKind.i64 (c.hi)) = (Value.int IntKind.i64 (c.hi))) ∧ ((Value.int IntKind.i64 (c.place)) = (Value.int IntKind.i64 (c.place))) ∧ ((Value.int IntKind.i64 (c.ek)) = (Value.int IntKind.i64 (c.ek))) ∧ ((Value.int IntKind.i64 (c.ev)) = (Value.int IntKind.i64 (c.ev))) ∧ ((Value.bool (c.closed)) = (Value.bool (c.closed))) ∧ True) ∧ (True ∧ True ∧ True ∧ ((Value.int IntKind.u64 (S'.reads)) = (Value.int IntKind.u64 (x.S.reads))) ∧ True) ∧ (True ∧ True ∧ True ∧ ((Value.int IntKind.u32 (S'.fresh)) = (Value.int IntKind.u32 (x.S.fresh))) ∧ True) ∧ ((S'.nodes) = (x.S.nodes)) ∧ ((S'.counts) = (x.S.counts)) ∧ ((S'.used) = (x.S.used)) ∧ ((S'.gen) = (x.S.gen)) ∧ ((S'.rel) = (x.S.rel)) ∧ (((Value.int IntKind.i64 0) = (Value.int IntKind.i64 0)) ∧ ((Value.int IntKind.i64 0) = (Value.int IntKind.i64 0)) ∧ True) ∧ (((Value.int IntKind.i64 ((o.getD (0, 0)).fst)) = (Value.int IntKind.i64 ((x.o.getD (0, 0)).fst))) ∧ ((Value.int IntKind.i64 ((o.getD (0, 0)).snd)) = (Value.int IntKind.i64 ((x.o.getD (0, 0)).snd))) ∧ True) ∧ True)))))))))) ∧ (∀ x : XCu P2, (True → (∃ o : Option Ent, (((x.o.isSome) = (o.isSome)) ∧ (((x.o.getD (0, 0)).fst) = ((o.getD (0, 0)).fst)) ∧ (((x.o.getD (0, 0)).snd) = ((o.getD (0, 0)).snd)) ∧ (∀ c' : Cur, (∀ r : Option Ent, (((Prod.mk (c') (r)) = (moveC c o 0)) →
    (K (SV.tup [(TV.agg [(At.val (Value.int IntKind.i64 ((r.getD (0, 0)).fst))), (At.val (Value.int IntKind.i64 ((r.getD (0, 0)).snd)))]), (TV.at (At.val (Value.int IntKind.i64 (errE r))))]) [(Chunk.box [(At.ptr 1 0), (At.val (Value.int IntKind.u32 (c'.root))), (At.val (Value.int IntKind.i64 (c'.lo))), (At.val (Value.int IntKind.i64 (c'.hi))), (At.val (Value.int IntKind.i64 (c'.place))), (At.val (Value.int IntKind.i64 (c'.ek))), (At.val (Value.int IntKind.i64 (c'.ev))), (At.val (Value.bool (c'.closed)))]), (Chunk.box [(At.ptr 2 0), (At.slc 3), (At.slc 4), (At.val (Value.int IntKind.u64 (x.S.reads)))]), (Chunk.box [(At.slc 5), (At.slc 6), (At.slc 7), (At.val (Value.int IntKind.u32 (x.S.fresh)))]), (Chunk.row true (EC.node) (x.S.nodes)), (Chunk.row true (EC.int) (x.S.counts)), (Chunk.row true (EC.bool) (x.S.used)), (Chunk.row true (EC.u32) (x.S.gen)), (Chunk.row true (EC.u32) (x.S.rel))] [0, 1]))))))))))
    ((K (SV.tup [(TV.agg [(At.val (Value.int IntKind.i64 0)), (At.val (Value.int IntKind.i64 0))]), (TV.at (At.val (Value.int IntKind.i64 4)))]) [(Chunk.box [(At.ptr 1 0), (At.val (Value.int IntKind.u32 (c.root))), (At.val (Value.int IntKind.i64 (c.lo))), (At.val (Value.int IntKind.i64 (c.hi))), (At.val (Value.int IntKind.i64 (c.place))), (At.val (Value.int IntKind.i64 (c.ek))), (At.val (Value.int IntKind.i64 (c.ev))), (At.val (Value.bool (c.closed)))]), (Chunk.box [(At.ptr 2 0), (At.slc 3), (At.slc 4), (At.val (Value.int IntKind.u64 (S.reads)))]), (Chunk.box [(At.slc 5), (At.slc 6), (At.slc 7), (At.val (Value.int IntKind.u32 (S.fresh)))]), (Chunk.row true (EC.node) (S.nodes)), (Chunk.row true (EC.int) (S.counts)), (Chunk.row true (EC.bool) (S.used)), (Chunk.row true (EC.u32) (S.gen)), (Chunk.row true (EC.u32) (S.rel))] [0, 1]))))))) = _ by kernel_rfl) ?_
  subst hP1 hP2
  refine brS_of (fun d => ?_) fun d => brS_of (fun e => ?_) fun e => ?_
  · exact h S 0 c none 6 (rdS_zero S).symm (Nat.zero_le _) (by rw [prevC, if_pos d])
  all_goals have d : ¬ c.closed = true := by rw [d]; decide
  · have e : c.place = 2 := by simpa using e
    refine ⟨⟨⟨hs, t, hw, hr, h1, h2, fun S1 o a1 a2 => ⟨⟨S1, o, a1, a2⟩, ?_⟩⟩, hs, t, hw, hr, h1, h2, fun S1 o a1 a2 => ⟨⟨S1, o, a1, a2⟩, ?_⟩⟩, fun x _ => ⟨x.o, rfl, rfl, rfl, fun c' r b4 => ?_⟩⟩
    · (repeat' first | exact trivial | exact rfl | refine And.intro ?_ ?_)
    · (repeat' first | exact trivial | exact rfl | refine And.intro ?_ ?_)
    · obtain ⟨x1, x2⟩ := x.h
      rw [x2] at b4
      refine h x.S _ c' r _ x1 (gtT_le _ _ _) ?_
      rw [prevC, if_neg d, if_pos e, ← b4]
  · have e : ¬ c.place = 2 := by simpa using e
    refine brS_of (fun f => ?_) fun f => ?_
    · have f : c.place = 1 := by simpa using f
      refine ⟨⟨⟨hs, t, hw, hr, h1, h2, fun S1 o a1 a2 => ⟨⟨S1, o, a1, a2⟩, ?_⟩⟩, hs, t, hw, hr, h1, h2, fun S1 o a1 a2 => ⟨⟨S1, o, a1, a2⟩, ?_⟩⟩, fun x _ => ⟨x.o, rfl, rfl, rfl, fun c' r b4 => ?_⟩⟩
      · (repeat' first | exact trivial | exact rfl | refine And.intro ?_ ?_)
      · (repeat' first | exact trivial | exact rfl | refine And.intro ?_ ?_)
      · obtain ⟨x1, x2⟩ := x.h
        rw [x2] at b4
        refine h x.S _ c' r _ x1 (gtT_le _ _ _) ?_
        rw [prevC, if_neg d, if_neg e, if_pos f, ← b4]
    · have f : ¬ c.place = 1 := by simpa using f
      exact h S 0 c none 4 (rdS_zero S).symm (Nat.zero_le _) (by rw [prevC, if_neg d, if_neg e, if_neg f])
theorem s_cu_prev : SoundT C0 82 tCu_prev := by
  refine .ofW [0, 1] Try.func82 (by decide) rfl fun args H K h hB => ?_
  unfold tCu_prev at h
  split at h <;> try exact h.elim
  unfold cuM at h
  split at h <;> try exact h.elim
  rename_i root lo hi place ek ev closed rd fr nd ct us gn rl
  obtain ⟨hs, t, h1, h2, h3, h4, h5⟩ := h
  refine ⟨_, ?_, vc_cu_prev ⟨root, lo, hi, place, ek, ev, closed⟩ ⟨us, gn, rl, fr, nd, ct, rd⟩ K hs t h1 h2 h3 h4 h5⟩
  exact ⟨frame C0.ok s_lu_floor _, frame C0.ok s_lu_below _, frame C0.ok s_move _, trivial⟩
end Go.Proofs.Ytmjnoiajenoinaa.Sx
end
section
/- Cursors list all: the reference's Between, the law's helpers, the law. -/
namespace Go.Proofs.Ytmjnoiajenoinaa.Sx
open Go

/-KEEP Wf exW inU live Arn.cap Arn.free Rep rdS opS Tr.size PlantR betE listE nextC prevC newS-/
def opS (S : Arn) (i : Int) : Arn := if S.us i then retA S i else S
structure XBet (l : List Ent) where
  i : Nat
  h : i ≤ l.length
noncomputable def aBet (l : List Ent) (lo hi : Int) : Ann C0 := { Γ := [], inv := fun n => match n with
  | 3 => some { X := XBet l, sl := [8, 7], tf := fun x => [vi .i64 x.i, .one (.at (.slc 1))], hf := fun x => [.row false EC.ent l, .row true EC.ent (betE (l.take x.i) lo hi)], μ := fun x => l.length - x.i }
  | _ => none }
def tBet : Tfm C0 := fun args H K => match args, H with
  | [.at (.slc 0), .at (.val (.int .i64 lo)), .at (.val (.int .i64 hi))], [.row false .ent l] => l.length ≤ 1000000 ∧ ∀ r : List Ent, r = betE l lo hi → K (.one (.at (.slc 1))) [.row false EC.ent l, .row true EC.ent r] []
  | _, _ => False
noncomputable def aBnd : Ann C0 := { Γ := [(10, frameT [] tMod)] }
def tBnd : Tfm C0 := fun args H K => match args, H with
  | [.at (.slc 0), .at (.val (.int .i64 _)), .at (.val (.int .i64 _)), .at (.val (.int .i64 _))], [.row false .ent l] => l.length ≤ 1000000 ∧ ∀ lo' hi', K (.tup [.at (vI lo'), .at (vI hi')]) [.row false EC.ent l] []
  | _, _ => False
def tOpenL : Tfm C0 := fun args H K => match args with
  | [.at (.ptr 0 0), .at (.val (.int .u32 i)), .at (.val (.int .i64 lo)), .at (.val (.int .i64 hi))] => arM H fun S => exW S ∧ live S i ∧ ∀ S', S' = opS S i → K (.tup [.at (.ptr 7 0), .at (vI 0)]) (chS S' ++ [bxC 0 ⟨i, lo, hi, 0, 0, 0, false⟩]) [3]
  | _ => False
theorem find_filter {α : Type} (p inn : α → Bool) : ∀ {M : List α}, M.Pairwise (fun x y => p x = true → inn x = false → inn y = false) → (M.find? p).filter inn = (M.filter inn).find? p
  | [], _ => rfl
  | a :: M, h => by
    obtain ⟨h1, h2⟩ := List.pairwise_cons.1 h
    rw [List.find?_cons, List.filter_cons]
    cases hp : p a with
    | true =>
      cases hi : inn a with
      | true => simp [hi, hp]
      | false =>
        have e : M.filter inn = [] := by
          rw [List.filter_eq_nil_iff]; intro y hy; rw [h1 y hy hp hi]; decide
        simp [hi, e]
    | false =>
      simp only []
      rw [find_filter p inn h2]
      cases hi : inn a with
      | true => simp [hp]
      | false => simp
def inC (c : Cur) (x : Ent) : Bool := decide (c.lo ≤ x.1) && decide (x.1 ≤ c.hi)
def mvC (c : Cur) (o : Option Ent) (other : Int) : Cur := match o with
  | some e => { c with place := 1, ek := e.1, ev := e.2 }
  | none => { c with place := other, ek := 0, ev := 0 }
theorem moveC_eq (c : Cur) (o : Option Ent) (other : Int) : moveC c o other = (mvC c (o.filter (inC c)) other, o.filter (inC c)) := by
  cases o with
  | none => rfl
  | some e =>
    unfold moveC
    simp only [Option.filter]
    by_cases h : e.1 < c.lo ∨ c.hi < e.1
    · rw [if_pos h, if_neg (by unfold inC; simp; omega)]; rfl
    · rw [if_neg h, if_pos (by unfold inC; simp; omega)]; rfl
theorem asc_cut {W : List Ent} (h : Asc W) {j : Nat} {e : Ent} (he : W[j]? = some e) : W = W.take j ++ e :: W.drop (j + 1) ∧ (∀ x ∈ W.take j, x.1 < e.1) ∧ (∀ x ∈ W.drop (j + 1), e.1 < x.1) := by
  have e1 : W = W.take j ++ e :: W.drop (j + 1) := by rw [← drop_cons he, List.take_append_drop]
  refine ⟨e1, ?_, ?_⟩
  · rw [e1] at h
    exact fun x hx => (List.pairwise_append.1 h).2.2 x hx e (by simp)
  · rw [e1] at h
    exact fun x hx => (Srt.right h).head x hx
theorem find_gt {W : List Ent} (h : Asc W) {j : Nat} {e : Ent} (he : W[j]? = some e) : (W.find? fun x => decide (x.1 > e.1)) = W[j + 1]? := by
  obtain ⟨e1, h1, h2⟩ := asc_cut h he
  have a1 : (W.take j).find? (fun x => decide (x.1 > e.1)) = none := by
    rw [List.find?_eq_none]; intro x hx; have := h1 x hx; simp; omega
  have a2 : (W.drop (j + 1)).find? (fun x => decide (x.1 > e.1)) = W[j + 1]? := by
    cases hd : W.drop (j + 1) with
    | nil => rw [List.drop_eq_nil_iff] at hd; rw [List.getElem?_eq_none hd]; rfl
    | cons a t =>
      have := h2 a (by rw [hd]; simp)
      rw [List.find?_cons, show decide (a.1 > e.1) = true by simpa using this]
      have : (W.drop (j + 1))[0]? = some a := by rw [hd]; rfl
      rw [List.getElem?_drop] at this
      exact this.symm
  have : (W.take j ++ e :: W.drop (j + 1)).find? (fun x => decide (x.1 > e.1)) = W[j + 1]? := by
    rw [List.find?_append, a1, List.find?_cons, show decide (e.1 > e.1) = false by simp]
    simpa using a2
  rw [← e1] at this
  exact this
theorem find_lt {W : List Ent} (h : Asc W) {j : Nat} {e : Ent} (he : W[j]? = some e) : (W.reverse.find? fun x => decide (x.1 < e.1)) = if j = 0 then none else W[j - 1]? := by
  obtain ⟨e1, h1, h2⟩ := asc_cut h he
  have hj : j < W.length := (List.getElem?_eq_some_iff.1 he).1
  have a1 : (W.drop (j + 1)).reverse.find? (fun x => decide (x.1 < e.1)) = none := by
    rw [List.find?_eq_none]; intro x hx; have := h2 x (by simpa using hx); simp; omega
  have a2 : (W.take j).reverse.find? (fun x => decide (x.1 < e.1)) = if j = 0 then none else W[j - 1]? := by
    by_cases h0 : j = 0
    · rw [if_pos h0, h0]; rfl
    · rw [if_neg h0]
      have e2 : W[j - 1]? = some (W.getD (j - 1) (0, 0)) := by simp [List.getD_eq_getElem?_getD, List.getElem?_eq_getElem (show j - 1 < W.length by omega)]
      have e3 := take_snoc e2
      rw [show j - 1 + 1 = j by omega] at e3
      rw [e3, List.reverse_append, List.reverse_singleton, List.singleton_append, List.find?_cons]
      have := h1 (W.getD (j - 1) (0, 0)) (by rw [e3]; simp)
      rw [show decide ((W.getD (j - 1) (0, 0)).1 < e.1) = true by simpa using this, e2]
  have : (W.take j ++ e :: W.drop (j + 1)).reverse.find? (fun x => decide (x.1 < e.1)) = if j = 0 then none else W[j - 1]? := by
    rw [List.reverse_append, List.reverse_cons, List.append_assoc, List.find?_append, a1, List.singleton_append, List.find?_cons, show decide (e.1 < e.1) = false by simp]
    simpa using a2
  rw [← e1] at this
  exact this
def posN (W : List Ent) (c : Cur) (k : Nat) : Prop := (k = 0 ∧ c.place = 0) ∨ (0 < k ∧ c.place = 1 ∧ W[k - 1]? = some (c.ek, c.ev))
def posP (W : List Ent) (c : Cur) (j : Nat) : Prop := (j = W.length ∧ c.place = 2) ∨ (j < W.length ∧ c.place = 1 ∧ W[j]? = some (c.ek, c.ev))
theorem betE_mem {L : List Ent} {lo hi : Int} {x : Ent} (h : x ∈ betE L lo hi) : lo ≤ x.1 ∧ x.1 ≤ hi := by
  unfold betE at h
  have := (List.mem_filter.1 h).2
  simpa using this
theorem nextC_pos {t : Tr} {c : Cur} {k : Nat} (ha : Asc t.list) (hc : c.closed = false) (hk : posN (betE t.list c.lo c.hi) c k) :
    nextC t c = (mvC c (betE t.list c.lo c.hi)[k]? 2, (betE t.list c.lo c.hi)[k]?, errE (betE t.list c.lo c.hi)[k]?) := by
  have hW : Asc (betE t.list c.lo c.hi) := ha.filter _
  have key : ∀ p : Int → Bool, (∀ i j, i < j → p i = true → p j = true) → (∀ x : Ent, p x.1 = true → c.lo ≤ x.1) → ((lsT t p none).1).filter (inC c) = (betE t.list c.lo c.hi).find? fun x => p x.1 := by
    intro p h1 h2
    rw [lsT_find t p none ha h1, Option.or_none]
    refine find_filter (fun x : Ent => p x.1) (inC c) (List.Pairwise.imp (fun {x y} hxy hp hi => ?_) ha)
    have hxy : x.1 < y.1 := hxy
    have := h2 x hp
    unfold inC at hi ⊢
    simp at hi ⊢
    intro _
    have := hi (by omega)
    omega
  unfold nextC
  rw [if_neg (by rw [hc]; decide)]
  rcases hk with ⟨k0, k1⟩ | ⟨k0, k1, k2⟩
  · rw [if_pos k1]
    have e : ((lsT t (fun k => decide (k ≥ c.lo)) none).1).filter (inC c) = (betE t.list c.lo c.hi)[k]? := by
      rw [key _ (by intro i j h1 h2; simp at h2 ⊢; omega) (by intro x hx; simpa using hx), k0]
      cases hb : betE t.list c.lo c.hi with
      | nil => rfl
      | cons a s =>
        have := (betE_mem (show a ∈ betE t.list c.lo c.hi by rw [hb]; simp)).1
        rw [List.find?_cons, show decide (a.1 ≥ c.lo) = true by simpa using this]; rfl
    rw [moveC_eq, e]
  · rw [if_neg (by omega), if_pos k1]
    have hm := betE_mem (List.mem_of_getElem? k2)
    have e : ((lsT t (fun k => decide (k > c.ek)) none).1).filter (inC c) = (betE t.list c.lo c.hi)[k]? := by
      rw [key _ (by intro i j h1 h2; simp at h2 ⊢; omega) (by intro x hx; simp at hx; have := hm.1; simp at this; omega)]
      have := find_gt hW k2
      rw [show k - 1 + 1 = k by omega] at this
      exact this
    rw [moveC_eq, e]
theorem prevC_pos {t : Tr} {c : Cur} {j : Nat} (ha : Asc t.list) (hc : c.closed = false) (hj : posP (betE t.list c.lo c.hi) c j) :
    prevC t c = (mvC c (if j = 0 then none else (betE t.list c.lo c.hi)[j - 1]?) 0, (if j = 0 then none else (betE t.list c.lo c.hi)[j - 1]?), errE (if j = 0 then none else (betE t.list c.lo c.hi)[j - 1]?)) := by
  have hW : Asc (betE t.list c.lo c.hi) := ha.filter _
  have key : ∀ p : Int → Bool, (∀ i j, i < j → p j = true → p i = true) → (∀ x : Ent, p x.1 = true → x.1 ≤ c.hi) → ((gtT t p none).1).filter (inC c) = (betE t.list c.lo c.hi).reverse.find? fun x => p x.1 := by
    intro p h1 h2
    rw [gtT_find t p none ha h1, Option.or_none]
    have hf := find_filter (fun x : Ent => p x.1) (inC c) (M := t.list.reverse) (List.pairwise_reverse.2 (List.Pairwise.imp (fun {x y} hxy hp hi => ?_) ha))
    · rw [hf, List.filter_reverse]; rfl
    · have hxy : x.1 < y.1 := hxy
      have := h2 y hp
      unfold inC at hi ⊢
      simp at hi ⊢
      intro _
      omega
  unfold prevC
  rw [if_neg (by rw [hc]; decide)]
  rcases hj with ⟨k0, k1⟩ | ⟨k0, k1, k2⟩
  · rw [if_pos k1]
    have e : ((gtT t (fun k => decide (k ≤ c.hi)) none).1).filter (inC c) = if j = 0 then none else (betE t.list c.lo c.hi)[j - 1]? := by
      rw [key _ (by intro i j h1 h2; simp at h2 ⊢; omega) (by intro x hx; simpa using hx)]
      by_cases h0 : j = 0
      · have : betE t.list c.lo c.hi = [] := List.length_eq_zero_iff.1 (by omega)
        rw [if_pos h0, this]; rfl
      · rw [if_neg h0]
        have e2 : (betE t.list c.lo c.hi)[j - 1]? = some ((betE t.list c.lo c.hi).getD (j - 1) (0, 0)) := by simp [List.getD_eq_getElem?_getD, List.getElem?_eq_getElem (show j - 1 < (betE t.list c.lo c.hi).length by omega)]
        have e3 := take_snoc e2
        have e4 : (betE t.list c.lo c.hi).take (j - 1 + 1) = betE t.list c.lo c.hi := by rw [show j - 1 + 1 = (betE t.list c.lo c.hi).length by omega, List.take_length]
        rw [e4] at e3
        have hm := betE_mem (List.mem_of_getElem? e2)
        have : (betE t.list c.lo c.hi).reverse.find? (fun x => decide (x.1 ≤ c.hi)) = some ((betE t.list c.lo c.hi).getD (j - 1) (0, 0)) := by
          generalize hg : (betE t.list c.lo c.hi).getD (j - 1) (0, 0) = g at hm e3 ⊢
          rw [e3, List.reverse_append, List.reverse_singleton, List.singleton_append, List.find?_cons, show decide (g.1 ≤ c.hi) = true by simpa using hm.2]
        rw [this, e2]
    rw [moveC_eq, e]
  · rw [if_neg (by omega), if_pos k1]
    have hm := betE_mem (List.mem_of_getElem? k2)
    have e : ((gtT t (fun k => decide (k < c.ek)) none).1).filter (inC c) = if j = 0 then none else (betE t.list c.lo c.hi)[j - 1]? := by
      rw [key _ (by intro i j h1 h2; simp at h2 ⊢; omega) (by intro x hx; simp at hx; have := hm.2; simp at this; omega)]
      exact find_lt hW k2
    rw [moveC_eq, e]
theorem nextC_end {t : Tr} {c : Cur} (hc : c.closed = false) (hp : c.place = 2) : nextC t c = (c, none, 4) := by
  unfold nextC
  rw [if_neg (by rw [hc]; decide), if_neg (by omega), if_neg (by omega)]
theorem prevC_end {t : Tr} {c : Cur} (hc : c.closed = false) (hp : c.place = 0) : prevC t c = (c, none, 4) := by
  unfold prevC
  rw [if_neg (by rw [hc]; decide), if_neg (by omega), if_neg (by omega)]
theorem betE_snoc {l : List Ent} {lo hi : Int} {i : Nat} {x : Ent} (h : l[i]? = some x) : betE (l.take (i + 1)) lo hi = betE (l.take i) lo hi ++ (if (decide (lo ≤ x.1) && decide (x.1 ≤ hi)) = true then [x] else []) := by
  rw [take_snoc h]
  unfold betE
  rw [List.filter_append]
  simp only [List.filter_cons, List.filter_nil]
theorem betE_len (l : List Ent) (lo hi : Int) (i : Nat) : (betE (l.take i) lo hi).length ≤ i := by
  unfold betE
  exact Nat.le_trans (List.length_filter_le _ _) (List.length_take_le _ _)
theorem vc_bet (l : List Ent) (lo hi : Int) (K : KT) (hsm : l.length ≤ 1000000) (h : ∀ r : List Ent, r = betE l lo hi → K (.one (.at (.slc 1))) [.row false EC.ent l, .row true EC.ent r] []) :
    vc C0 (aBet l lo hi) Try.f83 [.at (.slc 0), .at (vI lo), .at (vI hi)] [.row false EC.ent l] (normK 1 K) := by
  refine Eq.mp (show ((∃ x : XBet l, (True ∧ (True ∧ ((Value.int IntKind.i64 (lo)) = (Value.int IntKind.i64 (lo))) ∧ ((Value.int IntKind.i64 (hi)) = (Value.int IntKind.i64 (hi))) ∧ True ∧ ((Value.int IntKind.i64 0) = (Value.int IntKind.i64 ((↑x.i : Int)))) ∧ True) ∧ ((l) = (l)) ∧ ([] = (betE (List.take x.i l) lo hi)) ∧ True)) ∧
(∀ x : XBet l, (True → (brS (decide ((↑x.i : Int) < (↑l.length : Int))) (((0 ≤ (↑x.i : Int)) ∧ ((↑x.i : Int) < (↑l.length : Int)) ∧ (brS (decide (lo ≤ (eA l x.i).fst)) (((0 ≤ (↑x.i : Int)) ∧ ((↑x.i : Int) < (↑l.length : Int)) ∧ (brS (decide ((eA l x.i).fst ≤ hi)) (((0 ≤ (↑x.i : Int)) ∧ ((↑x.i : Int) < (↑l.length : Int)) ∧ (((betE (List.take x.i l) lo hi).length + [eA l x.i].length) * bytesOf C0 EC.ent ≤ 140737488355328) ∧ (∃ x' : XBet l, (True ∧ ((True ∧ ((Value.int IntKind.i64 (lo)) = (Value.int IntKind.i64 (lo))) ∧ ((Value.int IntKind.i64 (hi)) = (Value.int IntKind.i64 (hi))) ∧ True ∧ ((Value.int IntKind.i64 (IntKind.i64.wrap ((↑x.i : Int) + 1))) = (Value.int IntKind.i64 ((↑x'.i : Int)))) ∧ True) ∧ ((l) = (l)) ∧ ((betE (List.take x.i l) lo hi ++ [eA l x.i]) = (betE (List.take x'.i l) lo hi)) ∧ True) ∧ (l.length - x'.i < l.length - x.i))))) ((∃ x' : XBet l, (True ∧ ((True ∧ ((Value.int IntKind.i64 (lo)) = (Value.int IntKind.i64 (lo))) ∧ ((Value.int IntKind.i64 (hi)) = (Value.int IntKind.i64 (hi))) ∧ True ∧ ((Value.int IntKind.i64 (IntKind.i64.wrap ((↑x.i : Int) + 1))) = (Value.int IntKind.i64 ((↑x'.i : Int)))) ∧ True) ∧ ((l) = (l)) ∧
    ((betE (List.take x.i l) lo hi) = (betE (List.take x'.i l) lo hi)) ∧ True) ∧ (l.length - x'.i < l.length - x.i))))))) ((∃ x' : XBet l, (True ∧ ((True ∧ ((Value.int IntKind.i64 (lo)) = (Value.int IntKind.i64 (lo))) ∧ ((Value.int IntKind.i64 (hi)) = (Value.int IntKind.i64 (hi))) ∧ True ∧ ((Value.int IntKind.i64 (IntKind.i64.wrap ((↑x.i : Int) + 1))) = (Value.int IntKind.i64 ((↑x'.i : Int)))) ∧ True) ∧ ((l) = (l)) ∧ ((betE (List.take x.i l) lo hi) = (betE (List.take x'.i l) lo hi)) ∧ True) ∧ (l.length - x'.i < l.length - x.i))))))) ((K (SV.one (TV.at (At.slc 1))) [(Chunk.row false (EC.ent) (l)), (Chunk.row true (EC.ent) (betE (List.take x.i l) lo hi))] [])))))) = _ by kernel_rfl) ?_
  refine ⟨⟨⟨0, Nat.zero_le _⟩, by simp [betE]⟩, fun x _ => brS_of (fun hi' => ?_) fun hi' => ?_⟩
  · have hi' : x.i < l.length := by simpa using hi'
    have hx := eA_get hi'
    have hs := betE_snoc (lo := lo) (hi := hi) hx
    have hlen := betE_len l lo hi x.i
    have w1 : IntKind.i64.wrap ((x.i : Int) + 1) = ((x.i + 1 : Nat) : Int) := by rw [wrap_id (by omega) (by omega)]; simp
    simp only [w1, bytes_ent]
    refine ⟨by omega, by omega, brS_of (fun h1 => ⟨by omega, by omega, brS_of (fun h2 => ⟨by omega, by omega, ?_, ⟨⟨x.i + 1, by omega⟩, ?_⟩⟩) fun h2 => ⟨⟨x.i + 1, by omega⟩, ?_⟩⟩) fun h1 => ⟨⟨x.i + 1, by omega⟩, ?_⟩⟩
    · simp; omega
    · rw [if_pos (by rw [h1, h2]; rfl)] at hs
      simp [hs]; omega
    · rw [if_neg (by rw [h1, h2]; decide)] at hs
      simp [hs]; omega
    · rw [if_neg (by rw [h1]; simp)] at hs
      simp [hs]; omega
  · have hi' : x.i = l.length := by have := x.h; simp at hi'; omega
    rw [hi', List.take_length]
    exact h _ rfl
theorem s_bet : SoundT C0 83 tBet := by
  refine .of Try.func83 (by decide) rfl fun args H K h hB => ?_
  unfold tBet at h
  split at h <;> try exact h.elim
  rename_i lo hi l
  exact ⟨aBet l lo hi, trivial, vc_bet l lo hi K h.1 h.2⟩
theorem s_openL : SoundT C0 40 tOpenL := s_open.weak fun args H K h => by
  unfold tOpenL at h
  split at h <;> try exact h.elim
  unfold arM at h
  split at h <;> try exact h.elim
  rename_i i lo hi _ rd fr nd ct us gn rl
  obtain ⟨⟨hs, hw⟩, h2, h3⟩ := h
  have hn := hw.us0 (Int.le_refl 0)
  refine ⟨inU_of hw h2, ⟨hs, hw⟩, fun e => ?_, fun e1 e2 => ?_, fun e1 S' e2 => h3 S' ?_⟩
  · exact h3 _ (by unfold opS; rw [if_neg (by rw [e, hn]; decide)])
  · rcases h2 with h2 | h2
    · exact absurd h2 e1
    · rw [e2] at h2; cases h2
  · rw [e2]; unfold opS; rw [if_pos e1]
theorem opS_wf {S : Arn} {hs : List Int} {i : Int} (h : Wf S hs) (hf : hs.length < 1000000000) : ∃ hs', Wf (opS S i) hs' := by
  unfold opS
  split
  · exact ⟨_, h.ret (by assumption) hf⟩
  · exact ⟨_, h⟩
theorem opS_rep {S : Arn} {t : Tr} {i : Int} (h : Rep S t i) (j : Int) : Rep (opS S j) t i := by
  unfold opS
  split
  · exact Rep.same (S := S) (S' := retA S j) (fun _ => rfl) (fun _ => rfl) h
  · exact h
theorem opS_reads (S : Arn) (i : Int) : (opS S i).reads = S.reads := by
  unfold opS
  split <;> rfl
end Go.Proofs.Ytmjnoiajenoinaa.Sx
end
