/- A part of the proof. -/
import Derived.Test.YtbonbaccmlomhaaGreatG5
import Derived.Test.YtbonbaccmlomhaaGreatG2
import Derived.Test.YtbonbaccmlomhaaGreatG1
section
/- The reference's lists: what their functions answer. -/
namespace Go.Proofs.YtbonbaccmlomhaaGreat.Sx
open Go

theorem wrap_in {x : Int} (h0 : -9223372036854775808 ≤ x) (h1 : x ≤ 9223372036854775807) : IntKind.i64.wrap x = x := by
  rw [IntKind.wrap_i64]; omega
def iA (p : List Int) (n : Nat) : Int := p.getD n 0
theorem iA_get {p : List Int} {n : Nat} (h : n < p.length) : p[n]? = some (iA p n) := by simp [iA, List.getD_eq_getElem?_getD, List.getElem?_eq_getElem h]
theorem drop_eq_iff {α : Type} {l m : List α} {k : Nat} {x y : α} (hl : l[k]? = some x) (hm : m[k]? = some y) : (l.drop k = m.drop k) ↔ x = y ∧ l.drop (k + 1) = m.drop (k + 1) := by
  rw [drop_cons hl, drop_cons hm, List.cons.injEq]
theorem int_neB (x y : Int) : (x != y) = !decide (x = y) := rfl
def sameB {α : Type} [DecidableEq α] (l m : List α) : Bool := decide (l = m)
structure XS {α : Type} [DecidableEq α] (l m : List α) where
  i : Nat
  h : i ≤ l.length ∧ l.length = m.length ∧ sameB l m = decide (l.drop i = m.drop i)
theorem XS.stop {α : Type} [DecidableEq α] {l m : List α} (z : XS l m) {x y : α} (hx : l[z.i]? = some x) (hy : m[z.i]? = some y) (hne : x ≠ y) : sameB l m = false := by
  rw [z.h.2.2]; apply decide_eq_false; rw [drop_eq_iff hx hy]; exact fun h => hne h.1
theorem XS.next {α : Type} [DecidableEq α] {l m : List α} (z : XS l m) {x y : α} (hx : l[z.i]? = some x) (hy : m[z.i]? = some y) (he : x = y) : ∃ z' : XS l m, z'.i = z.i + 1 := by
  have h1 := (List.getElem?_eq_some_iff.1 hx).1
  refine ⟨⟨z.i + 1, by omega, z.h.2.1, ?_⟩, rfl⟩
  rw [z.h.2.2]
  apply decide_eq_decide.2
  rw [drop_eq_iff hx hy]
  exact ⟨fun h => h.2, fun h => ⟨he, h⟩⟩
theorem XS.fin {α : Type} [DecidableEq α] {l m : List α} (z : XS l m) (h : z.i = l.length) : sameB l m = true := by
  rw [z.h.2.2, h, List.drop_length, z.h.2.1, List.drop_length]; rfl
noncomputable def aSame (e : EC) {α : Type} [DecidableEq α] (l m : List α) (L M : List (C0.α e)) : Ann C0 := { Γ := [], inv := fun n => match n with
  | 4 => some { X := XS l m, sl := [5], tf := fun x => [vi .i64 x.i], hf := fun _ => [.row false e L, .row false e M], μ := fun x => l.length - x.i }
  | _ => none }
def tSame_chg : Tfm C0 := fun args H K => match args, H with
  | [.at (.slc 0), .at (.slc 1)], [.row false .chg l, .row false .chg m] => K (.one (.at (vB (sameB (α := Chg) l m)))) [.row false EC.chg l, .row false EC.chg m] []
  | _, _ => False
def tSame_ent : Tfm C0 := fun args H K => match args, H with
  | [.at (.slc 0), .at (.slc 1)], [.row false .ent l, .row false .ent m] => K (.one (.at (vB (sameB (α := Ent) l m)))) [.row false EC.ent l, .row false EC.ent m] []
  | _, _ => False
def tSame_i64 : Tfm C0 := fun args H K => match args, H with
  | [.at (.slc 0), .at (.slc 1)], [.row false .i64 l, .row false .i64 m] => K (.one (.at (vB (sameB (α := Int) l m)))) [.row false EC.i64 l, .row false EC.i64 m] []
  | _, _ => False
theorem vc_sameI (l m : List Int) (K : KT) (hmax : l.length ≤ 9223372036854775807) (h : K (.one (.at (vB (sameB l m)))) [.row false EC.i64 l, .row false EC.i64 m] []) :
    vc C0 (aSame EC.i64 l m l m) Tryz.f17 [.at (.slc 0), .at (.slc 1)] [.row false EC.i64 l, .row false EC.i64 m] (normK 2 K) := by
  refine Eq.mp (show (brS ((↑l.length : Int) != (↑m.length : Int)) ((K (SV.one (TV.at (At.val (Value.bool false)))) [(Chunk.row false (EC.i64) (l)), (Chunk.row false (EC.i64) (m))] [])) (((∃ x : XS l m, (True ∧ (True ∧ True ∧ ((Value.int IntKind.i64 0) = (Value.int IntKind.i64 ((↑x.i : Int)))) ∧ True) ∧ ((l) = (l)) ∧ ((m) = (m)) ∧ True)) ∧ (∀ x : XS l m, (True → (brS (decide ((↑x.i : Int) < (↑l.length : Int))) (((0 ≤ (↑x.i : Int)) ∧ ((↑x.i : Int) < (↑l.length : Int)) ∧ (0 ≤ (↑x.i : Int)) ∧ ((↑x.i : Int) < (↑m.length : Int)) ∧ (brS (iA l x.i != iA m x.i) ((K (SV.one (TV.at (At.val (Value.bool false)))) [(Chunk.row false (EC.i64) (l)), (Chunk.row false (EC.i64) (m))] [])) ((∃ x' : XS l m, (True ∧ ((True ∧ True ∧ ((Value.int IntKind.i64 (IntKind.i64.wrap ((↑x.i : Int) + 1))) = (Value.int IntKind.i64 ((↑x'.i : Int)))) ∧ True) ∧ ((l) = (l)) ∧ ((m) = (m)) ∧ True) ∧ (l.length - x'.i < l.length - x.i))))))) ((K (SV.one (TV.at (At.val (Value.bool true)))) [(Chunk.row false (EC.i64) (l)), (Chunk.row false (EC.i64) (m))] [])))))))) = _ by kernel_rfl) ?_
  refine brS_of (fun hl => ?_) fun hl => ⟨⟨⟨0, Nat.zero_le _, by simp at hl; omega, rfl⟩, by simp⟩, fun x _ => brS_of (fun hi => ?_) fun hi => ?_⟩
  · have e : sameB l m = false := by
      apply decide_eq_false
      intro e
      subst e
      simp at hl
    rw [e] at h; exact h
  · have hi : x.i < l.length := by simpa using hi
    have hl := x.h.2.1
    have h1 := iA_get hi
    have h2 := iA_get (p := m) (n := x.i) (by omega)
    simp only [int_neB]
    refine ⟨by omega, by omega, by omega, by omega, brS_of (fun hd => ?_) fun hd => ?_⟩
    · have e := x.stop h1 h2 (by simpa using hd)
      rw [e] at h; exact h
    · obtain ⟨z, hz⟩ := x.next h1 h2 (by simpa using hd)
      refine ⟨z, trivial, ?_, ?_⟩
      · rw [wrap_in (by omega) (by omega), hz]; simp
      · show l.length - z.i < l.length - x.i
        omega
  · have hi : x.i = l.length := by have := x.h.1; simp at hi; omega
    have e := x.fin hi
    rw [e] at h; exact h
theorem s_sameI : SoundT C0 17 tSame_i64 := by
  refine .of Tryz.func17 (by decide) rfl fun args H K h hB => ?_
  unfold tSame_i64 at h
  split at h <;> try exact h.elim
  rename_i l m
  exact ⟨aSame EC.i64 (α := Int) l m l m, trivial, vc_sameI l m K (hB 0 _ _ _ rfl) h⟩
theorem asc_step {l : List Ent} {k : Nat} {x y : Ent} (hx : l[k]? = some x) (hy : l[k + 1]? = some y) : Asc (l.drop k) ↔ x.1 < y.1 ∧ Asc (l.drop (k + 1)) := by
  rw [drop_cons hx, drop_cons hy]
  constructor
  · intro h; exact ⟨h.head _ (by simp), h.tail⟩
  · rintro ⟨h1, h2⟩
    refine h2.cons fun z hz => ?_
    rcases List.mem_cons.1 hz with rfl | hz
    · exact h1
    · have := h2.head z hz; omega
structure XA (l : List Ent) where
  i : Nat
  h : 1 ≤ i ∧ (i ≤ l.length ∨ i = 1) ∧ (Asc l ↔ Asc (l.drop (i - 1)))
theorem XA.split {l : List Ent} (z : XA l) (hi : z.i < l.length) : (ascB l = true ↔ (eA l (z.i - 1)).1 < (eA l z.i).1 ∧ Asc (l.drop z.i)) := by
  obtain ⟨k, hk⟩ : ∃ k, z.i = k + 1 := ⟨z.i - 1, by have := z.h.1; omega⟩
  have h1 := eA_get (p := l) (n := k) (by omega)
  have h2 := eA_get (p := l) (n := k + 1) (by omega)
  have h3 := asc_step h1 h2
  have h4 := z.h.2.2
  rw [hk] at h4 ⊢
  simp only [Nat.add_sub_cancel] at h4 ⊢
  rw [ascB, decide_eq_true_eq, h4, h3]
theorem XA.fin {l : List Ent} (z : XA l) (hi : l.length ≤ z.i) : ascB l = true := by
  rw [ascB, decide_eq_true_eq, z.h.2.2]
  have : (l.drop (z.i - 1)).length ≤ 1 := by simp; omega
  match l.drop (z.i - 1), this with
  | [], _ => exact Srt.nil
  | [x], _ => exact Srt.nil.cons (by simp)
def tAsc : Tfm C0 := fun args H K => match args, H with
  | [.at (.slc 0)], [.row false .ent l] => K (.one (.at (vB (ascB l)))) [.row false EC.ent l] []
  | _, _ => False
noncomputable def aAsc (l : List Ent) : Ann C0 := { Γ := [], inv := fun n => match n with
  | 2 => some { X := XA l, sl := [3], tf := fun x => [vi .i64 x.i], hf := fun _ => [.row false EC.ent l], μ := fun x => l.length - x.i }
  | _ => none }
theorem getE_drop {l : List Ent} {i : Nat} {x : Ent} (h : l[i]? = some x) (q : Int) : getE (l.drop i) q = if x.1 = q then some x.2 else getE (l.drop (i + 1)) q := by
  rw [drop_cons h]; rfl
structure XGet (l : List Ent) (q : Int) where
  i : Nat
  h : i ≤ l.length ∧ getE l q = getE (l.drop i) q
noncomputable def aGet (l : List Ent) (q : Int) : Ann C0 := { Γ := [], inv := fun n => match n with
  | 2 => some { X := XGet l q, sl := [6], tf := fun x => [vi .i64 x.i], hf := fun _ => [.row false EC.ent l], μ := fun x => l.length - x.i }
  | _ => none }
def tGet : Tfm C0 := fun args H K => match args, H with
  | [.at (.slc 0), .at (.val (.int .i64 q))], [.row false .ent l] => ∀ x : Option Int, x = getE l q → K (.tup [.at (vI (x.getD 0)), .at (vB x.isSome)]) [.row false EC.ent l] []
  | _, _ => False
theorem vc_get (l : List Ent) (q : Int) (K : KT) (hmax : l.length ≤ 9223372036854775807) (h : ∀ x : Option Int, x = getE l q → K (.tup [.at (vI (x.getD 0)), .at (vB x.isSome)]) [.row false EC.ent l] []) :
    vc C0 (aGet l q) Tryz.f45 [.at (.slc 0), .at (.val (.int .i64 q))] [.row false EC.ent l] (normK 1 K) := by
  refine Eq.mp (show ((∃ x : XGet l q, (True ∧ (True ∧ ((Value.int IntKind.i64 (q)) = (Value.int IntKind.i64 (q))) ∧ ((Value.int IntKind.i64 0) = (Value.int IntKind.i64 ((↑x.i : Int)))) ∧ True) ∧ ((l) = (l)) ∧ True)) ∧
(∀ x : XGet l q, (True → (brS (decide ((↑x.i : Int) < (↑l.length : Int))) (((0 ≤ (↑x.i : Int)) ∧ ((↑x.i : Int) < (↑l.length : Int)) ∧ (brS ((eA l x.i).fst == q) (((0 ≤ (↑x.i : Int)) ∧ ((↑x.i : Int) < (↑l.length : Int)) ∧ (K (SV.tup [(TV.at (At.val (Value.int IntKind.i64 ((eA l x.i).snd)))), (TV.at (At.val (Value.bool true)))]) [(Chunk.row false (EC.ent) (l))] []))) ((∃ x' : XGet l q, (True ∧ ((True ∧ ((Value.int IntKind.i64 (q)) = (Value.int IntKind.i64 (q))) ∧ ((Value.int IntKind.i64 (IntKind.i64.wrap ((↑x.i : Int) + 1))) = (Value.int IntKind.i64 ((↑x'.i : Int)))) ∧ True) ∧ ((l) = (l)) ∧ True) ∧ (l.length - x'.i < l.length - x.i))))))) ((K (SV.tup [(TV.at (At.val (Value.int IntKind.i64 0))), (TV.at (At.val (Value.bool false)))]) [(Chunk.row false (EC.ent) (l))] [])))))) = _ by kernel_rfl) ?_
  refine ⟨⟨⟨0, Nat.zero_le _, rfl⟩, by simp⟩, fun x _ => brS_of (fun hi => ?_) fun hi => ?_⟩
  · have hi : x.i < l.length := by simpa using hi
    have hs := getE_drop (eA_get hi) q
    refine ⟨by omega, by omega, brS_of (fun hd => ⟨by omega, by omega, ?_⟩) fun hd => ?_⟩
    · have e : getE l q = some (eA l x.i).2 := by
        rw [x.h.2, hs, if_pos (by simpa using hd)]
      exact h (some _) e.symm
    · refine ⟨⟨x.i + 1, by omega, ?_⟩, trivial, ?_, ?_⟩
      · rw [x.h.2, hs, if_neg (by simpa using hd)]
      · rw [wrap_in (by omega) (by omega)]; simp
      · show l.length - (x.i + 1) < l.length - x.i
        omega
  · have hi : x.i = l.length := by have := x.h.1; simp at hi; omega
    have e : getE l q = none := by rw [x.h.2, hi, List.drop_length]; rfl
    exact h none e.symm
theorem s_get : SoundT C0 45 tGet := by
  refine .of Tryz.func45 (by decide) rfl fun args H K h hB => ?_
  unfold tGet at h
  split at h <;> try exact h.elim
  rename_i q l
  exact ⟨aGet l q, trivial, vc_get l q K (hB 0 _ _ _ rfl) h⟩
def outE (l : List Ent) (lo hi : Int) : List Ent := l.filter fun x => decide (x.1 < lo) || decide (hi < x.1)
structure XOut (l : List Ent) (lo hi : Int) where
  i : Nat
  h : i ≤ l.length
noncomputable def aOut (l : List Ent) (lo hi : Int) : Ann C0 := { Γ := [], inv := fun n => match n with
  | 3 => some { X := XOut l lo hi, sl := [8, 7], tf := fun x => [vi .i64 x.i, .one (.at (.slc 1))], hf := fun x => [.row false EC.ent l, .row true EC.ent (outE (l.take x.i) lo hi)], μ := fun x => l.length - x.i }
  | _ => none }
def tOut : Tfm C0 := fun args H K => match args, H with
  | [.at (.slc 0), .at (.val (.int .i64 lo)), .at (.val (.int .i64 hi))], [.row false .ent l] => l.length ≤ 1000000 ∧ K (.one (.at (.slc 1))) [.row false EC.ent l, .row true EC.ent (outE l lo hi)] []
  | _, _ => False
theorem outE_snoc {l : List Ent} {lo hi : Int} {i : Nat} {x : Ent} (h : l[i]? = some x) : outE (l.take (i + 1)) lo hi = outE (l.take i) lo hi ++ (if (decide (x.1 < lo) || decide (hi < x.1)) = true then [x] else []) := by
  rw [take_snoc h]
  unfold outE
  rw [List.filter_append]
  simp only [List.filter_cons, List.filter_nil]
theorem outE_len (l : List Ent) (lo hi : Int) (i : Nat) : (outE (l.take i) lo hi).length ≤ i := by
  unfold outE
  exact Nat.le_trans (List.length_filter_le _ _) (List.length_take_le _ _)
theorem vc_out (l : List Ent) (lo hi : Int) (K : KT) (hsm : l.length ≤ 1000000) (h : K (.one (.at (.slc 1))) [.row false EC.ent l, .row true EC.ent (outE l lo hi)] []) :
    vc C0 (aOut l lo hi) Tryz.f80 [.at (.slc 0), .at (.val (.int .i64 lo)), .at (.val (.int .i64 hi))] [.row false EC.ent l] (normK 1 K) := by
  refine Eq.mp (show ((∃ x : XOut l lo hi, (True ∧ (True ∧ ((Value.int IntKind.i64 (lo)) = (Value.int IntKind.i64 (lo))) ∧ ((Value.int IntKind.i64 (hi)) = (Value.int IntKind.i64 (hi))) ∧ True ∧ ((Value.int IntKind.i64 0) = (Value.int IntKind.i64 ((↑x.i : Int)))) ∧ True) ∧ ((l) = (l)) ∧ ([] = (outE (List.take x.i l) lo hi)) ∧ True)) ∧
(∀ x : XOut l lo hi, (True → (brS (decide ((↑x.i : Int) < (↑l.length : Int))) (((0 ≤ (↑x.i : Int)) ∧ ((↑x.i : Int) < (↑l.length : Int)) ∧ (brS (decide ((eA l x.i).fst < lo)) (((0 ≤ (↑x.i : Int)) ∧ ((↑x.i : Int) < (↑l.length : Int)) ∧ (((outE (List.take x.i l) lo hi).length + [((eA l x.i).fst, (eA l x.i).snd)].length) * bytesOf C0 EC.ent ≤ 140737488355328) ∧ (∃ x' : XOut l lo hi, (True ∧ ((True ∧ ((Value.int IntKind.i64 (lo)) = (Value.int IntKind.i64 (lo))) ∧ ((Value.int IntKind.i64 (hi)) = (Value.int IntKind.i64 (hi))) ∧ True ∧ ((Value.int IntKind.i64 (IntKind.i64.wrap ((↑x.i : Int) + 1))) = (Value.int IntKind.i64 ((↑x'.i : Int)))) ∧ True) ∧ ((l) = (l)) ∧ ((outE (List.take x.i l) lo hi ++ [((eA l x.i).fst, (eA l x.i).snd)]) = (outE (List.take x'.i l) lo hi)) ∧ True) ∧ (l.length - x'.i < l.length - x.i))))) (((0 ≤ (↑x.i : Int)) ∧ ((↑x.i : Int) < (↑l.length : Int)) ∧ (brS (decide ((eA l x.i).fst > hi)) (((0 ≤ (↑x.i : Int)) ∧ ((↑x.i : Int) < (↑l.length : Int)) ∧ (((outE (List.take x.i l) lo hi).length + [((eA l x.i).fst, (eA l x.i).snd)].length) * bytesOf C0 EC.ent ≤ 140737488355328) ∧ (∃ x' : XOut l lo hi, (True ∧ ((True ∧
    ((Value.int IntKind.i64 (lo)) = (Value.int IntKind.i64 (lo))) ∧ ((Value.int IntKind.i64 (hi)) = (Value.int IntKind.i64 (hi))) ∧ True ∧ ((Value.int IntKind.i64 (IntKind.i64.wrap ((↑x.i : Int) + 1))) = (Value.int IntKind.i64 ((↑x'.i : Int)))) ∧ True) ∧ ((l) = (l)) ∧ ((outE (List.take x.i l) lo hi ++ [((eA l x.i).fst, (eA l x.i).snd)]) = (outE (List.take x'.i l) lo hi)) ∧ True) ∧ (l.length - x'.i < l.length - x.i))))) ((∃ x' : XOut l lo hi, (True ∧ ((True ∧ ((Value.int IntKind.i64 (lo)) = (Value.int IntKind.i64 (lo))) ∧ ((Value.int IntKind.i64 (hi)) = (Value.int IntKind.i64 (hi))) ∧ True ∧ ((Value.int IntKind.i64 (IntKind.i64.wrap ((↑x.i : Int) + 1))) = (Value.int IntKind.i64 ((↑x'.i : Int)))) ∧ True) ∧ ((l) = (l)) ∧ ((outE (List.take x.i l) lo hi) = (outE (List.take x'.i l) lo hi)) ∧ True) ∧ (l.length - x'.i < l.length - x.i)))))))))) ((K (SV.one (TV.at (At.slc 1))) [(Chunk.row false (EC.ent) (l)), (Chunk.row true (EC.ent) (outE (List.take x.i l) lo hi))] [])))))) = _ by kernel_rfl) ?_
  refine ⟨⟨⟨0, Nat.zero_le _⟩, by simp [outE]⟩, fun x _ => brS_of (fun hi' => ?_) fun hi' => ?_⟩
  · have hi' : x.i < l.length := by simpa using hi'
    have hx := eA_get hi'
    have hs := outE_snoc (lo := lo) (hi := hi) hx
    have hlen := outE_len l lo hi x.i
    have nx : XOut l lo hi := ⟨x.i + 1, by omega⟩
    have w1 : IntKind.i64.wrap ((x.i : Int) + 1) = ((x.i + 1 : Nat) : Int) := by rw [wrap_in (by omega) (by omega)]; simp
    simp only [w1, bytes_ent]
    refine ⟨by omega, by omega, brS_of (fun h1 => ⟨by omega, by omega, ?_, ⟨⟨x.i + 1, by omega⟩, ?_⟩⟩) fun h1 => ⟨by omega, by omega, brS_of (fun h2 => ⟨by omega, by omega, ?_, ⟨⟨x.i + 1, by omega⟩, ?_⟩⟩) fun h2 => ⟨⟨x.i + 1, by omega⟩, ?_⟩⟩⟩
    · simp; omega
    · rw [if_pos (by simp only [decide_eq_true_eq] at h1; simp [h1])] at hs
      simp [hs]; omega
    · simp; omega
    · rw [if_pos (by simp only [decide_eq_true_eq] at h2; simp; omega)] at hs
      simp [hs]; omega
    · rw [if_neg (by simp only [decide_eq_false_iff_not] at h1 h2; simp; omega)] at hs
      simp [hs]; omega
  · have hi' : x.i = l.length := by have := x.h; simp at hi'; omega
    rw [hi', List.take_length]
    exact h
theorem s_out : SoundT C0 80 tOut := by
  refine .of Tryz.func80 (by decide) rfl fun args H K h hB => ?_
  unfold tOut at h
  split at h <;> try exact h.elim
  rename_i lo hi l
  exact ⟨aOut l lo hi, trivial, vc_out l lo hi K h.1 h.2⟩
structure XIns (l : List Ent) (e : Ent) where
  i : Nat
  acc : List Ent
  put : Bool
  h : i ≤ l.length ∧ acc.length ≤ i + put.toNat ∧ insE l e = acc ++ insGo e put (l.drop i)
noncomputable def aIns (l : List Ent) (e : Ent) : Ann C0 := { Γ := [], inv := fun n => match n with
  | 4 => some { X := XIns l e, sl := [7, 6, 5, 3], tf := fun x => [vi .i64 x.i, vb x.put, .one (.at (.slc 2)), .one (.at (.ptr 1 0))], hf := fun x => [.row false EC.ent l, .box [vI e.1, vI e.2], .row true EC.ent x.acc], μ := fun x => l.length - x.i }
  | _ => none }
def tIns : Tfm C0 := fun args H K => match args, H with
  | [.at (.slc 0), .agg [.val (.int .i64 k), .val (.int .i64 v)]], [.row false .ent l] => l.length ≤ 1000000 ∧ K (.one (.at (.slc 1))) [.row false EC.ent l, .row true EC.ent (insE l (k, v))] []
  | _, _ => False
theorem insGo_step {e x : Ent} {put : Bool} {l : List Ent} {i : Nat} (h : l[i]? = some x) : insGo e put (l.drop i) = (if !put && decide (e.1 ≤ x.1) then [e] else []) ++ ((if x.1 = e.1 then [] else [x]) ++ insGo e (put || decide (e.1 ≤ x.1)) (l.drop (i + 1))) := by
  rw [drop_cons h, insGo]
theorem XIns.next {l : List Ent} {e : Ent} (z : XIns l e) {x : Ent} (hx : l[z.i]? = some x) {put' : Bool} {acc' : List Ent} (hp : put' = (z.put || decide (e.1 ≤ x.1)))
    (ha : acc' = z.acc ++ ((if !z.put && decide (e.1 ≤ x.1) then [e] else []) ++ (if x.1 = e.1 then [] else [x]))) : ∃ z' : XIns l e, z'.i = z.i + 1 ∧ z'.put = put' ∧ z'.acc = acc' := by
  have h1 := (List.getElem?_eq_some_iff.1 hx).1
  obtain ⟨hi, hl, he⟩ := z.h
  rw [insGo_step hx] at he
  refine ⟨⟨z.i + 1, acc', put', by omega, ?_, ?_⟩, rfl, rfl, rfl⟩
  · subst hp ha
    have h2 : (if x.1 = e.1 then ([] : List Ent) else [x]).length ≤ 1 := by split <;> simp
    cases hz : z.put <;> rw [hz] at hl <;> by_cases hc : e.1 ≤ x.1 <;> simp [hc] at hl ⊢ <;> omega
  · subst hp ha
    rw [he]; simp only [List.append_assoc]
theorem XIns.fin {l : List Ent} {e : Ent} (z : XIns l e) (h : z.i = l.length) : insE l e = z.acc ++ (if z.put then [] else [e]) := by
  rw [z.h.2.2, h, List.drop_length]; rfl
theorem vc_ins (l : List Ent) (k v : Int) (K : KT) (hsm : l.length ≤ 1000000) (h : K (.one (.at (.slc 1))) [.row false EC.ent l, .row true EC.ent (insE l (k, v))] []) :
    vc C0 (aIns l (k, v)) Tryz.f53 [.at (.slc 0), .agg [.val (.int .i64 k), .val (.int .i64 v)]] [.row false EC.ent l] (normK 1 K) := by
  refine Eq.mp (show ((∃ x : XIns l (k, v), (True ∧ (True ∧ True ∧ True ∧ ((Value.bool false) = (Value.bool (x.put))) ∧ ((Value.int IntKind.i64 0) = (Value.int IntKind.i64 ((↑x.i : Int)))) ∧ True) ∧ ((l) = (l)) ∧ (((Value.int IntKind.i64 (k)) = (Value.int IntKind.i64 (k))) ∧ ((Value.int IntKind.i64 (v)) = (Value.int IntKind.i64 (v))) ∧ True) ∧ ([] = (x.acc)) ∧ True)) ∧
(∀ x : XIns l (k, v), (True → (brS (decide ((↑x.i : Int) < (↑l.length : Int))) ((brS (!x.put) (((0 ≤ (↑x.i : Int)) ∧ ((↑x.i : Int) < (↑l.length : Int)) ∧ (brS (decide ((eA l x.i).fst ≥ k)) ((((x.acc.length + [(k, v)].length) * bytesOf C0 EC.ent ≤ 140737488355328) ∧ (0 ≤ (↑x.i : Int)) ∧ ((↑x.i : Int) < (↑l.length : Int)) ∧ (brS ((eA l x.i).fst != k) (((0 ≤ (↑x.i : Int)) ∧ ((↑x.i : Int) < (↑l.length : Int)) ∧ (((x.acc ++ [(k, v)]).length + [((eA l x.i).fst, (eA l x.i).snd)].length) * bytesOf C0 EC.ent ≤ 140737488355328) ∧ (∃ x' : XIns l (k, v), (True ∧ ((True ∧ True ∧ True ∧ ((Value.bool true) = (Value.bool (x'.put))) ∧ ((Value.int IntKind.i64 (IntKind.i64.wrap ((↑x.i : Int) + 1))) = (Value.int IntKind.i64 ((↑x'.i : Int)))) ∧ True) ∧ ((l) = (l)) ∧ (((Value.int IntKind.i64 (k)) = (Value.int IntKind.i64 (k))) ∧ ((Value.int IntKind.i64 (v)) = (Value.int IntKind.i64 (v))) ∧ True) ∧ ((x.acc ++ [(k, v)] ++ [((eA l x.i).fst, (eA l x.i).snd)]) = (x'.acc)) ∧ True) ∧ (l.length - x'.i < l.length - x.i))))) ((∃ x' : XIns l (k, v), (True ∧ ((True ∧ True ∧ True ∧ ((Value.bool true) = (Value.bool (x'.put))) ∧
    ((Value.int IntKind.i64 (IntKind.i64.wrap ((↑x.i : Int) + 1))) = (Value.int IntKind.i64 ((↑x'.i : Int)))) ∧ True) ∧ ((l) = (l)) ∧ (((Value.int IntKind.i64 (k)) = (Value.int IntKind.i64 (k))) ∧ ((Value.int IntKind.i64 (v)) = (Value.int IntKind.i64 (v))) ∧ True) ∧ ((x.acc ++ [(k, v)]) = (x'.acc)) ∧ True) ∧ (l.length - x'.i < l.length - x.i))))))) (((0 ≤ (↑x.i : Int)) ∧ ((↑x.i : Int) < (↑l.length : Int)) ∧ (brS ((eA l x.i).fst != k) (((0 ≤ (↑x.i : Int)) ∧ ((↑x.i : Int) < (↑l.length : Int)) ∧ ((x.acc.length + [((eA l x.i).fst, (eA l x.i).snd)].length) * bytesOf C0 EC.ent ≤ 140737488355328) ∧ (∃ x' : XIns l (k, v), (True ∧ ((True ∧ True ∧ True ∧ ((Value.bool (x.put)) = (Value.bool (x'.put))) ∧ ((Value.int IntKind.i64 (IntKind.i64.wrap ((↑x.i : Int) + 1))) = (Value.int IntKind.i64 ((↑x'.i : Int)))) ∧ True) ∧ ((l) = (l)) ∧ (((Value.int IntKind.i64 (k)) = (Value.int IntKind.i64 (k))) ∧ ((Value.int IntKind.i64 (v)) = (Value.int IntKind.i64 (v))) ∧ True) ∧ ((x.acc ++ [((eA l x.i).fst, (eA l x.i).snd)]) = (x'.acc)) ∧ True) ∧ (l.length - x'.i < l.length - x.i))))) ((∃ x' : XIns l (k, v), (True ∧ ((True ∧ True ∧ True ∧ ((Value.bool (x.put)) = (Value.bool (x'.put))) ∧ ((Value.int IntKind.i64 (IntKind.i64.wrap ((↑x.i : Int) + 1))) = (Value.int IntKind.i64 ((↑x'.i : Int)))) ∧ True) ∧ ((l) = (l)) ∧ (((Value.int IntKind.i64 (k)) = (Value.int IntKind.i64 (k))) ∧ ((Value.int IntKind.i64 (v)) = (Value.int IntKind.i64 (v))) ∧ True) ∧ ((x.acc) = (x'.acc)) ∧ True) ∧
    (l.length - x'.i < l.length - x.i)))))))))) (((0 ≤ (↑x.i : Int)) ∧ ((↑x.i : Int) < (↑l.length : Int)) ∧ (brS ((eA l x.i).fst != k) (((0 ≤ (↑x.i : Int)) ∧ ((↑x.i : Int) < (↑l.length : Int)) ∧ ((x.acc.length + [((eA l x.i).fst, (eA l x.i).snd)].length) * bytesOf C0 EC.ent ≤ 140737488355328) ∧ (∃ x' : XIns l (k, v), (True ∧ ((True ∧ True ∧ True ∧ ((Value.bool (x.put)) = (Value.bool (x'.put))) ∧ ((Value.int IntKind.i64 (IntKind.i64.wrap ((↑x.i : Int) + 1))) = (Value.int IntKind.i64 ((↑x'.i : Int)))) ∧ True) ∧ ((l) = (l)) ∧ (((Value.int IntKind.i64 (k)) = (Value.int IntKind.i64 (k))) ∧ ((Value.int IntKind.i64 (v)) = (Value.int IntKind.i64 (v))) ∧ True) ∧ ((x.acc ++ [((eA l x.i).fst, (eA l x.i).snd)]) = (x'.acc)) ∧ True) ∧ (l.length - x'.i < l.length - x.i))))) ((∃ x' : XIns l (k, v), (True ∧ ((True ∧ True ∧ True ∧ ((Value.bool (x.put)) = (Value.bool (x'.put))) ∧ ((Value.int IntKind.i64 (IntKind.i64.wrap ((↑x.i : Int) + 1))) = (Value.int IntKind.i64 ((↑x'.i : Int)))) ∧ True) ∧ ((l) = (l)) ∧ (((Value.int IntKind.i64 (k)) = (Value.int IntKind.i64 (k))) ∧ ((Value.int IntKind.i64 (v)) = (Value.int IntKind.i64 (v))) ∧ True) ∧ ((x.acc) = (x'.acc)) ∧ True) ∧ (l.length - x'.i < l.length - x.i))))))))) ((brS (!x.put) ((((x.acc.length + [(k, v)].length) * bytesOf C0 EC.ent ≤ 140737488355328) ∧ (K (SV.one (TV.at (At.slc 1))) [(Chunk.row false (EC.ent) (l)), (Chunk.row true (EC.ent) (x.acc ++ [(k, v)]))] [])))
    ((K (SV.one (TV.at (At.slc 1))) [(Chunk.row false (EC.ent) (l)), (Chunk.row true (EC.ent) (x.acc))] [])))))))) = _ by kernel_rfl) ?_
  refine ⟨⟨⟨0, [], false, Nat.zero_le _, by simp, by simp⟩, by simp⟩, fun x _ => brS_of (fun hi => ?_) fun hi => ?_⟩
  · have hi : x.i < l.length := by simpa using hi
    have hx := eA_get hi
    have hlen := x.h.2.1
    have hpt : x.put.toNat ≤ 1 := by cases x.put <;> decide
    have w1 : IntKind.i64.wrap ((x.i : Int) + 1) = ((x.i + 1 : Nat) : Int) := by rw [wrap_in (by omega) (by omega)]; simp
    simp only [w1, bytes_ent]
    have go : ∀ (put' : Bool) (acc' : List Ent), put' = (x.put || decide (k ≤ (eA l x.i).1)) → acc' = x.acc ++ ((if !x.put && decide (k ≤ (eA l x.i).1) then [(k, v)] else []) ++ (if (eA l x.i).1 = k then [] else [eA l x.i])) →
        ∃ z' : XIns l (k, v), z'.i = x.i + 1 ∧ z'.put = put' ∧ z'.acc = acc' := fun put' acc' hp ha => x.next hx hp ha
    refine brS_of (fun hp => ⟨by omega, by omega, brS_of (fun hc => ⟨?_, by omega, by omega, brS_of (fun hn => ⟨by omega, by omega, ?_, ?_⟩) fun hn => ?_⟩) fun hc => ⟨by omega, by omega, brS_of (fun hn => ⟨by omega, by omega, ?_, ?_⟩) fun hn => ?_⟩⟩) fun hp => ⟨by omega, by omega, brS_of (fun hn => ⟨by omega, by omega, ?_, ?_⟩) fun hn => ?_⟩
    all_goals try simp only [decide_eq_true_eq, decide_eq_false_iff_not, bne_iff_ne, ne_eq, Bool.not_eq_true', Bool.not_eq_false', bne_eq_false_iff_eq, ge_iff_le] at *
    all_goals first
      | (simp; omega)
      | (obtain ⟨z', e1, e2, e3⟩ := go _ _ rfl rfl
         refine ⟨z', ?_⟩
         simp [*]
         omega)
  · have hi : x.i = l.length := by have := x.h.1; simp at hi; omega
    have hf := x.fin hi
    have hlen := x.h.2.1
    have hpt : x.put.toNat ≤ 1 := by cases x.put <;> decide
    refine brS_of (fun hp => ⟨?_, ?_⟩) fun hp => ?_
    · simp [bytes_ent]; omega
    · simp at hp; rw [hp] at hf; simp at hf; rw [hf] at h; exact h
    · simp at hp; rw [hp] at hf; simp at hf; rw [hf] at h; exact h
theorem s_ins : SoundT C0 53 tIns := by
  refine .of Tryz.func53 (by decide) rfl fun args H K h hB => ?_
  unfold tIns at h
  split at h <;> try exact h.elim
  rename_i k v l
  exact ⟨aIns l (k, v), trivial, vc_ins l k v K h.1 h.2⟩
noncomputable def aDel : Ann C0 := { Γ := [(80, frameT [] tOut)] }
def tDel : Tfm C0 := fun args H K => match args, H with
  | [.at (.slc 0), .at (.val (.int .i64 q))], [.row false .ent l] => l.length ≤ 1000000 ∧ K (.one (.at (.slc 1))) [.row false EC.ent l, .row true EC.ent (outE l q q)] []
  | _, _ => False
theorem vc_del (l : List Ent) (q : Int) (K : KT) (h1 : l.length ≤ 1000000) (h2 : K (.one (.at (.slc 1))) [.row false EC.ent l, .row true EC.ent (outE l q q)] []) :
    vc C0 aDel Tryz.f57 [.at (.slc 0), .at (.val (.int .i64 q))] [.row false EC.ent l] (normK 1 K) := by
  have e : ((l.length ≤ 1000000) ∧
(K (SV.one (TV.at (At.slc 1))) [(Chunk.row false (EC.ent) (l)), (Chunk.row true (EC.ent) (outE l q q))] [])) = vc C0 aDel Tryz.f57 [.at (.slc 0), .at (.val (.int .i64 q))] [.row false EC.ent l] (normK 1 K) := by kernel_rfl
  rw [← e]
  exact ⟨h1, h2⟩
theorem s_del : SoundT C0 57 tDel := by
  refine .of Tryz.func57 (by decide) rfl fun args H K h hB => ?_
  unfold tDel at h
  split at h <;> try exact h.elim
  rename_i q l
  have hG : GOK C0 aDel.Γ := ⟨frame C0.ok s_out _, trivial⟩
  exact ⟨aDel, hG, vc_del l q K h.1 h.2⟩
structure XLst (l : List Ent) (most : Int) where
  i : Nat
  h : i ≤ l.length ∧ (i : Int) ≤ most
noncomputable def aLst (l : List Ent) (most : Int) : Ann C0 := { Γ := [(53, frameT [] tIns)], inv := fun n => match n with
  | 3 => some { X := XLst l most, sl := [6, 5], tf := fun x => [vi .i64 x.i, .one (.at (.slc 1))], hf := fun x => [.row false EC.ent l, .row true EC.ent (listE l x.i)], μ := fun x => l.length - x.i }
  | _ => none }
def tLst : Tfm C0 := fun args H K => match args, H with
  | [.at (.slc 0), .at (.val (.int .i64 most))], [.row false .ent l] => 0 ≤ most ∧ most ≤ 1000000 ∧ K (.one (.at (.slc 1))) [.row false EC.ent l, .row true EC.ent (listE l most.toNat)] []
  | _, _ => False
theorem listE_snoc {l : List Ent} {i : Nat} {x : Ent} (h : l[i]? = some x) : listE l (i + 1) = insE (listE l i) x := by
  unfold listE
  rw [take_snoc h]
  simp
theorem listE_full {l : List Ent} {n : Nat} (h : l.length ≤ n) : listE l n = listE l l.length := by
  unfold listE
  rw [List.take_of_length_le h, List.take_of_length_le (Nat.le_refl _)]
theorem vc_lst (l : List Ent) (most : Int) (K : KT) (hmax : l.length ≤ 9223372036854775807) (h0 : 0 ≤ most) (h1 : most ≤ 1000000) (h : K (.one (.at (.slc 1))) [.row false EC.ent l, .row true EC.ent (listE l most.toNat)] []) :
    vc C0 (aLst l most) Tryz.f21 [.at (.slc 0), .at (.val (.int .i64 most))] [.row false EC.ent l] (normK 1 K) := by
  refine Eq.mp (show ((∃ x : XLst l most, (True ∧ (True ∧ ((Value.int IntKind.i64 (most)) = (Value.int IntKind.i64 (most))) ∧ True ∧ ((Value.int IntKind.i64 0) = (Value.int IntKind.i64 ((↑x.i : Int)))) ∧ True) ∧ ((l) = (l)) ∧ ([] = (listE l x.i)) ∧ True)) ∧
(∀ x : XLst l most, (True → (brS (decide ((↑x.i : Int) < (↑l.length : Int))) ((brS (decide ((↑x.i : Int) < most)) (((0 ≤ (↑x.i : Int)) ∧ ((↑x.i : Int) < (↑l.length : Int)) ∧ ((listE l x.i).length ≤ 1000000) ∧ (∃ x' : XLst l most, (True ∧ ((True ∧ ((Value.int IntKind.i64 (most)) = (Value.int IntKind.i64 (most))) ∧ True ∧ ((Value.int IntKind.i64 (IntKind.i64.wrap ((↑x.i : Int) + 1))) = (Value.int IntKind.i64 ((↑x'.i : Int)))) ∧ True) ∧ ((l) = (l)) ∧ ((insE (listE l x.i) ((eA l x.i).fst, (eA l x.i).snd)) = (listE l x'.i)) ∧ True) ∧ (l.length - x'.i < l.length - x.i))))) ((K (SV.one (TV.at (At.slc 1))) [(Chunk.row false (EC.ent) (l)), (Chunk.row true (EC.ent) (listE l x.i))] [])))) ((K (SV.one (TV.at (At.slc 1))) [(Chunk.row false (EC.ent) (l)), (Chunk.row true (EC.ent) (listE l x.i))] [])))))) = _ by kernel_rfl) ?_
  refine ⟨⟨⟨0, Nat.zero_le _, h0⟩, by simp [listE]⟩, fun x _ => brS_of (fun hi => brS_of (fun hm => ?_) fun hm => ?_) fun hi => ?_⟩
  · have hi : x.i < l.length := by simpa using hi
    have hm : (x.i : Int) < most := by simpa using hm
    have hs := listE_snoc (eA_get hi)
    have hlen := (listE_spec l x.i).2
    have w1 : IntKind.i64.wrap ((x.i : Int) + 1) = ((x.i + 1 : Nat) : Int) := by rw [wrap_in (by omega) (by omega)]; simp
    simp only [w1]
    refine ⟨by omega, by omega, by omega, ⟨x.i + 1, by omega, by omega⟩, ?_⟩
    simp [hs]; omega
  · have e : most.toNat = x.i := by have := x.h.2; simp at hm; omega
    rw [e] at h; exact h
  · have hi : x.i = l.length := by have := x.h.1; simp at hi; omega
    have := x.h.2
    rw [listE_full (n := most.toNat) (by omega), ← hi] at h; exact h
theorem s_lst : SoundT C0 21 tLst := by
  refine .of Tryz.func21 (by decide) rfl fun args H K h hB => ?_
  unfold tLst at h
  split at h <;> try exact h.elim
  rename_i most l
  exact ⟨aLst l most, ⟨frame C0.ok s_ins _, trivial⟩, vc_lst l most K (hB 0 _ _ _ rfl) h.1 h.2.1 h.2.2⟩
def tChoose : Tfm C0 := fun args H K => match args, H with
  | [.at (.val (.int .i64 p)), .at (.val (.int .i64 v)), .at (.val (.int .i64 w))], [] => ∀ x, x = chooseP p v w → K (.one (.at (vI x))) [] []
  | _, _ => False
def tMod : Tfm C0 := fun args H K => match args, H with
  | [.at (.val (.int .i64 k)), .at (.val (.int .i64 n))], [] => 0 < n ∧ n ≤ 9223372036854775807 ∧ ∀ x, x = k % n → K (.one (.at (vI x))) [] []
  | _, _ => False
theorem s_mod : SoundT C0 8 tMod := by
  refine .of Tryz.func8 (by decide) rfl fun args H K h hB => ⟨A0, trivial, ?_⟩
  unfold tMod at h
  split at h <;> try exact h.elim
  rename_i k n
  obtain ⟨h0, h1, h⟩ := h
  have h := h _ rfl
  refine Eq.mp (show ((n ≠ 0) ∧
(brS (decide (k.tmod n < 0)) ((K (SV.one (TV.at (At.val (Value.int IntKind.i64 (IntKind.i64.wrap (k.tmod n + n)))))) [] [])) ((K (SV.one (TV.at (At.val (Value.int IntKind.i64 (k.tmod n))))) [] [])))) = _ by kernel_rfl) ⟨by omega, brS_of (fun e => ?_) fun e => ?_⟩
  all_goals simp only [decide_eq_true_eq, decide_eq_false_iff_not] at e
  · have e1 : k.tmod n + n = k % n := by
      rw [Int.tmod_eq_emod] at e ⊢
      split at e <;> rename_i hc
      · have := Int.emod_nonneg k (show n ≠ 0 by omega); omega
      · rw [if_neg hc]
        have : (n.natAbs : Int) = n := by omega
        omega
    have h2 := Int.emod_nonneg k (show n ≠ 0 by omega)
    have h3 := Int.emod_lt_of_pos k h0
    rw [e1, wrap_in (by omega) (by omega)]; exact h
  · have e1 : k.tmod n = k % n := by
      rw [Int.tmod_eq_emod] at e ⊢
      split at e <;> rename_i hc
      · rw [if_pos hc]; omega
      · have h3 := Int.emod_lt_of_pos k h0
        have : (n.natAbs : Int) = n := by omega
        omega
    rw [e1]; exact h
structure XN (n : Nat) where
  i : Nat
  h : i ≤ n
def kF (xs : List Int) (l : List Ent) (i : Nat) : List Ent := keysOf (xs ++ (l.take i).map Prod.fst)
theorem kF_snoc {xs : List Int} {l : List Ent} {i : Nat} {x : Ent} (h : l[i]? = some x) : kF xs l (i + 1) = insE (kF xs l i) (x.1, 0) := by
  unfold kF
  rw [take_snoc h, List.map_append, ← List.append_assoc]
  exact keysOf_snoc _ _
theorem kF_len (xs : List Int) (l : List Ent) (i : Nat) : (kF xs l i).length ≤ xs.length + l.length := by
  have := (keysOf_spec (xs ++ (l.take i).map Prod.fst)).2.1
  unfold kF
  simp at this ⊢
  omega
theorem kF_zero (xs : List Int) (l : List Ent) : kF xs l 0 = keysOf xs := by simp [kF]
theorem kF_full (xs : List Int) (l : List Ent) : kF xs l l.length = keysOf (xs ++ l.map Prod.fst) := by simp [kF]
noncomputable def aKeys (l m n : List Ent) : Ann C0 := { Γ := [(53, frameT [] tIns)], inv := fun k => match k with
  | 3 => some { X := XN l.length, sl := [8, 7], tf := fun x => [vi .i64 x.i, .one (.at (.slc 3))], hf := fun x => [.row false EC.ent l, .row false EC.ent m, .row false EC.ent n, .row true EC.ent (kF [] l x.i)], μ := fun x => l.length - x.i }
  | 7 => some { X := XN m.length, sl := [9, 7], tf := fun x => [vi .i64 x.i, .one (.at (.slc 3))], hf := fun x => [.row false EC.ent l, .row false EC.ent m, .row false EC.ent n, .row true EC.ent (kF (l.map Prod.fst) m x.i)], μ := fun x => m.length - x.i }
  | 11 => some { X := XN n.length, sl := [10, 7], tf := fun x => [vi .i64 x.i, .one (.at (.slc 3))], hf := fun x => [.row false EC.ent l, .row false EC.ent m, .row false EC.ent n, .row true EC.ent (kF (l.map Prod.fst ++ m.map Prod.fst) n x.i)], μ := fun x => n.length - x.i }
  | 16 => some { X := XN (kF (l.map Prod.fst ++ m.map Prod.fst) n n.length).length, sl := [12, 7, 11], tf := fun x => [vi .i64 x.i, .one (.at (.slc 3)), .one (.at (.slc 4))], hf := fun x => [.row false EC.ent l, .row false EC.ent m, .row false EC.ent n, .row true EC.ent (kF (l.map Prod.fst ++ m.map Prod.fst) n n.length), .row true EC.i64 (((kF (l.map Prod.fst ++ m.map Prod.fst) n n.length).take x.i).map Prod.fst)], μ := fun x => (kF (l.map Prod.fst ++ m.map Prod.fst) n n.length).length - x.i }
  | _ => none }
def tKeys : Tfm C0 := fun args H K => match args, H with
  | [.at (.slc 0), .at (.slc 1), .at (.slc 2)], [.row false .ent l, .row false .ent m, .row false .ent n] => l.length + m.length + n.length ≤ 1000000 ∧ K (.one (.at (.slc 3))) [.row false EC.ent l, .row false EC.ent m, .row false EC.ent n, .row true EC.i64 (keys3 l m n)] []
  | _, _ => False
theorem keys3_eq (l m n : List Ent) : keys3 l m n = (kF (l.map Prod.fst ++ m.map Prod.fst) n n.length).map Prod.fst := by
  rw [kF_full]; simp [keys3]
set_option maxHeartbeats 1000000 in
theorem vc_keys (l m n : List Ent) (K : KT) (hsm : l.length + m.length + n.length ≤ 1000000) (h : K (.one (.at (.slc 3))) [.row false EC.ent l, .row false EC.ent m, .row false EC.ent n, .row true EC.i64 (keys3 l m n)] []) :
    vc C0 (aKeys l m n) Tryz.f44 [.at (.slc 0), .at (.slc 1), .at (.slc 2)] [.row false EC.ent l, .row false EC.ent m, .row false EC.ent n] (normK 3 K) := by
  refine Eq.mp (show ((∃ x : XN l.length, (True ∧ (True ∧ True ∧ True ∧ True ∧ ((Value.int IntKind.i64 0) = (Value.int IntKind.i64 ((↑x.i : Int)))) ∧ True) ∧ ((l) = (l)) ∧ ((m) = (m)) ∧ ((n) = (n)) ∧ ([] = (kF [] l x.i)) ∧ True)) ∧
(∀ x : XN l.length, (True → (brS (decide ((↑x.i : Int) < (↑l.length : Int))) (((0 ≤ (↑x.i : Int)) ∧ ((↑x.i : Int) < (↑l.length : Int)) ∧ ((kF [] l x.i).length ≤ 1000000) ∧ (∃ x' : XN l.length, (True ∧ ((True ∧ True ∧ True ∧ True ∧ ((Value.int IntKind.i64 (IntKind.i64.wrap ((↑x.i : Int) + 1))) = (Value.int IntKind.i64 ((↑x'.i : Int)))) ∧ True) ∧ ((l) = (l)) ∧ ((m) = (m)) ∧ ((n) = (n)) ∧ ((insE (kF [] l x.i) ((eA l x.i).fst, 0)) = (kF [] l x'.i)) ∧ True) ∧ (l.length - x'.i < l.length - x.i))))) (((∃ x1 : XN m.length, (True ∧ (True ∧ True ∧ True ∧ ((Value.int IntKind.i64 0) = (Value.int IntKind.i64 ((↑x1.i : Int)))) ∧ True) ∧ ((l) = (l)) ∧ ((m) = (m)) ∧ ((n) = (n)) ∧ ((kF [] l x.i) = (kF (List.map Prod.fst l) m x1.i)) ∧ True)) ∧ (∀ x1 : XN m.length, (True → (brS (decide ((↑x1.i : Int) < (↑m.length : Int))) (((0 ≤ (↑x1.i : Int)) ∧ ((↑x1.i : Int) < (↑m.length : Int)) ∧ ((kF (List.map Prod.fst l) m x1.i).length ≤ 1000000) ∧ (∃ x' : XN m.length, (True ∧ ((True ∧ True ∧ True ∧ ((Value.int IntKind.i64 (IntKind.i64.wrap ((↑x1.i : Int) + 1))) = (Value.int IntKind.i64 ((↑x'.i : Int)))) ∧ True) ∧ ((l) = (l)) ∧ ((m) = (m)) ∧ ((n) = (n)) ∧ ((insE (kF (List.map Prod.fst l) m x1.i) ((eA m x1.i).fst, 0)) = (kF (List.map Prod.fst l) m x'.i)) ∧ True) ∧
    (m.length - x'.i < m.length - x1.i))))) (((∃ x2 : XN n.length, (True ∧ (True ∧ True ∧ ((Value.int IntKind.i64 0) = (Value.int IntKind.i64 ((↑x2.i : Int)))) ∧ True) ∧ ((l) = (l)) ∧ ((m) = (m)) ∧ ((n) = (n)) ∧ ((kF (List.map Prod.fst l) m x1.i) = (kF (List.map Prod.fst l ++ List.map Prod.fst m) n x2.i)) ∧ True)) ∧ (∀ x2 : XN n.length, (True → (brS (decide ((↑x2.i : Int) < (↑n.length : Int))) (((0 ≤ (↑x2.i : Int)) ∧ ((↑x2.i : Int) < (↑n.length : Int)) ∧ ((kF (List.map Prod.fst l ++ List.map Prod.fst m) n x2.i).length ≤ 1000000) ∧ (∃ x' : XN n.length, (True ∧ ((True ∧ True ∧ ((Value.int IntKind.i64 (IntKind.i64.wrap ((↑x2.i : Int) + 1))) = (Value.int IntKind.i64 ((↑x'.i : Int)))) ∧ True) ∧ ((l) = (l)) ∧ ((m) = (m)) ∧ ((n) = (n)) ∧ ((insE (kF (List.map Prod.fst l ++ List.map Prod.fst m) n x2.i) ((eA n x2.i).fst, 0)) = (kF (List.map Prod.fst l ++ List.map Prod.fst m) n x'.i)) ∧ True) ∧ (n.length - x'.i < n.length - x2.i))))) (((∃ x3 : XN (kF (List.map Prod.fst l ++ List.map Prod.fst m) n n.length).length, (True ∧ (True ∧ True ∧ ((Value.int IntKind.i64 0) = (Value.int IntKind.i64 ((↑x3.i : Int)))) ∧ True) ∧ ((l) = (l)) ∧ ((m) = (m)) ∧ ((n) = (n)) ∧ ((kF (List.map Prod.fst l ++ List.map Prod.fst m) n x2.i) = (kF (List.map Prod.fst l ++ List.map Prod.fst m) n n.length)) ∧ ([] = (List.map Prod.fst (List.take x3.i (kF (List.map Prod.fst l ++ List.map Prod.fst m) n n.length)))) ∧ True)) ∧ (∀ x3 : XN (kF (List.map Prod.fst l ++ List.map Prod.fst m) n n.length).length, (True →
    (brS (decide ((↑x3.i : Int) < (↑(kF (List.map Prod.fst l ++ List.map Prod.fst m) n n.length).length : Int))) (((0 ≤ (↑x3.i : Int)) ∧ ((↑x3.i : Int) < (↑(kF (List.map Prod.fst l ++ List.map Prod.fst m) n n.length).length : Int)) ∧ (((List.map Prod.fst (List.take x3.i (kF (List.map Prod.fst l ++ List.map Prod.fst m) n n.length))).length + [(eA (kF (List.map Prod.fst l ++ List.map Prod.fst m) n n.length) x3.i).fst].length) * bytesOf C0 EC.i64 ≤ 140737488355328) ∧ (∃ x' : XN (kF (List.map Prod.fst l ++ List.map Prod.fst m) n n.length).length, (True ∧ ((True ∧ True ∧ ((Value.int IntKind.i64 (IntKind.i64.wrap ((↑x3.i : Int) + 1))) = (Value.int IntKind.i64 ((↑x'.i : Int)))) ∧ True) ∧ ((l) = (l)) ∧ ((m) = (m)) ∧ ((n) = (n)) ∧ ((kF (List.map Prod.fst l ++ List.map Prod.fst m) n n.length) = (kF (List.map Prod.fst l ++ List.map Prod.fst m) n n.length)) ∧ ((List.map Prod.fst (List.take x3.i (kF (List.map Prod.fst l ++ List.map Prod.fst m) n n.length)) ++ [(eA (kF (List.map Prod.fst l ++ List.map Prod.fst m) n n.length) x3.i).fst]) = (List.map Prod.fst (List.take x'.i (kF (List.map Prod.fst l ++ List.map Prod.fst m) n n.length)))) ∧ True) ∧ ((kF (List.map Prod.fst l ++ List.map Prod.fst m) n n.length).length - x'.i < (kF (List.map Prod.fst l ++ List.map Prod.fst m) n n.length).length - x3.i)))))
    ((K (SV.one (TV.at (At.slc 3))) [(Chunk.row false (EC.ent) (l)), (Chunk.row false (EC.ent) (m)), (Chunk.row false (EC.ent) (n)), (Chunk.row true (EC.i64) (List.map Prod.fst (List.take x3.i (kF (List.map Prod.fst l ++ List.map Prod.fst m) n n.length))))] []))))))))))))))))))))) = _ by kernel_rfl) ?_
  have nxt : ∀ {k i : Nat}, i < k → k ≤ 1000000 → IntKind.i64.wrap ((i : Int) + 1) = ((i + 1 : Nat) : Int) := fun {k i} h1 h2 => by rw [wrap_in (by omega) (by omega)]; simp
  refine ⟨⟨⟨0, Nat.zero_le _⟩, by simp [kF_zero, keysOf]⟩, fun x _ => brS_of (fun hi => ?_) fun hi => ?_⟩
  · have hi : x.i < l.length := by simpa using hi
    have hs := kF_snoc (xs := []) (eA_get hi)
    have hlen := kF_len [] l x.i
    simp only [nxt hi (by omega)]
    refine ⟨by omega, by omega, by simp at hlen; omega, ⟨x.i + 1, by omega⟩, ?_⟩
    simp [hs]; omega
  have hi : x.i = l.length := by have := x.h; simp at hi; omega
  refine ⟨⟨⟨0, Nat.zero_le _⟩, by simp [kF_zero, hi, kF_full]⟩, fun x _ => brS_of (fun hi => ?_) fun hi => ?_⟩
  · have hi : x.i < m.length := by simpa using hi
    have hs := kF_snoc (xs := l.map Prod.fst) (eA_get hi)
    have hlen := kF_len (l.map Prod.fst) m x.i
    simp only [nxt hi (by omega)]
    refine ⟨by omega, by omega, by simp at hlen; omega, ⟨x.i + 1, by omega⟩, ?_⟩
    simp [hs]; omega
  have hi : x.i = m.length := by have := x.h; simp at hi; omega
  refine ⟨⟨⟨0, Nat.zero_le _⟩, by simp [kF_zero, hi, kF_full]⟩, fun x _ => brS_of (fun hi => ?_) fun hi => ?_⟩
  · have hi : x.i < n.length := by simpa using hi
    have hs := kF_snoc (xs := l.map Prod.fst ++ m.map Prod.fst) (eA_get hi)
    have hlen := kF_len (l.map Prod.fst ++ m.map Prod.fst) n x.i
    simp only [nxt hi (by omega)]
    refine ⟨by omega, by omega, by simp at hlen; omega, ⟨x.i + 1, by omega⟩, ?_⟩
    simp [hs]; omega
  have hi : x.i = n.length := by have := x.h; simp at hi; omega
  have hlen := kF_len (l.map Prod.fst ++ m.map Prod.fst) n n.length
  rw [hi]
  rw [keys3_eq] at h
  generalize kF (l.map Prod.fst ++ m.map Prod.fst) n n.length = all at *
  simp at hlen
  refine ⟨⟨⟨0, Nat.zero_le _⟩, by simp⟩, fun x _ => brS_of (fun hi => ?_) fun hi => ?_⟩
  · have hi : x.i < all.length := by simpa using hi
    have hs := take_snoc (eA_get hi)
    simp only [nxt hi (by omega), bytes_i64]
    refine ⟨by omega, by omega, by simp; omega, ⟨x.i + 1, by omega⟩, ?_⟩
    simp [hs]; omega
  · have hi : x.i = all.length := by have := x.h; simp at hi; omega
    have h2 : ∀ z : List Int, z = all.map Prod.fst → K (.one (.at (.slc 3))) [.row false EC.ent l, .row false EC.ent m, .row false EC.ent n, .row true EC.i64 z] [] := fun z hz => by subst hz; exact h
    exact h2 _ (by rw [hi]; exact congrArg (List.map Prod.fst) (List.take_length (l := all)))
theorem s_keys : SoundT C0 44 tKeys := by
  refine .of Tryz.func44 (by decide) rfl fun args H K h hB => ?_
  unfold tKeys at h
  split at h <;> try exact h.elim
  rename_i l m n
  exact ⟨aKeys l m n, ⟨frame C0.ok s_ins _, trivial⟩, vc_keys l m n K h.1 h.2⟩
structure XU (l m : List Ent) (p : Int) where
  i : Nat
  h : i ≤ m.length
def tUni : Tfm C0 := fun args H K => match args, H with
  | [.at (.slc 0), .at (.slc 1), .at (.val (.int .i64 p))], [.row false .ent l, .row false .ent m] => l.length + m.length ≤ 1000000 ∧ (m.length = 0 → K (.one (.at (.slc 0))) [.row false EC.ent l, .row false EC.ent m] []) ∧ K (.one (.at (.slc 2))) [.row false EC.ent l, .row false EC.ent m, .row true EC.ent (uniE l m p)] []
  | _, _ => False
def difD (k : Int) (a b : Option Int) : List Chg := match a with
  | none => [⟨1, k, 0, b.getD 0⟩]
  | some v => match b with
    | none => [⟨2, k, v, 0⟩]
    | some w => if v = w then [] else [⟨3, k, v, w⟩]
def dif1 (l m : List Ent) (k : Int) : List Chg := difD k (getE l k) (getE m k)
def difE (l m : List Ent) : List Chg := (keys3 l m []).flatMap (dif1 l m)
theorem dif1_len (l m : List Ent) (k : Int) : (dif1 l m k).length ≤ 1 := by
  unfold dif1 difD; repeat' split
  all_goals simp
theorem flatMap1_len {α β : Type} {f : α → List β} (h : ∀ x, (f x).length ≤ 1) (l : List α) : (l.flatMap f).length ≤ l.length := by
  induction l with
  | nil => simp
  | cons x l ih => have := h x; rw [List.flatMap_cons, List.length_append, List.length_cons]; omega
theorem difE_len (l m : List Ent) : (difE l m).length ≤ l.length + m.length := by
  have h1 := flatMap1_len (dif1_len l m) (keys3 l m [])
  have h2 := keys3_len l m []
  unfold difE
  rw [List.length_nil] at h2
  omega
theorem dif1_mk {l m : List Ent} {k : Int} (h : (getE l k).isSome = true ∨ (getE m k).isSome = true) : dif1 l m k = (mkChg k (getE l k) (getE m k)).toList := by
  unfold dif1 difD
  cases h1 : getE l k <;> cases h2 : getE m k <;> simp_all [mkChg]
  split <;> simp_all
theorem flatMap_congr' {α β : Type} {f g : α → List β} {l : List α} (h : ∀ x ∈ l, f x = g x) : l.flatMap f = l.flatMap g := by
  induction l with
  | nil => rfl
  | cons x l ih => rw [List.flatMap_cons, List.flatMap_cons, h x (by simp), ih fun y hy => h y (by simp [hy])]
theorem difE_btw {l m : List Ent} (hl : Asc l) (hm : Asc m) : difE l m = btw l m := by
  have hk := keys3_srt l m []
  have e : difE l m = (keys3 l m []).flatMap fun k => (mkChg k (getE l k) (getE m k)).toList := by
    unfold difE
    refine flatMap_congr' fun k hk => ?_
    rcases (keys3_mem l m [] k).1 hk with h | h | h
    · exact dif1_mk (.inl h)
    · exact dif1_mk (.inr h)
    · simp [getE] at h
  have hf : ∀ (x : Int) (y : Chg), mkChg x (getE l x) (getE m x) = some y → y.key = id x := fun x y h => (mkChg_some h).1
  refine Srt.ext (key := Chg.key) ?_ (btw_srt hl hm) fun k => ?_
  · rw [e]; exact flatOpt_srt (ka := id) (kb := Chg.key) _ hf hk
  · rw [e, flatOpt_fnd (ka := id) (kb := Chg.key) _ hf hk, btw_fnd hl hm, fnd_id]
    split
    · rfl
    · rename_i hn
      rw [keys3_mem] at hn
      have h1 : getE l k = none := by cases h : getE l k <;> simp_all
      have h2 : getE m k = none := by cases h : getE m k <;> simp_all
      rw [h1, h2]; rfl
structure XDif (l m : List Ent) where
  i : Nat
  h : i ≤ (keys3 l m []).length
theorem wrap_next {i n : Nat} (h1 : i < n) (h2 : n ≤ 1000000) : IntKind.i64.wrap ((i : Int) + 1) = ((i + 1 : Nat) : Int) := by rw [wrap_in (by omega) (by omega)]; simp
end Go.Proofs.YtbonbaccmlomhaaGreat.Sx
end
section
/- Planting trees: the statements' helpers. -/
namespace Go.Proofs.YtbonbaccmlomhaaGreat.Sx
open Go

/-KEEP Wf Kept makeS relA nxt decS NodeR exW inU live Arn.cap Arn.free balN PlantR maxSize mkNode-/
def tLeast : Tfm C0 := fun args H K => match args, H with
  | [.at (.val (.int .i64 n))], [] => 0 ≤ n ∧ n ≤ 1000000 ∧ ∀ x, x = n / 4 → K (.one (.at (vI x))) [] []
  | _, _ => False
def balB (l r : Int) : Bool := decide (balN l r)
def tBal : Tfm C0 := fun args H K => match args, H with
  | [.at (.val (.int .i64 l)), .at (.val (.int .i64 r))], [] => 0 ≤ l ∧ l ≤ 1000000 ∧ 0 ≤ r ∧ r ≤ 1000000 ∧ ∀ b, b = balB l r → K (.one (.at (vB b))) [] []
  | _, _ => False
structure XPv (n : Int) where
  lo : Int
  h : 0 ≤ lo ∧ lo < n ∧ balN lo (n - 1 - lo)
noncomputable def aPivot (n : Int) : Ann C0 := { Γ := [(96, frameT [] tLeast), (95, frameT [] tBal)], inv := fun k => match k with
  | 2 => some { X := XPv n, sl := [5], tf := fun x => [vi .i64 x.lo], hf := fun _ => [], μ := fun x => x.lo.toNat }
  | 4 => some { X := XPv n, sl := [5], tf := fun x => [vi .i64 x.lo], hf := fun _ => [], μ := fun x => (n - x.lo).toNat }
  | _ => none }
def tPivot : Tfm C0 := fun args H K => match args, H with
  | [.at (.val (.int .i64 n)), .at (.val (.int .u64 t))], [] => 1 ≤ n ∧ n ≤ 100000 ∧ 0 ≤ t ∧ ∀ p, 0 ≤ p → p < n → balN p (n - 1 - p) → K (.one (.at (vI p))) [] []
  | _, _ => False
def tPlant (n : Nat) : Tfm C0 := fun args H K => match args with
  | [.at (.ptr 0 0), .at (.slc 7), .at (.val (.int .u64 t))] => arMr H fun S rest => match rest with
    | [.row false .ent l] => ∃ hs, Wf S hs ∧ l.length < n ∧ l.length ≤ 100000 ∧ (l.length : Int) ≤ S.free ∧ hs.length + l.length ≤ 900000000 ∧ 0 ≤ t ∧ ∀ S' i, PlantR S hs l S' i → K (.tup [.at (vU i), .at (vB true)]) (chS S' ++ [.row false EC.ent l]) W7
    | _ => False
  | _ => False
noncomputable def aPlant (n : Nat) : Ann C0 := { Γ := [(78, frameT [] tPivot), (54, frameT [] (tPlant n)), (31, frameT [] tMakeOk), (59, frameT [] tGive)] }
theorem vc_least (n : Int) (K : KT) (h1 : 0 ≤ n) (h2 : n ≤ 1000000) (h : ∀ x, x = n / 4 → K (.one (.at (vI x))) [] []) : vc C0 A0 Tryz.f96 [.at (vI n)] [] (normK 0 K) := by
  refine Eq.mp (show (K (SV.one (TV.at (At.val (Value.int IntKind.i64 (IntKind.i64.wrap ((if n > 0 then n else 0).tdiv 4)))))) [] []) = _ by kernel_rfl) ?_
  have e : (if n > 0 then n else 0) = n := by split <;> omega
  rw [e, Int.tdiv_eq_ediv_of_nonneg h1, wrap_id (by omega) (by omega)]
  exact h _ rfl
theorem s_least : SoundT C0 96 tLeast := by
  refine .of Tryz.func96 (by decide) rfl fun args H K h hB => ?_
  unfold tLeast at h
  split at h <;> try exact h.elim
  rename_i n
  exact ⟨A0, trivial, vc_least n K h.1 h.2.1 h.2.2⟩
theorem vc_bal (l r : Int) (K : KT) (h1 : 0 ≤ l) (h2 : l ≤ 1000000) (h3 : 0 ≤ r) (h4 : r ≤ 1000000) (h : ∀ b, b = balB l r → K (.one (.at (vB b))) [] []) : vc C0 A0 Tryz.f95 [.at (vI l), .at (vI r)] [] (normK 0 K) := by
  refine Eq.mp (show (brS (decide (l < 0)) ((K (SV.one (TV.at (At.val (Value.bool false)))) [] [])) ((brS (decide (l > 2147483647)) ((K (SV.one (TV.at (At.val (Value.bool false)))) [] [])) ((brS (decide (r < 0)) ((K (SV.one (TV.at (At.val (Value.bool false)))) [] [])) ((brS (decide (r > 2147483647)) ((K (SV.one (TV.at (At.val (Value.bool false)))) [] [])) ((brS (decide (IntKind.i64.wrap (l + 1) ≤ IntKind.i64.wrap (3 * IntKind.i64.wrap (r + 1)))) ((K (SV.one (TV.at (At.val (Value.bool (decide (IntKind.i64.wrap (r + 1) ≤ IntKind.i64.wrap (3 * IntKind.i64.wrap (l + 1)))))))) [] [])) ((K (SV.one (TV.at (At.val (Value.bool false)))) [] []))))))))))) = _ by kernel_rfl) ?_
  rw [wrap_id (x := l + 1) (by omega) (by omega), wrap_id (x := r + 1) (by omega) (by omega), wrap_id (x := 3 * (l + 1)) (by omega) (by omega), wrap_id (x := 3 * (r + 1)) (by omega) (by omega)]
  refine brS_of (fun c => ?_) fun _ => brS_of (fun c => ?_) fun _ => brS_of (fun c => ?_) fun _ => brS_of (fun c => ?_) fun _ => brS_of (fun c => ?_) fun c => ?_
  · have := of_decide_eq_true c; omega
  · have : l > 2147483647 := of_decide_eq_true c; omega
  · have := of_decide_eq_true c; omega
  · have : r > 2147483647 := of_decide_eq_true c; omega
  · have c : l + 1 ≤ 3 * (r + 1) := of_decide_eq_true c
    exact h _ (by unfold balB balN; simp [c])
  · have c : ¬ l + 1 ≤ 3 * (r + 1) := of_decide_eq_false c
    exact h _ (by unfold balB balN; simp [c])
theorem s_bal : SoundT C0 95 tBal := by
  refine .of Tryz.func95 (by decide) rfl fun args H K h hB => ?_
  unfold tBal at h
  split at h <;> try exact h.elim
  rename_i l r
  exact ⟨A0, trivial, vc_bal l r K h.1 h.2.1 h.2.2.1 h.2.2.2.1 h.2.2.2.2⟩
theorem vc_pivot (n t : Int) (K : KT) (h1 : 1 ≤ n) (h2 : n ≤ 100000) (h3 : 0 ≤ t) (h : ∀ p, 0 ≤ p → p < n → balN p (n - 1 - p) → K (.one (.at (vI p))) [] []) :
    vc C0 (aPivot n) Tryz.f78 [.at (vI n), .at (vU64 t)] [] (normK 0 K) := by
  refine Eq.mp (show ((0 ≤ n) ∧
(n ≤ 1000000) ∧
(∀ x : Int, (((x) = (n / 4)) → ((∃ x1 : XPv n, (True ∧ (((Value.int IntKind.i64 (n)) = (Value.int IntKind.i64 (n))) ∧ ((Value.int IntKind.u64 (t)) = (Value.int IntKind.u64 (t))) ∧ ((Value.int IntKind.i64 (x)) = (Value.int IntKind.i64 (x1.lo))) ∧ True) ∧ True)) ∧ (∀ x1 : XPv n, (True → (brS (decide (x1.lo > 0)) (((0 ≤ IntKind.i64.wrap (x1.lo - 1)) ∧ (IntKind.i64.wrap (x1.lo - 1) ≤ 1000000) ∧ (0 ≤ IntKind.i64.wrap (n - x1.lo)) ∧ (IntKind.i64.wrap (n - x1.lo) ≤ 1000000) ∧ (∀ b : Bool, (((b) = (balB (IntKind.i64.wrap (x1.lo - 1)) (IntKind.i64.wrap (n - x1.lo)))) → (brS (b) ((∃ x' : XPv n, (True ∧ ((((Value.int IntKind.i64 (n)) = (Value.int IntKind.i64 (n))) ∧ ((Value.int IntKind.u64 (t)) = (Value.int IntKind.u64 (t))) ∧ ((Value.int IntKind.i64 (IntKind.i64.wrap (x1.lo - 1))) = (Value.int IntKind.i64 (x'.lo))) ∧ True) ∧ True) ∧ (x'.lo.toNat < x1.lo.toNat)))) (((∃ x2 : XPv n, (True ∧ (((Value.int IntKind.i64 (n)) = (Value.int IntKind.i64 (n))) ∧ ((Value.int IntKind.u64 (t)) = (Value.int IntKind.u64 (t))) ∧ ((Value.int IntKind.i64 (x1.lo)) = (Value.int IntKind.i64 (x2.lo))) ∧ True) ∧ True)) ∧ (∀ x2 : XPv n, (True → (brS (decide (x2.lo < IntKind.i64.wrap (n - 1))) (((0 ≤ x2.lo) ∧ (x2.lo ≤ 1000000) ∧ (0 ≤ IntKind.i64.wrap (IntKind.i64.wrap (n - 1) - x2.lo)) ∧ (IntKind.i64.wrap (IntKind.i64.wrap (n - 1) - x2.lo) ≤ 1000000) ∧ (∀ b1 : Bool, (((b1) = (balB x2.lo (IntKind.i64.wrap (IntKind.i64.wrap (n - 1) - x2.lo)))) → (brS (!b1) ((∃ x' : XPv n, (True ∧
    ((((Value.int IntKind.i64 (n)) = (Value.int IntKind.i64 (n))) ∧ ((Value.int IntKind.u64 (t)) = (Value.int IntKind.u64 (t))) ∧ ((Value.int IntKind.i64 (IntKind.i64.wrap (x2.lo + 1))) = (Value.int IntKind.i64 (x'.lo))) ∧ True) ∧ True) ∧ ((n - x'.lo).toNat < (n - x2.lo).toNat)))) ((brS (decide (IntKind.i64.wrap (IntKind.i64.wrap (n - 1) - x2.lo) < x2.lo)) ((K (SV.one (TV.at (At.val (Value.int IntKind.i64 (IntKind.i64.wrap (n.tdiv 2)))))) [] [])) (((IntKind.u64.wrap (IntKind.i64.wrap (IntKind.i64.wrap (IntKind.i64.wrap (IntKind.i64.wrap (n - 1) - x2.lo) - x2.lo) + 1)) ≠ 0) ∧ (K (SV.one (TV.at (At.val (Value.int IntKind.i64 (IntKind.i64.wrap (x2.lo + IntKind.i64.wrap (t.tmod (IntKind.u64.wrap (IntKind.i64.wrap (IntKind.i64.wrap (IntKind.i64.wrap (IntKind.i64.wrap (n - 1) - x2.lo) - x2.lo) + 1)))))))))) [] [])))))))))) ((brS (decide (IntKind.i64.wrap (IntKind.i64.wrap (n - 1) - x2.lo) < x2.lo)) ((K (SV.one (TV.at (At.val (Value.int IntKind.i64 (IntKind.i64.wrap (n.tdiv 2)))))) [] [])) (((IntKind.u64.wrap (IntKind.i64.wrap (IntKind.i64.wrap (IntKind.i64.wrap (IntKind.i64.wrap (n - 1) - x2.lo) - x2.lo) + 1)) ≠ 0) ∧ (K (SV.one (TV.at (At.val (Value.int IntKind.i64 (IntKind.i64.wrap (x2.lo + IntKind.i64.wrap (t.tmod (IntKind.u64.wrap (IntKind.i64.wrap (IntKind.i64.wrap (IntKind.i64.wrap (IntKind.i64.wrap (n - 1) - x2.lo) - x2.lo) + 1)))))))))) [] []))))))))))))))) (((∃ x2 : XPv n, (True ∧ (((Value.int IntKind.i64 (n)) = (Value.int IntKind.i64 (n))) ∧
    ((Value.int IntKind.u64 (t)) = (Value.int IntKind.u64 (t))) ∧ ((Value.int IntKind.i64 (x1.lo)) = (Value.int IntKind.i64 (x2.lo))) ∧ True) ∧ True)) ∧ (∀ x2 : XPv n, (True → (brS (decide (x2.lo < IntKind.i64.wrap (n - 1))) (((0 ≤ x2.lo) ∧ (x2.lo ≤ 1000000) ∧ (0 ≤ IntKind.i64.wrap (IntKind.i64.wrap (n - 1) - x2.lo)) ∧ (IntKind.i64.wrap (IntKind.i64.wrap (n - 1) - x2.lo) ≤ 1000000) ∧ (∀ b : Bool, (((b) = (balB x2.lo (IntKind.i64.wrap (IntKind.i64.wrap (n - 1) - x2.lo)))) → (brS (!b) ((∃ x' : XPv n, (True ∧ ((((Value.int IntKind.i64 (n)) = (Value.int IntKind.i64 (n))) ∧ ((Value.int IntKind.u64 (t)) = (Value.int IntKind.u64 (t))) ∧ ((Value.int IntKind.i64 (IntKind.i64.wrap (x2.lo + 1))) = (Value.int IntKind.i64 (x'.lo))) ∧ True) ∧ True) ∧ ((n - x'.lo).toNat < (n - x2.lo).toNat)))) ((brS (decide (IntKind.i64.wrap (IntKind.i64.wrap (n - 1) - x2.lo) < x2.lo)) ((K (SV.one (TV.at (At.val (Value.int IntKind.i64 (IntKind.i64.wrap (n.tdiv 2)))))) [] [])) (((IntKind.u64.wrap (IntKind.i64.wrap (IntKind.i64.wrap (IntKind.i64.wrap (IntKind.i64.wrap (n - 1) - x2.lo) - x2.lo) + 1)) ≠ 0) ∧ (K (SV.one (TV.at (At.val (Value.int IntKind.i64 (IntKind.i64.wrap (x2.lo + IntKind.i64.wrap (t.tmod (IntKind.u64.wrap (IntKind.i64.wrap (IntKind.i64.wrap (IntKind.i64.wrap (IntKind.i64.wrap (n - 1) - x2.lo) - x2.lo) + 1)))))))))) [] [])))))))))) ((brS (decide (IntKind.i64.wrap (IntKind.i64.wrap (n - 1) - x2.lo) < x2.lo)) ((K (SV.one (TV.at (At.val (Value.int IntKind.i64 (IntKind.i64.wrap (n.tdiv 2)))))) [] []))
    (((IntKind.u64.wrap (IntKind.i64.wrap (IntKind.i64.wrap (IntKind.i64.wrap (IntKind.i64.wrap (n - 1) - x2.lo) - x2.lo) + 1)) ≠ 0) ∧ (K (SV.one (TV.at (At.val (Value.int IntKind.i64 (IntKind.i64.wrap (x2.lo + IntKind.i64.wrap (t.tmod (IntKind.u64.wrap (IntKind.i64.wrap (IntKind.i64.wrap (IntKind.i64.wrap (IntKind.i64.wrap (n - 1) - x2.lo) - x2.lo) + 1)))))))))) [] []))))))))))))))))) = _ by kernel_rfl) ?_
  refine ⟨by omega, by omega, fun x hx => ⟨⟨⟨x, by omega, by omega, ⟨by omega, by omega⟩⟩, trivial, ⟨rfl, rfl, rfl, trivial⟩, trivial⟩, fun x1 _ => ?_⟩⟩
  obtain ⟨k1, k2, k3, k4⟩ := x1.h
  rw [wrap_id (x := x1.lo - 1) (by omega) (by omega), wrap_id (x := n - x1.lo) (by omega) (by omega)]
  refine brS_of (fun c => ?_) fun c => ?_
  · have c : x1.lo > 0 := of_decide_eq_true c
    refine ⟨by omega, by omega, by omega, by omega, fun b hb => brS_of (fun d => ?_) fun d => ?_⟩
    · rw [d] at hb
      have hb : balN (x1.lo - 1) (n - x1.lo) := of_decide_eq_true hb.symm
      refine ⟨⟨x1.lo - 1, by omega, by omega, by rw [show n - 1 - (x1.lo - 1) = n - x1.lo by omega]; exact hb⟩, trivial, ⟨⟨rfl, rfl, rfl, trivial⟩, trivial⟩, ?_⟩
      show (x1.lo - 1).toNat < x1.lo.toNat
      omega
    · skip
      refine ⟨⟨x1, trivial, ⟨rfl, rfl, rfl, trivial⟩, trivial⟩, fun x2 _ => ?_⟩
      obtain ⟨l1, l2, l3, l4⟩ := x2.h
      rw [wrap_id (x := n - 1) (by omega) (by omega), wrap_id (x := n - 1 - x2.lo) (by omega) (by omega)]
      refine brS_of (fun e => ⟨l1, by omega, by omega, by omega, fun b1 hb1 => brS_of (fun f => ?_) fun f => ?_⟩) fun e => ?_
      · have e : b1 = true := by rw [hb1]; exact decide_eq_true ⟨l3, l4⟩
        rw [e] at f; cases f
      · skip
        rw [wrap_id (x := n - 1 - x2.lo - x2.lo) (by omega) (by omega), wrap_id (x := n - 1 - x2.lo - x2.lo + 1) (by omega) (by omega)]
        refine brS_of (fun g => ?_) fun g => ?_
        · have g : n - 1 - x2.lo < x2.lo := of_decide_eq_true g
          rw [Int.tdiv_eq_ediv_of_nonneg (by omega), wrap_id (by omega) (by omega)]
          exact h _ (by omega) (by omega) ⟨by omega, by omega⟩
        · have g : ¬ n - 1 - x2.lo < x2.lo := of_decide_eq_false g
          have hm := Int.emod_nonneg t (show n - 1 - x2.lo - x2.lo + 1 ≠ 0 by omega)
          have hm2 := Int.emod_lt_of_pos t (show 0 < n - 1 - x2.lo - x2.lo + 1 by omega)
          rw [wrap_u64 (by omega) (by omega), Int.tmod_eq_emod_of_nonneg h3, wrap_id (x := t % _) (by omega) (by omega), wrap_id (by omega) (by omega)]
          exact ⟨by omega, h _ (by omega) (by omega) ⟨by omega, by omega⟩⟩
      · skip
        rw [wrap_id (x := n - 1 - x2.lo - x2.lo) (by omega) (by omega), wrap_id (x := n - 1 - x2.lo - x2.lo + 1) (by omega) (by omega)]
        refine brS_of (fun g => ?_) fun g => ?_
        · have g : n - 1 - x2.lo < x2.lo := of_decide_eq_true g
          rw [Int.tdiv_eq_ediv_of_nonneg (by omega), wrap_id (by omega) (by omega)]
          exact h _ (by omega) (by omega) ⟨by omega, by omega⟩
        · have g : ¬ n - 1 - x2.lo < x2.lo := of_decide_eq_false g
          have hm := Int.emod_nonneg t (show n - 1 - x2.lo - x2.lo + 1 ≠ 0 by omega)
          have hm2 := Int.emod_lt_of_pos t (show 0 < n - 1 - x2.lo - x2.lo + 1 by omega)
          rw [wrap_u64 (by omega) (by omega), Int.tmod_eq_emod_of_nonneg h3, wrap_id (x := t % _) (by omega) (by omega), wrap_id (by omega) (by omega)]
          exact ⟨by omega, h _ (by omega) (by omega) ⟨by omega, by omega⟩⟩
  · skip
    refine ⟨⟨x1, trivial, ⟨rfl, rfl, rfl, trivial⟩, trivial⟩, fun x2 _ => ?_⟩
    obtain ⟨l1, l2, l3, l4⟩ := x2.h
    rw [wrap_id (x := n - 1) (by omega) (by omega), wrap_id (x := n - 1 - x2.lo) (by omega) (by omega)]
    refine brS_of (fun e => ⟨l1, by omega, by omega, by omega, fun b1 hb1 => brS_of (fun f => ?_) fun f => ?_⟩) fun e => ?_
    · have e : b1 = true := by rw [hb1]; exact decide_eq_true ⟨l3, l4⟩
      rw [e] at f; cases f
    · skip
      rw [wrap_id (x := n - 1 - x2.lo - x2.lo) (by omega) (by omega), wrap_id (x := n - 1 - x2.lo - x2.lo + 1) (by omega) (by omega)]
      refine brS_of (fun g => ?_) fun g => ?_
      · have g : n - 1 - x2.lo < x2.lo := of_decide_eq_true g
        rw [Int.tdiv_eq_ediv_of_nonneg (by omega), wrap_id (by omega) (by omega)]
        exact h _ (by omega) (by omega) ⟨by omega, by omega⟩
      · have g : ¬ n - 1 - x2.lo < x2.lo := of_decide_eq_false g
        have hm := Int.emod_nonneg t (show n - 1 - x2.lo - x2.lo + 1 ≠ 0 by omega)
        have hm2 := Int.emod_lt_of_pos t (show 0 < n - 1 - x2.lo - x2.lo + 1 by omega)
        rw [wrap_u64 (by omega) (by omega), Int.tmod_eq_emod_of_nonneg h3, wrap_id (x := t % _) (by omega) (by omega), wrap_id (by omega) (by omega)]
        exact ⟨by omega, h _ (by omega) (by omega) ⟨by omega, by omega⟩⟩
    · skip
      rw [wrap_id (x := n - 1 - x2.lo - x2.lo) (by omega) (by omega), wrap_id (x := n - 1 - x2.lo - x2.lo + 1) (by omega) (by omega)]
      refine brS_of (fun g => ?_) fun g => ?_
      · have g : n - 1 - x2.lo < x2.lo := of_decide_eq_true g
        rw [Int.tdiv_eq_ediv_of_nonneg (by omega), wrap_id (by omega) (by omega)]
        exact h _ (by omega) (by omega) ⟨by omega, by omega⟩
      · have g : ¬ n - 1 - x2.lo < x2.lo := of_decide_eq_false g
        have hm := Int.emod_nonneg t (show n - 1 - x2.lo - x2.lo + 1 ≠ 0 by omega)
        have hm2 := Int.emod_lt_of_pos t (show 0 < n - 1 - x2.lo - x2.lo + 1 by omega)
        rw [wrap_u64 (by omega) (by omega), Int.tmod_eq_emod_of_nonneg h3, wrap_id (x := t % _) (by omega) (by omega), wrap_id (by omega) (by omega)]
        exact ⟨by omega, h _ (by omega) (by omega) ⟨by omega, by omega⟩⟩
theorem s_pivot : SoundT C0 78 tPivot := by
  refine .of Tryz.func78 (by decide) rfl fun args H K h hB => ?_
  unfold tPivot at h
  split at h <;> try exact h.elim
  rename_i n t
  exact ⟨aPivot n, ⟨frame C0.ok s_least _, frame C0.ok s_bal _, trivial⟩, vc_pivot n t K h.1 h.2.1 h.2.2.1 h.2.2.2⟩
theorem wrap_u64_nonneg (x : Int) : 0 ≤ IntKind.u64.wrap x := by
  unfold IntKind.wrap
  simp [IntKind.signed, IntKind.bits]
  omega
theorem split_at {l : List Ent} {p : Nat} (hp : p < l.length) : l.take p ++ l.getD p (0, 0) :: l.drop (p + 1) = l := by
  have h : l[p]? = some (l.getD p (0, 0)) := by simp [List.getD_eq_getElem?_getD, List.getElem?_eq_getElem hp]
  rw [← drop_cons h, List.take_append_drop]
theorem vc_plant (n : Nat) (S : Arn) (l : List Ent) (t : Int) (K : KT) (hs : List Int) (hw : Wf S hs) (h1 : l.length < n + 1) (h2 : l.length ≤ 100000) (h3 : (l.length : Int) ≤ S.free) (h4 : hs.length + l.length ≤ 900000000) (h5 : 0 ≤ t)
    (h : ∀ S' i, PlantR S hs l S' i → K (.tup [.at (vU i), .at (vB true)]) (chS S' ++ [.row false EC.ent l]) W7) :
    vc C0 (aPlant n) Tryz.f54 [.at (.ptr 0 0), .at (.slc 7), .at (vU64 t)] (chS S ++ [.row false EC.ent l]) (normK 8 (wideK W7 K)) := by
  refine Eq.mp (show (brS ((↑l.length : Int) == 0) ((K (SV.tup [(TV.at (At.val (Value.int IntKind.u32 0))), (TV.at (At.val (Value.bool true)))]) [(Chunk.box [(At.ptr 1 0), (At.slc 2), (At.slc 3), (At.val (Value.int IntKind.u64 (S.reads)))]), (Chunk.box [(At.slc 4), (At.slc 5), (At.slc 6), (At.val (Value.int IntKind.u32 (S.fresh)))]), (Chunk.row true (EC.node) (S.nodes)), (Chunk.row true (EC.int) (S.counts)), (Chunk.row true (EC.bool) (S.used)), (Chunk.row true (EC.u32) (S.gen)), (Chunk.row true (EC.u32) (S.rel)), (Chunk.row false (EC.ent) (l))] [0, 1, 2, 3, 4, 5, 6])) (((1 ≤ (↑l.length : Int)) ∧ ((↑l.length : Int) ≤ 100000) ∧ (0 ≤ t) ∧ (∀ p : Int, ((0 ≤ p) → ((p < (↑l.length : Int)) → ((balN p ((↑l.length : Int) - 1 - p)) → (((0 : Int) ≤ 0) ∧ (0 ≤ p) ∧ (p ≤ (↑l.length : Int)) ∧ (∃ hs : List Int, ((Wf S hs) ∧ ((List.drop (Int.toNat 0) (List.take p.toNat l)).length < n) ∧ ((List.drop (Int.toNat 0) (List.take p.toNat l)).length ≤ 100000) ∧ ((↑(List.drop (Int.toNat 0) (List.take p.toNat l)).length : Int) ≤ S.free) ∧ (hs.length + (List.drop (Int.toNat 0) (List.take p.toNat l)).length ≤ 900000000) ∧ (0 ≤ IntKind.u64.wrap (IntKind.u64.wrap (t.tdiv 5) + IntKind.u64.wrap (t * 3))) ∧ (∀ S' : Arn, (∀ i : Int, ((PlantR S hs (List.drop (Int.toNat 0) (List.take p.toNat l)) S' i) → ((0 ≤ IntKind.i64.wrap (p + 1)) ∧ (IntKind.i64.wrap (p + 1) ≤ (↑l.length : Int)) ∧ ((↑l.length : Int) ≤ (↑l.length : Int)) ∧ (∃ hs1 : List Int, ((Wf S' hs1) ∧
    ((List.drop (IntKind.i64.wrap (p + 1)).toNat (List.take (↑l.length : Int).toNat l)).length < n) ∧ ((List.drop (IntKind.i64.wrap (p + 1)).toNat (List.take (↑l.length : Int).toNat l)).length ≤ 100000) ∧ ((↑(List.drop (IntKind.i64.wrap (p + 1)).toNat (List.take (↑l.length : Int).toNat l)).length : Int) ≤ S'.free) ∧ (hs1.length + (List.drop (IntKind.i64.wrap (p + 1)).toNat (List.take (↑l.length : Int).toNat l)).length ≤ 900000000) ∧ (0 ≤ IntKind.u64.wrap (IntKind.u64.wrap (IntKind.u64.wrap (t.tdiv 7) + IntKind.u64.wrap (t * 5)) + 1)) ∧ (∀ S'1 : Arn, (∀ i1 : Int, ((PlantR S' hs1 (List.drop (IntKind.i64.wrap (p + 1)).toNat (List.take (↑l.length : Int).toNat l)) S'1 i1) → ((0 ≤ p) ∧ (p < (↑l.length : Int)) ∧ (0 ≤ p) ∧ (p < (↑l.length : Int)) ∧ (exW S'1) ∧ (live S'1 i) ∧ (live S'1 i1) ∧ ((mkNode S'1 (l.getD p.toNat (0, 0)).fst (l.getD p.toNat (0, 0)).snd i i1).size ≤ maxSize) ∧ (0 < S'1.free) ∧ (∀ S'2 : Arn, (∀ i2 : Int, (((S'2) = (makeS S'1 (l.getD p.toNat (0, 0)).fst (l.getD p.toNat (0, 0)).snd i i1)) → (((i2) = (nxt S'1)) → (∃ hs2 : List Int, ((Wf S'2 (i :: hs2)) ∧ (((S'2.us i) = true) → (1 ≤ S'2.indeg i)) ∧ (∀ S'3 : Arn, (((S'3) = (relA S'2 i)) → (∃ hs3 : List Int, ((Wf S'3 (i1 :: hs3)) ∧ (((S'3.us i1) = true) → (1 ≤ S'3.indeg i1)) ∧ (∀ S'4 : Arn, (((S'4) = (relA S'3 i1)) →
    (K (SV.tup [(TV.at (At.val (Value.int IntKind.u32 (i2)))), (TV.at (At.val (Value.bool (i2 != 0))))]) [(Chunk.box [(At.ptr 1 0), (At.slc 2), (At.slc 3), (At.val (Value.int IntKind.u64 (S'4.reads)))]), (Chunk.box [(At.slc 4), (At.slc 5), (At.slc 6), (At.val (Value.int IntKind.u32 (S'4.fresh)))]), (Chunk.row true (EC.node) (S'4.nodes)), (Chunk.row true (EC.int) (S'4.counts)), (Chunk.row true (EC.bool) (S'4.used)), (Chunk.row true (EC.u32) (S'4.gen)), (Chunk.row true (EC.u32) (S'4.rel)), (Chunk.row false (EC.ent) (l))] [0, 1, 2, 3, 4, 5, 6]))))))))))))))))))))))))))))))))) = _ by kernel_rfl) ?_
  refine brS_of (fun c => ?_) fun c => ⟨?_, by omega, h5, fun p p0 p1 hb => ?_⟩
  · have e : l = [] := List.length_eq_zero_iff.1 (by simpa using c)
    have hr : PlantR S hs l S 0 := by rw [e]; exact PlantR.nil hw (by omega)
    exact h S 0 hr
  · have c : ¬ (l.length : Int) = 0 := by simpa using c
    omega
  · have hp : p.toNat < l.length := by omega
    have ea : List.drop (Int.toNat 0) (List.take p.toNat l) = l.take p.toNat := rfl
    rw [wrap_id (x := p + 1) (by omega) (by omega), ea, show (l.length : Int).toNat = l.length by omega, List.take_length, show (p + 1).toNat = p.toNat + 1 by omega]
    have la : (l.take p.toNat).length = p.toNat := by simp; omega
    have lb : (l.drop (p.toNat + 1)).length = l.length - (p.toNat + 1) := by simp
    have hf := hw.free_nonneg
    refine ⟨by decide, p0, by omega, hs, hw, by omega, by omega, by omega, by omega, wrap_u64_nonneg _, fun S1 il r1 => ?_⟩
    have hf1 := r1.wf.free_nonneg
    have n1 := r1.nu
    have c1 : S1.cap = S.cap := by unfold Arn.cap; rw [r1.len]
    refine ⟨by omega, by omega, by omega, il :: hs, r1.wf, by omega, by omega, by omega, by simp; omega, wrap_u64_nonneg _, fun S2 ir r2 => ?_⟩
    have hf2 := r2.wf.free_nonneg
    have n2 := r2.nu
    have c2 : S2.cap = S1.cap := by unfold Arn.cap; rw [r2.len]
    have hw2 : Wf S2 (il :: ir :: hs) := r2.wf.perm (List.Perm.swap _ _ _)
    have hfr : 0 < S2.free := by omega
    obtain ⟨tl, q1, q2, _⟩ := r1.rep
    obtain ⟨tr, q3, q4, _⟩ := r2.rep
    have q1' : Rep S2 tl il := q1.held r1.wf r2.stay (.inr (by simp))
    have s1 : tl.size = p.toNat := by rw [← tl.list_len, q2, la]
    have s2 : tr.size = l.length - (p.toNat + 1) := by rw [← tr.list_len, q4, lb]
    have hz : ∀ k v, (mkNode S2 k v il ir).size ≤ maxSize := fun k v => by rw [mk_size hw2 q1' q3]; unfold maxSize; omega
    refine ⟨p0, p1, p0, p1, ⟨_, hw2⟩, hw2.held il (by simp), hw2.held ir (by simp), hz _ _, hfr, fun S3 i e1 e2 => ?_⟩
    obtain ⟨t1, t2, t3, t4⟩ := node_two (k := (l.getD p.toNat (0, 0)).1) (v := (l.getD p.toNat (0, 0)).2) hw2 hfr (hz _ _) (by omega)
    subst e1
    refine ⟨_, t1, t2, fun S4 e3 => ?_⟩
    subst e3
    refine ⟨_, t3, t4, fun S5 e4 => ?_⟩
    have hx := (hw2.nxt_spec hfr).1
    have hi0 : (i != 0) = true := by rw [e2]; simp; omega
    rw [hi0]
    refine h S5 i ?_
    have hr : PlantR S hs (l.take p.toNat ++ l.getD p.toNat (0, 0) :: l.drop (p.toNat + 1)) S5 i := r1.node r2 (by rw [la, lb]; have e : ((l.length - (p.toNat + 1) : Nat) : Int) = (l.length : Int) - 1 - p := (by omega); rw [e, show (p.toNat : Int) = p by omega]; exact hb) fun tl' tr' x1 x2 => by
      rw [e4, e2]; exact node_ok hw2 hfr (hz _ _) (by omega) x1 x2
    rw [split_at hp] at hr
    exact hr
theorem s_plant : ∀ n, SoundT C0 54 (tPlant n) := by
  intro n
  induction n with
  | zero =>
    refine .of Tryz.func54 (by decide) rfl fun args H K h hB => ?_
    exfalso
    unfold tPlant at h
    split at h <;> try exact h.elim
    unfold arMr at h
    split at h <;> try exact h.elim
    split at h <;> try exact h.elim
    obtain ⟨_, _, h1, _⟩ := h
    omega
  | succ n ih =>
    refine .ofW W7 Tryz.func54 (by decide) rfl fun args H K h hB => ?_
    unfold tPlant at h
    split at h <;> try exact h.elim
    unfold arMr at h
    split at h <;> try exact h.elim
    split at h <;> try exact h.elim
    rename_i t _ rd fr nd ct us gn rl _ l
    obtain ⟨hs, h1, h2, h3, h4, h5, h6, h7⟩ := h
    exact ⟨aPlant n, ⟨frame C0.ok s_pivot _, frame C0.ok ih _, frame C0.ok s_makeOk _, frame C0.ok s_give _, trivial⟩, vc_plant n ⟨us, gn, rl, fr, nd, ct, rd⟩ l t K hs h1 h2 h3 h4 h5 h6 h7⟩
def tPlantA : Tfm C0 := fun args H K => match args with
  | [.at (.ptr 0 0), .at (.slc 7), .at (.val (.int .u64 t))] => arMr H fun S rest => match rest with
    | [.row false .ent l] => ∃ hs, Wf S hs ∧ l.length ≤ 100000 ∧ (l.length : Int) ≤ S.free ∧ hs.length + l.length ≤ 900000000 ∧ 0 ≤ t ∧ ∀ S' i, PlantR S hs l S' i → K (.tup [.at (vU i), .at (vB true)]) (chS S' ++ [.row false EC.ent l]) W7
    | _ => False
  | _ => False
theorem s_plantA : SoundT C0 54 tPlantA := (s_plant 100001).weak fun args H K h => by
  unfold tPlantA at h
  unfold tPlant
  split at h <;> try exact h.elim
  unfold arMr at h ⊢
  split at h <;> try exact h.elim
  split at h <;> try exact h.elim
  obtain ⟨hs, h1, h2, h3, h4, h5, h6⟩ := h
  exact ⟨hs, h1, by omega, h2, h3, h4, h5, h6⟩
end Go.Proofs.YtbonbaccmlomhaaGreat.Sx
end
