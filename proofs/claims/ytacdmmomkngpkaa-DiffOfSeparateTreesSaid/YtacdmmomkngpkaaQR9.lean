/- The reference's lists: what their functions answer. -/
import Derived.Test.YtacdmmomkngpkaaQSl
import Derived.Test.YtacdmmomkngpkaaPatC
import Derived.Test.YtacdmmomkngpkaaPatD
import Derived.Test.YtacdmmomkngpkaaIns
namespace Go.Proofs.Ytacdmmomkngpkaa.Sx
open Go

theorem fold_C (p : List Chg) (n : Nat) : p.getD (n : Int).toNat ⟨0, 0, 0, 0⟩ = cA p n := rfl
theorem fold_E (p : List Ent) (n : Nat) : p.getD (n : Int).toNat (0, 0) = eA p n := rfl
theorem wrap_in {x : Int} (h0 : -9223372036854775808 ≤ x) (h1 : x ≤ 9223372036854775807) : IntKind.i64.wrap x = x := by
  rw [IntKind.wrap_i64]; omega
def iA (p : List Int) (n : Nat) : Int := p.getD n 0
theorem iA_get {p : List Int} {n : Nat} (h : n < p.length) : p[n]? = some (iA p n) := by simp [iA, List.getD_eq_getElem?_getD, List.getElem?_eq_getElem h]
theorem fold_I (p : List Int) (n : Nat) : p.getD (n : Int).toNat (0 : Int) = iA p n := rfl
theorem drop_eq_iff {α : Type} {l m : List α} {k : Nat} {x y : α} (hl : l[k]? = some x) (hm : m[k]? = some y) : (l.drop k = m.drop k) ↔ x = y ∧ l.drop (k + 1) = m.drop (k + 1) := by
  rw [drop_cons hl, drop_cons hm, List.cons.injEq]
theorem ent_eqB (x y : Ent) : (x.1 == y.1 && (x.2 == y.2 && true)) = decide (x = y) := by
  cases x; cases y; simp [Bool.decide_and, Prod.mk.injEq]; rfl
theorem int_neB (x y : Int) : (x != y) = !decide (x = y) := rfl
def sameB {α : Type} [DecidableEq α] (l m : List α) : Bool := decide (l = m)
structure XS {α : Type} [DecidableEq α] (l m : List α) where
  i : Nat
  h : i ≤ l.length ∧ l.length = m.length ∧ sameB l m = decide (l.drop i = m.drop i)
theorem XS.stop {α : Type} [DecidableEq α] {l m : List α} (z : XS l m) {x y : α} (hx : l[z.i]? = some x) (hy : m[z.i]? = some y) (hne : x ≠ y) : sameB l m = false := by
  rw [z.h.2.2]; apply decide_eq_false; rw [drop_eq_iff hx hy]; exact fun h => hne h.1
theorem XS.next {α : Type} [DecidableEq α] {l m : List α} (z : XS l m) {x y : α} (hx : l[z.i]? = some x) (hy : m[z.i]? = some y) (he : x = y) : ∃ z' : XS l m, z'.i = z.i + 1 := by
  have h1 := (List.getElem?_eq_some_iff.1 hx).1
  refine ⟨⟨z.i + 1, by omega, z.h.2.1, ?_⟩, rfl⟩
  rw [z.h.2.2]
  apply decide_eq_decide.2
  rw [drop_eq_iff hx hy]
  exact ⟨fun h => h.2, fun h => ⟨he, h⟩⟩
theorem XS.fin {α : Type} [DecidableEq α] {l m : List α} (z : XS l m) (h : z.i = l.length) : sameB l m = true := by
  rw [z.h.2.2, h, List.drop_length, z.h.2.1, List.drop_length]; rfl
noncomputable def aSame (e : EC) {α : Type} [DecidableEq α] (l m : List α) (L M : List (C0.α e)) : Ann C0 := { Γ := [], inv := fun n => match n with
  | 4 => some { X := XS l m, sl := [5], tf := fun x => [vi .i64 x.i], hf := fun _ => [.row false e L, .row false e M], μ := fun x => l.length - x.i }
  | _ => none }
def tSame_chg : Tfm C0 := fun args H K => match args, H with
  | [.at (.slc 0), .at (.slc 1)], [.row false .chg l, .row false .chg m] => K (.one (.at (vB (sameB (α := Chg) l m)))) [.row false EC.chg l, .row false EC.chg m] []
  | _, _ => False
def tSame_ent : Tfm C0 := fun args H K => match args, H with
  | [.at (.slc 0), .at (.slc 1)], [.row false .ent l, .row false .ent m] => K (.one (.at (vB (sameB (α := Ent) l m)))) [.row false EC.ent l, .row false EC.ent m] []
  | _, _ => False
theorem vc_same9 (l m : List Ent) (K : KT) (hmax : l.length ≤ 9223372036854775807) (h : K (.one (.at (vB (sameB l m)))) [.row false EC.ent l, .row false EC.ent m] []) :
    vc C0 (aSame EC.ent l m l m) Try.f55 [.at (.slc 0), .at (.slc 1)] [.row false EC.ent l, .row false EC.ent m] (normK 2 K) := by
  refine Eq.mp (show (brS ((↑l.length : Int) != (↑m.length : Int))
  ((K (SV.one (TV.at (At.val (Value.bool false)))) [(Chunk.row false (EC.ent) (l)), (Chunk.row false (EC.ent) (m))] []))
  (((∃ x : XS l m,
    (True ∧
    (True ∧
    True ∧
    ((Value.int IntKind.i64 0) = (Value.int IntKind.i64 ((↑x.i : Int)))) ∧
    True) ∧
    ((l) = (l)) ∧
    ((m) = (m)) ∧
    True)) ∧
  (∀ x : XS l m,
    (True →
    (brS (decide ((↑x.i : Int) < (↑l.length : Int)))
      (((0 ≤ (↑x.i : Int)) ∧
      ((↑x.i : Int) < (↑l.length : Int)) ∧
      (0 ≤ (↑x.i : Int)) ∧
      ((↑x.i : Int) < (↑m.length : Int)) ∧
      (brS (!((eA l x.i).fst == (eA m x.i).fst && ((eA l x.i).snd == (eA m x.i).snd && true)))
        ((K (SV.one (TV.at (At.val (Value.bool false)))) [(Chunk.row false (EC.ent) (l)), (Chunk.row false (EC.ent) (m))] []))
        ((∃ x' : XS l m,
          (True ∧
          ((True ∧
          True ∧
          ((Value.int IntKind.i64 (IntKind.i64.wrap ((↑x.i : Int) + 1))) = (Value.int IntKind.i64 ((↑x'.i : Int)))) ∧
          True) ∧
          ((l) = (l)) ∧
          ((m) = (m)) ∧
          True) ∧
          (l.length - x'.i < l.length - x.i)))))))
      ((K (SV.one (TV.at (At.val (Value.bool true)))) [(Chunk.row false (EC.ent) (l)), (Chunk.row false (EC.ent) (m))] [])))))))) = _ by kernel_rfl) ?_
  refine brS_of (fun hl => ?_) fun hl => ⟨⟨⟨0, Nat.zero_le _, by simp at hl; omega, rfl⟩, by simp⟩, fun x _ => brS_of (fun hi => ?_) fun hi => ?_⟩
  · have e : sameB l m = false := by
      apply decide_eq_false
      intro e
      subst e
      simp at hl
    rw [e] at h; exact h
  · have hi : x.i < l.length := by simpa using hi
    have hl := x.h.2.1
    have h1 := eA_get hi
    have h2 := eA_get (p := m) (n := x.i) (by omega)
    simp only [ent_eqB]
    refine ⟨by omega, by omega, by omega, by omega, brS_of (fun hd => ?_) fun hd => ?_⟩
    · have e := x.stop h1 h2 (by simpa using hd)
      rw [e] at h; exact h
    · obtain ⟨z, hz⟩ := x.next h1 h2 (by simpa using hd)
      refine ⟨z, trivial, ?_, ?_⟩
      · rw [wrap_in (by omega) (by omega), hz]; simp
      · show l.length - z.i < l.length - x.i
        omega
  · have hi : x.i = l.length := by have := x.h.1; simp at hi; omega
    have e := x.fin hi
    rw [e] at h; exact h
theorem s_same9 : SoundT C0 55 tSame_ent := by
  refine .of Try.func55 (by decide) rfl fun args H K h hB => ?_
  unfold tSame_ent at h
  split at h <;> try exact h.elim
  rename_i l m
  exact ⟨aSame EC.ent (α := Ent) l m l m, trivial, vc_same9 l m K (hB 0 _ _ _ rfl) h⟩
def tSame_i64 : Tfm C0 := fun args H K => match args, H with
  | [.at (.slc 0), .at (.slc 1)], [.row false .i64 l, .row false .i64 m] => K (.one (.at (vB (sameB (α := Int) l m)))) [.row false EC.i64 l, .row false EC.i64 m] []
  | _, _ => False
theorem vc_sameC (l m : List Chg) (K : KT) (hmax : l.length ≤ 9223372036854775807) (h : K (.one (.at (vB (sameB l m)))) [.row false EC.chg l, .row false EC.chg m] []) :
    vc C0 (aSame EC.chg l m l m) Try.f94 [.at (.slc 0), .at (.slc 1)] [.row false EC.chg l, .row false EC.chg m] (normK 2 K) := by
  refine Eq.mp (show (brS ((↑l.length : Int) != (↑m.length : Int))
  ((K (SV.one (TV.at (At.val (Value.bool false)))) [(Chunk.row false (EC.chg) (l)), (Chunk.row false (EC.chg) (m))] []))
  (((∃ x : XS l m,
    (True ∧
    (True ∧
    True ∧
    ((Value.int IntKind.i64 0) = (Value.int IntKind.i64 ((↑x.i : Int)))) ∧
    True) ∧
    ((l) = (l)) ∧
    ((m) = (m)) ∧
    True)) ∧
  (∀ x : XS l m,
    (True →
    (brS (decide ((↑x.i : Int) < (↑l.length : Int)))
      (((0 ≤ (↑x.i : Int)) ∧
      ((↑x.i : Int) < (↑l.length : Int)) ∧
      (0 ≤ (↑x.i : Int)) ∧
      ((↑x.i : Int) < (↑m.length : Int)) ∧
      (brS (!((cA l x.i).kind == (cA m x.i).kind && ((cA l x.i).key == (cA m x.i).key && ((cA l x.i).old == (cA m x.i).old && ((cA l x.i).new == (cA m x.i).new && true)))))
        ((K (SV.one (TV.at (At.val (Value.bool false)))) [(Chunk.row false (EC.chg) (l)), (Chunk.row false (EC.chg) (m))] []))
        ((∃ x' : XS l m,
          (True ∧
          ((True ∧
          True ∧
          ((Value.int IntKind.i64 (IntKind.i64.wrap ((↑x.i : Int) + 1))) = (Value.int IntKind.i64 ((↑x'.i : Int)))) ∧
          True) ∧
          ((l) = (l)) ∧
          ((m) = (m)) ∧
          True) ∧
          (l.length - x'.i < l.length - x.i)))))))
      ((K (SV.one (TV.at (At.val (Value.bool true)))) [(Chunk.row false (EC.chg) (l)), (Chunk.row false (EC.chg) (m))] [])))))))) = _ by kernel_rfl) ?_
  refine brS_of (fun hl => ?_) fun hl => ⟨⟨⟨0, Nat.zero_le _, by simp at hl; omega, rfl⟩, by simp⟩, fun x _ => brS_of (fun hi => ?_) fun hi => ?_⟩
  · have e : sameB l m = false := by
      apply decide_eq_false
      intro e
      subst e
      simp at hl
    rw [e] at h; exact h
  · have hi : x.i < l.length := by simpa using hi
    have hl := x.h.2.1
    have h1 := cA_get hi
    have h2 := cA_get (p := m) (n := x.i) (by omega)
    simp only [chg_eqB]
    refine ⟨by omega, by omega, by omega, by omega, brS_of (fun hd => ?_) fun hd => ?_⟩
    · have e := x.stop h1 h2 (by simpa using hd)
      rw [e] at h; exact h
    · obtain ⟨z, hz⟩ := x.next h1 h2 (by simpa using hd)
      refine ⟨z, trivial, ?_, ?_⟩
      · rw [wrap_in (by omega) (by omega), hz]; simp
      · show l.length - z.i < l.length - x.i
        omega
  · have hi : x.i = l.length := by have := x.h.1; simp at hi; omega
    have e := x.fin hi
    rw [e] at h; exact h
theorem s_sameC : SoundT C0 94 tSame_chg := by
  refine .of Try.func94 (by decide) rfl fun args H K h hB => ?_
  unfold tSame_chg at h
  split at h <;> try exact h.elim
  rename_i l m
  exact ⟨aSame EC.chg (α := Chg) l m l m, trivial, vc_sameC l m K (hB 0 _ _ _ rfl) h⟩
theorem asc_step {l : List Ent} {k : Nat} {x y : Ent} (hx : l[k]? = some x) (hy : l[k + 1]? = some y) : Asc (l.drop k) ↔ x.1 < y.1 ∧ Asc (l.drop (k + 1)) := by
  rw [drop_cons hx, drop_cons hy]
  constructor
  · intro h; exact ⟨h.head _ (by simp), h.tail⟩
  · rintro ⟨h1, h2⟩
    refine h2.cons fun z hz => ?_
    rcases List.mem_cons.1 hz with rfl | hz
    · exact h1
    · have := h2.head z hz; omega
structure XA (l : List Ent) where
  i : Nat
  h : 1 ≤ i ∧ (i ≤ l.length ∨ i = 1) ∧ (Asc l ↔ Asc (l.drop (i - 1)))
theorem XA.split {l : List Ent} (z : XA l) (hi : z.i < l.length) : (ascB l = true ↔ (eA l (z.i - 1)).1 < (eA l z.i).1 ∧ Asc (l.drop z.i)) := by
  obtain ⟨k, hk⟩ : ∃ k, z.i = k + 1 := ⟨z.i - 1, by have := z.h.1; omega⟩
  have h1 := eA_get (p := l) (n := k) (by omega)
  have h2 := eA_get (p := l) (n := k + 1) (by omega)
  have h3 := asc_step h1 h2
  have h4 := z.h.2.2
  rw [hk] at h4 ⊢
  simp only [Nat.add_sub_cancel] at h4 ⊢
  rw [ascB, decide_eq_true_eq, h4, h3]
theorem XA.fin {l : List Ent} (z : XA l) (hi : l.length ≤ z.i) : ascB l = true := by
  rw [ascB, decide_eq_true_eq, z.h.2.2]
  have : (l.drop (z.i - 1)).length ≤ 1 := by simp; omega
  match l.drop (z.i - 1), this with
  | [], _ => exact Srt.nil
  | [x], _ => exact Srt.nil.cons (by simp)
def tAsc : Tfm C0 := fun args H K => match args, H with
  | [.at (.slc 0)], [.row false .ent l] => K (.one (.at (vB (ascB l)))) [.row false EC.ent l] []
  | _, _ => False
noncomputable def aAsc (l : List Ent) : Ann C0 := { Γ := [], inv := fun n => match n with
  | 2 => some { X := XA l, sl := [3], tf := fun x => [vi .i64 x.i], hf := fun _ => [.row false EC.ent l], μ := fun x => l.length - x.i }
  | _ => none }
theorem vc_asc9 (l : List Ent) (K : KT) (hmax : l.length ≤ 9223372036854775807) (h : K (.one (.at (vB (ascB l)))) [.row false EC.ent l] []) :
    vc C0 (aAsc l) Try.f27 [.at (.slc 0)] [.row false EC.ent l] (normK 1 K) := by
  refine Eq.mp (show ((∃ x : XA l,
  (True ∧
  (True ∧
  ((Value.int IntKind.i64 1) = (Value.int IntKind.i64 ((↑x.i : Int)))) ∧
  True) ∧
  ((l) = (l)) ∧
  True)) ∧
(∀ x : XA l,
  (True →
  (brS (decide ((↑x.i : Int) < (↑l.length : Int)))
    (((0 ≤ (↑x.i : Int)) ∧
    ((↑x.i : Int) < (↑l.length : Int)) ∧
    (0 ≤ IntKind.i64.wrap ((↑x.i : Int) - 1)) ∧
    (IntKind.i64.wrap ((↑x.i : Int) - 1) < (↑l.length : Int)) ∧
    (brS (decide ((eA l x.i).fst ≤ (l.getD (IntKind.i64.wrap ((↑x.i : Int) - 1)).toNat (0, 0)).fst))
      ((K (SV.one (TV.at (At.val (Value.bool false)))) [(Chunk.row false (EC.ent) (l))] []))
      ((∃ x' : XA l,
        (True ∧
        ((True ∧
        ((Value.int IntKind.i64 (IntKind.i64.wrap ((↑x.i : Int) + 1))) = (Value.int IntKind.i64 ((↑x'.i : Int)))) ∧
        True) ∧
        ((l) = (l)) ∧
        True) ∧
        (l.length - x'.i < l.length - x.i)))))))
    ((K (SV.one (TV.at (At.val (Value.bool true)))) [(Chunk.row false (EC.ent) (l))] [])))))) = _ by kernel_rfl) ?_
  refine ⟨⟨⟨1, by omega, by omega, by simp⟩, by simp⟩, fun x _ => brS_of (fun hi => ?_) fun hi => ?_⟩
  · have hi : x.i < l.length := by simpa using hi
    have h1 := x.h.1
    have hs := x.split hi
    have e : ((x.i : Int) - 1).toNat = x.i - 1 := by omega
    rw [wrap_in (x := (x.i : Int) - 1) (by omega) (by omega)]
    simp only [e]
    refine ⟨by omega, by omega, by omega, by omega, brS_of (fun hd => ?_) fun hd => ?_⟩
    · have e : ascB l = false := by
        rw [Bool.eq_false_iff]
        intro hh
        have := (hs.1 hh).1
        simp [eA] at hd this
        omega
      rw [e] at h; exact h
    · refine ⟨⟨x.i + 1, by omega, by omega, ?_⟩, trivial, ?_, ?_⟩
      · rw [ascB, decide_eq_true_eq] at hs
        rw [hs, Nat.add_sub_cancel]
        refine ⟨fun h => h.2, fun h => ⟨?_, h⟩⟩
        simp [eA] at hd ⊢
        omega
      · rw [wrap_in (by omega) (by omega)]; simp
      · show l.length - (x.i + 1) < l.length - x.i
        omega
  · have e := x.fin (by simpa using hi)
    rw [e] at h; exact h
theorem s_asc9 : SoundT C0 27 tAsc := by
  refine .of Try.func27 (by decide) rfl fun args H K h hB => ?_
  unfold tAsc at h
  split at h <;> try exact h.elim
  rename_i l
  exact ⟨aAsc l, trivial, vc_asc9 l K (hB 0 _ _ _ rfl) h⟩
theorem getE_drop {l : List Ent} {i : Nat} {x : Ent} (h : l[i]? = some x) (q : Int) : getE (l.drop i) q = if x.1 = q then some x.2 else getE (l.drop (i + 1)) q := by
  rw [drop_cons h]; rfl
structure XGet (l : List Ent) (q : Int) where
  i : Nat
  h : i ≤ l.length ∧ getE l q = getE (l.drop i) q
noncomputable def aGet (l : List Ent) (q : Int) : Ann C0 := { Γ := [], inv := fun n => match n with
  | 2 => some { X := XGet l q, sl := [6], tf := fun x => [vi .i64 x.i], hf := fun _ => [.row false EC.ent l], μ := fun x => l.length - x.i }
  | _ => none }
def tGet : Tfm C0 := fun args H K => match args, H with
  | [.at (.slc 0), .at (.val (.int .i64 q))], [.row false .ent l] => ∀ x : Option Int, x = getE l q → K (.tup [.at (vI (x.getD 0)), .at (vB x.isSome)]) [.row false EC.ent l] []
  | _, _ => False
theorem vc_get (l : List Ent) (q : Int) (K : KT) (hmax : l.length ≤ 9223372036854775807) (h : ∀ x : Option Int, x = getE l q → K (.tup [.at (vI (x.getD 0)), .at (vB x.isSome)]) [.row false EC.ent l] []) :
    vc C0 (aGet l q) Try.f128 [.at (.slc 0), .at (.val (.int .i64 q))] [.row false EC.ent l] (normK 1 K) := by
  refine Eq.mp (show ((∃ x : XGet l q,
  (True ∧
  (True ∧
  ((Value.int IntKind.i64 (q)) = (Value.int IntKind.i64 (q))) ∧
  ((Value.int IntKind.i64 0) = (Value.int IntKind.i64 ((↑x.i : Int)))) ∧
  True) ∧
  ((l) = (l)) ∧
  True)) ∧
(∀ x : XGet l q,
  (True →
  (brS (decide ((↑x.i : Int) < (↑l.length : Int)))
    (((0 ≤ (↑x.i : Int)) ∧
    ((↑x.i : Int) < (↑l.length : Int)) ∧
    (brS ((eA l x.i).fst == q)
      (((0 ≤ (↑x.i : Int)) ∧
      ((↑x.i : Int) < (↑l.length : Int)) ∧
      (K (SV.tup [(TV.at (At.val (Value.int IntKind.i64 ((eA l x.i).snd)))), (TV.at (At.val (Value.bool true)))]) [(Chunk.row false (EC.ent) (l))] [])))
      ((∃ x' : XGet l q,
        (True ∧
        ((True ∧
        ((Value.int IntKind.i64 (q)) = (Value.int IntKind.i64 (q))) ∧
        ((Value.int IntKind.i64 (IntKind.i64.wrap ((↑x.i : Int) + 1))) = (Value.int IntKind.i64 ((↑x'.i : Int)))) ∧
        True) ∧
        ((l) = (l)) ∧
        True) ∧
        (l.length - x'.i < l.length - x.i)))))))
    ((K (SV.tup [(TV.at (At.val (Value.int IntKind.i64 0))), (TV.at (At.val (Value.bool false)))]) [(Chunk.row false (EC.ent) (l))] [])))))) = _ by kernel_rfl) ?_
  refine ⟨⟨⟨0, Nat.zero_le _, rfl⟩, by simp⟩, fun x _ => brS_of (fun hi => ?_) fun hi => ?_⟩
  · have hi : x.i < l.length := by simpa using hi
    have hs := getE_drop (eA_get hi) q
    refine ⟨by omega, by omega, brS_of (fun hd => ⟨by omega, by omega, ?_⟩) fun hd => ?_⟩
    · have e : getE l q = some (eA l x.i).2 := by
        rw [x.h.2, hs, if_pos (by simpa using hd)]
      exact h (some _) e.symm
    · refine ⟨⟨x.i + 1, by omega, ?_⟩, trivial, ?_, ?_⟩
      · rw [x.h.2, hs, if_neg (by simpa using hd)]
      · rw [wrap_in (by omega) (by omega)]; simp
      · show l.length - (x.i + 1) < l.length - x.i
        omega
  · have hi : x.i = l.length := by have := x.h.1; simp at hi; omega
    have e : getE l q = none := by rw [x.h.2, hi, List.drop_length]; rfl
    exact h none e.symm
theorem s_get : SoundT C0 128 tGet := by
  refine .of Try.func128 (by decide) rfl fun args H K h hB => ?_
  unfold tGet at h
  split at h <;> try exact h.elim
  rename_i q l
  exact ⟨aGet l q, trivial, vc_get l q K (hB 0 _ _ _ rfl) h⟩
def outE (l : List Ent) (lo hi : Int) : List Ent := l.filter fun x => decide (x.1 < lo) || decide (hi < x.1)
structure XOut (l : List Ent) (lo hi : Int) where
  i : Nat
  h : i ≤ l.length
noncomputable def aOut (l : List Ent) (lo hi : Int) : Ann C0 := { Γ := [], inv := fun n => match n with
  | 3 => some { X := XOut l lo hi, sl := [8, 7], tf := fun x => [vi .i64 x.i, .one (.at (.slc 1))], hf := fun x => [.row false EC.ent l, .row true EC.ent (outE (l.take x.i) lo hi)], μ := fun x => l.length - x.i }
  | _ => none }
def tOut : Tfm C0 := fun args H K => match args, H with
  | [.at (.slc 0), .at (.val (.int .i64 lo)), .at (.val (.int .i64 hi))], [.row false .ent l] => l.length ≤ 1000000 ∧ K (.one (.at (.slc 1))) [.row false EC.ent l, .row true EC.ent (outE l lo hi)] []
  | _, _ => False
theorem outE_snoc {l : List Ent} {lo hi : Int} {i : Nat} {x : Ent} (h : l[i]? = some x) : outE (l.take (i + 1)) lo hi = outE (l.take i) lo hi ++ (if (decide (x.1 < lo) || decide (hi < x.1)) = true then [x] else []) := by
  rw [take_snoc h]
  unfold outE
  rw [List.filter_append]
  simp only [List.filter_cons, List.filter_nil]
theorem outE_len (l : List Ent) (lo hi : Int) (i : Nat) : (outE (l.take i) lo hi).length ≤ i := by
  unfold outE
  exact Nat.le_trans (List.length_filter_le _ _) (List.length_take_le _ _)
structure XIns (l : List Ent) (e : Ent) where
  i : Nat
  acc : List Ent
  put : Bool
  h : i ≤ l.length ∧ acc.length ≤ i + put.toNat ∧ insE l e = acc ++ insGo e put (l.drop i)
noncomputable def aIns (l : List Ent) (e : Ent) : Ann C0 := { Γ := [], inv := fun n => match n with
  | 4 => some { X := XIns l e, sl := [7, 6, 5, 3], tf := fun x => [vi .i64 x.i, vb x.put, .one (.at (.slc 2)), .one (.at (.ptr 1 0))], hf := fun x => [.row false EC.ent l, .box [vI e.1, vI e.2], .row true EC.ent x.acc], μ := fun x => l.length - x.i }
  | _ => none }
def tIns : Tfm C0 := fun args H K => match args, H with
  | [.at (.slc 0), .agg [.val (.int .i64 k), .val (.int .i64 v)]], [.row false .ent l] => l.length ≤ 1000000 ∧ K (.one (.at (.slc 1))) [.row false EC.ent l, .row true EC.ent (insE l (k, v))] []
  | _, _ => False
theorem insGo_step {e x : Ent} {put : Bool} {l : List Ent} {i : Nat} (h : l[i]? = some x) : insGo e put (l.drop i) = (if !put && decide (e.1 ≤ x.1) then [e] else []) ++ ((if x.1 = e.1 then [] else [x]) ++ insGo e (put || decide (e.1 ≤ x.1)) (l.drop (i + 1))) := by
  rw [drop_cons h, insGo]
theorem XIns.next {l : List Ent} {e : Ent} (z : XIns l e) {x : Ent} (hx : l[z.i]? = some x) {put' : Bool} {acc' : List Ent} (hp : put' = (z.put || decide (e.1 ≤ x.1)))
    (ha : acc' = z.acc ++ ((if !z.put && decide (e.1 ≤ x.1) then [e] else []) ++ (if x.1 = e.1 then [] else [x]))) : ∃ z' : XIns l e, z'.i = z.i + 1 ∧ z'.put = put' ∧ z'.acc = acc' := by
  have h1 := (List.getElem?_eq_some_iff.1 hx).1
  obtain ⟨hi, hl, he⟩ := z.h
  rw [insGo_step hx] at he
  refine ⟨⟨z.i + 1, acc', put', by omega, ?_, ?_⟩, rfl, rfl, rfl⟩
  · subst hp ha
    have h2 : (if x.1 = e.1 then ([] : List Ent) else [x]).length ≤ 1 := by split <;> simp
    cases hz : z.put <;> rw [hz] at hl <;> by_cases hc : e.1 ≤ x.1 <;> simp [hc] at hl ⊢ <;> omega
  · subst hp ha
    rw [he]; simp only [List.append_assoc]
theorem XIns.fin {l : List Ent} {e : Ent} (z : XIns l e) (h : z.i = l.length) : insE l e = z.acc ++ (if z.put then [] else [e]) := by
  rw [z.h.2.2, h, List.drop_length]; rfl
theorem vc_ins (l : List Ent) (k v : Int) (K : KT) (hsm : l.length ≤ 1000000) (h : K (.one (.at (.slc 1))) [.row false EC.ent l, .row true EC.ent (insE l (k, v))] []) :
    vc C0 (aIns l (k, v)) Try.f78 [.at (.slc 0), .agg [.val (.int .i64 k), .val (.int .i64 v)]] [.row false EC.ent l] (normK 1 K) := by
  refine Eq.mp (show ((∃ x : XIns l (k, v),
  (True ∧
  (True ∧
  True ∧
  True ∧
  ((Value.bool false) = (Value.bool (x.put))) ∧
  ((Value.int IntKind.i64 0) = (Value.int IntKind.i64 ((↑x.i : Int)))) ∧
  True) ∧
  ((l) = (l)) ∧
  (((Value.int IntKind.i64 (k)) = (Value.int IntKind.i64 (k))) ∧
  ((Value.int IntKind.i64 (v)) = (Value.int IntKind.i64 (v))) ∧
  True) ∧
  ([] = (x.acc)) ∧
  True)) ∧
(∀ x : XIns l (k, v),
  (True →
  (brS (decide ((↑x.i : Int) < (↑l.length : Int)))
    ((brS (!x.put)
      (((0 ≤ (↑x.i : Int)) ∧
      ((↑x.i : Int) < (↑l.length : Int)) ∧
      (brS (decide ((eA l x.i).fst ≥ k))
        ((((x.acc.length + [(k, v)].length) * bytesOf C0 EC.ent ≤ 140737488355328) ∧
        (0 ≤ (↑x.i : Int)) ∧
        ((↑x.i : Int) < (↑l.length : Int)) ∧
        (brS ((eA l x.i).fst != k)
          (((0 ≤ (↑x.i : Int)) ∧
          ((↑x.i : Int) < (↑l.length : Int)) ∧
          (((x.acc ++ [(k, v)]).length + [((eA l x.i).fst, (eA l x.i).snd)].length) * bytesOf C0 EC.ent ≤ 140737488355328) ∧
          (∃ x' : XIns l (k, v),
            (True ∧
            ((True ∧
            True ∧
            True ∧
            ((Value.bool true) = (Value.bool (x'.put))) ∧
            ((Value.int IntKind.i64 (IntKind.i64.wrap ((↑x.i : Int) + 1))) = (Value.int IntKind.i64 ((↑x'.i : Int)))) ∧
            True) ∧
            ((l) = (l)) ∧
            (((Value.int IntKind.i64 (k)) = (Value.int IntKind.i64 (k))) ∧
            ((Value.int IntKind.i64 (v)) = (Value.int IntKind.i64 (v))) ∧
            True) ∧
            ((x.acc ++ [(k, v)] ++ [((eA l x.i).fst, (eA l x.i).snd)]) = (x'.acc)) ∧
            True) ∧
            (l.length - x'.i < l.length - x.i)))))
          ((∃ x' : XIns l (k, v),
            (True ∧
            ((True ∧
            True ∧
            True ∧
            ((Value.bool true) = (Value.bool (x'.put))) ∧
            ((Value.int IntKind.i64 (IntKind.i64.wrap ((↑x.i : Int) + 1))) = (Value.int IntKind.i64 ((↑x'.i : Int)))) ∧
            True) ∧
            ((l) = (l)) ∧
            (((Value.int IntKind.i64 (k)) = (Value.int IntKind.i64 (k))) ∧
            ((Value.int IntKind.i64 (v)) = (Value.int IntKind.i64 (v))) ∧
            True) ∧
            ((x.acc ++ [(k, v)]) = (x'.acc)) ∧
            True) ∧
            (l.length - x'.i < l.length - x.i)))))))
        (((0 ≤ (↑x.i : Int)) ∧
        ((↑x.i : Int) < (↑l.length : Int)) ∧
        (brS ((eA l x.i).fst != k)
          (((0 ≤ (↑x.i : Int)) ∧
          ((↑x.i : Int) < (↑l.length : Int)) ∧
          ((x.acc.length + [((eA l x.i).fst, (eA l x.i).snd)].length) * bytesOf C0 EC.ent ≤ 140737488355328) ∧
          (∃ x' : XIns l (k, v),
            (True ∧
            ((True ∧
            True ∧
            True ∧
            ((Value.bool (x.put)) = (Value.bool (x'.put))) ∧
            ((Value.int IntKind.i64 (IntKind.i64.wrap ((↑x.i : Int) + 1))) = (Value.int IntKind.i64 ((↑x'.i : Int)))) ∧
            True) ∧
            ((l) = (l)) ∧
            (((Value.int IntKind.i64 (k)) = (Value.int IntKind.i64 (k))) ∧
            ((Value.int IntKind.i64 (v)) = (Value.int IntKind.i64 (v))) ∧
            True) ∧
            ((x.acc ++ [((eA l x.i).fst, (eA l x.i).snd)]) = (x'.acc)) ∧
            True) ∧
            (l.length - x'.i < l.length - x.i)))))
          ((∃ x' : XIns l (k, v),
            (True ∧
            ((True ∧
            True ∧
            True ∧
            ((Value.bool (x.put)) = (Value.bool (x'.put))) ∧
            ((Value.int IntKind.i64 (IntKind.i64.wrap ((↑x.i : Int) + 1))) = (Value.int IntKind.i64 ((↑x'.i : Int)))) ∧
            True) ∧
            ((l) = (l)) ∧
            (((Value.int IntKind.i64 (k)) = (Value.int IntKind.i64 (k))) ∧
            ((Value.int IntKind.i64 (v)) = (Value.int IntKind.i64 (v))) ∧
            True) ∧
            ((x.acc) = (x'.acc)) ∧
            True) ∧
            (l.length - x'.i < l.length - x.i))))))))))
      (((0 ≤ (↑x.i : Int)) ∧
      ((↑x.i : Int) < (↑l.length : Int)) ∧
      (brS ((eA l x.i).fst != k)
        (((0 ≤ (↑x.i : Int)) ∧
        ((↑x.i : Int) < (↑l.length : Int)) ∧
        ((x.acc.length + [((eA l x.i).fst, (eA l x.i).snd)].length) * bytesOf C0 EC.ent ≤ 140737488355328) ∧
        (∃ x' : XIns l (k, v),
          (True ∧
          ((True ∧
          True ∧
          True ∧
          ((Value.bool (x.put)) = (Value.bool (x'.put))) ∧
          ((Value.int IntKind.i64 (IntKind.i64.wrap ((↑x.i : Int) + 1))) = (Value.int IntKind.i64 ((↑x'.i : Int)))) ∧
          True) ∧
          ((l) = (l)) ∧
          (((Value.int IntKind.i64 (k)) = (Value.int IntKind.i64 (k))) ∧
          ((Value.int IntKind.i64 (v)) = (Value.int IntKind.i64 (v))) ∧
          True) ∧
          ((x.acc ++ [((eA l x.i).fst, (eA l x.i).snd)]) = (x'.acc)) ∧
          True) ∧
          (l.length - x'.i < l.length - x.i)))))
        ((∃ x' : XIns l (k, v),
          (True ∧
          ((True ∧
          True ∧
          True ∧
          ((Value.bool (x.put)) = (Value.bool (x'.put))) ∧
          ((Value.int IntKind.i64 (IntKind.i64.wrap ((↑x.i : Int) + 1))) = (Value.int IntKind.i64 ((↑x'.i : Int)))) ∧
          True) ∧
          ((l) = (l)) ∧
          (((Value.int IntKind.i64 (k)) = (Value.int IntKind.i64 (k))) ∧
          ((Value.int IntKind.i64 (v)) = (Value.int IntKind.i64 (v))) ∧
          True) ∧
          ((x.acc) = (x'.acc)) ∧
          True) ∧
          (l.length - x'.i < l.length - x.i)))))))))
    ((brS (!x.put)
      ((((x.acc.length + [(k, v)].length) * bytesOf C0 EC.ent ≤ 140737488355328) ∧
      (K (SV.one (TV.at (At.slc 1))) [(Chunk.row false (EC.ent) (l)), (Chunk.row true (EC.ent) (x.acc ++ [(k, v)]))] [])))
      ((K (SV.one (TV.at (At.slc 1))) [(Chunk.row false (EC.ent) (l)), (Chunk.row true (EC.ent) (x.acc))] [])))))))) = _ by kernel_rfl) ?_
  refine ⟨⟨⟨0, [], false, Nat.zero_le _, by simp, by simp⟩, by simp⟩, fun x _ => brS_of (fun hi => ?_) fun hi => ?_⟩
  · have hi : x.i < l.length := by simpa using hi
    have hx := eA_get hi
    have hlen := x.h.2.1
    have hpt : x.put.toNat ≤ 1 := by cases x.put <;> decide
    have w1 : IntKind.i64.wrap ((x.i : Int) + 1) = ((x.i + 1 : Nat) : Int) := by rw [wrap_in (by omega) (by omega)]; simp
    simp only [w1, bytes_ent]
    have go : ∀ (put' : Bool) (acc' : List Ent), put' = (x.put || decide (k ≤ (eA l x.i).1)) → acc' = x.acc ++ ((if !x.put && decide (k ≤ (eA l x.i).1) then [(k, v)] else []) ++ (if (eA l x.i).1 = k then [] else [eA l x.i])) →
        ∃ z' : XIns l (k, v), z'.i = x.i + 1 ∧ z'.put = put' ∧ z'.acc = acc' := fun put' acc' hp ha => x.next hx hp ha
    refine brS_of (fun hp => ⟨by omega, by omega, brS_of (fun hc => ⟨?_, by omega, by omega, brS_of (fun hn => ⟨by omega, by omega, ?_, ?_⟩) fun hn => ?_⟩) fun hc => ⟨by omega, by omega, brS_of (fun hn => ⟨by omega, by omega, ?_, ?_⟩) fun hn => ?_⟩⟩) fun hp => ⟨by omega, by omega, brS_of (fun hn => ⟨by omega, by omega, ?_, ?_⟩) fun hn => ?_⟩
    all_goals try simp only [decide_eq_true_eq, decide_eq_false_iff_not, bne_iff_ne, ne_eq, Bool.not_eq_true', Bool.not_eq_false', bne_eq_false_iff_eq, ge_iff_le] at *
    all_goals first
      | (simp; omega)
      | (obtain ⟨z', e1, e2, e3⟩ := go _ _ rfl rfl
         refine ⟨z', ?_⟩
         simp [e1, e2, e3, *]
         omega)
  · have hi : x.i = l.length := by have := x.h.1; simp at hi; omega
    have hf := x.fin hi
    have hlen := x.h.2.1
    have hpt : x.put.toNat ≤ 1 := by cases x.put <;> decide
    refine brS_of (fun hp => ⟨?_, ?_⟩) fun hp => ?_
    · simp [bytes_ent]; omega
    · simp at hp; rw [hp] at hf; simp at hf; rw [hf] at h; exact h
    · simp at hp; rw [hp] at hf; simp at hf; rw [hf] at h; exact h
theorem s_ins : SoundT C0 78 tIns := by
  refine .of Try.func78 (by decide) rfl fun args H K h hB => ?_
  unfold tIns at h
  split at h <;> try exact h.elim
  rename_i k v l
  exact ⟨aIns l (k, v), trivial, vc_ins l k v K h.1 h.2⟩
def tDel : Tfm C0 := fun args H K => match args, H with
  | [.at (.slc 0), .at (.val (.int .i64 q))], [.row false .ent l] => l.length ≤ 1000000 ∧ K (.one (.at (.slc 1))) [.row false EC.ent l, .row true EC.ent (outE l q q)] []
  | _, _ => False
structure XLst (l : List Ent) (most : Int) where
  i : Nat
  h : i ≤ l.length ∧ (i : Int) ≤ most
noncomputable def aLst (l : List Ent) (most : Int) : Ann C0 := { Γ := [(78, frameT [] tIns)], inv := fun n => match n with
  | 3 => some { X := XLst l most, sl := [6, 5], tf := fun x => [vi .i64 x.i, .one (.at (.slc 1))], hf := fun x => [.row false EC.ent l, .row true EC.ent (listE l x.i)], μ := fun x => l.length - x.i }
  | _ => none }
def tLst : Tfm C0 := fun args H K => match args, H with
  | [.at (.slc 0), .at (.val (.int .i64 most))], [.row false .ent l] => 0 ≤ most ∧ most ≤ 1000000 ∧ K (.one (.at (.slc 1))) [.row false EC.ent l, .row true EC.ent (listE l most.toNat)] []
  | _, _ => False
theorem listE_snoc {l : List Ent} {i : Nat} {x : Ent} (h : l[i]? = some x) : listE l (i + 1) = insE (listE l i) x := by
  unfold listE
  rw [take_snoc h]
  simp
theorem listE_full {l : List Ent} {n : Nat} (h : l.length ≤ n) : listE l n = listE l l.length := by
  unfold listE
  rw [List.take_of_length_le h, List.take_of_length_le (Nat.le_refl _)]
theorem vc_lst (l : List Ent) (most : Int) (K : KT) (hmax : l.length ≤ 9223372036854775807) (h0 : 0 ≤ most) (h1 : most ≤ 1000000) (h : K (.one (.at (.slc 1))) [.row false EC.ent l, .row true EC.ent (listE l most.toNat)] []) :
    vc C0 (aLst l most) Try.f24 [.at (.slc 0), .at (.val (.int .i64 most))] [.row false EC.ent l] (normK 1 K) := by
  refine Eq.mp (show ((∃ x : XLst l most,
  (True ∧
  (True ∧
  ((Value.int IntKind.i64 (most)) = (Value.int IntKind.i64 (most))) ∧
  True ∧
  ((Value.int IntKind.i64 0) = (Value.int IntKind.i64 ((↑x.i : Int)))) ∧
  True) ∧
  ((l) = (l)) ∧
  ([] = (listE l x.i)) ∧
  True)) ∧
(∀ x : XLst l most,
  (True →
  (brS (decide ((↑x.i : Int) < (↑l.length : Int)))
    ((brS (decide ((↑x.i : Int) < most))
      (((0 ≤ (↑x.i : Int)) ∧
      ((↑x.i : Int) < (↑l.length : Int)) ∧
      ((listE l x.i).length ≤ 1000000) ∧
      (∃ x' : XLst l most,
        (True ∧
        ((True ∧
        ((Value.int IntKind.i64 (most)) = (Value.int IntKind.i64 (most))) ∧
        True ∧
        ((Value.int IntKind.i64 (IntKind.i64.wrap ((↑x.i : Int) + 1))) = (Value.int IntKind.i64 ((↑x'.i : Int)))) ∧
        True) ∧
        ((l) = (l)) ∧
        ((insE (listE l x.i) ((eA l x.i).fst, (eA l x.i).snd)) = (listE l x'.i)) ∧
        True) ∧
        (l.length - x'.i < l.length - x.i)))))
      ((K (SV.one (TV.at (At.slc 1))) [(Chunk.row false (EC.ent) (l)), (Chunk.row true (EC.ent) (listE l x.i))] []))))
    ((K (SV.one (TV.at (At.slc 1))) [(Chunk.row false (EC.ent) (l)), (Chunk.row true (EC.ent) (listE l x.i))] [])))))) = _ by kernel_rfl) ?_
  refine ⟨⟨⟨0, Nat.zero_le _, h0⟩, by simp [listE]⟩, fun x _ => brS_of (fun hi => brS_of (fun hm => ?_) fun hm => ?_) fun hi => ?_⟩
  · have hi : x.i < l.length := by simpa using hi
    have hm : (x.i : Int) < most := by simpa using hm
    have hs := listE_snoc (eA_get hi)
    have hlen := (listE_spec l x.i).2
    have w1 : IntKind.i64.wrap ((x.i : Int) + 1) = ((x.i + 1 : Nat) : Int) := by rw [wrap_in (by omega) (by omega)]; simp
    simp only [w1]
    refine ⟨by omega, by omega, by omega, ⟨x.i + 1, by omega, by omega⟩, ?_⟩
    simp [hs]; omega
  · have e : most.toNat = x.i := by have := x.h.2; simp at hm; omega
    rw [e] at h; exact h
  · have hi : x.i = l.length := by have := x.h.1; simp at hi; omega
    have := x.h.2
    rw [listE_full (n := most.toNat) (by omega), ← hi] at h; exact h
theorem s_lst : SoundT C0 24 tLst := by
  refine .of Try.func24 (by decide) rfl fun args H K h hB => ?_
  unfold tLst at h
  split at h <;> try exact h.elim
  rename_i most l
  exact ⟨aLst l most, ⟨frame C0.ok s_ins _, trivial⟩, vc_lst l most K (hB 0 _ _ _ rfl) h.1 h.2.1 h.2.2⟩
def tChoose : Tfm C0 := fun args H K => match args, H with
  | [.at (.val (.int .i64 p)), .at (.val (.int .i64 v)), .at (.val (.int .i64 w))], [] => ∀ x, x = chooseP p v w → K (.one (.at (vI x))) [] []
  | _, _ => False
def tMod : Tfm C0 := fun args H K => match args, H with
  | [.at (.val (.int .i64 k)), .at (.val (.int .i64 n))], [] => 0 < n ∧ n ≤ 9223372036854775807 ∧ ∀ x, x = k % n → K (.one (.at (vI x))) [] []
  | _, _ => False
theorem s_mod : SoundT C0 13 tMod := by
  refine .of Try.func13 (by decide) rfl fun args H K h hB => ⟨A0, trivial, ?_⟩
  unfold tMod at h
  split at h <;> try exact h.elim
  rename_i k n
  obtain ⟨h0, h1, h⟩ := h
  have h := h _ rfl
  refine Eq.mp (show ((n ≠ 0) ∧
(brS (decide (k.tmod n < 0))
  ((K (SV.one (TV.at (At.val (Value.int IntKind.i64 (IntKind.i64.wrap (k.tmod n + n)))))) [] []))
  ((K (SV.one (TV.at (At.val (Value.int IntKind.i64 (k.tmod n))))) [] [])))) = _ by kernel_rfl) ⟨by omega, brS_of (fun e => ?_) fun e => ?_⟩
  all_goals simp only [decide_eq_true_eq, decide_eq_false_iff_not] at e
  · have e1 : k.tmod n + n = k % n := by
      rw [Int.tmod_eq_emod] at e ⊢
      split at e <;> rename_i hc
      · have := Int.emod_nonneg k (show n ≠ 0 by omega); omega
      · rw [if_neg hc]
        have : (n.natAbs : Int) = n := by omega
        omega
    have h2 := Int.emod_nonneg k (show n ≠ 0 by omega)
    have h3 := Int.emod_lt_of_pos k h0
    rw [e1, wrap_in (by omega) (by omega)]; exact h
  · have e1 : k.tmod n = k % n := by
      rw [Int.tmod_eq_emod] at e ⊢
      split at e <;> rename_i hc
      · rw [if_pos hc]; omega
      · have h3 := Int.emod_lt_of_pos k h0
        have : (n.natAbs : Int) = n := by omega
        omega
    rw [e1]; exact h
structure XN (n : Nat) where
  i : Nat
  h : i ≤ n
def kF (xs : List Int) (l : List Ent) (i : Nat) : List Ent := keysOf (xs ++ (l.take i).map Prod.fst)
theorem kF_snoc {xs : List Int} {l : List Ent} {i : Nat} {x : Ent} (h : l[i]? = some x) : kF xs l (i + 1) = insE (kF xs l i) (x.1, 0) := by
  unfold kF
  rw [take_snoc h, List.map_append, ← List.append_assoc]
  exact keysOf_snoc _ _
theorem kF_len (xs : List Int) (l : List Ent) (i : Nat) : (kF xs l i).length ≤ xs.length + l.length := by
  have := (keysOf_spec (xs ++ (l.take i).map Prod.fst)).2.1
  unfold kF
  simp at this ⊢
  omega
theorem kF_zero (xs : List Int) (l : List Ent) : kF xs l 0 = keysOf xs := by simp [kF]
theorem kF_full (xs : List Int) (l : List Ent) : kF xs l l.length = keysOf (xs ++ l.map Prod.fst) := by simp [kF]
noncomputable def aKeys (l m n : List Ent) : Ann C0 := { Γ := [(78, frameT [] tIns)], inv := fun k => match k with
  | 3 => some { X := XN l.length, sl := [8, 7], tf := fun x => [vi .i64 x.i, .one (.at (.slc 3))], hf := fun x => [.row false EC.ent l, .row false EC.ent m, .row false EC.ent n, .row true EC.ent (kF [] l x.i)], μ := fun x => l.length - x.i }
  | 7 => some { X := XN m.length, sl := [9, 7], tf := fun x => [vi .i64 x.i, .one (.at (.slc 3))], hf := fun x => [.row false EC.ent l, .row false EC.ent m, .row false EC.ent n, .row true EC.ent (kF (l.map Prod.fst) m x.i)], μ := fun x => m.length - x.i }
  | 11 => some { X := XN n.length, sl := [10, 7], tf := fun x => [vi .i64 x.i, .one (.at (.slc 3))], hf := fun x => [.row false EC.ent l, .row false EC.ent m, .row false EC.ent n, .row true EC.ent (kF (l.map Prod.fst ++ m.map Prod.fst) n x.i)], μ := fun x => n.length - x.i }
  | 16 => some { X := XN (kF (l.map Prod.fst ++ m.map Prod.fst) n n.length).length, sl := [12, 7, 11], tf := fun x => [vi .i64 x.i, .one (.at (.slc 3)), .one (.at (.slc 4))], hf := fun x => [.row false EC.ent l, .row false EC.ent m, .row false EC.ent n, .row true EC.ent (kF (l.map Prod.fst ++ m.map Prod.fst) n n.length), .row true EC.i64 (((kF (l.map Prod.fst ++ m.map Prod.fst) n n.length).take x.i).map Prod.fst)], μ := fun x => (kF (l.map Prod.fst ++ m.map Prod.fst) n n.length).length - x.i }
  | _ => none }
def tKeys : Tfm C0 := fun args H K => match args, H with
  | [.at (.slc 0), .at (.slc 1), .at (.slc 2)], [.row false .ent l, .row false .ent m, .row false .ent n] => l.length + m.length + n.length ≤ 1000000 ∧ K (.one (.at (.slc 3))) [.row false EC.ent l, .row false EC.ent m, .row false EC.ent n, .row true EC.i64 (keys3 l m n)] []
  | _, _ => False
theorem keys3_eq (l m n : List Ent) : keys3 l m n = (kF (l.map Prod.fst ++ m.map Prod.fst) n n.length).map Prod.fst := by
  rw [kF_full]; simp [keys3]
set_option maxHeartbeats 1000000 in
theorem vc_keys (l m n : List Ent) (K : KT) (hsm : l.length + m.length + n.length ≤ 1000000) (h : K (.one (.at (.slc 3))) [.row false EC.ent l, .row false EC.ent m, .row false EC.ent n, .row true EC.i64 (keys3 l m n)] []) :
    vc C0 (aKeys l m n) Try.f127 [.at (.slc 0), .at (.slc 1), .at (.slc 2)] [.row false EC.ent l, .row false EC.ent m, .row false EC.ent n] (normK 3 K) := by
  refine Eq.mp (show ((∃ x : XN l.length,
  (True ∧
  (True ∧
  True ∧
  True ∧
  True ∧
  ((Value.int IntKind.i64 0) = (Value.int IntKind.i64 ((↑x.i : Int)))) ∧
  True) ∧
  ((l) = (l)) ∧
  ((m) = (m)) ∧
  ((n) = (n)) ∧
  ([] = (kF [] l x.i)) ∧
  True)) ∧
(∀ x : XN l.length,
  (True →
  (brS (decide ((↑x.i : Int) < (↑l.length : Int)))
    (((0 ≤ (↑x.i : Int)) ∧
    ((↑x.i : Int) < (↑l.length : Int)) ∧
    ((kF [] l x.i).length ≤ 1000000) ∧
    (∃ x' : XN l.length,
      (True ∧
      ((True ∧
      True ∧
      True ∧
      True ∧
      ((Value.int IntKind.i64 (IntKind.i64.wrap ((↑x.i : Int) + 1))) = (Value.int IntKind.i64 ((↑x'.i : Int)))) ∧
      True) ∧
      ((l) = (l)) ∧
      ((m) = (m)) ∧
      ((n) = (n)) ∧
      ((insE (kF [] l x.i) ((eA l x.i).fst, 0)) = (kF [] l x'.i)) ∧
      True) ∧
      (l.length - x'.i < l.length - x.i)))))
    (((∃ x1 : XN m.length,
      (True ∧
      (True ∧
      True ∧
      True ∧
      ((Value.int IntKind.i64 0) = (Value.int IntKind.i64 ((↑x1.i : Int)))) ∧
      True) ∧
      ((l) = (l)) ∧
      ((m) = (m)) ∧
      ((n) = (n)) ∧
      ((kF [] l x.i) = (kF (List.map Prod.fst l) m x1.i)) ∧
      True)) ∧
    (∀ x1 : XN m.length,
      (True →
      (brS (decide ((↑x1.i : Int) < (↑m.length : Int)))
        (((0 ≤ (↑x1.i : Int)) ∧
        ((↑x1.i : Int) < (↑m.length : Int)) ∧
        ((kF (List.map Prod.fst l) m x1.i).length ≤ 1000000) ∧
        (∃ x' : XN m.length,
          (True ∧
          ((True ∧
          True ∧
          True ∧
          ((Value.int IntKind.i64 (IntKind.i64.wrap ((↑x1.i : Int) + 1))) = (Value.int IntKind.i64 ((↑x'.i : Int)))) ∧
          True) ∧
          ((l) = (l)) ∧
          ((m) = (m)) ∧
          ((n) = (n)) ∧
          ((insE (kF (List.map Prod.fst l) m x1.i) ((eA m x1.i).fst, 0)) = (kF (List.map Prod.fst l) m x'.i)) ∧
          True) ∧
          (m.length - x'.i < m.length - x1.i)))))
        (((∃ x2 : XN n.length,
          (True ∧
          (True ∧
          True ∧
          ((Value.int IntKind.i64 0) = (Value.int IntKind.i64 ((↑x2.i : Int)))) ∧
          True) ∧
          ((l) = (l)) ∧
          ((m) = (m)) ∧
          ((n) = (n)) ∧
          ((kF (List.map Prod.fst l) m x1.i) = (kF (List.map Prod.fst l ++ List.map Prod.fst m) n x2.i)) ∧
          True)) ∧
        (∀ x2 : XN n.length,
          (True →
          (brS (decide ((↑x2.i : Int) < (↑n.length : Int)))
            (((0 ≤ (↑x2.i : Int)) ∧
            ((↑x2.i : Int) < (↑n.length : Int)) ∧
            ((kF (List.map Prod.fst l ++ List.map Prod.fst m) n x2.i).length ≤ 1000000) ∧
            (∃ x' : XN n.length,
              (True ∧
              ((True ∧
              True ∧
              ((Value.int IntKind.i64 (IntKind.i64.wrap ((↑x2.i : Int) + 1))) = (Value.int IntKind.i64 ((↑x'.i : Int)))) ∧
              True) ∧
              ((l) = (l)) ∧
              ((m) = (m)) ∧
              ((n) = (n)) ∧
              ((insE (kF (List.map Prod.fst l ++ List.map Prod.fst m) n x2.i) ((eA n x2.i).fst, 0)) = (kF (List.map Prod.fst l ++ List.map Prod.fst m) n x'.i)) ∧
              True) ∧
              (n.length - x'.i < n.length - x2.i)))))
            (((∃ x3 : XN (kF (List.map Prod.fst l ++ List.map Prod.fst m) n n.length).length,
              (True ∧
              (True ∧
              True ∧
              ((Value.int IntKind.i64 0) = (Value.int IntKind.i64 ((↑x3.i : Int)))) ∧
              True) ∧
              ((l) = (l)) ∧
              ((m) = (m)) ∧
              ((n) = (n)) ∧
              ((kF (List.map Prod.fst l ++ List.map Prod.fst m) n x2.i) = (kF (List.map Prod.fst l ++ List.map Prod.fst m) n n.length)) ∧
              ([] = (List.map Prod.fst (List.take x3.i (kF (List.map Prod.fst l ++ List.map Prod.fst m) n n.length)))) ∧
              True)) ∧
            (∀ x3 : XN (kF (List.map Prod.fst l ++ List.map Prod.fst m) n n.length).length,
              (True →
              (brS (decide ((↑x3.i : Int) < (↑(kF (List.map Prod.fst l ++ List.map Prod.fst m) n n.length).length : Int)))
                (((0 ≤ (↑x3.i : Int)) ∧
                ((↑x3.i : Int) < (↑(kF (List.map Prod.fst l ++ List.map Prod.fst m) n n.length).length : Int)) ∧
                (((List.map Prod.fst (List.take x3.i (kF (List.map Prod.fst l ++ List.map Prod.fst m) n n.length))).length + [(eA (kF (List.map Prod.fst l ++ List.map Prod.fst m) n n.length) x3.i).fst].length) * bytesOf C0 EC.i64 ≤ 140737488355328) ∧
                (∃ x' : XN (kF (List.map Prod.fst l ++ List.map Prod.fst m) n n.length).length,
                  (True ∧
                  ((True ∧
                  True ∧
                  ((Value.int IntKind.i64 (IntKind.i64.wrap ((↑x3.i : Int) + 1))) = (Value.int IntKind.i64 ((↑x'.i : Int)))) ∧
                  True) ∧
                  ((l) = (l)) ∧
                  ((m) = (m)) ∧
                  ((n) = (n)) ∧
                  ((kF (List.map Prod.fst l ++ List.map Prod.fst m) n n.length) = (kF (List.map Prod.fst l ++ List.map Prod.fst m) n n.length)) ∧
                  ((List.map Prod.fst (List.take x3.i (kF (List.map Prod.fst l ++ List.map Prod.fst m) n n.length)) ++ [(eA (kF (List.map Prod.fst l ++ List.map Prod.fst m) n n.length) x3.i).fst]) = (List.map Prod.fst (List.take x'.i (kF (List.map Prod.fst l ++ List.map Prod.fst m) n n.length)))) ∧
                  True) ∧
                  ((kF (List.map Prod.fst l ++ List.map Prod.fst m) n n.length).length - x'.i < (kF (List.map Prod.fst l ++ List.map Prod.fst m) n n.length).length - x3.i)))))
                ((K (SV.one (TV.at (At.slc 3))) [(Chunk.row false (EC.ent) (l)), (Chunk.row false (EC.ent) (m)), (Chunk.row false (EC.ent) (n)), (Chunk.row true (EC.i64) (List.map Prod.fst (List.take x3.i (kF (List.map Prod.fst l ++ List.map Prod.fst m) n n.length))))] []))))))))))))))))))))) = _ by kernel_rfl) ?_
  have nxt : ∀ {k i : Nat}, i < k → k ≤ 1000000 → IntKind.i64.wrap ((i : Int) + 1) = ((i + 1 : Nat) : Int) := fun {k i} h1 h2 => by rw [wrap_in (by omega) (by omega)]; simp
  refine ⟨⟨⟨0, Nat.zero_le _⟩, by simp [kF_zero, keysOf]⟩, fun x _ => brS_of (fun hi => ?_) fun hi => ?_⟩
  · have hi : x.i < l.length := by simpa using hi
    have hs := kF_snoc (xs := []) (eA_get hi)
    have hlen := kF_len [] l x.i
    simp only [nxt hi (by omega)]
    refine ⟨by omega, by omega, by simp at hlen; omega, ⟨x.i + 1, by omega⟩, ?_⟩
    simp [hs]; omega
  have hi : x.i = l.length := by have := x.h; simp at hi; omega
  refine ⟨⟨⟨0, Nat.zero_le _⟩, by simp [kF_zero, hi, kF_full]⟩, fun x _ => brS_of (fun hi => ?_) fun hi => ?_⟩
  · have hi : x.i < m.length := by simpa using hi
    have hs := kF_snoc (xs := l.map Prod.fst) (eA_get hi)
    have hlen := kF_len (l.map Prod.fst) m x.i
    simp only [nxt hi (by omega)]
    refine ⟨by omega, by omega, by simp at hlen; omega, ⟨x.i + 1, by omega⟩, ?_⟩
    simp [hs]; omega
  have hi : x.i = m.length := by have := x.h; simp at hi; omega
  refine ⟨⟨⟨0, Nat.zero_le _⟩, by simp [kF_zero, hi, kF_full]⟩, fun x _ => brS_of (fun hi => ?_) fun hi => ?_⟩
  · have hi : x.i < n.length := by simpa using hi
    have hs := kF_snoc (xs := l.map Prod.fst ++ m.map Prod.fst) (eA_get hi)
    have hlen := kF_len (l.map Prod.fst ++ m.map Prod.fst) n x.i
    simp only [nxt hi (by omega)]
    refine ⟨by omega, by omega, by simp at hlen; omega, ⟨x.i + 1, by omega⟩, ?_⟩
    simp [hs]; omega
  have hi : x.i = n.length := by have := x.h; simp at hi; omega
  have hlen := kF_len (l.map Prod.fst ++ m.map Prod.fst) n n.length
  rw [hi]
  rw [keys3_eq] at h
  generalize kF (l.map Prod.fst ++ m.map Prod.fst) n n.length = all at *
  simp at hlen
  refine ⟨⟨⟨0, Nat.zero_le _⟩, by simp⟩, fun x _ => brS_of (fun hi => ?_) fun hi => ?_⟩
  · have hi : x.i < all.length := by simpa using hi
    have hs := take_snoc (eA_get hi)
    simp only [nxt hi (by omega), bytes_i64]
    refine ⟨by omega, by omega, by simp; omega, ⟨x.i + 1, by omega⟩, ?_⟩
    simp [hs]; omega
  · have hi : x.i = all.length := by have := x.h; simp at hi; omega
    have h2 : ∀ z : List Int, z = all.map Prod.fst → K (.one (.at (.slc 3))) [.row false EC.ent l, .row false EC.ent m, .row false EC.ent n, .row true EC.i64 z] [] := fun z hz => by subst hz; exact h
    exact h2 _ (by rw [hi]; exact congrArg (List.map Prod.fst) (List.take_length (l := all)))
theorem s_keys : SoundT C0 127 tKeys := by
  refine .of Try.func127 (by decide) rfl fun args H K h hB => ?_
  unfold tKeys at h
  split at h <;> try exact h.elim
  rename_i l m n
  exact ⟨aKeys l m n, ⟨frame C0.ok s_ins _, trivial⟩, vc_keys l m n K h.1 h.2⟩
structure XU (l m : List Ent) (p : Int) where
  i : Nat
  h : i ≤ m.length
def tUni : Tfm C0 := fun args H K => match args, H with
  | [.at (.slc 0), .at (.slc 1), .at (.val (.int .i64 p))], [.row false .ent l, .row false .ent m] => l.length + m.length ≤ 1000000 ∧ (m.length = 0 → K (.one (.at (.slc 0))) [.row false EC.ent l, .row false EC.ent m] []) ∧ K (.one (.at (.slc 2))) [.row false EC.ent l, .row false EC.ent m, .row true EC.ent (uniE l m p)] []
  | _, _ => False
theorem uni_snoc (l : List Ent) {m : List Ent} (p : Int) {i : Nat} {x : Ent} (h : m[i]? = some x) : uniE l (m.take (i + 1)) p = uniStep l p (uniE l (m.take i) p) x := by
  unfold uniE
  rw [take_snoc h]
  simp
theorem uni_step {l m : List Ent} {p : Int} {i : Nat} (hi : i < m.length) {x : Option Int} (hx : x = getE l (eA m i).1) {v : Int} (hv : ∀ w, x = some w → v = chooseP p w (eA m i).2) (hn : x = none → v = (eA m i).2) :
    insE (uniE l (m.take i) p) ((eA m i).1, v) = uniE l (m.take (i + 1)) p := by
  rw [uni_snoc l p (eA_get hi)]
  unfold uniStep
  rw [← hx]
  cases x with
  | none => rw [hn rfl]
  | some w => rw [hv w rfl]
def difD (k : Int) (a b : Option Int) : List Chg := match a with
  | none => [⟨1, k, 0, b.getD 0⟩]
  | some v => match b with
    | none => [⟨2, k, v, 0⟩]
    | some w => if v = w then [] else [⟨3, k, v, w⟩]
def dif1 (l m : List Ent) (k : Int) : List Chg := difD k (getE l k) (getE m k)
theorem difD_1 {k : Int} {a b : Option Int} (h : (!a.isSome) = true) : [⟨1, k, 0, b.getD 0⟩] = difD k a b := by cases a <;> simp_all [difD]
theorem difD_2 {k : Int} {a b : Option Int} (h : (!a.isSome) = false) (h2 : (!b.isSome) = true) : [⟨2, k, a.getD 0, 0⟩] = difD k a b := by cases a <;> cases b <;> simp_all [difD]
theorem difD_3 {k : Int} {a b : Option Int} (h : (!a.isSome) = false) (h2 : (!b.isSome) = false) (h3 : (a.getD 0 != b.getD 0) = true) : [⟨3, k, a.getD 0, b.getD 0⟩] = difD k a b := by cases a <;> cases b <;> simp_all [difD]
theorem difD_4 {k : Int} {a b : Option Int} (h : (!a.isSome) = false) (h2 : (!b.isSome) = false) (h3 : (a.getD 0 != b.getD 0) = false) : [] = difD k a b := by cases a <;> cases b <;> simp_all [difD]
def difE (l m : List Ent) : List Chg := (keys3 l m []).flatMap (dif1 l m)
theorem dif1_len (l m : List Ent) (k : Int) : (dif1 l m k).length ≤ 1 := by
  unfold dif1 difD; repeat' split
  all_goals simp
theorem flatMap1_len {α β : Type} {f : α → List β} (h : ∀ x, (f x).length ≤ 1) (l : List α) : (l.flatMap f).length ≤ l.length := by
  induction l with
  | nil => simp
  | cons x l ih => have := h x; rw [List.flatMap_cons, List.length_append, List.length_cons]; omega
theorem difE_len (l m : List Ent) : (difE l m).length ≤ l.length + m.length := by
  have h1 := flatMap1_len (dif1_len l m) (keys3 l m [])
  have h2 := keys3_len l m []
  unfold difE
  rw [List.length_nil] at h2
  omega
theorem dif1_mk {l m : List Ent} {k : Int} (h : (getE l k).isSome = true ∨ (getE m k).isSome = true) : dif1 l m k = (mkChg k (getE l k) (getE m k)).toList := by
  unfold dif1 difD
  cases h1 : getE l k <;> cases h2 : getE m k <;> simp_all [mkChg]
  split <;> simp_all
theorem flatMap_congr' {α β : Type} {f g : α → List β} {l : List α} (h : ∀ x ∈ l, f x = g x) : l.flatMap f = l.flatMap g := by
  induction l with
  | nil => rfl
  | cons x l ih => rw [List.flatMap_cons, List.flatMap_cons, h x (by simp), ih fun y hy => h y (by simp [hy])]
theorem difE_btw {l m : List Ent} (hl : Asc l) (hm : Asc m) : difE l m = btw l m := by
  have hk := keys3_srt l m []
  have e : difE l m = (keys3 l m []).flatMap fun k => (mkChg k (getE l k) (getE m k)).toList := by
    unfold difE
    refine flatMap_congr' fun k hk => ?_
    rcases (keys3_mem l m [] k).1 hk with h | h | h
    · exact dif1_mk (.inl h)
    · exact dif1_mk (.inr h)
    · simp [getE] at h
  have hf : ∀ (x : Int) (y : Chg), mkChg x (getE l x) (getE m x) = some y → y.key = id x := fun x y h => (mkChg_some h).1
  refine Srt.ext (key := Chg.key) ?_ (btw_srt hl hm) fun k => ?_
  · rw [e]; exact flatOpt_srt (ka := id) (kb := Chg.key) _ hf hk
  · rw [e, flatOpt_fnd (ka := id) (kb := Chg.key) _ hf hk, btw_fnd hl hm, fnd_id]
    split
    · rfl
    · rename_i hn
      rw [keys3_mem] at hn
      have h1 : getE l k = none := by cases h : getE l k <;> simp_all
      have h2 : getE m k = none := by cases h : getE m k <;> simp_all
      rw [h1, h2]; rfl
structure XDif (l m : List Ent) where
  i : Nat
  h : i ≤ (keys3 l m []).length
noncomputable def aDif (l m : List Ent) : Ann C0 := { Γ := [(127, frameT [] tKeys), (128, frameT [] tGet)], inv := fun k => match k with
  | 4 => some { X := XDif l m, sl := [7, 6, 5], tf := fun x => [vi .i64 x.i, .one (.at (.slc 2)), .one (.at (.slc 3))], hf := fun x => [.row false EC.ent l, .row false EC.ent m, .row true EC.i64 (keys3 l m []), .row true EC.chg (((keys3 l m []).take x.i).flatMap (dif1 l m))], μ := fun x => (keys3 l m []).length - x.i }
  | _ => none }
def tDif : Tfm C0 := fun args H K => match args, H with
  | [.at (.slc 0), .at (.slc 1)], [.row false .ent l, .row false .ent m] => l.length + m.length ≤ 1000000 ∧ K (.one (.at (.slc 2))) [.row false EC.ent l, .row false EC.ent m, .row true EC.chg (difE l m)] []
  | _, _ => False
theorem wrap_next {i n : Nat} (h1 : i < n) (h2 : n ≤ 1000000) : IntKind.i64.wrap ((i : Int) + 1) = ((i + 1 : Nat) : Int) := by rw [wrap_in (by omega) (by omega)]; simp
theorem flat_snoc {α β : Type} (f : α → List β) {l : List α} {i : Nat} {x : α} (h : l[i]? = some x) : (l.take (i + 1)).flatMap f = (l.take i).flatMap f ++ f x := by
  rw [take_snoc h]; simp
theorem flat_len1 {α β : Type} {f : α → List β} (h : ∀ x, (f x).length ≤ 1) (l : List α) (i : Nat) : ((l.take i).flatMap f).length ≤ i :=
  Nat.le_trans (flatMap1_len h _) (List.length_take_le _ _)
theorem vc_dif (l m : List Ent) (K : KT) (hsm : l.length + m.length ≤ 1000000) (h : K (.one (.at (.slc 2))) [.row false EC.ent l, .row false EC.ent m, .row true EC.chg (difE l m)] []) :
    vc C0 (aDif l m) Try.f96 [.at (.slc 0), .at (.slc 1)] [.row false EC.ent l, .row false EC.ent m] (normK 2 K) := by
  refine Eq.mp (show ((l.length + m.length + ([] : List Ent).length ≤ 1000000) ∧
(∃ x : XDif l m,
  (True ∧
  (True ∧
  True ∧
  True ∧
  True ∧
  ((Value.int IntKind.i64 0) = (Value.int IntKind.i64 ((↑x.i : Int)))) ∧
  True) ∧
  ((l) = (l)) ∧
  ((m) = (m)) ∧
  ((keys3 l m []) = (keys3 l m [])) ∧
  ([] = (List.flatMap (dif1 l m) (List.take x.i (keys3 l m [])))) ∧
  True)) ∧
(∀ x : XDif l m,
  (True →
  (brS (decide ((↑x.i : Int) < (↑(keys3 l m []).length : Int)))
    (((0 ≤ (↑x.i : Int)) ∧
    ((↑x.i : Int) < (↑(keys3 l m []).length : Int)) ∧
    (∀ x1 : Option Int,
      (((x1) = (getE l (iA (keys3 l m []) x.i))) →
      (∀ x2 : Option Int,
        (((x2) = (getE m (iA (keys3 l m []) x.i))) →
        (brS (!x1.isSome)
          (((((List.flatMap (dif1 l m) (List.take x.i (keys3 l m []))).length + [{ kind := 1, key := iA (keys3 l m []) x.i, old := 0, new := x2.getD 0 : Chg }].length) * bytesOf C0 EC.chg ≤ 140737488355328) ∧
          (∃ x' : XDif l m,
            (True ∧
            ((True ∧
            True ∧
            True ∧
            True ∧
            ((Value.int IntKind.i64 (IntKind.i64.wrap ((↑x.i : Int) + 1))) = (Value.int IntKind.i64 ((↑x'.i : Int)))) ∧
            True) ∧
            ((l) = (l)) ∧
            ((m) = (m)) ∧
            ((keys3 l m []) = (keys3 l m [])) ∧
            ((List.flatMap (dif1 l m) (List.take x.i (keys3 l m [])) ++ [{ kind := 1, key := iA (keys3 l m []) x.i, old := 0, new := x2.getD 0 : Chg }]) = (List.flatMap (dif1 l m) (List.take x'.i (keys3 l m [])))) ∧
            True) ∧
            ((keys3 l m []).length - x'.i < (keys3 l m []).length - x.i)))))
          ((brS (!x2.isSome)
            (((((List.flatMap (dif1 l m) (List.take x.i (keys3 l m []))).length + [{ kind := 2, key := iA (keys3 l m []) x.i, old := x1.getD 0, new := 0 : Chg }].length) * bytesOf C0 EC.chg ≤ 140737488355328) ∧
            (∃ x' : XDif l m,
              (True ∧
              ((True ∧
              True ∧
              True ∧
              True ∧
              ((Value.int IntKind.i64 (IntKind.i64.wrap ((↑x.i : Int) + 1))) = (Value.int IntKind.i64 ((↑x'.i : Int)))) ∧
              True) ∧
              ((l) = (l)) ∧
              ((m) = (m)) ∧
              ((keys3 l m []) = (keys3 l m [])) ∧
              ((List.flatMap (dif1 l m) (List.take x.i (keys3 l m [])) ++ [{ kind := 2, key := iA (keys3 l m []) x.i, old := x1.getD 0, new := 0 : Chg }]) = (List.flatMap (dif1 l m) (List.take x'.i (keys3 l m [])))) ∧
              True) ∧
              ((keys3 l m []).length - x'.i < (keys3 l m []).length - x.i)))))
            ((brS (x1.getD 0 != x2.getD 0)
              (((((List.flatMap (dif1 l m) (List.take x.i (keys3 l m []))).length + [{ kind := 3, key := iA (keys3 l m []) x.i, old := x1.getD 0, new := x2.getD 0 : Chg }].length) * bytesOf C0 EC.chg ≤ 140737488355328) ∧
              (∃ x' : XDif l m,
                (True ∧
                ((True ∧
                True ∧
                True ∧
                True ∧
                ((Value.int IntKind.i64 (IntKind.i64.wrap ((↑x.i : Int) + 1))) = (Value.int IntKind.i64 ((↑x'.i : Int)))) ∧
                True) ∧
                ((l) = (l)) ∧
                ((m) = (m)) ∧
                ((keys3 l m []) = (keys3 l m [])) ∧
                ((List.flatMap (dif1 l m) (List.take x.i (keys3 l m [])) ++ [{ kind := 3, key := iA (keys3 l m []) x.i, old := x1.getD 0, new := x2.getD 0 : Chg }]) = (List.flatMap (dif1 l m) (List.take x'.i (keys3 l m [])))) ∧
                True) ∧
                ((keys3 l m []).length - x'.i < (keys3 l m []).length - x.i)))))
              ((∃ x' : XDif l m,
                (True ∧
                ((True ∧
                True ∧
                True ∧
                True ∧
                ((Value.int IntKind.i64 (IntKind.i64.wrap ((↑x.i : Int) + 1))) = (Value.int IntKind.i64 ((↑x'.i : Int)))) ∧
                True) ∧
                ((l) = (l)) ∧
                ((m) = (m)) ∧
                ((keys3 l m []) = (keys3 l m [])) ∧
                ((List.flatMap (dif1 l m) (List.take x.i (keys3 l m []))) = (List.flatMap (dif1 l m) (List.take x'.i (keys3 l m [])))) ∧
                True) ∧
                ((keys3 l m []).length - x'.i < (keys3 l m []).length - x.i)))))))))))))))
    ((K (SV.one (TV.at (At.slc 2))) [(Chunk.row false (EC.ent) (l)), (Chunk.row false (EC.ent) (m)), (Chunk.row true (EC.chg) (List.flatMap (dif1 l m) (List.take x.i (keys3 l m []))))] [])))))) = _ by kernel_rfl) ?_
  have hk := keys3_len l m []
  rw [List.length_nil] at hk
  refine ⟨by simpa using hsm, ⟨⟨0, Nat.zero_le _⟩, by simp⟩, fun x _ => brS_of (fun hi => ?_) fun hi => ?_⟩
  · have hi : x.i < (keys3 l m []).length := by simpa using hi
    have hs := flat_snoc (dif1 l m) (iA_get hi)
    have hlen := flat_len1 (dif1_len l m) (keys3 l m []) x.i
    have go : ∀ d, d = dif1 l m (iA (keys3 l m []) x.i) → (((keys3 l m []).take x.i).flatMap (dif1 l m)) ++ d = ((keys3 l m []).take (x.i + 1)).flatMap (dif1 l m) := fun d hd => by rw [hd, hs]
    simp only [wrap_next hi (by omega), bytes_chg]
    refine ⟨by omega, by omega, fun x1 e1 x2 e2 => brS_of (fun h1 => ⟨?_, ⟨x.i + 1, by omega⟩, ?_⟩) fun h1 => brS_of (fun h2 => ⟨?_, ⟨x.i + 1, by omega⟩, ?_⟩) fun h2 => brS_of (fun h3 => ⟨?_, ⟨x.i + 1, by omega⟩, ?_⟩) fun h3 => ⟨⟨x.i + 1, by omega⟩, ?_⟩⟩
    all_goals try (simp only [List.length_singleton]; omega)
    all_goals refine ⟨trivial, ⟨⟨trivial, trivial, trivial, trivial, rfl, trivial⟩, trivial, trivial, trivial, ?_, trivial⟩, by show _ - (x.i + 1) < _; omega⟩
    · exact go _ (by rw [dif1, ← e1, ← e2]; exact difD_1 h1)
    · exact go _ (by rw [dif1, ← e1, ← e2]; exact difD_2 h1 h2)
    · exact go _ (by rw [dif1, ← e1, ← e2]; exact difD_3 h1 h2 h3)
    · have := go [] (by rw [dif1, ← e1, ← e2]; exact difD_4 h1 h2 h3)
      rw [List.append_nil] at this
      exact this
  · have hi : x.i = (keys3 l m []).length := by have := x.h; simp at hi; omega
    have h2 : ∀ z : List Chg, z = difE l m → K (.one (.at (.slc 2))) [.row false EC.ent l, .row false EC.ent m, .row true EC.chg z] [] := fun z hz => by subst hz; exact h
    exact h2 _ (by rw [hi]; exact congrArg (List.flatMap (dif1 l m)) (List.take_length (l := keys3 l m [])))
theorem s_dif : SoundT C0 96 tDif := by
  refine .of Try.func96 (by decide) rfl fun args H K h hB => ?_
  unfold tDif at h
  split at h <;> try exact h.elim
  rename_i l m
  exact ⟨aDif l m, ⟨frame C0.ok s_keys _, frame C0.ok s_get _, trivial⟩, vc_dif l m K h.1 h.2⟩
end Go.Proofs.Ytacdmmomkngpkaa.Sx
