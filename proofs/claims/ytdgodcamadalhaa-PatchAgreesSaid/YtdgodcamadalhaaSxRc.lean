/- The comparisons of lists, and the tests of order: what they answer. -/
import Derived.Test.YtdgodcamadalhaaSxRb
namespace Go.Proofs.Ytdgodcamadalhaa.Sx
open Go

def iA (p : List Int) (n : Nat) : Int := p.getD n 0
theorem iA_get {p : List Int} {n : Nat} (h : n < p.length) : p[n]? = some (iA p n) := by simp [iA, List.getD_eq_getElem?_getD, List.getElem?_eq_getElem h]
theorem fold_I (p : List Int) (n : Nat) : p.getD (n : Int).toNat (0 : Int) = iA p n := rfl
theorem drop_eq_iff {α : Type} {l m : List α} {k : Nat} {x y : α} (hl : l[k]? = some x) (hm : m[k]? = some y) : (l.drop k = m.drop k) ↔ x = y ∧ l.drop (k + 1) = m.drop (k + 1) := by
  rw [drop_cons hl, drop_cons hm, List.cons.injEq]
theorem ent_eqB (x y : Ent) : (x.1 == y.1 && (x.2 == y.2 && true)) = decide (x = y) := by
  cases x; cases y; simp [Bool.decide_and, Prod.mk.injEq]; rfl
theorem int_neB (x y : Int) : (x != y) = !decide (x = y) := rfl

def sameB {α : Type} [DecidableEq α] (l m : List α) : Bool := decide (l = m)
structure XS {α : Type} [DecidableEq α] (l m : List α) where
  i : Nat
  h : i ≤ l.length ∧ l.length = m.length ∧ sameB l m = decide (l.drop i = m.drop i)
theorem XS.stop {α : Type} [DecidableEq α] {l m : List α} (z : XS l m) {x y : α} (hx : l[z.i]? = some x) (hy : m[z.i]? = some y) (hne : x ≠ y) : sameB l m = false := by
  rw [z.h.2.2]; apply decide_eq_false; rw [drop_eq_iff hx hy]; exact fun h => hne h.1
theorem XS.next {α : Type} [DecidableEq α] {l m : List α} (z : XS l m) {x y : α} (hx : l[z.i]? = some x) (hy : m[z.i]? = some y) (he : x = y) : ∃ z' : XS l m, z'.i = z.i + 1 := by
  have h1 := (List.getElem?_eq_some_iff.1 hx).1
  refine ⟨⟨z.i + 1, by omega, z.h.2.1, ?_⟩, rfl⟩
  rw [z.h.2.2]
  apply decide_eq_decide.2
  rw [drop_eq_iff hx hy]
  exact ⟨fun h => h.2, fun h => ⟨he, h⟩⟩
theorem XS.fin {α : Type} [DecidableEq α] {l m : List α} (z : XS l m) (h : z.i = l.length) : sameB l m = true := by
  rw [z.h.2.2, h, List.drop_length, z.h.2.1, List.drop_length]; rfl

noncomputable def aSame (e : EC) {α : Type} [DecidableEq α] (l m : List α) (L M : List (C0.α e)) : Ann C0 := { Γ := [], inv := fun n => match n with
  | 4 => some { X := XS l m, sl := [5], tf := fun x => [vi .i64 x.i], hf := fun _ => [.row false e L, .row false e M], μ := fun x => l.length - x.i }
  | _ => none }

def tSame_chg : Tfm C0 := fun args H K => match args, H with
  | [.at (.slc 0), .at (.slc 1)], [.row false .chg l, .row false .chg m] => K (.one (.at (vB (sameB (α := Chg) l m)))) [.row false EC.chg l, .row false EC.chg m] []
  | _, _ => False

theorem vc_same19 (l m : List Chg) (K : KT) (hmax : l.length ≤ 9223372036854775807) (h : K (.one (.at (vB (sameB l m)))) [.row false EC.chg l, .row false EC.chg m] []) :
    vc C0 (aSame EC.chg l m l m) Try.f27 [.at (.slc 0), .at (.slc 1)] [.row false EC.chg l, .row false EC.chg m] (normK 2 K) := by
  refine Eq.mp (show (brS ((↑l.length : Int) != (↑m.length : Int))
  ((K (SV.one (TV.at (At.val (Value.bool false)))) [(Chunk.row false (EC.chg) (l)), (Chunk.row false (EC.chg) (m))] []))
  (((∃ x : XS l m,
    (True ∧
    (True ∧
    True ∧
    ((Value.int IntKind.i64 0) = (Value.int IntKind.i64 ((↑x.i : Int)))) ∧
    True) ∧
    ((l) = (l)) ∧
    ((m) = (m)) ∧
    True)) ∧
  (∀ x : XS l m,
    (True →
    (brS (decide ((↑x.i : Int) < (↑l.length : Int)))
      (((0 ≤ (↑x.i : Int)) ∧
      ((↑x.i : Int) < (↑l.length : Int)) ∧
      (0 ≤ (↑x.i : Int)) ∧
      ((↑x.i : Int) < (↑m.length : Int)) ∧
      (brS (!((cA l x.i).kind == (cA m x.i).kind && ((cA l x.i).key == (cA m x.i).key && ((cA l x.i).old == (cA m x.i).old && ((cA l x.i).new == (cA m x.i).new && true)))))
        ((K (SV.one (TV.at (At.val (Value.bool false)))) [(Chunk.row false (EC.chg) (l)), (Chunk.row false (EC.chg) (m))] []))
        ((∃ x' : XS l m,
          (True ∧
          ((True ∧
          True ∧
          ((Value.int IntKind.i64 (IntKind.i64.wrap ((↑x.i : Int) + 1))) = (Value.int IntKind.i64 ((↑x'.i : Int)))) ∧
          True) ∧
          ((l) = (l)) ∧
          ((m) = (m)) ∧
          True) ∧
          (l.length - x'.i < l.length - x.i)))))))
      ((K (SV.one (TV.at (At.val (Value.bool true)))) [(Chunk.row false (EC.chg) (l)), (Chunk.row false (EC.chg) (m))] [])))))))) = _ by kernel_rfl) ?_
  refine brS_of (fun hl => ?_) fun hl => ⟨⟨⟨0, Nat.zero_le _, by simp at hl; omega, rfl⟩, by simp⟩, fun x _ => brS_of (fun hi => ?_) fun hi => ?_⟩
  · have e : sameB l m = false := by
      apply decide_eq_false
      intro e
      subst e
      simp at hl
    rw [e] at h; exact h
  · have hi : x.i < l.length := by simpa using hi
    have hl := x.h.2.1
    have h1 := cA_get hi
    have h2 := cA_get (p := m) (n := x.i) (by omega)
    simp only [chg_eqB]
    refine ⟨by omega, by omega, by omega, by omega, brS_of (fun hd => ?_) fun hd => ?_⟩
    · have e := x.stop h1 h2 (by simpa using hd)
      rw [e] at h; exact h
    · obtain ⟨z, hz⟩ := x.next h1 h2 (by simpa using hd)
      refine ⟨z, trivial, ?_, ?_⟩
      · rw [wrap_in (by omega) (by omega), hz]; simp
      · show l.length - z.i < l.length - x.i
        omega
  · have hi : x.i = l.length := by have := x.h.1; simp at hi; omega
    have e := x.fin hi
    rw [e] at h; exact h
theorem s_same19 : SoundT C0 27 tSame_chg := by
  refine .of Try.func27 (by decide) rfl fun args H K h hB => ?_
  unfold tSame_chg at h
  split at h <;> try exact h.elim
  rename_i l m
  exact ⟨aSame EC.chg (α := Chg) l m l m, trivial, vc_same19 l m K (hB 0 _ _ _ rfl) h⟩

def tSame_ent : Tfm C0 := fun args H K => match args, H with
  | [.at (.slc 0), .at (.slc 1)], [.row false .ent l, .row false .ent m] => K (.one (.at (vB (sameB (α := Ent) l m)))) [.row false EC.ent l, .row false EC.ent m] []
  | _, _ => False

theorem vc_same9 (l m : List Ent) (K : KT) (hmax : l.length ≤ 9223372036854775807) (h : K (.one (.at (vB (sameB l m)))) [.row false EC.ent l, .row false EC.ent m] []) :
    vc C0 (aSame EC.ent l m l m) Try.f29 [.at (.slc 0), .at (.slc 1)] [.row false EC.ent l, .row false EC.ent m] (normK 2 K) := by
  refine Eq.mp (show (brS ((↑l.length : Int) != (↑m.length : Int))
  ((K (SV.one (TV.at (At.val (Value.bool false)))) [(Chunk.row false (EC.ent) (l)), (Chunk.row false (EC.ent) (m))] []))
  (((∃ x : XS l m,
    (True ∧
    (True ∧
    True ∧
    ((Value.int IntKind.i64 0) = (Value.int IntKind.i64 ((↑x.i : Int)))) ∧
    True) ∧
    ((l) = (l)) ∧
    ((m) = (m)) ∧
    True)) ∧
  (∀ x : XS l m,
    (True →
    (brS (decide ((↑x.i : Int) < (↑l.length : Int)))
      (((0 ≤ (↑x.i : Int)) ∧
      ((↑x.i : Int) < (↑l.length : Int)) ∧
      (0 ≤ (↑x.i : Int)) ∧
      ((↑x.i : Int) < (↑m.length : Int)) ∧
      (brS (!((eA l x.i).fst == (eA m x.i).fst && ((eA l x.i).snd == (eA m x.i).snd && true)))
        ((K (SV.one (TV.at (At.val (Value.bool false)))) [(Chunk.row false (EC.ent) (l)), (Chunk.row false (EC.ent) (m))] []))
        ((∃ x' : XS l m,
          (True ∧
          ((True ∧
          True ∧
          ((Value.int IntKind.i64 (IntKind.i64.wrap ((↑x.i : Int) + 1))) = (Value.int IntKind.i64 ((↑x'.i : Int)))) ∧
          True) ∧
          ((l) = (l)) ∧
          ((m) = (m)) ∧
          True) ∧
          (l.length - x'.i < l.length - x.i)))))))
      ((K (SV.one (TV.at (At.val (Value.bool true)))) [(Chunk.row false (EC.ent) (l)), (Chunk.row false (EC.ent) (m))] [])))))))) = _ by kernel_rfl) ?_
  refine brS_of (fun hl => ?_) fun hl => ⟨⟨⟨0, Nat.zero_le _, by simp at hl; omega, rfl⟩, by simp⟩, fun x _ => brS_of (fun hi => ?_) fun hi => ?_⟩
  · have e : sameB l m = false := by
      apply decide_eq_false
      intro e
      subst e
      simp at hl
    rw [e] at h; exact h
  · have hi : x.i < l.length := by simpa using hi
    have hl := x.h.2.1
    have h1 := eA_get hi
    have h2 := eA_get (p := m) (n := x.i) (by omega)
    simp only [ent_eqB]
    refine ⟨by omega, by omega, by omega, by omega, brS_of (fun hd => ?_) fun hd => ?_⟩
    · have e := x.stop h1 h2 (by simpa using hd)
      rw [e] at h; exact h
    · obtain ⟨z, hz⟩ := x.next h1 h2 (by simpa using hd)
      refine ⟨z, trivial, ?_, ?_⟩
      · rw [wrap_in (by omega) (by omega), hz]; simp
      · show l.length - z.i < l.length - x.i
        omega
  · have hi : x.i = l.length := by have := x.h.1; simp at hi; omega
    have e := x.fin hi
    rw [e] at h; exact h
theorem s_same9 : SoundT C0 29 tSame_ent := by
  refine .of Try.func29 (by decide) rfl fun args H K h hB => ?_
  unfold tSame_ent at h
  split at h <;> try exact h.elim
  rename_i l m
  exact ⟨aSame EC.ent (α := Ent) l m l m, trivial, vc_same9 l m K (hB 0 _ _ _ rfl) h⟩

def tSame_i64 : Tfm C0 := fun args H K => match args, H with
  | [.at (.slc 0), .at (.slc 1)], [.row false .i64 l, .row false .i64 m] => K (.one (.at (vB (sameB (α := Int) l m)))) [.row false EC.i64 l, .row false EC.i64 m] []
  | _, _ => False

theorem vc_sameI (l m : List Int) (K : KT) (hmax : l.length ≤ 9223372036854775807) (h : K (.one (.at (vB (sameB l m)))) [.row false EC.i64 l, .row false EC.i64 m] []) :
    vc C0 (aSame EC.i64 l m l m) Try.f35 [.at (.slc 0), .at (.slc 1)] [.row false EC.i64 l, .row false EC.i64 m] (normK 2 K) := by
  refine Eq.mp (show (brS ((↑l.length : Int) != (↑m.length : Int))
  ((K (SV.one (TV.at (At.val (Value.bool false)))) [(Chunk.row false (EC.i64) (l)), (Chunk.row false (EC.i64) (m))] []))
  (((∃ x : XS l m,
    (True ∧
    (True ∧
    True ∧
    ((Value.int IntKind.i64 0) = (Value.int IntKind.i64 ((↑x.i : Int)))) ∧
    True) ∧
    ((l) = (l)) ∧
    ((m) = (m)) ∧
    True)) ∧
  (∀ x : XS l m,
    (True →
    (brS (decide ((↑x.i : Int) < (↑l.length : Int)))
      (((0 ≤ (↑x.i : Int)) ∧
      ((↑x.i : Int) < (↑l.length : Int)) ∧
      (0 ≤ (↑x.i : Int)) ∧
      ((↑x.i : Int) < (↑m.length : Int)) ∧
      (brS (iA l x.i != iA m x.i)
        ((K (SV.one (TV.at (At.val (Value.bool false)))) [(Chunk.row false (EC.i64) (l)), (Chunk.row false (EC.i64) (m))] []))
        ((∃ x' : XS l m,
          (True ∧
          ((True ∧
          True ∧
          ((Value.int IntKind.i64 (IntKind.i64.wrap ((↑x.i : Int) + 1))) = (Value.int IntKind.i64 ((↑x'.i : Int)))) ∧
          True) ∧
          ((l) = (l)) ∧
          ((m) = (m)) ∧
          True) ∧
          (l.length - x'.i < l.length - x.i)))))))
      ((K (SV.one (TV.at (At.val (Value.bool true)))) [(Chunk.row false (EC.i64) (l)), (Chunk.row false (EC.i64) (m))] [])))))))) = _ by kernel_rfl) ?_
  refine brS_of (fun hl => ?_) fun hl => ⟨⟨⟨0, Nat.zero_le _, by simp at hl; omega, rfl⟩, by simp⟩, fun x _ => brS_of (fun hi => ?_) fun hi => ?_⟩
  · have e : sameB l m = false := by
      apply decide_eq_false
      intro e
      subst e
      simp at hl
    rw [e] at h; exact h
  · have hi : x.i < l.length := by simpa using hi
    have hl := x.h.2.1
    have h1 := iA_get hi
    have h2 := iA_get (p := m) (n := x.i) (by omega)
    simp only [int_neB]
    refine ⟨by omega, by omega, by omega, by omega, brS_of (fun hd => ?_) fun hd => ?_⟩
    · have e := x.stop h1 h2 (by simpa using hd)
      rw [e] at h; exact h
    · obtain ⟨z, hz⟩ := x.next h1 h2 (by simpa using hd)
      refine ⟨z, trivial, ?_, ?_⟩
      · rw [wrap_in (by omega) (by omega), hz]; simp
      · show l.length - z.i < l.length - x.i
        omega
  · have hi : x.i = l.length := by have := x.h.1; simp at hi; omega
    have e := x.fin hi
    rw [e] at h; exact h
theorem s_sameI : SoundT C0 35 tSame_i64 := by
  refine .of Try.func35 (by decide) rfl fun args H K h hB => ?_
  unfold tSame_i64 at h
  split at h <;> try exact h.elim
  rename_i l m
  exact ⟨aSame EC.i64 (α := Int) l m l m, trivial, vc_sameI l m K (hB 0 _ _ _ rfl) h⟩

theorem vc_sameC (l m : List Chg) (K : KT) (hmax : l.length ≤ 9223372036854775807) (h : K (.one (.at (vB (sameB l m)))) [.row false EC.chg l, .row false EC.chg m] []) :
    vc C0 (aSame EC.chg l m l m) Try.f64 [.at (.slc 0), .at (.slc 1)] [.row false EC.chg l, .row false EC.chg m] (normK 2 K) := by
  refine Eq.mp (show (brS ((↑l.length : Int) != (↑m.length : Int))
  ((K (SV.one (TV.at (At.val (Value.bool false)))) [(Chunk.row false (EC.chg) (l)), (Chunk.row false (EC.chg) (m))] []))
  (((∃ x : XS l m,
    (True ∧
    (True ∧
    True ∧
    ((Value.int IntKind.i64 0) = (Value.int IntKind.i64 ((↑x.i : Int)))) ∧
    True) ∧
    ((l) = (l)) ∧
    ((m) = (m)) ∧
    True)) ∧
  (∀ x : XS l m,
    (True →
    (brS (decide ((↑x.i : Int) < (↑l.length : Int)))
      (((0 ≤ (↑x.i : Int)) ∧
      ((↑x.i : Int) < (↑l.length : Int)) ∧
      (0 ≤ (↑x.i : Int)) ∧
      ((↑x.i : Int) < (↑m.length : Int)) ∧
      (brS (!((cA l x.i).kind == (cA m x.i).kind && ((cA l x.i).key == (cA m x.i).key && ((cA l x.i).old == (cA m x.i).old && ((cA l x.i).new == (cA m x.i).new && true)))))
        ((K (SV.one (TV.at (At.val (Value.bool false)))) [(Chunk.row false (EC.chg) (l)), (Chunk.row false (EC.chg) (m))] []))
        ((∃ x' : XS l m,
          (True ∧
          ((True ∧
          True ∧
          ((Value.int IntKind.i64 (IntKind.i64.wrap ((↑x.i : Int) + 1))) = (Value.int IntKind.i64 ((↑x'.i : Int)))) ∧
          True) ∧
          ((l) = (l)) ∧
          ((m) = (m)) ∧
          True) ∧
          (l.length - x'.i < l.length - x.i)))))))
      ((K (SV.one (TV.at (At.val (Value.bool true)))) [(Chunk.row false (EC.chg) (l)), (Chunk.row false (EC.chg) (m))] [])))))))) = _ by kernel_rfl) ?_
  refine brS_of (fun hl => ?_) fun hl => ⟨⟨⟨0, Nat.zero_le _, by simp at hl; omega, rfl⟩, by simp⟩, fun x _ => brS_of (fun hi => ?_) fun hi => ?_⟩
  · have e : sameB l m = false := by
      apply decide_eq_false
      intro e
      subst e
      simp at hl
    rw [e] at h; exact h
  · have hi : x.i < l.length := by simpa using hi
    have hl := x.h.2.1
    have h1 := cA_get hi
    have h2 := cA_get (p := m) (n := x.i) (by omega)
    simp only [chg_eqB]
    refine ⟨by omega, by omega, by omega, by omega, brS_of (fun hd => ?_) fun hd => ?_⟩
    · have e := x.stop h1 h2 (by simpa using hd)
      rw [e] at h; exact h
    · obtain ⟨z, hz⟩ := x.next h1 h2 (by simpa using hd)
      refine ⟨z, trivial, ?_, ?_⟩
      · rw [wrap_in (by omega) (by omega), hz]; simp
      · show l.length - z.i < l.length - x.i
        omega
  · have hi : x.i = l.length := by have := x.h.1; simp at hi; omega
    have e := x.fin hi
    rw [e] at h; exact h
theorem s_sameC : SoundT C0 64 tSame_chg := by
  refine .of Try.func64 (by decide) rfl fun args H K h hB => ?_
  unfold tSame_chg at h
  split at h <;> try exact h.elim
  rename_i l m
  exact ⟨aSame EC.chg (α := Chg) l m l m, trivial, vc_sameC l m K (hB 0 _ _ _ rfl) h⟩


theorem asc_step {l : List Ent} {k : Nat} {x y : Ent} (hx : l[k]? = some x) (hy : l[k + 1]? = some y) : Asc (l.drop k) ↔ x.1 < y.1 ∧ Asc (l.drop (k + 1)) := by
  rw [drop_cons hx, drop_cons hy]
  constructor
  · intro h; exact ⟨h.head _ (by simp), h.tail⟩
  · rintro ⟨h1, h2⟩
    refine h2.cons fun z hz => ?_
    rcases List.mem_cons.1 hz with rfl | hz
    · exact h1
    · have := h2.head z hz; omega
structure XA (l : List Ent) where
  i : Nat
  h : 1 ≤ i ∧ (i ≤ l.length ∨ i = 1) ∧ (Asc l ↔ Asc (l.drop (i - 1)))
theorem XA.split {l : List Ent} (z : XA l) (hi : z.i < l.length) : (ascB l = true ↔ (eA l (z.i - 1)).1 < (eA l z.i).1 ∧ Asc (l.drop z.i)) := by
  obtain ⟨k, hk⟩ : ∃ k, z.i = k + 1 := ⟨z.i - 1, by have := z.h.1; omega⟩
  have h1 := eA_get (p := l) (n := k) (by omega)
  have h2 := eA_get (p := l) (n := k + 1) (by omega)
  have h3 := asc_step h1 h2
  have h4 := z.h.2.2
  rw [hk] at h4 ⊢
  simp only [Nat.add_sub_cancel] at h4 ⊢
  rw [ascB, decide_eq_true_eq, h4, h3]
theorem XA.fin {l : List Ent} (z : XA l) (hi : l.length ≤ z.i) : ascB l = true := by
  rw [ascB, decide_eq_true_eq, z.h.2.2]
  have : (l.drop (z.i - 1)).length ≤ 1 := by simp; omega
  match l.drop (z.i - 1), this with
  | [], _ => exact Srt.nil
  | [x], _ => exact Srt.nil.cons (by simp)
def tAsc : Tfm C0 := fun args H K => match args, H with
  | [.at (.slc 0)], [.row false .ent l] => K (.one (.at (vB (ascB l)))) [.row false EC.ent l] []
  | _, _ => False
noncomputable def aAsc (l : List Ent) : Ann C0 := { Γ := [], inv := fun n => match n with
  | 2 => some { X := XA l, sl := [3], tf := fun x => [vi .i64 x.i], hf := fun _ => [.row false EC.ent l], μ := fun x => l.length - x.i }
  | _ => none }

theorem vc_asc (l : List Ent) (K : KT) (hmax : l.length ≤ 9223372036854775807) (h : K (.one (.at (vB (ascB l)))) [.row false EC.ent l] []) :
    vc C0 (aAsc l) Try.f65 [.at (.slc 0)] [.row false EC.ent l] (normK 1 K) := by
  refine Eq.mp (show ((∃ x : XA l,
  (True ∧
  (True ∧
  ((Value.int IntKind.i64 1) = (Value.int IntKind.i64 ((↑x.i : Int)))) ∧
  True) ∧
  ((l) = (l)) ∧
  True)) ∧
(∀ x : XA l,
  (True →
  (brS (decide ((↑x.i : Int) < (↑l.length : Int)))
    (((0 ≤ (↑x.i : Int)) ∧
    ((↑x.i : Int) < (↑l.length : Int)) ∧
    (0 ≤ IntKind.i64.wrap ((↑x.i : Int) - 1)) ∧
    (IntKind.i64.wrap ((↑x.i : Int) - 1) < (↑l.length : Int)) ∧
    (brS (decide ((eA l x.i).fst ≤ (l.getD (IntKind.i64.wrap ((↑x.i : Int) - 1)).toNat (0, 0)).fst))
      ((K (SV.one (TV.at (At.val (Value.bool false)))) [(Chunk.row false (EC.ent) (l))] []))
      ((∃ x' : XA l,
        (True ∧
        ((True ∧
        ((Value.int IntKind.i64 (IntKind.i64.wrap ((↑x.i : Int) + 1))) = (Value.int IntKind.i64 ((↑x'.i : Int)))) ∧
        True) ∧
        ((l) = (l)) ∧
        True) ∧
        (l.length - x'.i < l.length - x.i)))))))
    ((K (SV.one (TV.at (At.val (Value.bool true)))) [(Chunk.row false (EC.ent) (l))] [])))))) = _ by kernel_rfl) ?_
  refine ⟨⟨⟨1, by omega, by omega, by simp⟩, by simp⟩, fun x _ => brS_of (fun hi => ?_) fun hi => ?_⟩
  · have hi : x.i < l.length := by simpa using hi
    have h1 := x.h.1
    have hs := x.split hi
    have e : ((x.i : Int) - 1).toNat = x.i - 1 := by omega
    rw [wrap_in (x := (x.i : Int) - 1) (by omega) (by omega)]
    simp only [e]
    refine ⟨by omega, by omega, by omega, by omega, brS_of (fun hd => ?_) fun hd => ?_⟩
    · have e : ascB l = false := by
        rw [Bool.eq_false_iff]
        intro hh
        have := (hs.1 hh).1
        simp [eA] at hd this
        omega
      rw [e] at h; exact h
    · refine ⟨⟨x.i + 1, by omega, by omega, ?_⟩, trivial, ?_, ?_⟩
      · rw [ascB, decide_eq_true_eq] at hs
        rw [hs, Nat.add_sub_cancel]
        refine ⟨fun h => h.2, fun h => ⟨?_, h⟩⟩
        simp [eA] at hd ⊢
        omega
      · rw [wrap_in (by omega) (by omega)]; simp
      · show l.length - (x.i + 1) < l.length - x.i
        omega
  · have e := x.fin (by simpa using hi)
    rw [e] at h; exact h
theorem s_asc : SoundT C0 65 tAsc := by
  refine .of Try.func65 (by decide) rfl fun args H K h hB => ?_
  unfold tAsc at h
  split at h <;> try exact h.elim
  rename_i l
  exact ⟨aAsc l, trivial, vc_asc l K (hB 0 _ _ _ rfl) h⟩

theorem vc_asc9 (l : List Ent) (K : KT) (hmax : l.length ≤ 9223372036854775807) (h : K (.one (.at (vB (ascB l)))) [.row false EC.ent l] []) :
    vc C0 (aAsc l) Try.f57 [.at (.slc 0)] [.row false EC.ent l] (normK 1 K) := by
  refine Eq.mp (show ((∃ x : XA l,
  (True ∧
  (True ∧
  ((Value.int IntKind.i64 1) = (Value.int IntKind.i64 ((↑x.i : Int)))) ∧
  True) ∧
  ((l) = (l)) ∧
  True)) ∧
(∀ x : XA l,
  (True →
  (brS (decide ((↑x.i : Int) < (↑l.length : Int)))
    (((0 ≤ (↑x.i : Int)) ∧
    ((↑x.i : Int) < (↑l.length : Int)) ∧
    (0 ≤ IntKind.i64.wrap ((↑x.i : Int) - 1)) ∧
    (IntKind.i64.wrap ((↑x.i : Int) - 1) < (↑l.length : Int)) ∧
    (brS (decide ((eA l x.i).fst ≤ (l.getD (IntKind.i64.wrap ((↑x.i : Int) - 1)).toNat (0, 0)).fst))
      ((K (SV.one (TV.at (At.val (Value.bool false)))) [(Chunk.row false (EC.ent) (l))] []))
      ((∃ x' : XA l,
        (True ∧
        ((True ∧
        ((Value.int IntKind.i64 (IntKind.i64.wrap ((↑x.i : Int) + 1))) = (Value.int IntKind.i64 ((↑x'.i : Int)))) ∧
        True) ∧
        ((l) = (l)) ∧
        True) ∧
        (l.length - x'.i < l.length - x.i)))))))
    ((K (SV.one (TV.at (At.val (Value.bool true)))) [(Chunk.row false (EC.ent) (l))] [])))))) = _ by kernel_rfl) ?_
  refine ⟨⟨⟨1, by omega, by omega, by simp⟩, by simp⟩, fun x _ => brS_of (fun hi => ?_) fun hi => ?_⟩
  · have hi : x.i < l.length := by simpa using hi
    have h1 := x.h.1
    have hs := x.split hi
    have e : ((x.i : Int) - 1).toNat = x.i - 1 := by omega
    rw [wrap_in (x := (x.i : Int) - 1) (by omega) (by omega)]
    simp only [e]
    refine ⟨by omega, by omega, by omega, by omega, brS_of (fun hd => ?_) fun hd => ?_⟩
    · have e : ascB l = false := by
        rw [Bool.eq_false_iff]
        intro hh
        have := (hs.1 hh).1
        simp [eA] at hd this
        omega
      rw [e] at h; exact h
    · refine ⟨⟨x.i + 1, by omega, by omega, ?_⟩, trivial, ?_, ?_⟩
      · rw [ascB, decide_eq_true_eq] at hs
        rw [hs, Nat.add_sub_cancel]
        refine ⟨fun h => h.2, fun h => ⟨?_, h⟩⟩
        simp [eA] at hd ⊢
        omega
      · rw [wrap_in (by omega) (by omega)]; simp
      · show l.length - (x.i + 1) < l.length - x.i
        omega
  · have e := x.fin (by simpa using hi)
    rw [e] at h; exact h
theorem s_asc9 : SoundT C0 57 tAsc := by
  refine .of Try.func57 (by decide) rfl fun args H K h hB => ?_
  unfold tAsc at h
  split at h <;> try exact h.elim
  rename_i l
  exact ⟨aAsc l, trivial, vc_asc9 l K (hB 0 _ _ _ rfl) h⟩

end Go.Proofs.Ytdgodcamadalhaa.Sx
