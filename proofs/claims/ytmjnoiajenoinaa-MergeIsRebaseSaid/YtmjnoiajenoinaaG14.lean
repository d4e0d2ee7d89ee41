/- A part of the proof. -/
import Derived.Test.YtmjnoiajenoinaaG6
import Derived.Test.YtmjnoiajenoinaaG10
import Derived.Test.YtmjnoiajenoinaaG13
import Derived.Test.YtmjnoiajenoinaaProg
import Derived.Test.YtmjnoiajenoinaaChecked
import Derived.WalkKit
import Derived.ProofKit
import Derived.OpenShut
import Derived.SizedLaws
import Derived.Carry
import Derived.Test.YtmjnoiajenoinaaG5
import Derived.Deep.Slices
import Derived.Lib.SmallJoins
import Derived.Deep.Strs
import Derived.Test.YtmjnoiajenoinaaRows
section
/- Patches: what their functions answer. -/
namespace Go.Proofs.Ytmjnoiajenoinaa.Sx.P19
open Go

theorem pairs_step {α β : Type} {ka : α → Int} {kb : β → Int} {l : List α} {m : List β} (a : Nat → α) (b : Nat → β) (ha : ∀ n, n < l.length → l[n]? = some (a n)) (hb : ∀ n, n < m.length → m[n]? = some (b n)) {i k : Nat}
    (hi : i ≤ l.length) (hk : k ≤ m.length) (hne : i < l.length ∨ k < m.length) {inP inQ : Bool} (hP : inP = (decide (i < l.length) && (decide (k = m.length) || decide (ka (a i) ≤ kb (b k)))))
    (hQ : inQ = (decide (k < m.length) && (decide (i = l.length) || decide (kb (b k) ≤ ka (a i))))) :
    (inP = true ∨ inQ = true) ∧ (inP = true → i < l.length) ∧ (inQ = true → k < m.length) ∧
    pairs ka kb (l.drop i) (m.drop k) = (if inP then some (a i) else none, if inQ then some (b k) else none) :: pairs ka kb (l.drop (if inP then i + 1 else i)) (m.drop (if inQ then k + 1 else k)) := by
  by_cases h1 : i < l.length
  · have e1 := drop_cons (ha i h1)
    by_cases h2 : k < m.length
    · have e2 := drop_cons (hb k h2)
      have n1 : ¬ k = m.length := by omega
      have n2 : ¬ i = l.length := by omega
      simp only [h1, h2, n1, n2, decide_true, decide_false, Bool.true_and, Bool.false_or] at hP hQ
      rcases Int.lt_trichotomy (ka (a i)) (kb (b k)) with h | h | h
      · have : inP = true := by rw [hP]; simp; omega
        subst this
        have : inQ = false := by rw [hQ]; simp; omega
        subst this
        simp [e1, e2, pairs, h, h1]
      · have : inP = true := by rw [hP]; simp; omega
        subst this
        have : inQ = true := by rw [hQ]; simp; omega
        subst this
        simp [e1, e2, pairs, h, h1, h2]
      · have : inP = false := by rw [hP]; simp; omega
        subst this
        have : inQ = true := by rw [hQ]; simp; omega
        subst this
        have h' : ¬ ka (a i) < kb (b k) := by omega
        simp [e1, e2, pairs, h, h2, h']
    · have hk' : k = m.length := by omega
      have : inP = true := by rw [hP]; simp [h1, hk']
      subst this
      have : inQ = false := by rw [hQ]; simp [h2]
      subst this
      simp [e1, h1, hk', pairs]
  · have hi' : i = l.length := by omega
    have h2 : k < m.length := by omega
    have e2 := drop_cons (hb k h2)
    have : inP = false := by rw [hP]; simp [h1]
    subst this
    have : inQ = true := by rw [hQ]; simp [h2, hi']
    subst this
    simp [e2, h2, hi', pairs]
theorem outE_le (l : List Ent) (lo hi : Int) : (outE l lo hi).length ≤ l.length := List.length_filter_le _ _

def mayA (x : Option Int) : TV := .agg [vB x.isSome, vI (x.getD 0)]
def optA (x : Option Int) : TV := .agg [vI (x.getD 0), vB x.isSome]
def chgA (c : Chg) : TV := .agg [vI c.kind, vI c.key, vI c.old, vI c.new]
def ChgR (k : Int) (a : Bool) (v : Int) (b : Bool) (w : Int) (d : Chg) (ok : Bool) : Prop :=
  ∀ x y : Option Int, a = x.isSome → v = x.getD 0 → b = y.isSome → w = y.getD 0 → ok = (mkChg k x y).isSome ∧ (mkChg k x y = none → d = ⟨0, 0, 0, 0⟩) ∧ ∀ c, mkChg k x y = some c → d = c
def tBefore (r : Option Int → TV) : Tfm C0 := fun args H K => match args, H with
  | [.agg [.val (.int .i64 kd), .val (.int .i64 ky), .val (.int .i64 od), .val (.int .i64 nw)]], [] => ∀ x, x = Chg.before ⟨kd, ky, od, nw⟩ → K (.one (r x)) [] []
  | _, _ => False
def tAfter (r : Option Int → TV) : Tfm C0 := fun args H K => match args, H with
  | [.agg [.val (.int .i64 kd), .val (.int .i64 ky), .val (.int .i64 od), .val (.int .i64 nw)]], [] => ∀ x, x = Chg.after ⟨kd, ky, od, nw⟩ → K (.one (r x)) [] []
  | _, _ => False
def tChange : Tfm C0 := fun args H K => match args, H with
  | [.at (.val (.int .i64 k)), .agg [.val (.bool a), .val (.int .i64 v)], .agg [.val (.bool b), .val (.int .i64 w)]], [] =>
    ∀ d ok, ChgR k a v b w d ok → K (.tup [chgA d, .at (vB ok)]) [] []
  | _, _ => False
def tChange19 : Tfm C0 := fun args H K => match args, H with
  | [.at (.val (.int .i64 k)), .agg [.val (.int .i64 v), .val (.bool a)], .agg [.val (.int .i64 w), .val (.bool b)]], [] =>
    ∀ d ok, ChgR k a v b w d ok → K (.tup [chgA d, .at (vB ok)]) [] []
  | _, _ => False
theorem chg_arms {k v w : Int} {a b : Bool} {Q : Chg → Bool → Prop} (h : ∀ d ok, ChgR k a v b w d ok → Q d ok) : (a = b ∧ v = w → Q ⟨0, 0, 0, 0⟩ false) ∧ (¬ (a = b ∧ v = w) → a = false → Q ⟨1, k, 0, w⟩ true) ∧
    (¬ (a = b ∧ v = w) → a = true → b = false → Q ⟨2, k, v, 0⟩ true) ∧ (¬ (a = b ∧ v = w) → a = true → b = true → Q ⟨3, k, v, w⟩ true) := by
  refine ⟨fun e => h _ _ ?_, fun e e1 => h _ _ ?_, fun e e1 e2 => h _ _ ?_, fun e e1 e2 => h _ _ ?_⟩ <;> (intro x y h1 h2 h3 h4; subst h1 h2 h3 h4; cases x <;> cases y <;> simp_all [mkChg])
theorem s_before : SoundT C0 106 (tBefore mayA) := by
  refine .of Try.func106 (by decide) rfl fun args H K h hB => ⟨A0, trivial, ?_⟩
  unfold tBefore at h
  split at h <;> try exact h.elim
  rename_i kd ky od nw
  refine Eq.mp (show (brS (kd == 1) ((K (SV.one (TV.agg [(At.val (Value.bool false)), (At.val (Value.int IntKind.i64 0))])) [] [])) ((K (SV.one (TV.agg [(At.val (Value.bool true)), (At.val (Value.int IntKind.i64 od))])) [] []))) = _ by kernel_rfl) (brS_of (fun hb => ?_) fun hb => ?_)
  · simpa [Chg.before, mayA, show kd = 1 by simpa using hb] using h _ rfl
  · simpa [Chg.before, mayA, show ¬ kd = 1 by simpa using hb] using h _ rfl
theorem s_after : SoundT C0 107 (tAfter mayA) := by
  refine .of Try.func107 (by decide) rfl fun args H K h hB => ⟨A0, trivial, ?_⟩
  unfold tAfter at h
  split at h <;> try exact h.elim
  rename_i kd ky od nw
  refine Eq.mp (show (brS (kd == 2) ((K (SV.one (TV.agg [(At.val (Value.bool false)), (At.val (Value.int IntKind.i64 0))])) [] [])) ((K (SV.one (TV.agg [(At.val (Value.bool true)), (At.val (Value.int IntKind.i64 nw))])) [] []))) = _ by kernel_rfl) (brS_of (fun hb => ?_) fun hb => ?_)
  · simpa [Chg.after, mayA, show kd = 2 by simpa using hb] using h _ rfl
  · simpa [Chg.after, mayA, show ¬ kd = 2 by simpa using hb] using h _ rfl
theorem s_change : SoundT C0 135 tChange := by
  refine .of Try.func135 (by decide) rfl fun args H K h hB => ⟨A0, trivial, ?_⟩
  unfold tChange at h
  split at h <;> try exact h.elim
  rename_i k a v b w
  obtain ⟨h1, h2, h3, h4⟩ := chg_arms h
  refine Eq.mp (show (brS (a == b && (v == w && true)) ((K (SV.tup [(TV.agg [(At.val (Value.int IntKind.i64 0)), (At.val (Value.int IntKind.i64 0)), (At.val (Value.int IntKind.i64 0)), (At.val (Value.int IntKind.i64 0))]), (TV.at (At.val (Value.bool false)))]) [] [])) ((brS (!a) ((K (SV.tup [(TV.agg [(At.val (Value.int IntKind.i64 1)), (At.val (Value.int IntKind.i64 (k))), (At.val (Value.int IntKind.i64 0)), (At.val (Value.int IntKind.i64 (w)))]), (TV.at (At.val (Value.bool true)))]) [] [])) ((brS (!b) ((K (SV.tup [(TV.agg [(At.val (Value.int IntKind.i64 2)), (At.val (Value.int IntKind.i64 (k))), (At.val (Value.int IntKind.i64 (v))), (At.val (Value.int IntKind.i64 0))]), (TV.at (At.val (Value.bool true)))]) [] [])) ((K (SV.tup [(TV.agg [(At.val (Value.int IntKind.i64 3)), (At.val (Value.int IntKind.i64 (k))), (At.val (Value.int IntKind.i64 (v))), (At.val (Value.int IntKind.i64 (w)))]), (TV.at (At.val (Value.bool true)))]) [] []))))))) = _ by kernel_rfl) ?_
  refine brS_of (fun e => ?_) fun e => brS_of (fun e1 => ?_) fun e1 => brS_of (fun e2 => ?_) fun e2 => ?_
  · exact h1 (by simpa using e)
  · exact h2 (by simpa using e) (by simpa using e1)
  · exact h3 (by simpa using e) (by simpa using e1) (by simpa using e2)
  · exact h4 (by simpa using e) (by simpa using e1) (by simpa using e2)
structure XV1 (p : List Chg) where
  i : Nat
  h : i ≤ p.length ∧ valB p = valGo (prevK p i) (p.drop i)
structure XV2 (p : List Chg) where
  i : Nat
  c : Chg
  h : i < p.length ∧ valB p = valGo (prevK p i) (p.drop i) ∧ p[i]? = some c ∧ lowB p i c.key = false
structure XV3 (p : List Chg) extends XV2 p where
  d : Chg
  ok : Bool
  hd : CmpR c d ok
structure XV4 (p : List Chg) where
  i : Nat
  c : Chg
  b : Bool
  h : i < p.length ∧ valB p = valGo (prevK p i) (p.drop i) ∧ p[i]? = some c ∧ b = lowB p i c.key
noncomputable def aValid (p : List Chg) : Ann C0 := { Γ := [(106, frameT [] (tBefore mayA)), (107, frameT [] (tAfter mayA)), (135, frameT [] tChange)], quiet := [106, 107, 135], inv := fun n => match n with
  | 2 => some { X := XV1 p, sl := [9], tf := fun x => [vi .i64 x.i], hf := fun _ => [.row false EC.chg p], μ := fun x => p.length - x.i }
  | 1005 => some { X := XV4 p, sl := [9, 4, 26], tf := fun z => [vi .i64 z.i, .one (.at (.ptr 1 0)), vb z.b], hf := fun z => [.row false EC.chg p, .box [vI z.c.kind, vI z.c.key, vI z.c.old, vI z.c.new]], rel := fun T _ z => slotI T 9 z.i }
  | 1008 => some { X := XV2 p, sl := [9, 4], tf := fun z => [vi .i64 z.i, .one (.at (.ptr 1 0))], hf := fun z => [.row false EC.chg p, .box [vI z.c.kind, vI z.c.key, vI z.c.old, vI z.c.new]], rel := fun T _ z => slotI T 9 z.i }
  | 1009 => some { X := XV3 p, sl := [9, 4, 5, 6], tf := fun z => [vi .i64 z.i, .one (.at (.ptr 1 0)), .one (.at (.ptr 2 0)), vb z.ok], hf := fun z => [.row false EC.chg p, .box [vI z.c.kind, vI z.c.key, vI z.c.old, vI z.c.new], .box [vI z.d.kind, vI z.d.key, vI z.d.old, vI z.d.new]], rel := fun T _ z => slotI T 9 z.i }
  | _ => none }
def tValid : Tfm C0 := fun args H K => match args, H with
  | [.at (.slc 0)], [.row false .chg p] => K (.one (.at (vB (valB p)))) [.row false EC.chg p] []
  | _, _ => False
theorem vc_valid (p : List Chg) (K : KT) (hmax : p.length ≤ 9223372036854775807) (h : K (.one (.at (vB (valB p)))) [.row false EC.chg p] []) : vc C0 (aValid p) Try.f103 [.at (.slc 0)] [.row false EC.chg p] (normK 1 K) := by
  refine Eq.mp (show ((∃ x : XV1 p, (True ∧ (True ∧ True ∧ ((Value.int IntKind.i64 ((↑p.length : Int))) = (Value.int IntKind.i64 ((↑p.length : Int)))) ∧ ((Value.int IntKind.i64 0) = (Value.int IntKind.i64 ((↑x.i : Int)))) ∧ True) ∧ ((p) = (p)) ∧ True)) ∧
(∀ x : XV1 p, (True → (brS (decide ((↑x.i : Int) < (↑p.length : Int))) (((0 ≤ (↑x.i : Int)) ∧ ((↑x.i : Int) < (↑p.length : Int)) ∧ (brS (decide ((↑x.i : Int) > 0)) (((0 ≤ IntKind.i64.wrap ((↑x.i : Int) - 1)) ∧ (IntKind.i64.wrap ((↑x.i : Int) - 1) < (↑p.length : Int)) ∧ (∃ x1 : XV4 p, ((((↑x.i : Int)) = ((↑x1.i : Int))) ∧ (True ∧ True ∧ True ∧ ((Value.int IntKind.i64 ((↑p.length : Int))) = (Value.int IntKind.i64 ((↑p.length : Int)))) ∧ ((Value.int IntKind.i64 ((↑x.i : Int))) = (Value.int IntKind.i64 ((↑x1.i : Int)))) ∧ ((Value.bool (decide ((cA p x.i).key ≤ (p.getD (IntKind.i64.wrap ((↑x.i : Int) - 1)).toNat { kind := 0, key := 0, old := 0, new := 0 : Chg }).key))) = (Value.bool (x1.b))) ∧ True) ∧ ((p) = (p)) ∧ (((Value.int IntKind.i64 ((cA p x.i).kind)) = (Value.int IntKind.i64 (x1.c.kind))) ∧ ((Value.int IntKind.i64 ((cA p x.i).key)) = (Value.int IntKind.i64 (x1.c.key))) ∧ ((Value.int IntKind.i64 ((cA p x.i).old)) = (Value.int IntKind.i64 (x1.c.old))) ∧ ((Value.int IntKind.i64 ((cA p x.i).new)) = (Value.int IntKind.i64 (x1.c.new))) ∧ True) ∧ True)))) ((∃ x1 : XV4 p, ((((↑x.i : Int)) = ((↑x1.i : Int))) ∧ (True ∧ True ∧ True ∧ ((Value.int IntKind.i64 ((↑p.length : Int))) = (Value.int IntKind.i64 ((↑p.length : Int)))) ∧
    ((Value.int IntKind.i64 ((↑x.i : Int))) = (Value.int IntKind.i64 ((↑x1.i : Int)))) ∧ ((Value.bool false) = (Value.bool (x1.b))) ∧ True) ∧ ((p) = (p)) ∧ (((Value.int IntKind.i64 ((cA p x.i).kind)) = (Value.int IntKind.i64 (x1.c.kind))) ∧ ((Value.int IntKind.i64 ((cA p x.i).key)) = (Value.int IntKind.i64 (x1.c.key))) ∧ ((Value.int IntKind.i64 ((cA p x.i).old)) = (Value.int IntKind.i64 (x1.c.old))) ∧ ((Value.int IntKind.i64 ((cA p x.i).new)) = (Value.int IntKind.i64 (x1.c.new))) ∧ True) ∧ True)))) ∧ (∀ x1 : XV4 p, ((((↑x.i : Int)) = ((↑x1.i : Int))) → (brS (x1.b) ((K (SV.one (TV.at (At.val (Value.bool false)))) [(Chunk.row false (EC.chg) (p))] [])) (((brS (x1.c.kind != 1) ((brS (x1.c.kind != 2) ((brS (x1.c.kind != 3) ((K (SV.one (TV.at (At.val (Value.bool false)))) [(Chunk.row false (EC.chg) (p))] [])) ((∃ x2 : XV2 p, ((((↑x1.i : Int)) = ((↑x2.i : Int))) ∧ (True ∧ True ∧ True ∧ ((Value.int IntKind.i64 ((↑p.length : Int))) = (Value.int IntKind.i64 ((↑p.length : Int)))) ∧ ((Value.int IntKind.i64 ((↑x1.i : Int))) = (Value.int IntKind.i64 ((↑x2.i : Int)))) ∧ True) ∧ ((p) = (p)) ∧ (((Value.int IntKind.i64 (x1.c.kind)) = (Value.int IntKind.i64 (x2.c.kind))) ∧ ((Value.int IntKind.i64 (x1.c.key)) = (Value.int IntKind.i64 (x2.c.key))) ∧ ((Value.int IntKind.i64 (x1.c.old)) = (Value.int IntKind.i64 (x2.c.old))) ∧ ((Value.int IntKind.i64 (x1.c.new)) = (Value.int IntKind.i64 (x2.c.new))) ∧ True) ∧ True))))) ((∃ x2 : XV2 p, ((((↑x1.i : Int)) = ((↑x2.i : Int))) ∧ (True ∧ True ∧ True ∧
    ((Value.int IntKind.i64 ((↑p.length : Int))) = (Value.int IntKind.i64 ((↑p.length : Int)))) ∧ ((Value.int IntKind.i64 ((↑x1.i : Int))) = (Value.int IntKind.i64 ((↑x2.i : Int)))) ∧ True) ∧ ((p) = (p)) ∧ (((Value.int IntKind.i64 (x1.c.kind)) = (Value.int IntKind.i64 (x2.c.kind))) ∧ ((Value.int IntKind.i64 (x1.c.key)) = (Value.int IntKind.i64 (x2.c.key))) ∧ ((Value.int IntKind.i64 (x1.c.old)) = (Value.int IntKind.i64 (x2.c.old))) ∧ ((Value.int IntKind.i64 (x1.c.new)) = (Value.int IntKind.i64 (x2.c.new))) ∧ True) ∧ True))))) ((∃ x2 : XV2 p, ((((↑x1.i : Int)) = ((↑x2.i : Int))) ∧ (True ∧ True ∧ True ∧ ((Value.int IntKind.i64 ((↑p.length : Int))) = (Value.int IntKind.i64 ((↑p.length : Int)))) ∧ ((Value.int IntKind.i64 ((↑x1.i : Int))) = (Value.int IntKind.i64 ((↑x2.i : Int)))) ∧ True) ∧ ((p) = (p)) ∧ (((Value.int IntKind.i64 (x1.c.kind)) = (Value.int IntKind.i64 (x2.c.kind))) ∧ ((Value.int IntKind.i64 (x1.c.key)) = (Value.int IntKind.i64 (x2.c.key))) ∧ ((Value.int IntKind.i64 (x1.c.old)) = (Value.int IntKind.i64 (x2.c.old))) ∧ ((Value.int IntKind.i64 (x1.c.new)) = (Value.int IntKind.i64 (x2.c.new))) ∧ True) ∧ True)))) ∧ (∀ x2 : XV2 p, ((((↑x1.i : Int)) = ((↑x2.i : Int))) → (((∀ x3 : Option Int, (((x3) = ({ kind := x2.c.kind, key := x2.c.key, old := x2.c.old, new := x2.c.new : Chg }.before)) → ((∀ x4 : Option Int, (((x4) = ({ kind := x2.c.kind, key := x2.c.key, old := x2.c.old, new := x2.c.new : Chg }.after)) → ((∀ d : Chg, (∀ ok : Bool,
    ((ChgR x2.c.key x3.isSome (x3.getD 0) x4.isSome (x4.getD 0) d ok) → (∃ x5 : XV3 p, ((((↑x2.i : Int)) = ((↑x5.i : Int))) ∧ (True ∧ True ∧ True ∧ ((Value.bool (ok)) = (Value.bool (x5.ok))) ∧ True ∧ ((Value.int IntKind.i64 ((↑p.length : Int))) = (Value.int IntKind.i64 ((↑p.length : Int)))) ∧ ((Value.int IntKind.i64 ((↑x2.i : Int))) = (Value.int IntKind.i64 ((↑x5.i : Int)))) ∧ True) ∧ ((p) = (p)) ∧ (((Value.int IntKind.i64 (x2.c.kind)) = (Value.int IntKind.i64 (x5.c.kind))) ∧ ((Value.int IntKind.i64 (x2.c.key)) = (Value.int IntKind.i64 (x5.c.key))) ∧ ((Value.int IntKind.i64 (x2.c.old)) = (Value.int IntKind.i64 (x5.c.old))) ∧ ((Value.int IntKind.i64 (x2.c.new)) = (Value.int IntKind.i64 (x5.c.new))) ∧ True) ∧ (((Value.int IntKind.i64 (d.kind)) = (Value.int IntKind.i64 (x5.d.kind))) ∧ ((Value.int IntKind.i64 (d.key)) = (Value.int IntKind.i64 (x5.d.key))) ∧ ((Value.int IntKind.i64 (d.old)) = (Value.int IntKind.i64 (x5.d.old))) ∧ ((Value.int IntKind.i64 (d.new)) = (Value.int IntKind.i64 (x5.d.new))) ∧ True) ∧ True))))) ∧ (∀ d : Chg, (∀ ok : Bool, ((ChgR x2.c.key x3.isSome (x3.getD 0) x4.isSome (x4.getD 0) d ok) → (∃ x5 : XV3 p, ((((↑x2.i : Int)) = ((↑x5.i : Int))) ∧ (True ∧ True ∧ True ∧ ((Value.bool (ok)) = (Value.bool (x5.ok))) ∧ True ∧ ((Value.int IntKind.i64 ((↑p.length : Int))) = (Value.int IntKind.i64 ((↑p.length : Int)))) ∧ ((Value.int IntKind.i64 ((↑x2.i : Int))) = (Value.int IntKind.i64 ((↑x5.i : Int)))) ∧ True) ∧ ((p) = (p)) ∧
    (((Value.int IntKind.i64 (x2.c.kind)) = (Value.int IntKind.i64 (x5.c.kind))) ∧ ((Value.int IntKind.i64 (x2.c.key)) = (Value.int IntKind.i64 (x5.c.key))) ∧ ((Value.int IntKind.i64 (x2.c.old)) = (Value.int IntKind.i64 (x5.c.old))) ∧ ((Value.int IntKind.i64 (x2.c.new)) = (Value.int IntKind.i64 (x5.c.new))) ∧ True) ∧ (((Value.int IntKind.i64 (d.kind)) = (Value.int IntKind.i64 (x5.d.kind))) ∧ ((Value.int IntKind.i64 (d.key)) = (Value.int IntKind.i64 (x5.d.key))) ∧ ((Value.int IntKind.i64 (d.old)) = (Value.int IntKind.i64 (x5.d.old))) ∧ ((Value.int IntKind.i64 (d.new)) = (Value.int IntKind.i64 (x5.d.new))) ∧ True) ∧ True)))))))) ∧ (∀ x4 : Option Int, (((x4) = ({ kind := x2.c.kind, key := x2.c.key, old := x2.c.old, new := x2.c.new : Chg }.after)) → (∀ d : Chg, (∀ ok : Bool, ((ChgR x2.c.key x3.isSome (x3.getD 0) x4.isSome (x4.getD 0) d ok) → (∃ x5 : XV3 p, ((((↑x2.i : Int)) = ((↑x5.i : Int))) ∧ (True ∧ True ∧ True ∧ ((Value.bool (ok)) = (Value.bool (x5.ok))) ∧ True ∧ ((Value.int IntKind.i64 ((↑p.length : Int))) = (Value.int IntKind.i64 ((↑p.length : Int)))) ∧ ((Value.int IntKind.i64 ((↑x2.i : Int))) = (Value.int IntKind.i64 ((↑x5.i : Int)))) ∧ True) ∧ ((p) = (p)) ∧ (((Value.int IntKind.i64 (x2.c.kind)) = (Value.int IntKind.i64 (x5.c.kind))) ∧ ((Value.int IntKind.i64 (x2.c.key)) = (Value.int IntKind.i64 (x5.c.key))) ∧ ((Value.int IntKind.i64 (x2.c.old)) = (Value.int IntKind.i64 (x5.c.old))) ∧ ((Value.int IntKind.i64 (x2.c.new)) = (Value.int IntKind.i64 (x5.c.new))) ∧ True) ∧
    (((Value.int IntKind.i64 (d.kind)) = (Value.int IntKind.i64 (x5.d.kind))) ∧ ((Value.int IntKind.i64 (d.key)) = (Value.int IntKind.i64 (x5.d.key))) ∧ ((Value.int IntKind.i64 (d.old)) = (Value.int IntKind.i64 (x5.d.old))) ∧ ((Value.int IntKind.i64 (d.new)) = (Value.int IntKind.i64 (x5.d.new))) ∧ True) ∧ True)))))))))) ∧ (∀ x3 : Option Int, (((x3) = ({ kind := x2.c.kind, key := x2.c.key, old := x2.c.old, new := x2.c.new : Chg }.before)) → (∀ x4 : Option Int, (((x4) = ({ kind := x2.c.kind, key := x2.c.key, old := x2.c.old, new := x2.c.new : Chg }.after)) → (∀ d : Chg, (∀ ok : Bool, ((ChgR x2.c.key x3.isSome (x3.getD 0) x4.isSome (x4.getD 0) d ok) → (∃ x5 : XV3 p, ((((↑x2.i : Int)) = ((↑x5.i : Int))) ∧ (True ∧ True ∧ True ∧ ((Value.bool (ok)) = (Value.bool (x5.ok))) ∧ True ∧ ((Value.int IntKind.i64 ((↑p.length : Int))) = (Value.int IntKind.i64 ((↑p.length : Int)))) ∧ ((Value.int IntKind.i64 ((↑x2.i : Int))) = (Value.int IntKind.i64 ((↑x5.i : Int)))) ∧ True) ∧ ((p) = (p)) ∧ (((Value.int IntKind.i64 (x2.c.kind)) = (Value.int IntKind.i64 (x5.c.kind))) ∧ ((Value.int IntKind.i64 (x2.c.key)) = (Value.int IntKind.i64 (x5.c.key))) ∧ ((Value.int IntKind.i64 (x2.c.old)) = (Value.int IntKind.i64 (x5.c.old))) ∧ ((Value.int IntKind.i64 (x2.c.new)) = (Value.int IntKind.i64 (x5.c.new))) ∧ True) ∧ (((Value.int IntKind.i64 (d.kind)) = (Value.int IntKind.i64 (x5.d.kind))) ∧ ((Value.int IntKind.i64 (d.key)) = (Value.int IntKind.i64 (x5.d.key))) ∧
    ((Value.int IntKind.i64 (d.old)) = (Value.int IntKind.i64 (x5.d.old))) ∧ ((Value.int IntKind.i64 (d.new)) = (Value.int IntKind.i64 (x5.d.new))) ∧ True) ∧ True)))))))))) ∧ (∀ x3 : XV3 p, ((((↑x2.i : Int)) = ((↑x3.i : Int))) → (brS (!x3.ok) ((K (SV.one (TV.at (At.val (Value.bool false)))) [(Chunk.row false (EC.chg) (p))] [])) ((brS (!(x3.d.kind == x3.c.kind && (x3.d.key == x3.c.key && (x3.d.old == x3.c.old && (x3.d.new == x3.c.new && true))))) ((K (SV.one (TV.at (At.val (Value.bool false)))) [(Chunk.row false (EC.chg) (p))] [])) ((∃ x' : XV1 p, (True ∧ ((True ∧ True ∧ ((Value.int IntKind.i64 ((↑p.length : Int))) = (Value.int IntKind.i64 ((↑p.length : Int)))) ∧ ((Value.int IntKind.i64 (IntKind.i64.wrap ((↑x3.i : Int) + 1))) = (Value.int IntKind.i64 ((↑x'.i : Int)))) ∧ True) ∧ ((p) = (p)) ∧ True) ∧ (p.length - x'.i < p.length - x.i))))))))))))))))))) ((K (SV.one (TV.at (At.val (Value.bool true)))) [(Chunk.row false (EC.chg) (p))] [])))))) = _ by kernel_rfl) ?_
  refine ⟨⟨⟨0, Nat.zero_le _, rfl⟩, by simp⟩, fun x _ => brS_of (fun hi => ?_) fun hi => ?_⟩
  · have hi : x.i < p.length := by simpa using hi
    have hc := cA_get hi
    refine ⟨by omega, by omega, ?_, fun x1 r1 => brS_of (fun hb => ?_) fun hb => ⟨?_, fun x2 r2 => ⟨?_, fun x3 r3 => ?_⟩⟩⟩
    · refine brS_of (fun h0 => ?_) fun h0 => ?_
      · have h0 : 0 < x.i := by simpa using h0
        rw [wrap_in (by omega) (by omega)]
        refine ⟨by omega, by omega, ⟨x.i, _, _, hi, x.h.2, hc, rfl⟩, rfl, ?_⟩
        have e : ((x.i : Int) - 1).toNat = x.i - 1 := by omega
        obtain ⟨k, hk⟩ : ∃ k, x.i = k + 1 := ⟨x.i - 1, by omega⟩
        have hp' : p[k]? = some (cA p k) := cA_get (by omega)
        have e2 : x.i - 1 = k := by omega
        have := lowB_succ hp' (cA p x.i).key
        rw [← hk] at this
        simp only [e, e2, this]
        simp [cA]
      · have h0 : x.i = 0 := by simp at h0; omega
        refine ⟨⟨x.i, _, _, hi, x.h.2, hc, rfl⟩, rfl, ?_⟩
        have : lowB p x.i (cA p x.i).key = false := by rw [h0]; rfl
        simp only [this]
        simp
    · have := valGo_step x1.h.2.2.1
      have e : valB p = false := by rw [x1.h.2.1, this, ← x1.h.2.2.2, hb]; rfl
      rw [e] at h; exact h
    · have hx : lowB p x1.i x1.c.key = false := by rw [← x1.h.2.2.2, hb]
      have stay : ∃ x2 : XV2 p, x2.i = x1.i ∧ x2.c = x1.c := ⟨⟨x1.i, x1.c, x1.h.1, x1.h.2.1, x1.h.2.2.1, hx⟩, rfl, rfl⟩
      obtain ⟨x2, e1, e2⟩ := stay
      refine brS_of (fun k1 => brS_of (fun k2 => brS_of (fun k3 => ?_) fun k3 => ?_) fun k2 => ?_) fun k1 => ?_
      · have hno : decide x1.c.ok = false := by
          apply decide_eq_false
          intro hok
          have := Chg.ok_kind hok
          simp at k1 k2 k3
          omega
        have e : valB p = false := by rw [x1.h.2.1, valGo_step x1.h.2.2.1, hno]; simp
        rw [e] at h; exact h
      all_goals exact ⟨x2, by simp [e1, e2]⟩
    · have key : ∀ (x3 x4 : Option Int) (d : Chg) (ok : Bool), x3 = x2.c.before → x4 = x2.c.after → ChgR x2.c.key x3.isSome (x3.getD 0) x4.isSome (x4.getD 0) d ok → CmpR x2.c d ok := by
        intro x3 x4 d ok e3 e4 hr
        subst e3 e4
        obtain ⟨h1, h2, h3⟩ := hr _ _ rfl rfl rfl rfl
        exact ⟨h1, h3⟩
      refine ⟨fun x3 e3 => ⟨fun x4 e4 => ⟨fun d ok hr => ?_, fun d ok hr => ?_⟩, fun x4 e4 d ok hr => ?_⟩, fun x4 e4 x3 e3 d ok hr => ?_⟩
      all_goals exact ⟨⟨x2, d, ok, key _ _ _ _ ‹_› ‹_› hr⟩, by simp⟩
    · have hs := valGo_step x3.h.2.2.1
      rw [x3.h.2.2.2, x3.hd.ok] at hs
      rw [chg_eqB]
      refine brS_of (fun ho => ?_) fun ho => brS_of (fun hd => ?_) fun hd => ?_
      · have e : valB p = false := by rw [x3.h.2.1, hs]; simp at ho; simp [ho]
        rw [e] at h; exact h
      · have e : valB p = false := by rw [x3.h.2.1, hs]; simp at hd; simp [hd]
        rw [e] at h; exact h
      · have hlt := x3.h.1
        refine ⟨⟨x3.i + 1, by omega, ?_⟩, trivial, ?_, ?_⟩
        · rw [x3.h.2.1, hs]; simp at ho hd; simp [ho, hd]
        · rw [wrap_in (by omega) (by omega)]; simp
        · show p.length - (x3.i + 1) < p.length - x.i
          omega
  · have hi : x.i = p.length := by have := x.h.1; simp at hi; omega
    have e : valB p = true := by rw [x.h.2, hi, List.drop_length]; cases prevK p p.length <;> rfl
    rw [e] at h; exact h
theorem s_valid : SoundT C0 103 tValid := by
  refine .of Try.func103 (by decide) rfl fun args H K h hB => ?_
  unfold tValid at h
  split at h <;> try exact h.elim
  rename_i p
  exact ⟨aValid p, ⟨frame C0.ok s_before _, frame C0.ok s_after _, frame C0.ok s_change _, trivial⟩, vc_valid p K (hB 0 _ _ _ rfl) h⟩
structure XW3 (p : List Chg) where
  i : Nat
  c : Chg
  d : Chg
  ok : Bool
  h : i < p.length ∧ valB p = valGo (prevK p i) (p.drop i) ∧ p[i]? = some c ∧ CmpR c d ok
structure XW4 (p : List Chg) where
  i : Nat
  b : Bool
  h : i < p.length ∧ valB p = (!b && valGo (prevK p (i + 1)) (p.drop (i + 1)))
def tGet19 : Tfm C0 := fun args H K => match args, H with
  | [.at (.slc 0), .at (.val (.int .i64 q))], [.row false .ent l] => ∀ x : Option Int, x = getE l q → K (.one (optA x)) [.row false EC.ent l] []
  | _, _ => False
structure XFnd (p : List Chg) (q : Int) where
  i : Nat
  h : i ≤ p.length ∧ fnd Chg.key p q = fnd Chg.key (p.drop i) q
noncomputable def aFnd (p : List Chg) (q : Int) : Ann C0 := { Γ := [], inv := fun n => match n with
  | 2 => some { X := XFnd p q, sl := [6, 4], tf := fun x => [vi .i64 x.i, .one (.at (.ptr 1 0))], hf := fun _ => [.row false EC.chg p, .box [vI 0, vI 0, vI 0, vI 0]], μ := fun x => p.length - x.i }
  | _ => none }
def tFnd : Tfm C0 := fun args H K => match args, H with
  | [.at (.slc 0), .at (.val (.int .i64 q))], [.row false .chg p] => ∀ (c : Chg) (b : Bool), b = (fnd Chg.key p q).isSome → c = (fnd Chg.key p q).getD ⟨0, 0, 0, 0⟩ → K (.tup [chgA c, .at (vB b)]) [.row false EC.chg p] []
  | _, _ => False
def tBtw19 : Tfm C0 := fun args H K => match args, H with
  | [.at (.slc 0), .at (.slc 1)], [.row false .ent l, .row false .ent m] => l.length + m.length ≤ 1000000 ∧
    (ascB l = true → ascB m = true → K (.tup [.at (.slc 2), .at (vI 0)]) [.row false EC.ent l, .row false EC.ent m, .row true EC.chg (difE l m)] []) ∧
    (ascB l = false ∨ ascB m = false → K (.tup [.at (.slc 2), .at (vI 1)]) [.row false EC.ent l, .row false EC.ent m, .row true EC.chg []] [])
  | _, _ => False

structure XB (P : Bool → Prop) where
  b : Bool
  h : P b
structure XCB (P : Chg → Bool → Prop) where
  d : Chg
  ok : Bool
  h : P d ok
theorem may_eqB (x y : Option Int) : ((x.isSome == y.isSome) && ((x.getD 0 == y.getD 0) && true)) = decide (x = y) := by
  cases x <;> cases y <;> simp
  exact Bool.eq_iff_iff.2 (by simp)
def onPair (c : Chg) (inP : Bool) (d : Chg) (inQ : Bool) : Option Chg × Option Chg := (if inP then some c else none, if inQ then some d else none)
def tCmp1 : Tfm C0 := fun args H K => match args, H with
  | [.agg [.val (.int .i64 ckd), .val (.int .i64 cky), .val (.int .i64 cod), .val (.int .i64 cnw)], .at (.val (.bool inP)), .agg [.val (.int .i64 dkd), .val (.int .i64 dky), .val (.int .i64 dod), .val (.int .i64 dnw)], .at (.val (.bool inQ)), .at (.ptr 0 0)], [.box [.slc 1], .row true .chg out] =>
    (inP = true ∨ inQ = true) ∧ out.length ≤ 2000000 ∧ ∀ (ok : Bool) (out' : List Chg), ok = meet1 (onPair ⟨ckd, cky, cod, cnw⟩ inP ⟨dkd, dky, dod, dnw⟩ inQ) → (ok = true → out' = List.append (α := Chg) out (comp1 (onPair ⟨ckd, cky, cod, cnw⟩ inP ⟨dkd, dky, dod, dnw⟩ inQ))) → K (.one (.at (vB ok))) [.box [.slc 1], .row true EC.chg out'] [0, 1]
  | _, _ => False
def inL (p q : List Chg) (i k : Nat) : Bool := decide (i < p.length) && (decide (k = q.length) || decide ((cA p i).key ≤ (cA q k).key))
structure XBo (G : List Chg → List Chg → Nat → Nat → List Chg → Prop) (p q : List Chg) where
  i : Nat
  k : Nat
  out : List Chg
  inP : Bool
  inQ : Bool
  h : i ≤ p.length ∧ k ≤ q.length ∧ out.length ≤ i + k ∧ G p q i k out
structure XBc (G : List Chg → List Chg → Nat → Nat → List Chg → Prop) (p q : List Chg) extends XBo G p q where
  go : Bool
  hg : go = (decide (i < p.length) || decide (k < q.length))
structure XBp (G : List Chg → List Chg → Nat → Nat → List Chg → Prop) (p q : List Chg) extends XBo G p q where
  hp : inP = inL p q i k
structure XBq (G : List Chg → List Chg → Nat → Nat → List Chg → Prop) (p q : List Chg) extends XBp G p q where
  hq : inQ = inL q p k i
def GCmp (p q : List Chg) (i k : Nat) (out : List Chg) : Prop := comp p q = (compGo (pC (p.drop i) (q.drop k))).map (out ++ ·)
def inc (b : Bool) (i : Nat) : Nat := if b then i + 1 else i
theorem both_next {p q : List Chg} {i k : Nat} {inP inQ : Bool} (hi : i ≤ p.length) (hk : k ≤ q.length) (hne : i < p.length ∨ k < q.length) (hP : inP = inL p q i k) (hQ : inQ = inL q p k i) :
    (inP = true ∨ inQ = true) ∧ (inP = true → i < p.length) ∧ (inQ = true → k < q.length) ∧ pC (p.drop i) (q.drop k) = onPair (cA p i) inP (cA q k) inQ :: pC (p.drop (inc inP i)) (q.drop (inc inQ k)) := by
  obtain ⟨h1, h2, h3, h4⟩ := pairs_step (ka := Chg.key) (kb := Chg.key) (cA p) (cA q) (fun n hn => cA_get hn) (fun n hn => cA_get hn) hi hk hne hP hQ
  exact ⟨h1, h2, h3, h4⟩
def appR (l : List Ent) (p : List Chg) : List Ent × Int := if ascB l && valB p then (match app l p with
  | some r => (r, 0)
  | none => ([], 9)) else ([], 1)
structure XAp (l : List Ent) (p : List Chg) where
  i : Nat
  k : Nat
  acc : List Ent
  h : i ≤ l.length ∧ k ≤ p.length ∧ acc.length ≤ i + k ∧ AppAt l p i k acc
structure XAq (l : List Ent) (p : List Chg) extends XAp l p where
  hq : i < l.length → (cA p k).key ≤ (eA l i).1
structure XAb (l : List Ent) (p : List Chg) extends XAq l p where
  b : Bool
  hb : b = (decide (i < l.length) && decide ((eA l i).1 = (cA p k).key))
def tApp : Tfm C0 := fun args H K => match args, H with
  | [.at (.slc 0), .at (.slc 1)], [.row false .ent l, .row false .chg p] => l.length + p.length ≤ 1000000 ∧ ∀ (r : List Ent) (e : Int), (r, e) = appR l p → K (.tup [.at (.slc 2), .at (vI e)]) [.row false EC.ent l, .row false EC.chg p, .row true EC.ent r] []
  | _, _ => False
set_option maxHeartbeats 1000000 in
noncomputable def aReb1 (c d : Chg) (out : List Chg) (cf : List Int) : Ann C0 := { quiet := [106, 107], Γ := [(106, frameT [] (tBefore mayA)), (107, frameT [] (tAfter mayA))], inv := fun k => match k with
  | 1005 => some { X := XB fun b => b = !decide (c.before = d.before), sl := [21], tf := fun x => [vb x.b], hf := fun _ => [.box [.slc 2], .box [.slc 3], .row true EC.chg out, .row true EC.i64 cf, .box [vI c.kind, vI c.key, vI c.old, vI c.new], .box [vI d.kind, vI d.key, vI d.old, vI d.new]] }
  | 1007 => some { X := XB fun b => b = !decide (c.after = d.after), sl := [27], tf := fun x => [vb x.b], hf := fun _ => [.box [.slc 2], .box [.slc 3], .row true EC.chg out, .row true EC.i64 cf, .box [vI c.kind, vI c.key, vI c.old, vI c.new], .box [vI d.kind, vI d.key, vI d.old, vI d.new]] }
  | _ => none }
def tReb1 : Tfm C0 := fun args H K => match args, H with
  | [.agg [.val (.int .i64 ckd), .val (.int .i64 cky), .val (.int .i64 cod), .val (.int .i64 cnw)], .at (.val (.bool inP)), .agg [.val (.int .i64 dkd), .val (.int .i64 dky), .val (.int .i64 dod), .val (.int .i64 dnw)], .at (.val (.bool inQ)), .at (.ptr 0 0), .at (.ptr 1 0)], [.box [.slc 2], .box [.slc 3], .row true .chg out, .row true .i64 cf] =>
    (inP = true ∨ inQ = true) ∧ out.length ≤ 2000000 ∧ cf.length ≤ 2000000 ∧ ∀ (ok : Bool) (out' : List Chg) (cf' : List Int), ok = base1 (onPair ⟨ckd, cky, cod, cnw⟩ inP ⟨dkd, dky, dod, dnw⟩ inQ) →
      (ok = true → out' = List.append (α := Chg) out (keep1 (onPair ⟨ckd, cky, cod, cnw⟩ inP ⟨dkd, dky, dod, dnw⟩ inQ)) ∧ cf' = List.append (α := Int) cf (conf1 (onPair ⟨ckd, cky, cod, cnw⟩ inP ⟨dkd, dky, dod, dnw⟩ inQ))) →
      K (.one (.at (vB ok))) [.box [.slc 2], .box [.slc 3], .row true EC.chg out', .row true EC.i64 cf'] [0, 1, 2, 3]
  | _, _ => False
structure XRo (p q : List Chg) where
  i : Nat
  k : Nat
  out : List Chg
  cf : List Int
  inP : Bool
  inQ : Bool
  h : i ≤ p.length ∧ k ≤ q.length ∧ (out.length ≤ i + k ∧ cf.length ≤ i + k) ∧ reb p q = (rebGo (pC (p.drop i) (q.drop k))).map (fun r => (out ++ r.1, cf ++ r.2))
structure XRc (p q : List Chg) extends XRo p q where
  go : Bool
  hg : go = (decide (i < p.length) || decide (k < q.length))
structure XRp (p q : List Chg) extends XRo p q where
  hp : inP = inL p q i k
structure XRq (p q : List Chg) extends XRp p q where
  hq : inQ = inL q p k i
noncomputable def aBothR (p q : List Chg) : Ann C0 := { Γ := [(105, frameT [] tReb1)], inv := fun n => match n with
  | 2 => some { X := XRo p q, sl := [8, 7], tf := fun x => [vi .i64 x.k, vi .i64 x.i], hf := fun x => [.box [.slc 2], .box [.slc 3], .row true EC.chg x.out, .row true EC.i64 x.cf, .row false EC.chg p, .row false EC.chg q], μ := fun x => p.length + q.length - (x.i + x.k), wr := [0, 1, 2, 3] }
  | 2002 => some { X := XRc p q, sl := [22], tf := fun x => [vb x.go], hf := fun x => [.box [.slc 2], .box [.slc 3], .row true EC.chg x.out, .row true EC.i64 x.cf, .row false EC.chg p, .row false EC.chg q], wr := [0, 1, 2, 3], rel := fun T _ x => slotI T 7 x.i ∧ slotI T 8 x.k }
  | 1005 => some { X := XRp p q, sl := [11], tf := fun x => [vb x.inP], hf := fun x => [.box [.slc 2], .box [.slc 3], .row true EC.chg x.out, .row true EC.i64 x.cf, .row false EC.chg p, .row false EC.chg q, .box [vI 0, vI 0, vI 0, vI 0], .box [vI 0, vI 0, vI 0, vI 0]], wr := [0, 1, 2, 3], rel := fun T _ x => slotI T 7 x.i ∧ slotI T 8 x.k }
  | 1006 => some { X := XRq p q, sl := [12], tf := fun x => [vb x.inQ], hf := fun x => [.box [.slc 2], .box [.slc 3], .row true EC.chg x.out, .row true EC.i64 x.cf, .row false EC.chg p, .row false EC.chg q, .box [vI 0, vI 0, vI 0, vI 0], .box [vI 0, vI 0, vI 0, vI 0]], wr := [0, 1, 2, 3], rel := fun T _ x => slotI T 7 x.i ∧ slotI T 8 x.k ∧ slotB T 11 x.inP }
  | _ => none }
def tBothR : Tfm C0 := fun args H K => match args, H with
  | [.at (.slc 4), .at (.slc 5), .at (.fn 105 [0, 1])], [.box [.slc 2], .box [.slc 3], .row true .chg [], .row true .i64 [], .row false .chg p, .row false .chg q] => p.length + q.length ≤ 1000000 ∧
    ∀ (ok : Bool) (out' : List Chg) (cf' : List Int), ok = (reb p q).isSome → (∀ r, reb p q = some r → (out', cf') = r) → K (.one (.at (vB ok))) [.box [.slc 2], .box [.slc 3], .row true EC.chg out', .row true EC.i64 cf', .row false EC.chg p, .row false EC.chg q] [0, 1, 2, 3]
  | _, _ => False
def rebR (p q : List Chg) : List Chg × List Int × Int := if valB p && valB q then (match reb p q with
  | some r => (r.1, r.2, 0)
  | none => ([], [], 9)) else ([], [], 1)
noncomputable def aReb : Ann C0 := { Γ := [(103, frameT [] tValid), (104, frameT [] tBothR)] }
def tReb : Tfm C0 := fun args H K => match args, H with
  | [.at (.slc 0), .at (.slc 1)], [.row false .chg p, .row false .chg q] => p.length + q.length ≤ 1000000 ∧ ∀ (r : List Chg) (c : List Int) (e : Int), (r, c, e) = rebR p q → K (.tup [.at (.slc 2), .at (.slc 3), .at (vI e)]) [.row false EC.chg p, .row false EC.chg q, .row true EC.chg r, .row true EC.i64 c] []
  | _, _ => False
theorem vc_reb1 (ckd cky cod cnw dkd dky dod dnw : Int) (inP inQ : Bool) (out : List Chg) (cf : List Int) (K : KT) (hor : inP = true ∨ inQ = true) (hlen : out.length ≤ 2000000) (hlen2 : cf.length ≤ 2000000)
    (h : ∀ ok (out' : List Chg) (cf' : List Int), ok = base1 (onPair ⟨ckd, cky, cod, cnw⟩ inP ⟨dkd, dky, dod, dnw⟩ inQ) → (ok = true → out' = out ++ keep1 (onPair ⟨ckd, cky, cod, cnw⟩ inP ⟨dkd, dky, dod, dnw⟩ inQ) ∧ cf' = cf ++ conf1 (onPair ⟨ckd, cky, cod, cnw⟩ inP ⟨dkd, dky, dod, dnw⟩ inQ)) → K (.one (.at (vB ok))) [.box [.slc 2], .box [.slc 3], .row true EC.chg out', .row true EC.i64 cf'] [0, 1, 2, 3]) :
    vc C0 (aReb1 ⟨ckd, cky, cod, cnw⟩ ⟨dkd, dky, dod, dnw⟩ out cf) Try.f105 [.agg [.val (.int .i64 ckd), .val (.int .i64 cky), .val (.int .i64 cod), .val (.int .i64 cnw)], .at (.val (.bool inP)), .agg [.val (.int .i64 dkd), .val (.int .i64 dky), .val (.int .i64 dod), .val (.int .i64 dnw)], .at (.val (.bool inQ)), .at (.ptr 0 0), .at (.ptr 1 0)] [.box [.slc 2], .box [.slc 3], .row true EC.chg out, .row true EC.i64 cf] (normK 4 (wideK [0, 1, 2, 3] K)) := by
  refine Eq.mp (show (brS (!inP) ((K (SV.one (TV.at (At.val (Value.bool true)))) [(Chunk.box [(At.slc 2)]), (Chunk.box [(At.slc 3)]), (Chunk.row true (EC.chg) (out)), (Chunk.row true (EC.i64) (cf))] [0, 1, 2, 3])) ((brS (!inQ) ((((out.length + [{ kind := ckd, key := cky, old := cod, new := cnw : Chg }].length) * bytesOf C0 EC.chg ≤ 140737488355328) ∧ (K (SV.one (TV.at (At.val (Value.bool true)))) [(Chunk.box [(At.slc 2)]), (Chunk.box [(At.slc 3)]), (Chunk.row true (EC.chg) (out ++ [{ kind := ckd, key := cky, old := cod, new := cnw : Chg }])), (Chunk.row true (EC.i64) (cf))] [0, 1, 2, 3]))) (((∀ x : Option Int, (((x) = ({ kind := ckd, key := cky, old := cod, new := cnw : Chg }.before)) → (∀ x1 : Option Int, (((x1) = ({ kind := dkd, key := dky, old := dod, new := dnw : Chg }.before)) → (∃ x2 : XB fun b => b = !decide ({ kind := ckd, key := cky, old := cod, new := cnw : Chg }.before = { kind := dkd, key := dky, old := dod, new := dnw : Chg }.before), (True ∧ (True ∧ True ∧ True ∧ ((Value.bool (!(x.isSome == x1.isSome && (x.getD 0 == x1.getD 0 && true)))) = (Value.bool (x2.b))) ∧ True) ∧ (True ∧ True) ∧ (True ∧ True) ∧ ((out) = (out)) ∧ ((cf) = (cf)) ∧ (((Value.int IntKind.i64 (ckd)) = (Value.int IntKind.i64 (ckd))) ∧ ((Value.int IntKind.i64 (cky)) = (Value.int IntKind.i64 (cky))) ∧ ((Value.int IntKind.i64 (cod)) = (Value.int IntKind.i64 (cod))) ∧ ((Value.int IntKind.i64 (cnw)) = (Value.int IntKind.i64 (cnw))) ∧ True) ∧ (((Value.int IntKind.i64 (dkd)) = (Value.int IntKind.i64 (dkd))) ∧
    ((Value.int IntKind.i64 (dky)) = (Value.int IntKind.i64 (dky))) ∧ ((Value.int IntKind.i64 (dod)) = (Value.int IntKind.i64 (dod))) ∧ ((Value.int IntKind.i64 (dnw)) = (Value.int IntKind.i64 (dnw))) ∧ True) ∧ True)))))) ∧ (∀ x : XB fun b => b = !decide ({ kind := ckd, key := cky, old := cod, new := cnw : Chg }.before = { kind := dkd, key := dky, old := dod, new := dnw : Chg }.before), (True → (brS (x.b) ((K (SV.one (TV.at (At.val (Value.bool false)))) [(Chunk.box [(At.slc 2)]), (Chunk.box [(At.slc 3)]), (Chunk.row true (EC.chg) (out)), (Chunk.row true (EC.i64) (cf))] [0, 1, 2, 3])) (((∀ x1 : Option Int, (((x1) = ({ kind := ckd, key := cky, old := cod, new := cnw : Chg }.after)) → (∀ x2 : Option Int, (((x2) = ({ kind := dkd, key := dky, old := dod, new := dnw : Chg }.after)) → (∃ x3 : XB fun b => b = !decide ({ kind := ckd, key := cky, old := cod, new := cnw : Chg }.after = { kind := dkd, key := dky, old := dod, new := dnw : Chg }.after), (True ∧ (True ∧ True ∧ ((Value.bool (!(x1.isSome == x2.isSome && (x1.getD 0 == x2.getD 0 && true)))) = (Value.bool (x3.b))) ∧ True) ∧ (True ∧ True) ∧ (True ∧ True) ∧ ((out) = (out)) ∧ ((cf) = (cf)) ∧ (((Value.int IntKind.i64 (ckd)) = (Value.int IntKind.i64 (ckd))) ∧ ((Value.int IntKind.i64 (cky)) = (Value.int IntKind.i64 (cky))) ∧ ((Value.int IntKind.i64 (cod)) = (Value.int IntKind.i64 (cod))) ∧ ((Value.int IntKind.i64 (cnw)) = (Value.int IntKind.i64 (cnw))) ∧ True) ∧ (((Value.int IntKind.i64 (dkd)) = (Value.int IntKind.i64 (dkd))) ∧
    ((Value.int IntKind.i64 (dky)) = (Value.int IntKind.i64 (dky))) ∧ ((Value.int IntKind.i64 (dod)) = (Value.int IntKind.i64 (dod))) ∧ ((Value.int IntKind.i64 (dnw)) = (Value.int IntKind.i64 (dnw))) ∧ True) ∧ True)))))) ∧ (∀ x1 : XB fun b => b = !decide ({ kind := ckd, key := cky, old := cod, new := cnw : Chg }.after = { kind := dkd, key := dky, old := dod, new := dnw : Chg }.after), (True → (brS (x1.b) ((((cf.length + [cky].length) * bytesOf C0 EC.i64 ≤ 140737488355328) ∧ (K (SV.one (TV.at (At.val (Value.bool true)))) [(Chunk.box [(At.slc 2)]), (Chunk.box [(At.slc 3)]), (Chunk.row true (EC.chg) (out)), (Chunk.row true (EC.i64) (cf ++ [cky]))] [0, 1, 2, 3]))) ((K (SV.one (TV.at (At.val (Value.bool true)))) [(Chunk.box [(At.slc 2)]), (Chunk.box [(At.slc 3)]), (Chunk.row true (EC.chg) (out)), (Chunk.row true (EC.i64) (cf))] [0, 1, 2, 3]))))))))))))))) = _ by kernel_rfl) ?_
  simp only [bytes_chg, bytes_i64, List.length_singleton]
  refine brS_of (fun h1 => h true _ _ ?_ ?_) fun h1 => brS_of (fun h2 => ⟨by omega, h _ _ _ ?_ ?_⟩) fun h2 => ⟨?_, fun x _ => brS_of (fun h3 => h _ _ _ ?_ ?_) fun h3 => ⟨?_, fun x1 _ => brS_of (fun h4 => ⟨by omega, h _ _ _ ?_ ?_⟩) fun h4 => h _ _ _ ?_ ?_⟩⟩
  case refine_1 | refine_2 =>
    have e1 : inP = false := by simpa using h1
    have e2 : inQ = true := by simpa [e1] using hor
    subst e1 e2
    simp [onPair, base1, keep1, conf1]
  case refine_3 | refine_4 =>
    have e1 : inP = true := by simpa using h1
    have e2 : inQ = false := by simpa using h2
    subst e1 e2
    simp [onPair, base1, keep1, conf1]
  case refine_5 | refine_8 =>
    intro x hx x1 hx1; subst hx hx1; refine ⟨⟨_, rfl⟩, ?_⟩; simp only [may_eqB, and_self, true_and]
  all_goals
    have e1 : inP = true := by simpa using h1
    have e2 : inQ = true := by simpa using h2
    subst e1 e2
    have hx := x.h
    rw [h3] at hx
    simp only [onPair, base1, keep1, conf1, if_true]
    try have hy := x1.h
    try rw [h4] at hy
  · simpa using hx
  · intro h; cases h
  · simpa using hx
  · intro _
    have hn : ¬ (Chg.after ⟨ckd, cky, cod, cnw⟩ = Chg.after ⟨dkd, dky, dod, dnw⟩) := by simpa using hy
    rw [if_neg hn]; simp
  · simpa using hx
  · intro _
    have hn : Chg.after ⟨ckd, cky, cod, cnw⟩ = Chg.after ⟨dkd, dky, dod, dnw⟩ := by simpa using hy
    rw [if_pos hn]; simp
theorem s_reb1 : SoundT C0 105 tReb1 := by
  refine .ofW [0, 1, 2, 3] Try.func105 (by decide) rfl fun args H K h hB => ?_
  unfold tReb1 at h
  split at h <;> try exact h.elim
  rename_i ckd cky cod cnw inP dkd dky dod dnw inQ out cf
  exact ⟨aReb1 ⟨ckd, cky, cod, cnw⟩ ⟨dkd, dky, dod, dnw⟩ out cf, ⟨frame C0.ok s_before _, frame C0.ok s_after _, trivial⟩, vc_reb1 ckd cky cod cnw dkd dky dod dnw inP inQ out cf K h.1 h.2.1 h.2.2.1 h.2.2.2⟩
theorem kc_len (c d : Chg) (inP inQ : Bool) : (keep1 (onPair c inP d inQ)).length ≤ inP.toNat + inQ.toNat ∧ (conf1 (onPair c inP d inQ)).length ≤ inP.toNat + inQ.toNat := by
  cases inP <;> cases inQ <;> simp [onPair, keep1, conf1]
  split <;> simp
theorem reb_step {p q : List Chg} {i k : Nat} {out : List Chg} {cf : List Int} (h : i ≤ p.length ∧ k ≤ q.length ∧ (out.length ≤ i + k ∧ cf.length ≤ i + k) ∧ reb p q = (rebGo (pC (p.drop i) (q.drop k))).map (fun r => (out ++ r.1, cf ++ r.2))) (hne : i < p.length ∨ k < q.length) {inP inQ : Bool} (hP : inP = inL p q i k) (hQ : inQ = inL q p k i)
    {c d : Chg} (hc : inP = true → c = cA p i) (hd : inQ = true → d = cA q k) {ok : Bool} {out' : List Chg} {cf' : List Int} (hok : ok = base1 (onPair c inP d inQ)) (ho : ok = true → out' = out ++ keep1 (onPair c inP d inQ) ∧ cf' = cf ++ conf1 (onPair c inP d inQ)) :
    (ok = false → reb p q = none) ∧ (ok = true → inc inP i ≤ p.length ∧ inc inQ k ≤ q.length ∧ (out'.length ≤ inc inP i + inc inQ k ∧ cf'.length ≤ inc inP i + inc inQ k) ∧ reb p q = (rebGo (pC (p.drop (inc inP i)) (q.drop (inc inQ k)))).map (fun r => (out' ++ r.1, cf' ++ r.2))) := by
  obtain ⟨h1, h2, h3, h4⟩ := both_next h.1 h.2.1 hne hP hQ
  have e : onPair c inP d inQ = onPair (cA p i) inP (cA q k) inQ := by
    unfold onPair
    cases inP <;> cases inQ <;> simp_all
  rw [e] at hok ho
  have hg := h.2.2.2
  rw [h4] at hg
  simp only [rebGo] at hg
  refine ⟨fun hf => ?_, fun ht => ⟨?_, ?_, ?_, ?_⟩⟩
  · rw [← hok, hf] at hg; simpa using hg
  · unfold inc; split
    · rename_i hh; have := h2 hh; omega
    · exact h.1
  · unfold inc; split
    · rename_i hh; have := h3 hh; omega
    · exact h.2.1
  · rw [(ho ht).1, (ho ht).2, List.length_append, List.length_append]
    have q1 := kc_len (cA p i) (cA q k) inP inQ
    have q2 := h.2.2.1
    generalize (keep1 (onPair (cA p i) inP (cA q k) inQ)).length = a at *
    generalize (conf1 (onPair (cA p i) inP (cA q k) inQ)).length = b at *
    cases inP <;> cases inQ <;> simp only [inc, Bool.toNat_true, Bool.toNat_false, if_true, Bool.false_eq_true, if_false] at q1 ⊢ <;> omega
  · rw [← hok, ht] at hg
    rw [(ho ht).1, (ho ht).2]
    simp only [if_true, Option.map_map] at hg
    rw [hg]
    congr 1
    funext x
    simp
theorem reb_end {p q : List Chg} {i k : Nat} {out : List Chg} {cf : List Int} (h : i ≤ p.length ∧ k ≤ q.length ∧ (out.length ≤ i + k ∧ cf.length ≤ i + k) ∧ reb p q = (rebGo (pC (p.drop i) (q.drop k))).map (fun r => (out ++ r.1, cf ++ r.2))) (hne : ¬ (i < p.length ∨ k < q.length)) : reb p q = some (out, cf) := by
  have h1 : i = p.length := by omega
  have h2 : k = q.length := by omega
  have hg := h.2.2.2
  rw [hg, h1, h2, List.drop_length, List.drop_length]
  simp [pC, pairs, rebGo]
theorem vc_bothR (p q : List Chg) (K : KT) (hsm : p.length + q.length ≤ 1000000)
    (h : ∀ (ok : Bool) (out' : List Chg) (cf' : List Int), ok = (reb p q).isSome → (∀ r, reb p q = some r → (out', cf') = r) → K (.one (.at (vB ok))) [.box [.slc 2], .box [.slc 3], .row true EC.chg out', .row true EC.i64 cf', .row false EC.chg p, .row false EC.chg q] [0, 1, 2, 3]) :
    vc C0 (aBothR p q) Try.f104 [.at (.slc 4), .at (.slc 5), .at (.fn 105 [0, 1])] [.box [.slc 2], .box [.slc 3], .row true EC.chg [], .row true EC.i64 [], .row false EC.chg p, .row false EC.chg q] (normK 6 (wideK [0, 1, 2, 3] K)) := by
  refine Eq.mp (show ((∃ x : XRo p q, (True ∧ (True ∧ True ∧ ((At.fn 105 [0, 1]) = (At.fn 105 [0, 1])) ∧ ((Value.int IntKind.i64 0) = (Value.int IntKind.i64 ((↑x.i : Int)))) ∧ ((Value.int IntKind.i64 0) = (Value.int IntKind.i64 ((↑x.k : Int)))) ∧ True) ∧ (True ∧ True) ∧ (True ∧ True) ∧ ([] = (x.out)) ∧ ([] = (x.cf)) ∧ ((p) = (p)) ∧ ((q) = (q)) ∧ True)) ∧
(∀ x : XRo p q, (True → ((brS (decide ((↑x.i : Int) < (↑p.length : Int))) ((∃ x1 : XRc p q, (((((↑x.i : Int)) = ((↑x1.i : Int))) ∧ (((↑x.k : Int)) = ((↑x1.k : Int)))) ∧ (True ∧ True ∧ ((At.fn 105 [0, 1]) = (At.fn 105 [0, 1])) ∧ ((Value.int IntKind.i64 ((↑x.i : Int))) = (Value.int IntKind.i64 ((↑x.i : Int)))) ∧ ((Value.int IntKind.i64 ((↑x.k : Int))) = (Value.int IntKind.i64 ((↑x.k : Int)))) ∧ ((Value.bool true) = (Value.bool (x1.go))) ∧ True) ∧ (True ∧ True) ∧ (True ∧ True) ∧ ((x.out) = (x1.out)) ∧ ((x.cf) = (x1.cf)) ∧ ((p) = (p)) ∧ ((q) = (q)) ∧ True))) ((∃ x1 : XRc p q, (((((↑x.i : Int)) = ((↑x1.i : Int))) ∧ (((↑x.k : Int)) = ((↑x1.k : Int)))) ∧ (True ∧ True ∧ ((At.fn 105 [0, 1]) = (At.fn 105 [0, 1])) ∧ ((Value.int IntKind.i64 ((↑x.i : Int))) = (Value.int IntKind.i64 ((↑x.i : Int)))) ∧ ((Value.int IntKind.i64 ((↑x.k : Int))) = (Value.int IntKind.i64 ((↑x.k : Int)))) ∧ ((Value.bool (decide ((↑x.k : Int) < (↑q.length : Int)))) = (Value.bool (x1.go))) ∧ True) ∧ (True ∧ True) ∧ (True ∧ True) ∧ ((x.out) = (x1.out)) ∧ ((x.cf) = (x1.cf)) ∧ ((p) = (p)) ∧ ((q) = (q)) ∧ True)))) ∧ (∀ x1 : XRc p q, (((((↑x.i : Int)) = ((↑x1.i : Int))) ∧
    (((↑x.k : Int)) = ((↑x1.k : Int)))) → (brS (x1.go) (((brS (decide ((↑x.i : Int) < (↑p.length : Int))) ((brS ((↑x.k : Int) == (↑q.length : Int)) ((∃ x2 : XRp p q, (((((↑x.i : Int)) = ((↑x2.i : Int))) ∧ (((↑x.k : Int)) = ((↑x2.k : Int)))) ∧ (True ∧ True ∧ ((At.fn 105 [0, 1]) = (At.fn 105 [0, 1])) ∧ ((Value.int IntKind.i64 ((↑x.i : Int))) = (Value.int IntKind.i64 ((↑x.i : Int)))) ∧ ((Value.int IntKind.i64 ((↑x.k : Int))) = (Value.int IntKind.i64 ((↑x.k : Int)))) ∧ True ∧ True ∧ ((Value.bool true) = (Value.bool (x2.inP))) ∧ True) ∧ (True ∧ True) ∧ (True ∧ True) ∧ ((x1.out) = (x2.out)) ∧ ((x1.cf) = (x2.cf)) ∧ ((p) = (p)) ∧ ((q) = (q)) ∧ (((Value.int IntKind.i64 0) = (Value.int IntKind.i64 0)) ∧ ((Value.int IntKind.i64 0) = (Value.int IntKind.i64 0)) ∧ ((Value.int IntKind.i64 0) = (Value.int IntKind.i64 0)) ∧ ((Value.int IntKind.i64 0) = (Value.int IntKind.i64 0)) ∧ True) ∧ (((Value.int IntKind.i64 0) = (Value.int IntKind.i64 0)) ∧ ((Value.int IntKind.i64 0) = (Value.int IntKind.i64 0)) ∧ ((Value.int IntKind.i64 0) = (Value.int IntKind.i64 0)) ∧ ((Value.int IntKind.i64 0) = (Value.int IntKind.i64 0)) ∧ True) ∧ True))) (((0 ≤ (↑x.i : Int)) ∧ ((↑x.i : Int) < (↑p.length : Int)) ∧ (0 ≤ (↑x.k : Int)) ∧ ((↑x.k : Int) < (↑q.length : Int)) ∧ (∃ x2 : XRp p q, (((((↑x.i : Int)) = ((↑x2.i : Int))) ∧ (((↑x.k : Int)) = ((↑x2.k : Int)))) ∧ (True ∧ True ∧ ((At.fn 105 [0, 1]) = (At.fn 105 [0, 1])) ∧ ((Value.int IntKind.i64 ((↑x.i : Int))) = (Value.int IntKind.i64 ((↑x.i : Int)))) ∧
    ((Value.int IntKind.i64 ((↑x.k : Int))) = (Value.int IntKind.i64 ((↑x.k : Int)))) ∧ True ∧ True ∧ ((Value.bool (decide ((cA p x.i).key ≤ (cA q x.k).key))) = (Value.bool (x2.inP))) ∧ True) ∧ (True ∧ True) ∧ (True ∧ True) ∧ ((x1.out) = (x2.out)) ∧ ((x1.cf) = (x2.cf)) ∧ ((p) = (p)) ∧ ((q) = (q)) ∧ (((Value.int IntKind.i64 0) = (Value.int IntKind.i64 0)) ∧ ((Value.int IntKind.i64 0) = (Value.int IntKind.i64 0)) ∧ ((Value.int IntKind.i64 0) = (Value.int IntKind.i64 0)) ∧ ((Value.int IntKind.i64 0) = (Value.int IntKind.i64 0)) ∧ True) ∧ (((Value.int IntKind.i64 0) = (Value.int IntKind.i64 0)) ∧ ((Value.int IntKind.i64 0) = (Value.int IntKind.i64 0)) ∧ ((Value.int IntKind.i64 0) = (Value.int IntKind.i64 0)) ∧ ((Value.int IntKind.i64 0) = (Value.int IntKind.i64 0)) ∧ True) ∧ True)))))) ((∃ x2 : XRp p q, (((((↑x.i : Int)) = ((↑x2.i : Int))) ∧ (((↑x.k : Int)) = ((↑x2.k : Int)))) ∧ (True ∧ True ∧ ((At.fn 105 [0, 1]) = (At.fn 105 [0, 1])) ∧ ((Value.int IntKind.i64 ((↑x.i : Int))) = (Value.int IntKind.i64 ((↑x.i : Int)))) ∧ ((Value.int IntKind.i64 ((↑x.k : Int))) = (Value.int IntKind.i64 ((↑x.k : Int)))) ∧ True ∧ True ∧ ((Value.bool false) = (Value.bool (x2.inP))) ∧ True) ∧ (True ∧ True) ∧ (True ∧ True) ∧ ((x1.out) = (x2.out)) ∧ ((x1.cf) = (x2.cf)) ∧ ((p) = (p)) ∧ ((q) = (q)) ∧ (((Value.int IntKind.i64 0) = (Value.int IntKind.i64 0)) ∧ ((Value.int IntKind.i64 0) = (Value.int IntKind.i64 0)) ∧ ((Value.int IntKind.i64 0) = (Value.int IntKind.i64 0)) ∧
    ((Value.int IntKind.i64 0) = (Value.int IntKind.i64 0)) ∧ True) ∧ (((Value.int IntKind.i64 0) = (Value.int IntKind.i64 0)) ∧ ((Value.int IntKind.i64 0) = (Value.int IntKind.i64 0)) ∧ ((Value.int IntKind.i64 0) = (Value.int IntKind.i64 0)) ∧ ((Value.int IntKind.i64 0) = (Value.int IntKind.i64 0)) ∧ True) ∧ True)))) ∧ (∀ x2 : XRp p q, (((((↑x.i : Int)) = ((↑x2.i : Int))) ∧ (((↑x.k : Int)) = ((↑x2.k : Int)))) → ((brS (decide ((↑x.k : Int) < (↑q.length : Int))) ((brS ((↑x.i : Int) == (↑p.length : Int)) ((∃ x3 : XRq p q, (((((↑x.i : Int)) = ((↑x3.i : Int))) ∧ (((↑x.k : Int)) = ((↑x3.k : Int))) ∧ ((x2.inP) = (x3.inP))) ∧ (True ∧ True ∧ ((At.fn 105 [0, 1]) = (At.fn 105 [0, 1])) ∧ ((Value.int IntKind.i64 ((↑x.i : Int))) = (Value.int IntKind.i64 ((↑x.i : Int)))) ∧ ((Value.int IntKind.i64 ((↑x.k : Int))) = (Value.int IntKind.i64 ((↑x.k : Int)))) ∧ True ∧ True ∧ ((Value.bool (x2.inP)) = (Value.bool (x2.inP))) ∧ ((Value.bool true) = (Value.bool (x3.inQ))) ∧ True) ∧ (True ∧ True) ∧ (True ∧ True) ∧ ((x2.out) = (x3.out)) ∧ ((x2.cf) = (x3.cf)) ∧ ((p) = (p)) ∧ ((q) = (q)) ∧ (((Value.int IntKind.i64 0) = (Value.int IntKind.i64 0)) ∧ ((Value.int IntKind.i64 0) = (Value.int IntKind.i64 0)) ∧ ((Value.int IntKind.i64 0) = (Value.int IntKind.i64 0)) ∧ ((Value.int IntKind.i64 0) = (Value.int IntKind.i64 0)) ∧ True) ∧ (((Value.int IntKind.i64 0) = (Value.int IntKind.i64 0)) ∧ ((Value.int IntKind.i64 0) = (Value.int IntKind.i64 0)) ∧ ((Value.int IntKind.i64 0) = (Value.int IntKind.i64 0)) ∧
    ((Value.int IntKind.i64 0) = (Value.int IntKind.i64 0)) ∧ True) ∧ True))) (((0 ≤ (↑x.k : Int)) ∧ ((↑x.k : Int) < (↑q.length : Int)) ∧ (0 ≤ (↑x.i : Int)) ∧ ((↑x.i : Int) < (↑p.length : Int)) ∧ (∃ x3 : XRq p q, (((((↑x.i : Int)) = ((↑x3.i : Int))) ∧ (((↑x.k : Int)) = ((↑x3.k : Int))) ∧ ((x2.inP) = (x3.inP))) ∧ (True ∧ True ∧ ((At.fn 105 [0, 1]) = (At.fn 105 [0, 1])) ∧ ((Value.int IntKind.i64 ((↑x.i : Int))) = (Value.int IntKind.i64 ((↑x.i : Int)))) ∧ ((Value.int IntKind.i64 ((↑x.k : Int))) = (Value.int IntKind.i64 ((↑x.k : Int)))) ∧ True ∧ True ∧ ((Value.bool (x2.inP)) = (Value.bool (x2.inP))) ∧ ((Value.bool (decide ((cA q x.k).key ≤ (cA p x.i).key))) = (Value.bool (x3.inQ))) ∧ True) ∧ (True ∧ True) ∧ (True ∧ True) ∧ ((x2.out) = (x3.out)) ∧ ((x2.cf) = (x3.cf)) ∧ ((p) = (p)) ∧ ((q) = (q)) ∧ (((Value.int IntKind.i64 0) = (Value.int IntKind.i64 0)) ∧ ((Value.int IntKind.i64 0) = (Value.int IntKind.i64 0)) ∧ ((Value.int IntKind.i64 0) = (Value.int IntKind.i64 0)) ∧ ((Value.int IntKind.i64 0) = (Value.int IntKind.i64 0)) ∧ True) ∧ (((Value.int IntKind.i64 0) = (Value.int IntKind.i64 0)) ∧ ((Value.int IntKind.i64 0) = (Value.int IntKind.i64 0)) ∧ ((Value.int IntKind.i64 0) = (Value.int IntKind.i64 0)) ∧ ((Value.int IntKind.i64 0) = (Value.int IntKind.i64 0)) ∧ True) ∧ True)))))) ((∃ x3 : XRq p q, (((((↑x.i : Int)) = ((↑x3.i : Int))) ∧ (((↑x.k : Int)) = ((↑x3.k : Int))) ∧ ((x2.inP) = (x3.inP))) ∧ (True ∧ True ∧ ((At.fn 105 [0, 1]) = (At.fn 105 [0, 1])) ∧
    ((Value.int IntKind.i64 ((↑x.i : Int))) = (Value.int IntKind.i64 ((↑x.i : Int)))) ∧ ((Value.int IntKind.i64 ((↑x.k : Int))) = (Value.int IntKind.i64 ((↑x.k : Int)))) ∧ True ∧ True ∧ ((Value.bool (x2.inP)) = (Value.bool (x2.inP))) ∧ ((Value.bool false) = (Value.bool (x3.inQ))) ∧ True) ∧ (True ∧ True) ∧ (True ∧ True) ∧ ((x2.out) = (x3.out)) ∧ ((x2.cf) = (x3.cf)) ∧ ((p) = (p)) ∧ ((q) = (q)) ∧ (((Value.int IntKind.i64 0) = (Value.int IntKind.i64 0)) ∧ ((Value.int IntKind.i64 0) = (Value.int IntKind.i64 0)) ∧ ((Value.int IntKind.i64 0) = (Value.int IntKind.i64 0)) ∧ ((Value.int IntKind.i64 0) = (Value.int IntKind.i64 0)) ∧ True) ∧ (((Value.int IntKind.i64 0) = (Value.int IntKind.i64 0)) ∧ ((Value.int IntKind.i64 0) = (Value.int IntKind.i64 0)) ∧ ((Value.int IntKind.i64 0) = (Value.int IntKind.i64 0)) ∧ ((Value.int IntKind.i64 0) = (Value.int IntKind.i64 0)) ∧ True) ∧ True)))) ∧ (∀ x3 : XRq p q, (((((↑x.i : Int)) = ((↑x3.i : Int))) ∧ (((↑x.k : Int)) = ((↑x3.k : Int))) ∧ ((x2.inP) = (x3.inP))) → (brS (x2.inP) (((0 ≤ (↑x.i : Int)) ∧ ((↑x.i : Int) < (↑p.length : Int)) ∧ (brS (x3.inQ) (((0 ≤ (↑x.k : Int)) ∧ ((↑x.k : Int) < (↑q.length : Int)) ∧ (x2.inP = true ∨ x3.inQ = true) ∧ (x3.out.length ≤ 2000000) ∧ (x3.cf.length ≤ 2000000) ∧ (∀ ok : Bool, (∀ out' : List Chg, (∀ cf' : List Int,
    (((ok) = (base1 (onPair { kind := (cA p x.i).kind, key := (cA p x.i).key, old := (cA p x.i).old, new := (cA p x.i).new : Chg } x2.inP { kind := (cA q x.k).kind, key := (cA q x.k).key, old := (cA q x.k).old, new := (cA q x.k).new : Chg } x3.inQ))) → ((((ok) = true) → (((out') = (x3.out.append (keep1 (onPair { kind := (cA p x.i).kind, key := (cA p x.i).key, old := (cA p x.i).old, new := (cA p x.i).new : Chg } x2.inP { kind := (cA q x.k).kind, key := (cA q x.k).key, old := (cA q x.k).old, new := (cA q x.k).new : Chg } x3.inQ)))) ∧ ((cf') = (x3.cf.append (conf1 (onPair { kind := (cA p x.i).kind, key := (cA p x.i).key, old := (cA p x.i).old, new := (cA p x.i).new : Chg } x2.inP { kind := (cA q x.k).kind, key := (cA q x.k).key, old := (cA q x.k).old, new := (cA q x.k).new : Chg } x3.inQ)))))) → (brS (!ok) ((K (SV.one (TV.at (At.val (Value.bool false)))) [(Chunk.box [(At.slc 2)]), (Chunk.box [(At.slc 3)]), (Chunk.row true (EC.chg) (out')), (Chunk.row true (EC.i64) (cf')), (Chunk.row false (EC.chg) (p)), (Chunk.row false (EC.chg) (q))] [0, 1, 2, 3])) ((∃ x' : XRo p q, (True ∧ ((True ∧ True ∧ ((At.fn 105 [0, 1]) = (At.fn 105 [0, 1])) ∧ ((Value.int IntKind.i64 (IntKind.i64.wrap ((↑x.i : Int) + 1))) = (Value.int IntKind.i64 ((↑x'.i : Int)))) ∧ ((Value.int IntKind.i64 (IntKind.i64.wrap ((↑x.k : Int) + 1))) = (Value.int IntKind.i64 ((↑x'.k : Int)))) ∧ True) ∧ (True ∧ True) ∧ (True ∧ True) ∧ ((out') = (x'.out)) ∧ ((cf') = (x'.cf)) ∧ ((p) = (p)) ∧ ((q) = (q)) ∧ True) ∧
    (p.length + q.length - (x'.i + x'.k) < p.length + q.length - (x.i + x.k))))))))))))) (((x2.inP = true ∨ x3.inQ = true) ∧ (x3.out.length ≤ 2000000) ∧ (x3.cf.length ≤ 2000000) ∧ (∀ ok : Bool, (∀ out' : List Chg, (∀ cf' : List Int, (((ok) = (base1 (onPair { kind := (cA p x.i).kind, key := (cA p x.i).key, old := (cA p x.i).old, new := (cA p x.i).new : Chg } x2.inP { kind := 0, key := 0, old := 0, new := 0 : Chg } x3.inQ))) → ((((ok) = true) → (((out') = (x3.out.append (keep1 (onPair { kind := (cA p x.i).kind, key := (cA p x.i).key, old := (cA p x.i).old, new := (cA p x.i).new : Chg } x2.inP { kind := 0, key := 0, old := 0, new := 0 : Chg } x3.inQ)))) ∧ ((cf') = (x3.cf.append (conf1 (onPair { kind := (cA p x.i).kind, key := (cA p x.i).key, old := (cA p x.i).old, new := (cA p x.i).new : Chg } x2.inP { kind := 0, key := 0, old := 0, new := 0 : Chg } x3.inQ)))))) → (brS (!ok) ((K (SV.one (TV.at (At.val (Value.bool false)))) [(Chunk.box [(At.slc 2)]), (Chunk.box [(At.slc 3)]), (Chunk.row true (EC.chg) (out')), (Chunk.row true (EC.i64) (cf')), (Chunk.row false (EC.chg) (p)), (Chunk.row false (EC.chg) (q))] [0, 1, 2, 3])) ((∃ x' : XRo p q, (True ∧ ((True ∧ True ∧ ((At.fn 105 [0, 1]) = (At.fn 105 [0, 1])) ∧ ((Value.int IntKind.i64 (IntKind.i64.wrap ((↑x.i : Int) + 1))) = (Value.int IntKind.i64 ((↑x'.i : Int)))) ∧ ((Value.int IntKind.i64 ((↑x.k : Int))) = (Value.int IntKind.i64 ((↑x'.k : Int)))) ∧ True) ∧ (True ∧ True) ∧ (True ∧ True) ∧ ((out') = (x'.out)) ∧ ((cf') = (x'.cf)) ∧
    ((p) = (p)) ∧ ((q) = (q)) ∧ True) ∧ (p.length + q.length - (x'.i + x'.k) < p.length + q.length - (x.i + x.k)))))))))))))))) ((brS (x3.inQ) (((0 ≤ (↑x.k : Int)) ∧ ((↑x.k : Int) < (↑q.length : Int)) ∧ (x2.inP = true ∨ x3.inQ = true) ∧ (x3.out.length ≤ 2000000) ∧ (x3.cf.length ≤ 2000000) ∧ (∀ ok : Bool, (∀ out' : List Chg, (∀ cf' : List Int, (((ok) = (base1 (onPair { kind := 0, key := 0, old := 0, new := 0 : Chg } x2.inP { kind := (cA q x.k).kind, key := (cA q x.k).key, old := (cA q x.k).old, new := (cA q x.k).new : Chg } x3.inQ))) → ((((ok) = true) → (((out') = (x3.out.append (keep1 (onPair { kind := 0, key := 0, old := 0, new := 0 : Chg } x2.inP { kind := (cA q x.k).kind, key := (cA q x.k).key, old := (cA q x.k).old, new := (cA q x.k).new : Chg } x3.inQ)))) ∧ ((cf') = (x3.cf.append (conf1 (onPair { kind := 0, key := 0, old := 0, new := 0 : Chg } x2.inP { kind := (cA q x.k).kind, key := (cA q x.k).key, old := (cA q x.k).old, new := (cA q x.k).new : Chg } x3.inQ)))))) → (brS (!ok) ((K (SV.one (TV.at (At.val (Value.bool false)))) [(Chunk.box [(At.slc 2)]), (Chunk.box [(At.slc 3)]), (Chunk.row true (EC.chg) (out')), (Chunk.row true (EC.i64) (cf')), (Chunk.row false (EC.chg) (p)), (Chunk.row false (EC.chg) (q))] [0, 1, 2, 3])) ((∃ x' : XRo p q, (True ∧ ((True ∧ True ∧ ((At.fn 105 [0, 1]) = (At.fn 105 [0, 1])) ∧ ((Value.int IntKind.i64 ((↑x.i : Int))) = (Value.int IntKind.i64 ((↑x'.i : Int)))) ∧
    ((Value.int IntKind.i64 (IntKind.i64.wrap ((↑x.k : Int) + 1))) = (Value.int IntKind.i64 ((↑x'.k : Int)))) ∧ True) ∧ (True ∧ True) ∧ (True ∧ True) ∧ ((out') = (x'.out)) ∧ ((cf') = (x'.cf)) ∧ ((p) = (p)) ∧ ((q) = (q)) ∧ True) ∧ (p.length + q.length - (x'.i + x'.k) < p.length + q.length - (x.i + x.k))))))))))))) (((x2.inP = true ∨ x3.inQ = true) ∧ (x3.out.length ≤ 2000000) ∧ (x3.cf.length ≤ 2000000) ∧ (∀ ok : Bool, (∀ out' : List Chg, (∀ cf' : List Int, (((ok) = (base1 (onPair { kind := 0, key := 0, old := 0, new := 0 : Chg } x2.inP { kind := 0, key := 0, old := 0, new := 0 : Chg } x3.inQ))) → ((((ok) = true) → (((out') = (x3.out.append (keep1 (onPair { kind := 0, key := 0, old := 0, new := 0 : Chg } x2.inP { kind := 0, key := 0, old := 0, new := 0 : Chg } x3.inQ)))) ∧ ((cf') = (x3.cf.append (conf1 (onPair { kind := 0, key := 0, old := 0, new := 0 : Chg } x2.inP { kind := 0, key := 0, old := 0, new := 0 : Chg } x3.inQ)))))) → (brS (!ok) ((K (SV.one (TV.at (At.val (Value.bool false)))) [(Chunk.box [(At.slc 2)]), (Chunk.box [(At.slc 3)]), (Chunk.row true (EC.chg) (out')), (Chunk.row true (EC.i64) (cf')), (Chunk.row false (EC.chg) (p)), (Chunk.row false (EC.chg) (q))] [0, 1, 2, 3])) ((∃ x' : XRo p q, (True ∧ ((True ∧ True ∧ ((At.fn 105 [0, 1]) = (At.fn 105 [0, 1])) ∧ ((Value.int IntKind.i64 ((↑x.i : Int))) = (Value.int IntKind.i64 ((↑x'.i : Int)))) ∧ ((Value.int IntKind.i64 ((↑x.k : Int))) = (Value.int IntKind.i64 ((↑x'.k : Int)))) ∧ True) ∧ (True ∧ True) ∧ (True ∧ True) ∧
    ((out') = (x'.out)) ∧ ((cf') = (x'.cf)) ∧ ((p) = (p)) ∧ ((q) = (q)) ∧ True) ∧ (p.length + q.length - (x'.i + x'.k) < p.length + q.length - (x.i + x.k))))))))))))))))))))))) ((K (SV.one (TV.at (At.val (Value.bool true)))) [(Chunk.box [(At.slc 2)]), (Chunk.box [(At.slc 3)]), (Chunk.row true (EC.chg) (x1.out)), (Chunk.row true (EC.i64) (x1.cf)), (Chunk.row false (EC.chg) (p)), (Chunk.row false (EC.chg) (q))] [0, 1, 2, 3]))))))))) = _ by kernel_rfl) ?_
  refine ⟨⟨⟨0, 0, [], [], false, false, Nat.zero_le _, Nat.zero_le _, ⟨Nat.zero_le _, Nat.zero_le _⟩, by unfold reb; simp⟩, by simp⟩, fun x _ => ⟨?_, fun x1 r1 => brS_of (fun hgo => ⟨?_, fun x2 r2 => ⟨?_, fun x3 r3 => ?_⟩⟩) fun hgo => ?_⟩⟩
  · refine brS_of (fun c1 => ⟨⟨x, true, ?_⟩, ?_⟩) fun c1 => ⟨⟨x, decide ((x.k : Int) < (q.length : Int)), ?_⟩, ?_⟩
    · simp at c1; simp [c1]
    · simp
    · simp only [decide_eq_false_iff_not] at c1
      have : ¬ x.i < p.length := by omega
      simp [this]
    · simp
  · obtain ⟨e1, e2⟩ := r1
    have e1 : x.i = x1.i := by omega
    have e2 : x.k = x1.k := by omega
    rw [e1, e2]
    have hh := x1.h
    refine brS_of (fun c1 => brS_of (fun c2 => ⟨⟨⟨x1.i, x1.k, x1.out, x1.cf, true, false, x1.h⟩, ?_⟩, ?_⟩) fun c2 => ⟨by omega, ?_, by omega, ?_, ⟨⟨x1.i, x1.k, x1.out, x1.cf, decide ((cA p x1.i).key ≤ (cA q x1.k).key), false, x1.h⟩, ?_⟩, ?_⟩) fun c1 => ⟨⟨⟨x1.i, x1.k, x1.out, x1.cf, false, false, x1.h⟩, ?_⟩, ?_⟩
    all_goals try simp only [decide_eq_true_eq, decide_eq_false_iff_not, beq_iff_eq, beq_eq_false_iff_ne, ne_eq] at c1 c2
    all_goals try simp only [decide_eq_false_iff_not] at c1
    · have d1 : x1.i < p.length := by omega
      have d2 : x1.k = q.length := by omega
      simp [inL, d1, d2]
    · simp
    · omega
    · omega
    · have d1 : x1.i < p.length := by omega
      have d2 : ¬ x1.k = q.length := by omega
      simp [inL, d1, d2]
    · simp
    · have d1 : ¬ x1.i < p.length := by omega
      simp [inL, d1]
    · simp
  · obtain ⟨e1, e2⟩ := r1
    obtain ⟨e3, e4⟩ := r2
    have e1 : x.i = x2.i := by omega
    have e2 : x.k = x2.k := by omega
    rw [e1, e2]
    have hh := x2.h
    refine brS_of (fun c1 => brS_of (fun c2 => ⟨⟨⟨⟨x2.i, x2.k, x2.out, x2.cf, x2.inP, true, x2.h⟩, x2.hp⟩, ?_⟩, ?_⟩) fun c2 => ⟨by omega, ?_, by omega, ?_, ⟨⟨⟨x2.i, x2.k, x2.out, x2.cf, x2.inP, decide ((cA q x2.k).key ≤ (cA p x2.i).key), x2.h⟩, x2.hp⟩, ?_⟩, ?_⟩) fun c1 => ⟨⟨⟨⟨x2.i, x2.k, x2.out, x2.cf, x2.inP, false, x2.h⟩, x2.hp⟩, ?_⟩, ?_⟩
    all_goals try simp only [decide_eq_true_eq, decide_eq_false_iff_not, beq_iff_eq, beq_eq_false_iff_ne, ne_eq] at c1 c2
    all_goals try simp only [decide_eq_false_iff_not] at c1
    · have d1 : x2.k < q.length := by omega
      have d2 : x2.i = p.length := by omega
      simp [inL, d1, d2]
    · simp
    · omega
    · omega
    · have d1 : x2.k < q.length := by omega
      have d2 : ¬ x2.i = p.length := by omega
      simp [inL, d1, d2]
    · simp
    · have d1 : ¬ x2.k < q.length := by omega
      simp [inL, d1]
    · simp
  · obtain ⟨e1, e2⟩ := r1
    obtain ⟨e3, e4, e5⟩ := r3
    have hne : x.i < p.length ∨ x.k < q.length := by
      have hg := x1.hg
      rw [hgo] at hg
      have hg := hg.symm
      simp only [Bool.or_eq_true, decide_eq_true_eq] at hg
      omega
    have e3 : x3.i = x.i := by omega
    have e4 : x3.k = x.k := by omega
    have hP : x2.inP = inL p q x.i x.k := by rw [e5, x3.hp, e3, e4]
    have hQ : x3.inQ = inL q p x.k x.i := by rw [x3.hq, e3, e4]
    have hG := x3.h
    rw [e3, e4] at hG
    obtain ⟨g1, g2, g3, _⟩ := both_next hG.1 hG.2.1 hne hP hQ
    have hl : x3.out.length ≤ 2000000 := by omega
    have hl2 : x3.cf.length ≤ 2000000 := by omega
    have go : ∀ {c d : Chg} {ok : Bool} {out' : List Chg} {cf' : List Int}, (x2.inP = true → c = cA p x.i) → (x3.inQ = true → d = cA q x.k) → ok = base1 (onPair c x2.inP d x3.inQ) → (ok = true → out' = x3.out ++ keep1 (onPair c x2.inP d x3.inQ) ∧ cf' = x3.cf ++ conf1 (onPair c x2.inP d x3.inQ)) →
        (ok = false → reb p q = none) ∧ (ok = true → inc x2.inP x.i ≤ p.length ∧ inc x3.inQ x.k ≤ q.length ∧ (out'.length ≤ inc x2.inP x.i + inc x3.inQ x.k ∧ cf'.length ≤ inc x2.inP x.i + inc x3.inQ x.k) ∧ reb p q = (rebGo (pC (p.drop (inc x2.inP x.i)) (q.drop (inc x3.inQ x.k)))).map (fun r => (out' ++ r.1, cf' ++ r.2))) :=
      fun hc hd hok ho => reb_step hG hne hP hQ hc hd hok ho
    have w1 : x.i < p.length → IntKind.i64.wrap ((x.i : Int) + 1) = ((x.i + 1 : Nat) : Int) := fun hlt => wrap_next hlt (by omega)
    have w2 : x.k < q.length → IntKind.i64.wrap ((x.k : Int) + 1) = ((x.k + 1 : Nat) : Int) := fun hlt => wrap_next hlt (by omega)
    refine brS_of (fun a1 => ⟨by omega, ?_, brS_of (fun a2 => ⟨by omega, ?_, g1, hl, hl2, fun ok out' cf' hok ho => ?_⟩) fun a2 => ⟨g1, hl, hl2, fun ok out' cf' hok ho => ?_⟩⟩) fun a1 => brS_of (fun a2 => ⟨by omega, ?_, g1, hl, hl2, fun ok out' cf' hok ho => ?_⟩) fun a2 => ⟨g1, hl, hl2, fun ok out' cf' hok ho => ?_⟩
    · have := g2 a1; omega
    · have := g3 a2; omega
    · obtain ⟨z1, z2⟩ := go (fun _ => rfl) (fun _ => rfl) hok ho
      refine brS_of (fun b1 => ?_) fun b1 => ?_
      · have b1 : ok = false := by simpa using b1
        exact h false out' cf' (by rw [z1 b1]; rfl) (by rw [z1 b1]; intro r hr; cases hr)
      · have b1 : ok = true := by simpa using b1
        have z3 := z2 b1
        rw [a1, a2] at z3
        simp only [inc, if_true] at z3
        have := g2 a1; have := g3 a2
        rw [w1 (g2 a1), w2 (g3 a2)]
        refine ⟨⟨_, _, out', cf', false, false, z3⟩, ?_⟩
        simp
        omega
    · obtain ⟨z1, z2⟩ := go (fun _ => rfl) (fun hh => by rw [a2] at hh; cases hh) hok ho
      refine brS_of (fun b1 => ?_) fun b1 => ?_
      · have b1 : ok = false := by simpa using b1
        exact h false out' cf' (by rw [z1 b1]; rfl) (by rw [z1 b1]; intro r hr; cases hr)
      · have b1 : ok = true := by simpa using b1
        have z3 := z2 b1
        rw [a1, a2] at z3
        simp only [inc, if_true, Bool.false_eq_true, if_false] at z3
        have := g2 a1
        rw [w1 (g2 a1)]
        refine ⟨⟨_, _, out', cf', false, false, z3⟩, ?_⟩
        simp
        omega
    · have := g3 a2; omega
    · obtain ⟨z1, z2⟩ := go (fun hh => by rw [a1] at hh; cases hh) (fun _ => rfl) hok ho
      refine brS_of (fun b1 => ?_) fun b1 => ?_
      · have b1 : ok = false := by simpa using b1
        exact h false out' cf' (by rw [z1 b1]; rfl) (by rw [z1 b1]; intro r hr; cases hr)
      · have b1 : ok = true := by simpa using b1
        have z3 := z2 b1
        rw [a1, a2] at z3
        simp only [inc, if_true, Bool.false_eq_true, if_false] at z3
        have := g3 a2
        rw [w2 (g3 a2)]
        refine ⟨⟨_, _, out', cf', false, false, z3⟩, ?_⟩
        simp
        omega
    · rw [a1, a2] at g1; simp at g1
  · have hne : ¬ (x1.i < p.length ∨ x1.k < q.length) := by
      have hg := x1.hg
      rw [hgo] at hg
      have hg := hg.symm
      simp only [Bool.or_eq_false_iff, decide_eq_false_iff_not] at hg
      omega
    have e := reb_end x1.h hne
    exact h true x1.out x1.cf (by rw [e]; rfl) (by rw [e]; intro r hr; exact Option.some.inj hr)
theorem s_bothR : SoundT C0 104 tBothR := by
  refine .ofW [0, 1, 2, 3] Try.func104 (by decide) rfl fun args H K h hB => ?_
  unfold tBothR at h
  split at h <;> try exact h.elim
  rename_i p q
  exact ⟨aBothR p q, ⟨frame C0.ok s_reb1 _, trivial⟩, vc_bothR p q K h.1 h.2⟩
theorem vc_reb (p q : List Chg) (K : KT) (hsm : p.length + q.length ≤ 1000000) (h : ∀ (r : List Chg) (c : List Int) (e : Int), (r, c, e) = rebR p q → K (.tup [.at (.slc 2), .at (.slc 3), .at (vI e)]) [.row false EC.chg p, .row false EC.chg q, .row true EC.chg r, .row true EC.i64 c] []) :
    vc C0 aReb Try.f52 [.at (.slc 0), .at (.slc 1)] [.row false EC.chg p, .row false EC.chg q] (normK 2 K) := by
  refine Eq.mp (show (brS (!valB p) ((K (SV.tup [(TV.at (At.slc 2)), (TV.at (At.slc 3)), (TV.at (At.val (Value.int IntKind.i64 1)))]) [(Chunk.row false (EC.chg) (p)), (Chunk.row false (EC.chg) (q)), (Chunk.row true (EC.chg) []), (Chunk.row true (EC.i64) [])] [])) ((brS (!valB q) ((K (SV.tup [(TV.at (At.slc 2)), (TV.at (At.slc 3)), (TV.at (At.val (Value.int IntKind.i64 1)))]) [(Chunk.row false (EC.chg) (p)), (Chunk.row false (EC.chg) (q)), (Chunk.row true (EC.chg) []), (Chunk.row true (EC.i64) [])] [])) (((p.length + q.length ≤ 1000000) ∧ (∀ ok : Bool, (∀ out' : List Chg, (∀ cf' : List Int, (((ok) = ((reb p q).isSome)) → ((∀ r : List Chg × List Int, (((reb p q) = (some (r))) → ((Prod.mk (out') (cf')) = (r)))) → (brS (!ok) ((K (SV.tup [(TV.at (At.slc 2)), (TV.at (At.slc 3)), (TV.at (At.val (Value.int IntKind.i64 9)))]) [(Chunk.row false (EC.chg) (p)), (Chunk.row false (EC.chg) (q)), (Chunk.row true (EC.chg) []), (Chunk.row true (EC.i64) [])] [])) ((K (SV.tup [(TV.at (At.slc 2)), (TV.at (At.slc 3)), (TV.at (At.val (Value.int IntKind.i64 0)))]) [(Chunk.row false (EC.chg) (p)), (Chunk.row false (EC.chg) (q)), (Chunk.row true (EC.chg) (out')), (Chunk.row true (EC.i64) (cf'))] []))))))))))))) = _ by kernel_rfl) ?_
  refine brS_of (fun h1 => h [] [] 1 ?_) fun h1 => brS_of (fun h2 => h [] [] 1 ?_) fun h2 => ⟨hsm, fun ok out' cf' hok ho => brS_of (fun h3 => h [] [] 9 ?_) fun h3 => h out' cf' 0 ?_⟩
  · simp at h1; simp [rebR, h1]
  · simp at h2; simp [rebR, h2]
  · simp at h1 h2 h3
    rw [h3] at hok
    cases hc : reb p q with
    | none => simp [rebR, h1, h2, hc]
    | some r => rw [hc] at hok; cases hok
  · simp at h1 h2 h3
    rw [h3] at hok
    obtain ⟨r, hc⟩ := Option.isSome_iff_exists.1 hok.symm
    have e := ho r hc
    subst e
    simp [rebR, h1, h2, hc]
theorem s_reb : SoundT C0 52 tReb := by
  refine .of Try.func52 (by decide) rfl fun args H K h hB => ?_
  unfold tReb at h
  split at h <;> try exact h.elim
  rename_i p q
  exact ⟨aReb, ⟨frame C0.ok s_valid _, frame C0.ok s_bothR _, trivial⟩, vc_reb p q K h.1 h.2⟩
def ap1 (out : List Ent) (c : Chg) : List Ent := match c.after with
  | some v => insE out (c.key, v)
  | none => outE out c.key c.key
def fitB (l : List Ent) (p : List Chg) : Bool := p.all fun c => decide (getE l c.key = c.before)
def app19R (l : List Ent) (p : List Chg) : List Ent × Int := if ascB l && valB p then (if fitB l p then (p.foldl ap1 l, 0) else ([], 9)) else ([], 1)
structure XA9 (l : List Ent) (p : List Chg) where
  i : Nat
  out : List Ent
  h : i ≤ p.length ∧ out.length ≤ l.length + i ∧ fitB l (p.take i) = true ∧ out = (p.take i).foldl ap1 l
structure XA9b (l : List Ent) (p : List Chg) extends XA9 l p where
  b : Bool
  hb : b = !decide (getE l (cA p i).key = (cA p i).before)
def tApp19 : Tfm C0 := fun args H K => match args, H with
  | [.at (.slc 0), .at (.slc 1)], [.row false .ent l, .row false .chg p] => l.length + p.length ≤ 1000000 ∧ (∀ (r : List Ent) (e : Int), (r, e) = app19R l p → K (.tup [.at (.slc 2), .at (vI e)]) [.row false EC.ent l, .row false EC.chg p, .row true EC.ent r] []) ∧
    (p.length = 0 → ascB l = true → K (.tup [.at (.slc 0), .at (vI 0)]) [.row false EC.ent l, .row false EC.chg p] [])
  | _, _ => False
theorem ap1_len (l : List Ent) (c : Chg) : (ap1 l c).length ≤ l.length + 1 := by
  unfold ap1
  split
  · exact insE_len _ _
  · exact Nat.le_trans (outE_le _ _ _) (by omega)
theorem fit_snoc {l : List Ent} {p : List Chg} {i : Nat} (hi : i < p.length) : fitB l (p.take (i + 1)) = (fitB l (p.take i) && decide (getE l (cA p i).key = (cA p i).before)) := by
  unfold fitB
  rw [take_snoc (cA_get hi), List.all_append]; simp
theorem fold_snoc {l : List Ent} {p : List Chg} {i : Nat} (hi : i < p.length) : (p.take (i + 1)).foldl ap1 l = ap1 ((p.take i).foldl ap1 l) (cA p i) := by
  rw [take_snoc (cA_get hi), List.foldl_append]; rfl
theorem XA9.next {l : List Ent} {p : List Chg} (z : XA9 l p) (hi : z.i < p.length) (hb : getE l (cA p z.i).key = (cA p z.i).before) : (z.i + 1 ≤ p.length ∧ (ap1 z.out (cA p z.i)).length ≤ l.length + (z.i + 1) ∧ fitB l (p.take (z.i + 1)) = true ∧ ap1 z.out (cA p z.i) = (p.take (z.i + 1)).foldl ap1 l) := by
  obtain ⟨h1, h2, h3, h4⟩ := z.h
  refine ⟨hi, ?_, ?_, ?_⟩
  · have := ap1_len z.out (cA p z.i); omega
  · rw [fit_snoc hi, h3]; simpa using hb
  · rw [fold_snoc hi, ← h4]
end Go.Proofs.Ytmjnoiajenoinaa.Sx.P19
end
section
/- merge: fits and Apply; their reservation. -/
namespace Go.Proofs.Ytmjnoiajenoinaa.Sx
open Go

/-KEEP Wf exW inU live Arn.cap Arn.free Rep rdS retL Tr.size Tr.list Tr.Bal TrR Got getE Asc Hn fnd Srt perfE PfM Del Fits valB app Val-/
theorem fits_nil (l : List Ent) : Fits l [] := fun _ h => by cases h
theorem fits_snoc {l : List Ent} {p : List Chg} {i : Nat} (h : i < p.length) : Fits l (p.take (i + 1)) ↔ Fits l (p.take i) ∧ getE l (cA p i).key = (cA p i).before := by
  rw [take_snoc (cA_get h)]
  constructor
  · exact fun f => ⟨fun c hc => f c (List.mem_append.2 (.inl hc)), f _ (List.mem_append.2 (.inr (List.mem_singleton.2 rfl)))⟩
  · rintro ⟨f, g⟩ c hc
    rcases List.mem_append.1 hc with hc | hc
    · exact f c hc
    · rw [List.mem_singleton.1 hc]; exact g
theorem app_perf {l r : List Ent} {p : List Chg} (hl : Asc l) (hp : Val p) (h : app l p = some r) : perfE l p = r := by
  have a := app_some hl hp.1 h
  have b := perf_spec hp.1 hl
  exact Asc.ext b.1 a.1 fun k => by rw [b.2.2, a.2]
theorem fits_del {l : List Ent} {p : List Chg} (hf : Fits l p) : Del l p := fun c hc hk => by
  rw [hasK_get, hf c hc]
  unfold Chg.before
  rw [if_neg (by omega)]
  rfl
structure XFi (S : Arn) (l : List Ent) (p : List Chg) (N : Nat) where
  i : Nat
  m : Nat
  h : i ≤ p.length ∧ m ≤ N * i ∧ Fits l (p.take i)
noncomputable def aFi (S : Arn) (l : List Ent) (p : List Chg) (N : Nat) : Ann C0 := { Γ := [(69, frameT [] tGetT)], inv := fun n => match n with
  | 2 => some { X := XFi S l p N, sl := [13], wr := [0], tf := fun x => [vi .i64 x.i], hf := fun x => chS (rdS S x.m) ++ [.row false EC.chg p], μ := fun x => p.length - x.i }
  | _ => none }
def tFi : Tfm C0 := fun args H K => match args with
  | [.at (.ptr 0 0), .at (.val (.int .u32 i)), .at (.slc 7)] => arMr H fun S rest => match rest with
    | [.row false .chg p] => ∃ hs t, Wf S hs ∧ Rep S t i ∧ Asc t.list ∧ t.size ≤ 30000 ∧ p.length ≤ 30000 ∧ S.reads ≤ 500000000000000000 ∧
      ∀ S' m b, S' = rdS S m → m ≤ 30000 * p.length → (b = true ↔ Fits t.list p) → K (.one (.at (vB b))) (chS S' ++ [.row false EC.chg p]) [0]
    | _ => False
  | _ => False
def tResA : Tfm C0 := fun args H K => match args, H with
  | [.at (.val (.int .i64 a)), .at (.val (.int .i64 b))], [] => 0 ≤ a ∧ a ≤ 30000 ∧ 0 ≤ b ∧ b ≤ 30000 ∧ ∀ p, p = a + b + 4 * (Hn (a + b) + 2) → K (.one (.at (vI p))) [] []
  | _, _ => False
def needA (t : Tr) (n : Nat) : Int := (t.size : Int) + n + 4 * (Hn ((t.size : Int) + n) + 2)
structure ApM (S : Arn) (hs : List Int) (t : Tr) (i : Int) (p : List Chg) : Prop where
  wf : Wf S hs
  rep : Rep S t i
  bal : t.Bal
  asc : Asc t.list
  sz : t.size ≤ 30000
  len : p.length ≤ 30000
  hl : hs.length ≤ 900000
  rd : S.reads ≤ 500000000000000000
def ApR (S : Arn) (hs : List Int) (t : Tr) (i : Int) (p : List Chg) (S' : Arn) (j e : Int) : Prop :=
  (valB p = false ∧ e = 1 ∧ j = 0 ∧ S' = S) ∨
  (valB p = true ∧ ¬ Fits t.list p ∧ e = 9 ∧ j = 0 ∧ ∃ m, m ≤ 900000000 ∧ S' = rdS S m) ∨
  (valB p = true ∧ Fits t.list p ∧ p.length = 0 ∧ e = 0 ∧ j = i ∧ S' = retL S i) ∨
  (valB p = true ∧ Fits t.list p ∧ 0 < p.length ∧ S.free < needA t p.length ∧ e = 2 ∧ j = 0 ∧ ∃ m, m ≤ 900000001 ∧ S' = rdS S m) ∨
  (valB p = true ∧ Fits t.list p ∧ 0 < p.length ∧ needA t p.length ≤ S.free ∧ e = 0 ∧ TrR S hs (perfE t.list p) 65537 2000000000 S' j)
noncomputable def aAp : Ann C0 := { Γ := [(103, frameT [] P19.tValid), (108, frameT [] tFi), (73, frameT [] tHold), (17, frameT [] tSize), (109, frameT [] tResA), (70, frameT [] tRoom), (99, frameT [] tPf)] }
def tAp : Tfm C0 := fun args H K => match args with
  | [.at (.ptr 0 0), .at (.val (.int .u32 i)), .at (.slc 7)] => arMr H fun S rest => match rest with
    | [.row false .chg p] => ∃ hs t, ApM S hs t i p ∧ ∀ S' j e, ApR S hs t i p S' j e → K (.tup [.at (vU j), .at (vI e)]) (chS S' ++ [.row false EC.chg p]) W7
    | _ => False
  | _ => False
theorem s_rAp : SoundT C0 109 tResA := by
  refine .of Try.func109 (by decide) rfl fun args H K h hB => ?_
  unfold tResA at h
  split at h <;> try exact h.elim
  rename_i a b
  obtain ⟨h1, h2, h3, h4, h7⟩ := h
  refine ⟨aRes, ⟨frame C0.ok s_vld _, frame C0.ok s_path _, trivial⟩, Eq.mp (show ((∀ i : Nat, ((i < [a, b].length) → ((0 ≤ [a, b].getD i 0) ∧ ([a, b].getD i 0 ≤ 65536)))) ∧
([a, b].length ≤ 100) ∧
((0 : Int) ≤ 4) ∧
((4 : Int) ≤ 100) ∧
(0 ≤ IntKind.i64.wrap (a + b)) ∧
(IntKind.i64.wrap (a + b) ≤ 1000000) ∧
(∀ p : Int, (((p) = (4 * (Hn (IntKind.i64.wrap (a + b)) + 2))) → (K (SV.one (TV.at (At.val (Value.int IntKind.i64 (IntKind.i64.wrap (IntKind.i64.wrap (a + b) + p)))))) [] [])))) = _ by kernel_rfl) ?_⟩
  rw [wrap_id (x := a + b) (by omega) (by omega)]
  refine ⟨okI_two h1 (by omega) h3 (by omega), by simp, by decide, by decide, by omega, by omega, fun p e => ?_⟩
  have r := Hn_rng (a + b)
  subst e
  rw [wrap_id (by omega) (by omega)]
  exact h7 _ rfl
theorem us_b1' (b : Bool) : b.toNat ≤ 1 := by cases b <;> decide
theorem vc_fi (S : Arn) (p : List Chg) (i : Int) (K : KT) (hs : List Int) (t : Tr) (w : Wf S hs) (rp : Rep S t i) (asc : Asc t.list) (sz : t.size ≤ 30000) (lp : p.length ≤ 30000) (rd : S.reads ≤ 500000000000000000)
    (h : ∀ S' m b, S' = rdS S m → m ≤ 30000 * p.length → (b = true ↔ Fits t.list p) → K (.one (.at (vB b))) (chS S' ++ [.row false EC.chg p]) [0]) :
    vc C0 (aFi S t.list p 30000) Try.f108 [.at (.ptr 0 0), .at (vU i), .at (.slc 7)] (chS S ++ [.row false EC.chg p]) (normK 8 (wideK [0] K)) := by
  generalize hN : 30000 = N
  generalize hl : t.list = l
  refine Eq.mp (show ((∃ x : XFi S l p N, (True ∧ (True ∧ ((Value.int IntKind.u32 (i)) = (Value.int IntKind.u32 (i))) ∧ True ∧ ((Value.int IntKind.i64 ((↑p.length : Int))) = (Value.int IntKind.i64 ((↑p.length : Int)))) ∧ ((Value.int IntKind.i64 0) = (Value.int IntKind.i64 ((↑x.i : Int)))) ∧ True) ∧ (True ∧ True ∧ True ∧ ((Value.int IntKind.u64 (S.reads)) = (Value.int IntKind.u64 ((rdS S x.m).reads))) ∧ True) ∧ (True ∧ True ∧ True ∧ ((Value.int IntKind.u32 (S.fresh)) = (Value.int IntKind.u32 ((rdS S x.m).fresh))) ∧ True) ∧ ((S.nodes) = ((rdS S x.m).nodes)) ∧ ((S.counts) = ((rdS S x.m).counts)) ∧ ((S.used) = ((rdS S x.m).used)) ∧ ((S.gen) = ((rdS S x.m).gen)) ∧ ((S.rel) = ((rdS S x.m).rel)) ∧ ((p) = (p)) ∧ True)) ∧
(∀ x : XFi S l p N, (True → (brS (decide ((↑x.i : Int) < (↑p.length : Int))) (((0 ≤ (↑x.i : Int)) ∧ ((↑x.i : Int) < (↑p.length : Int)) ∧ (∃ hs : List Int, (∃ t : Tr, ((Wf (rdS S x.m) hs) ∧ (Rep (rdS S x.m) t i) ∧ (Asc t.list) ∧ (t.size ≤ 1000000) ∧ ((rdS S x.m).reads + (↑t.size : Int) ≤ 3000000000000000000) ∧ (∀ S' : Arn, (∀ m : Nat, (∀ o : Option Int, (((S') = (rdS (rdS S x.m) m)) → ((m ≤ ht t) → (((o) = (getE t.list (cA p x.i).key)) → (brS (!o.isSome == ((cA p x.i).kind != 1))
    ((K (SV.one (TV.at (At.val (Value.bool false)))) [(Chunk.box [(At.ptr 1 0), (At.slc 2), (At.slc 3), (At.val (Value.int IntKind.u64 (S'.reads)))]), (Chunk.box [(At.slc 4), (At.slc 5), (At.slc 6), (At.val (Value.int IntKind.u32 (S'.fresh)))]), (Chunk.row true (EC.node) (S'.nodes)), (Chunk.row true (EC.int) (S'.counts)), (Chunk.row true (EC.bool) (S'.used)), (Chunk.row true (EC.u32) (S'.gen)), (Chunk.row true (EC.u32) (S'.rel)), (Chunk.row false (EC.chg) (p))] [0])) ((brS (o.isSome) ((brS (o.getD 0 != (cA p x.i).old) ((K (SV.one (TV.at (At.val (Value.bool false)))) [(Chunk.box [(At.ptr 1 0), (At.slc 2), (At.slc 3), (At.val (Value.int IntKind.u64 (S'.reads)))]), (Chunk.box [(At.slc 4), (At.slc 5), (At.slc 6), (At.val (Value.int IntKind.u32 (S'.fresh)))]), (Chunk.row true (EC.node) (S'.nodes)), (Chunk.row true (EC.int) (S'.counts)), (Chunk.row true (EC.bool) (S'.used)), (Chunk.row true (EC.u32) (S'.gen)), (Chunk.row true (EC.u32) (S'.rel)), (Chunk.row false (EC.chg) (p))] [0])) ((∃ x' : XFi S l p N, (True ∧ ((True ∧ ((Value.int IntKind.u32 (i)) = (Value.int IntKind.u32 (i))) ∧ True ∧ ((Value.int IntKind.i64 ((↑p.length : Int))) = (Value.int IntKind.i64 ((↑p.length : Int)))) ∧ ((Value.int IntKind.i64 (IntKind.i64.wrap ((↑x.i : Int) + 1))) = (Value.int IntKind.i64 ((↑x'.i : Int)))) ∧ True) ∧ (True ∧ True ∧ True ∧ ((Value.int IntKind.u64 (S'.reads)) = (Value.int IntKind.u64 ((rdS S x'.m).reads))) ∧ True) ∧ (True ∧ True ∧ True ∧
    ((Value.int IntKind.u32 (S'.fresh)) = (Value.int IntKind.u32 ((rdS S x'.m).fresh))) ∧ True) ∧ ((S'.nodes) = ((rdS S x'.m).nodes)) ∧ ((S'.counts) = ((rdS S x'.m).counts)) ∧ ((S'.used) = ((rdS S x'.m).used)) ∧ ((S'.gen) = ((rdS S x'.m).gen)) ∧ ((S'.rel) = ((rdS S x'.m).rel)) ∧ ((p) = (p)) ∧ True) ∧ (p.length - x'.i < p.length - x.i)))))) ((∃ x' : XFi S l p N, (True ∧ ((True ∧ ((Value.int IntKind.u32 (i)) = (Value.int IntKind.u32 (i))) ∧ True ∧ ((Value.int IntKind.i64 ((↑p.length : Int))) = (Value.int IntKind.i64 ((↑p.length : Int)))) ∧ ((Value.int IntKind.i64 (IntKind.i64.wrap ((↑x.i : Int) + 1))) = (Value.int IntKind.i64 ((↑x'.i : Int)))) ∧ True) ∧ (True ∧ True ∧ True ∧ ((Value.int IntKind.u64 (S'.reads)) = (Value.int IntKind.u64 ((rdS S x'.m).reads))) ∧ True) ∧ (True ∧ True ∧ True ∧ ((Value.int IntKind.u32 (S'.fresh)) = (Value.int IntKind.u32 ((rdS S x'.m).fresh))) ∧ True) ∧ ((S'.nodes) = ((rdS S x'.m).nodes)) ∧ ((S'.counts) = ((rdS S x'.m).counts)) ∧ ((S'.used) = ((rdS S x'.m).used)) ∧ ((S'.gen) = ((rdS S x'.m).gen)) ∧ ((S'.rel) = ((rdS S x'.m).rel)) ∧ ((p) = (p)) ∧ True) ∧ (p.length - x'.i < p.length - x.i))))))))))))))))))
    ((K (SV.one (TV.at (At.val (Value.bool true)))) [(Chunk.box [(At.ptr 1 0), (At.slc 2), (At.slc 3), (At.val (Value.int IntKind.u64 ((rdS S x.m).reads)))]), (Chunk.box [(At.slc 4), (At.slc 5), (At.slc 6), (At.val (Value.int IntKind.u32 ((rdS S x.m).fresh)))]), (Chunk.row true (EC.node) ((rdS S x.m).nodes)), (Chunk.row true (EC.int) ((rdS S x.m).counts)), (Chunk.row true (EC.bool) ((rdS S x.m).used)), (Chunk.row true (EC.u32) ((rdS S x.m).gen)), (Chunk.row true (EC.u32) ((rdS S x.m).rel)), (Chunk.row false (EC.chg) (p))] [0])))))) = _ by kernel_rfl) ?_
  subst hl hN
  have hts := htr_size t
  refine ⟨⟨⟨0, 0, Nat.zero_le _, Nat.zero_le _, fits_nil _⟩, ?_⟩, fun x _ => ?_⟩
  · rw [rdS_zero]
    (repeat' first | exact trivial | exact rfl | refine And.intro ?_ ?_)
  obtain ⟨k, m, hk, hm, hf⟩ := x
  dsimp only
  have mk : 30000 * k ≤ 30000 * p.length := Nat.mul_le_mul_left _ hk
  have mp : 30000 * p.length ≤ 30000 * 30000 := Nat.mul_le_mul_left _ lp
  have r1 : (rdS S m).reads = S.reads + m := rfl
  refine brS_of (fun c => ?_) fun c => ?_
  · have c : k < p.length := by have := of_decide_eq_true c; omega
    have mk1 : 30000 * (k + 1) ≤ 30000 * p.length := Nat.mul_le_mul_left _ c
    have mx : 30000 * (k + 1) = 30000 * k + 30000 := Nat.mul_succ _ _
    have nx : IntKind.i64.wrap ((k : Int) + 1) = ((k + 1 : Nat) : Int) := wrap_next c (by omega)
    have sn := fits_snoc (l := t.list) c
    refine ⟨by omega, by omega, hs, t, w.rd (by omega), rp.rdn, asc, by omega, by omega, fun S1 m1 o e1 hm1 eo => ?_⟩
    have e1 : S1 = rdS S (m + m1) := by rw [e1, rdS_rdS]
    have bad : ¬ getE t.list (cA p k).key = (cA p k).before → K (.one (.at (vB false))) (chS S1 ++ [.row false EC.chg p]) [0] := fun g =>
      h S1 (m + m1) false e1 (by omega) ⟨fun e => (by cases e), fun f => absurd (f _ (List.mem_of_getElem? (cA_get c))) g⟩
    have good : getE t.list (cA p k).key = (cA p k).before → ∃ x : XFi S t.list p 30000, (x.i = k + 1 ∧ x.m = m + m1) := fun g => ⟨⟨k + 1, m + m1, c, by omega, sn.2 ⟨hf, g⟩⟩, rfl, rfl⟩
    rw [← eo] at bad good
    have fin : o = (cA p k).before → ((∃ x' : XFi S t.list p 30000,
                    (True ∧
                    ((True ∧
                    ((Value.int IntKind.u32 (i)) = (Value.int IntKind.u32 (i))) ∧
                    True ∧
                    ((Value.int IntKind.i64 ((↑p.length : Int))) = (Value.int IntKind.i64 ((↑p.length : Int)))) ∧
                    ((Value.int IntKind.i64 (IntKind.i64.wrap ((↑k : Int) + 1))) = (Value.int IntKind.i64 ((↑x'.i : Int)))) ∧
                    True) ∧
                    (True ∧
                    True ∧
                    True ∧
                    ((Value.int IntKind.u64 (S1.reads)) = (Value.int IntKind.u64 ((rdS S x'.m).reads))) ∧
                    True) ∧
                    (True ∧
                    True ∧
                    True ∧
                    ((Value.int IntKind.u32 (S1.fresh)) = (Value.int IntKind.u32 ((rdS S x'.m).fresh))) ∧
                    True) ∧
                    ((S1.nodes) = ((rdS S x'.m).nodes)) ∧
                    ((S1.counts) = ((rdS S x'.m).counts)) ∧
                    ((S1.used) = ((rdS S x'.m).used)) ∧
                    ((S1.gen) = ((rdS S x'.m).gen)) ∧
                    ((S1.rel) = ((rdS S x'.m).rel)) ∧
                    ((p) = (p)) ∧
                    True) ∧
                    (p.length - x'.i < p.length - k)))) := fun g => by
      obtain ⟨x, g1, g2⟩ := good g
      refine ⟨x, trivial, ?_, by rw [g1]; show p.length - (k + 1) < p.length - k; omega⟩
      rw [g1, g2, ← e1]
      (repeat' first | exact trivial | exact rfl | exact congrArg (Value.int .i64) nx | refine And.intro ?_ ?_)
    unfold Chg.before at bad fin
    refine brS_of (fun g => bad ?_) fun g => brS_of (fun q => brS_of (fun d => bad ?_) fun d => fin ?_) fun q => fin ?_
    · cases o with
      | none =>
        have : (cA p k).kind ≠ 1 := by simpa using g
        rw [if_neg this]
        exact fun e => by cases e
      | some v =>
        have : (cA p k).kind = 1 := by simpa using g
        rw [if_pos this]
        exact fun e => by cases e
    · obtain ⟨v, rfl⟩ : ∃ v, o = some v := by cases o with | none => cases q | some v => exact ⟨v, rfl⟩
      have : v ≠ (cA p k).old := by simpa using d
      split
      · exact fun e => by cases e
      · exact fun e => this (Option.some.inj e)
    · obtain ⟨v, rfl⟩ : ∃ v, o = some v := by cases o with | none => cases q | some v => exact ⟨v, rfl⟩
      have e1 : (cA p k).kind ≠ 1 := by simpa using g
      have e2 : v = (cA p k).old := by simpa using d
      rw [if_neg e1, e2]
    · obtain rfl : o = none := by cases o with | none => rfl | some v => cases q
      have e1 : (cA p k).kind = 1 := by simpa using g
      rw [if_pos e1]
  · have e : k = p.length := by have := of_decide_eq_false c; omega
    rw [e, List.take_length] at hf
    exact h _ m true rfl (by omega) ⟨fun _ => hf, fun _ => rfl⟩
theorem s_fi : SoundT C0 108 tFi := by
  refine .ofW [0] Try.func108 (by decide) rfl fun args H K h hB => ?_
  unfold tFi at h
  split at h <;> try exact h.elim
  unfold arMr at h
  split at h <;> try exact h.elim
  dsimp only at h
  split at h <;> try exact h.elim
  rename_i i _ rd fr nd ct us gn rl _ p
  obtain ⟨hs, t, h1, h2, h3, h4, h5, h6, h7⟩ := h
  refine ⟨_, ?_, vc_fi ⟨us, gn, rl, fr, nd, ct, rd⟩ p i K hs t h1 h2 h3 h4 h5 h6 h7⟩
  exact ⟨frame C0.ok s_getT _, trivial⟩
theorem vc_ap (S : Arn) (p : List Chg) (i : Int) (K : KT) (hs : List Int) (t : Tr) (hm : ApM S hs t i p) (h : ∀ S' j e, ApR S hs t i p S' j e → K (.tup [.at (vU j), .at (vI e)]) (chS S' ++ [.row false EC.chg p]) W7) :
    vc C0 aAp Try.f53 [.at (.ptr 0 0), .at (vU i), .at (.slc 7)] (chS S ++ [.row false EC.chg p]) (normK 8 (wideK W7 K)) := by
  refine Eq.mp (show (brS (!valB p) ((K (SV.tup [(TV.at (At.val (Value.int IntKind.u32 0))), (TV.at (At.val (Value.int IntKind.i64 1)))]) [(Chunk.box [(At.ptr 1 0), (At.slc 2), (At.slc 3), (At.val (Value.int IntKind.u64 (S.reads)))]), (Chunk.box [(At.slc 4), (At.slc 5), (At.slc 6), (At.val (Value.int IntKind.u32 (S.fresh)))]), (Chunk.row true (EC.node) (S.nodes)), (Chunk.row true (EC.int) (S.counts)), (Chunk.row true (EC.bool) (S.used)), (Chunk.row true (EC.u32) (S.gen)), (Chunk.row true (EC.u32) (S.rel)), (Chunk.row false (EC.chg) (p))] [0, 1, 2, 3, 4, 5, 6])) ((∃ hs : List Int, (∃ t : Tr, ((Wf S hs) ∧ (Rep S t i) ∧ (Asc t.list) ∧ (t.size ≤ 30000) ∧ (p.length ≤ 30000) ∧ (S.reads ≤ 500000000000000000) ∧ (∀ S' : Arn, (∀ m : Nat, (∀ b : Bool, (((S') = (rdS S m)) → ((m ≤ 30000 * p.length) → ((b = true ↔ Fits t.list p) → (brS (!b) ((K (SV.tup [(TV.at (At.val (Value.int IntKind.u32 0))), (TV.at (At.val (Value.int IntKind.i64 9)))]) [(Chunk.box [(At.ptr 1 0), (At.slc 2), (At.slc 3), (At.val (Value.int IntKind.u64 (S'.reads)))]), (Chunk.box [(At.slc 4), (At.slc 5), (At.slc 6), (At.val (Value.int IntKind.u32 (S'.fresh)))]), (Chunk.row true (EC.node) (S'.nodes)), (Chunk.row true (EC.int) (S'.counts)), (Chunk.row true (EC.bool) (S'.used)), (Chunk.row true (EC.u32) (S'.gen)), (Chunk.row true (EC.u32) (S'.rel)), (Chunk.row false (EC.chg) (p))] [0, 1, 2, 3, 4, 5, 6])) ((brS ((↑p.length : Int) == 0) (((live S' i) ∧ (exW S') ∧ (∀ S'1 : Arn, (((S'1) = (retL S' i)) →
    (K (SV.tup [(TV.at (At.val (Value.int IntKind.u32 (i)))), (TV.at (At.val (Value.int IntKind.i64 0)))]) [(Chunk.box [(At.ptr 1 0), (At.slc 2), (At.slc 3), (At.val (Value.int IntKind.u64 (S'1.reads)))]), (Chunk.box [(At.slc 4), (At.slc 5), (At.slc 6), (At.val (Value.int IntKind.u32 (S'1.fresh)))]), (Chunk.row true (EC.node) (S'1.nodes)), (Chunk.row true (EC.int) (S'1.counts)), (Chunk.row true (EC.bool) (S'1.used)), (Chunk.row true (EC.u32) (S'1.gen)), (Chunk.row true (EC.u32) (S'1.rel)), (Chunk.row false (EC.chg) (p))] [0, 1, 2, 3, 4, 5, 6]))))) (((inU i) ∧ (exW S') ∧ (S'.reads < 4000000000000000000) ∧ (∀ S'1 : Arn, (((S'1) = (rdS S' (S'.us i).toNat)) → ((0 ≤ (S'.nd i).size) ∧ ((S'.nd i).size ≤ 30000) ∧ (0 ≤ (↑p.length : Int)) ∧ ((↑p.length : Int) ≤ 30000) ∧ (∀ p1 : Int, (((p1) = ((S'.nd i).size + (↑p.length : Int) + 4 * (Hn ((S'.nd i).size + (↑p.length : Int)) + 2))) → ((exW S'1) ∧ (∀ b1 : Bool, (((b1) = (decide (0 ≤ p1) && decide (p1 ≤ S'1.free))) → (brS (!b1)
    ((K (SV.tup [(TV.at (At.val (Value.int IntKind.u32 0))), (TV.at (At.val (Value.int IntKind.i64 2)))]) [(Chunk.box [(At.ptr 1 0), (At.slc 2), (At.slc 3), (At.val (Value.int IntKind.u64 (S'1.reads)))]), (Chunk.box [(At.slc 4), (At.slc 5), (At.slc 6), (At.val (Value.int IntKind.u32 (S'1.fresh)))]), (Chunk.row true (EC.node) (S'1.nodes)), (Chunk.row true (EC.int) (S'1.counts)), (Chunk.row true (EC.bool) (S'1.used)), (Chunk.row true (EC.u32) (S'1.gen)), (Chunk.row true (EC.u32) (S'1.rel)), (Chunk.row false (EC.chg) (p))] [0, 1, 2, 3, 4, 5, 6])) (((live S'1 i) ∧ (exW S'1) ∧ (∀ S'2 : Arn, (((S'2) = (retL S'1 i)) → (∃ hs1 : List Int, (∃ l : List Ent, (∃ M : Nat, ((PfM S'2 hs1 i l M) ∧ (l.length + p.length ≤ M) ∧ (Srt Chg.key p) ∧ (Del l p) ∧ (S'2.reads ≤ 900000000000000000) ∧ (∀ S'3 : Arn, (∀ j : Int, ((TrR S'2 hs1 (perfE l p) 65537 (2000 * p.length) S'3 j) → (K (SV.tup [(TV.at (At.val (Value.int IntKind.u32 (j)))), (TV.at (At.val (Value.int IntKind.i64 0)))]) [(Chunk.box [(At.ptr 1 0), (At.slc 2), (At.slc 3), (At.val (Value.int IntKind.u64 (S'3.reads)))]), (Chunk.box [(At.slc 4), (At.slc 5), (At.slc 6), (At.val (Value.int IntKind.u32 (S'3.fresh)))]), (Chunk.row true (EC.node) (S'3.nodes)), (Chunk.row true (EC.int) (S'3.counts)), (Chunk.row true (EC.bool) (S'3.used)), (Chunk.row true (EC.u32) (S'3.gen)), (Chunk.row true (EC.u32) (S'3.rel)), (Chunk.row false (EC.chg) (p))] [0, 1, 2, 3, 4, 5, 6]))))))))))))))))))))))))))))))))))))) = _ by kernel_rfl) ?_
  have sz := hm.sz
  have lp := hm.len
  have rd := hm.rd
  have hl := hm.hl
  have w := hm.wf
  refine brS_of (fun c => h S 0 1 (.inl ⟨by simpa using c, rfl, rfl, rfl⟩)) fun c => ?_
  have c : valB p = true := by simpa using c
  have val := valB_iff.1 c
  refine ⟨hs, t, w, hm.rep, hm.asc, sz, lp, rd, fun S1 m b e1 hm1 hb => ?_⟩
  have m9 : m ≤ 900000000 := by have : 30000 * p.length ≤ 30000 * 30000 := Nat.mul_le_mul_left _ lp; omega
  refine brS_of (fun d => h S1 0 9 (.inr (.inl ⟨c, fun f => (by rw [hb.2 f] at d; cases d), rfl, rfl, m, m9, e1⟩))) fun d => ?_
  have fit : Fits t.list p := hb.1 (by simpa using d)
  have w1 : Wf S1 hs := by rw [e1]; exact w.rd (by omega)
  have rp1 : Rep S1 t i := by rw [e1]; exact hm.rep.rdn
  have q1 : S1.reads = S.reads + m := by rw [e1]; rfl
  refine brS_of (fun f => ⟨rp1.us, ⟨_, w1⟩, fun S2 e2 => ?_⟩) fun f => ?_
  · have f : p.length = 0 := by have : (p.length : Int) = 0 := by simpa using f
                                omega
    have m0 : m = 0 := by rw [f] at hm1; omega
    rw [e1, m0, rdS_zero] at e2
    exact h S2 i 0 (.inr (.inr (.inl ⟨c, fit, f, rfl, rfl, e2⟩)))
  have f : 0 < p.length := by
    have : ¬ (p.length : Int) = 0 := by simpa using f
    omega
  refine ⟨inU_of w1 rp1.us, ⟨_, w1⟩, by omega, fun S2 e2 => ?_⟩
  have u1 := us_b1' (S1.us i)
  have e2 : S2 = rdS S (m + (S1.us i).toNat) := by rw [e2, e1, rdS_rdS]
  generalize hk : m + (S1.us i).toNat = k at e2
  have k9 : k ≤ 900000001 := by omega
  have w2 : Wf S2 hs := by rw [e2]; exact w.rd (by omega)
  have rp2 : Rep S2 t i := by rw [e2]; exact hm.rep.rdn
  have q2 : S2.reads = S.reads + k := by rw [e2]; rfl
  have f2 : S2.free = S.free := by rw [e2]; rfl
  rw [rp1.size w1]
  have hr := Hn_rng ((t.size : Int) + p.length)
  refine ⟨by omega, by omega, by omega, by omega, fun n en => ⟨⟨_, w2⟩, fun b2 eb => ?_⟩⟩
  have en : n = needA t p.length := en
  have n0 : 0 ≤ n := by rw [en]; unfold needA; omega
  have eb : b2 = decide (needA t p.length ≤ S.free) := by rw [eb, decide_eq_true n0, f2, en]; rfl
  refine brS_of (fun g => h S2 0 2 (.inr (.inr (.inr (.inl ⟨c, fit, f, ?_, rfl, rfl, k, k9, e2⟩))))) fun g => ?_
  · have : ¬ needA t p.length ≤ S.free := fun e => by rw [eb, decide_eq_true e] at g; cases g
    omega
  have g : needA t p.length ≤ S.free := by rw [eb] at g; simpa using g
  refine ⟨rp2.us, ⟨_, w2⟩, fun S3 e3 => ?_⟩
  have nd : ((t.size + p.length : Nat) : Int) + 4 * Hn ((t.size + p.length : Nat) : Int) + 4 ≤ S2.free := by
    rw [show ((t.size + p.length : Nat) : Int) = (t.size : Int) + p.length by omega]
    unfold needA at g
    omega
  obtain ⟨pf, gt⟩ := PfM.start (M := t.size + p.length) w2 rp2 hm.bal hm.asc hl (by omega) nd
  rw [← e3] at pf gt
  have q3 := gt.rd
  refine ⟨hs, _, _, pf, by rw [t.list_len]; exact Nat.le_refl _, val.1, fits_del fit, by omega, fun S4 j tr => ?_⟩
  have g0 : Got S hs 0 k S2 hs := by rw [e2]; exact Got.rds w (by omega)
  exact h S4 j 0 (.inr (.inr (.inr (.inr ⟨c, fit, f, g, rfl, (((g0.seq gt (h := hs) (fun _ h => h) (fun _ h => h)).seq tr.got (fun _ h => h) (fun _ h => h)).loose).mono (Nat.le_refl _) (by omega), tr.tree⟩))))
theorem s_ap : SoundT C0 53 tAp := by
  refine .ofW W7 Try.func53 (by decide) rfl fun args H K h hB => ?_
  unfold tAp at h
  split at h <;> try exact h.elim
  unfold arMr at h
  split at h <;> try exact h.elim
  split at h <;> try exact h.elim
  rename_i i _ rd fr nd ct us gn rl _ p
  obtain ⟨hs, t, h1, h2⟩ := h
  exact ⟨aAp, ⟨frame C0.ok P19.s_valid _, frame C0.ok s_fi _, frame C0.ok s_hold _, frame C0.ok s_size _, frame C0.ok s_rAp _, frame C0.ok s_room _, frame C0.ok s_pf _, trivial⟩, vc_ap ⟨us, gn, rl, fr, nd, ct, rd⟩ p i K hs t h1 h2⟩
end Go.Proofs.Ytmjnoiajenoinaa.Sx
end
section
/- The law MergeIsRebase. -/
namespace Go.Proofs.Ytmjnoiajenoinaa.Sx
open Go

/-KEEP Wf Kept exW inU live Arn.cap Arn.free Rep rdS retL Tr.size Tr.list Tr.Bal Asc Kin KinD FkR listE TrR Got Hn ht MgM needM confE mergeE sameB ApM valB Fits perfE needA btw P19.rebR-/
/-- Applying where the patch fits and there is room. -/
def tApK : Tfm C0 := fun args H K => match args with
  | [.at (.ptr 0 0), .at (.val (.int .u32 i)), .at (.slc 7)] => arMr H fun S rest => match rest with
    | [.row false .chg p] => ∃ hs t, ApM S hs t i p ∧ valB p = true ∧ Fits t.list p ∧ needA t p.length ≤ S.free ∧ ∀ S' j, TrR S hs (perfE t.list p) 65537 2000000000 S' j → K (.tup [.at (vU j), .at (vI 0)]) (chS S' ++ [.row false EC.chg p]) W7
    | _ => False
  | _ => False
structure XRb (P : Arn → Int → Int → Int → List Ent → List Ent → Prop) where
  S : Arn
  b : Int
  o : Int
  t : Int
  lo : List Ent
  lt : List Ent
  h : P S b o t lo lt
noncomputable def aRb (P : Arn → Int → Int → Int → List Ent → List Ent → Prop) (raw B : List Ent) (e1 e2 : List EdtT) : Ann C0 := { quiet := [9999999, 47, 46], Γ := [(49, tFk), (50, frameT [] tAw20), (51, frameT [] tDiff), (52, frameT [] P19.tReb), (45, frameT [] tMgK), (53, frameT [] tApK), (54, frameT [] tLsOk), (47, frameT [] tSame_ent), (46, frameT [] tSame_i64)], inv := fun n => match n with
  | 1005 => some { X := XRb P, sl := [9, 11, 12], tf := fun x => [.one (.at (.ptr 13 0)), .one (.at (.slc 14)), .one (.at (.slc 15))], hf := fun x => [.row false EC.ent raw, .row false EC.edm e1, .row false EC.edm e2] ++ chSk 3 x.S ++ [.row false EC.ent B, .row false EC.ent x.lo, .row false EC.ent x.lt, .box [.ptr 3 0, vU x.b, vU x.o, vU x.t, .slc 10, .slc 11, .slc 12], .row true EC.chg (btw B x.lt), .row true EC.chg (btw B x.lo)] }
  | _ => none }
def tRb : Tfm C0 := fun args H K => match args, H with
  | [.at (.slc 0), .at (.val (.int .u64 t)), .at (.slc 1), .at (.slc 2)], [.row false .ent raw, .row false .edm e1, .row false .edm e2] => 0 ≤ t ∧ Kin raw ∧ KinD e1 ∧ KinD e2 ∧ K (.one (.at (vB true))) [.row false EC.ent raw, .row false EC.edm e1, .row false EC.edm e2] []
  | _, _ => False
theorem pairs_len {α β : Type} {ka : α → Int} {kb : β → Int} (l : List α) (m : List β) : (pairs ka kb l m).length ≤ l.length + m.length := by
  fun_induction pairs ka kb l m with
  | case1 => simp
  | case2 y m ih => simp at ih ⊢; omega
  | case3 x l ih => simp at ih ⊢; omega
  | case4 x l y m h ih => simp at ih ⊢; omega
  | case5 x l y m h h2 ih => simp at ih ⊢; omega
  | case6 x l y m h h2 ih => simp at ih ⊢; omega
theorem reb_len {p q a : List Chg} {c : List Int} (h : reb p q = some (a, c)) : a.length ≤ p.length + q.length := by
  unfold reb at h
  rw [rebGo_eq] at h
  split at h
  · simp only [Option.some.injEq, Prod.mk.injEq] at h
    have h1 := flatMap1_len (f := keep1) (fun z => by obtain ⟨c, d⟩ := z; cases c <;> cases d <;> simp [keep1]) (pC p q)
    have h2 := pairs_len (ka := Chg.key) (kb := Chg.key) p q
    rw [← h.1]
    exact Nat.le_trans h1 h2
  · cases h
theorem reb_merge {lb lo lt : List Ent} (hb : Asc lb) (ho : Asc lo) (ht : Asc lt) : ∃ a, reb (btw lb lt) (btw lb lo) = some (a, confE lb lo lt) ∧ Val a ∧ Fits lo a ∧ perfE lo a = mergeE lb lo lt 1 ∧ a.length ≤ (btw lb lt).length + (btw lb lo).length := by
  obtain ⟨a, c, h, sa, ha, sc, hc⟩ := reb_btw hb ht ho
  have ok : ∀ d ∈ a, d.ok := fun d hd => by
    have := sa.fnd_self hd
    rw [ha] at this
    split at this
    · exact mkChg_ok this
    · cases this
  obtain ⟨u, h1, h2, h3⟩ := reb_app hb ht ho h
  have fit : Fits lo a := by
    refine Decidable.byContradiction fun q => ?_
    rw [(app_none ho sa).2 q] at h1
    cases h1
  have pf := app_perf ho ⟨sa, ok⟩ h1
  refine ⟨a, ?_, ⟨sa, ok⟩, fit, ?_, reb_len h⟩
  · have : c = confE lb lo lt := by
      refine keys_ext sc ((keys3_srt ..).filter _) fun k => ?_
      show _ ↔ k ∈ List.filter _ _
      rw [hc, List.mem_filter, keys3_mem]
      simp only [decide_eq_true_eq]
      constructor
      · rintro ⟨q1, q2, q3⟩
        refine ⟨?_, Ne.symm q1, q3, q2⟩
        cases e1 : getE lb k with
        | some _ => exact .inl rfl
        | none => cases e2 : getE lo k with
          | some _ => exact .inr (.inl rfl)
          | none => rw [e1, e2] at q3; exact absurd rfl q3
      · rintro ⟨_, q1, q2, q3⟩
        exact ⟨Ne.symm q1, q3, q2⟩
    rw [h, this]
  · rw [pf]
    refine Asc.ext h2 (mergeE_asc ..) fun k => ?_
    rw [h3, mergeE_get]
    unfold mergedO
    by_cases c3 : getE lb k = getE lo k
    · rw [if_pos c3]
      split
      · rename_i q
        rcases q with q | q
        · exact q.symm
        · exact q.symm.trans c3
      · rfl
    · rw [if_neg c3]
      split
      · rfl
      · rfl
theorem s_apK : SoundT C0 53 tApK := s_ap.weak fun args H K h => by
  unfold tApK at h
  unfold tAp
  split at h <;> try exact h.elim
  unfold arMr at h ⊢
  split at h <;> try exact h.elim
  split at h <;> try exact h.elim
  rename_i i _ rd fr nd ct us gn rl _ p
  obtain ⟨hs, t, hm, hv, hf, hn, h⟩ := h
  refine ⟨hs, t, hm, fun S' j e r => ?_⟩
  have hrd := hm.rd
  have hl := hm.hl
  rcases r with ⟨a, _⟩ | ⟨_, a, _⟩ | ⟨_, _, a, b1, b2, b3⟩ | ⟨_, _, _, a, _⟩ | ⟨_, _, _, _, b1, b2⟩
  · rw [hv] at a; cases a
  · exact absurd hf a
  · rw [b1, b2]
    have pn : p = [] := List.eq_nil_of_length_eq_zero a
    refine h S' i (hold_tr (m := 0) hm.wf hm.rep hm.bal (by omega) (by omega) (by rw [rdS_zero]; exact b3) (by omega) ?_)
    rw [pn]; rfl
  · exact absurd hn (Int.not_le.2 a)
  · rw [b1]; exact h S' j b2
def PRb (B : List Ent) : Arn → Int → Int → Int → List Ent → List Ent → Prop := fun S b o t lo lt => Hld S [(t, lt), (o, lo), (b, B)] ∧ B.length ≤ 60 ∧ lo.length ≤ 68 ∧ lt.length ≤ 68 ∧ S.reads ≤ 2000000 ∧ 2644 ≤ S.cap
theorem vc_rb (raw : List Ent) (e1 e2 : List EdtT) (t : Int) (K : KT) (h0 : 0 ≤ t) (hk : Kin raw) (k1 : KinD e1) (k2 : KinD e2) (h : K (.one (.at (vB true))) [.row false EC.ent raw, .row false EC.edm e1, .row false EC.edm e2] []) :
    vc C0 (aRb (PRb (listE raw 60)) raw (listE raw 60) e1 e2) Try.f9 [.at (.slc 0), .at (vU64 t), .at (.slc 1), .at (.slc 2)] [.row false EC.ent raw, .row false EC.edm e1, .row false EC.edm e2] (normK 3 K) := by
  generalize hP : PRb (listE raw 60) = P
  refine Eq.mp (show ((0 ≤ t) ∧
((0 : Int) ≤ 2500) ∧
((2500 : Int) ≤ 20000) ∧
(Kin raw) ∧
(KinD e1) ∧
(KinD e2) ∧
(∀ S : Arn, (∀ b : Int, (∀ o : Int, (∀ t1 : Int, (∀ lo : List Ent, (∀ lt : List Ent, ((FkR S b o t1 (listE raw 60) lo lt 2500) → ((∃ hs : List Int, (∃ t11 : Tr, (∃ t2 : Tr, ((Wf S hs) ∧ (Rep S t11 b) ∧ (Rep S t2 t1) ∧ (t11.size + t2.size ≤ 300000) ∧ (S.reads + (2 + 6 * ((↑t11.size : Int) + (↑t2.size : Int))) ≤ 3000000000000000000) ∧ (Asc t11.list) ∧ (Asc t2.list) ∧ (Kin t11.list) ∧ (Kin t2.list) ∧ (∀ s' : List Chg, (∀ S' : Arn, (∀ m : Nat, (((s') = (btw t11.list t2.list)) → (((S') = (rdS S m)) → ((m ≤ 2 + 6 * (t11.size + t2.size)) → ((((b) = (t1)) → ((m) = 0)) → (∃ hs1 : List Int, (∃ t12 : Tr, (∃ t21 : Tr, ((Wf S' hs1) ∧ (Rep S' t12 b) ∧ (Rep S' t21 o) ∧ (t12.size + t21.size ≤ 300000) ∧ (S'.reads + (2 + 6 * ((↑t12.size : Int) + (↑t21.size : Int))) ≤ 3000000000000000000) ∧ (Asc t12.list) ∧ (Asc t21.list) ∧ (Kin t12.list) ∧ (Kin t21.list) ∧ (∀ s'1 : List Chg, (∀ S'1 : Arn, (∀ m1 : Nat, (((s'1) = (btw t12.list t21.list)) → (((S'1) = (rdS S' m1)) → ((m1 ≤ 2 + 6 * (t12.size + t21.size)) → ((((b) = (o)) → ((m1) = 0)) → (∃ x : XRb P, (True ∧ (True ∧ True ∧ True ∧ True) ∧ ((raw) = (raw)) ∧ ((e1) = (e1)) ∧ ((e2) = (e2)) ∧ (True ∧ True ∧ True ∧ ((Value.int IntKind.u64 (S'1.reads)) = (Value.int IntKind.u64 (x.S.reads))) ∧ True) ∧ (True ∧ True ∧ True ∧ ((Value.int IntKind.u32 (S'1.fresh)) = (Value.int IntKind.u32 (x.S.fresh))) ∧ True) ∧ ((S'1.nodes) = (x.S.nodes)) ∧ ((S'1.counts) = (x.S.counts)) ∧
    ((S'1.used) = (x.S.used)) ∧ ((S'1.gen) = (x.S.gen)) ∧ ((S'1.rel) = (x.S.rel)) ∧ ((listE raw 60) = (listE raw 60)) ∧ ((lo) = (x.lo)) ∧ ((lt) = (x.lt)) ∧ (True ∧ ((Value.int IntKind.u32 (b)) = (Value.int IntKind.u32 (x.b))) ∧ ((Value.int IntKind.u32 (o)) = (Value.int IntKind.u32 (x.o))) ∧ ((Value.int IntKind.u32 (t1)) = (Value.int IntKind.u32 (x.t))) ∧ True ∧ True ∧ True ∧ True) ∧ ((s') = (btw (listE raw 60) x.lt)) ∧ ((s'1) = (btw (listE raw 60) x.lo)) ∧ True)))))))))))))))))))))))) ∧ (∀ x : XRb P, (True → (((btw (listE raw 60) x.lt).length + (btw (listE raw 60) x.lo).length ≤ 1000000) ∧ (∀ r : List Chg, (∀ c : List Int, (∀ e : Int, (((Prod.mk (r) (Prod.mk (c) (e))) = (P19.rebR (btw (listE raw 60) x.lt) (btw (listE raw 60) x.lo))) → (∃ hs : List Int, (∃ tb : Tr, (∃ to : Tr, (∃ tt : Tr, ((MgM x.S hs tb to tt x.b x.o x.t) ∧ ((1 : Int) ≤ 1) ∧ ((1 : Int) ≤ 4) ∧ (needM tb to tt ≤ x.S.free) ∧ (((1 : Int) = 3) → ((confE tb.list to.list tt.list) = [])) ∧ (∀ S' : Arn, (∀ i : Int, (∀ c1 : List Int, (((c1) = (confE tb.list to.list tt.list)) → ((TrR x.S hs (mergeE tb.list to.list tt.list 1) 65537 2000000000 S' i) → (∃ hs1 : List Int, (∃ t2 : Tr, ((ApM S' hs1 t2 x.o r) ∧ ((valB r) = true) ∧ (Fits t2.list r) ∧ (needA t2 r.length ≤ S'.free) ∧ (∀ S'1 : Arn, (∀ j : Int, ((TrR S' hs1 (perfE t2.list r) 65537 2000000000 S'1 j) → (brS (e == 0) ((brS (sameB c c1) ((∃ hs2 : List Int, (∃ t3 : Tr, ((Wf S'1 hs2) ∧ (Rep S'1 t3 i) ∧ (Asc t3.list) ∧ (Kin t3.list) ∧ (t3.size ≤ 60000) ∧
    (S'1.reads ≤ 1000000000000000000) ∧ (∀ S'2 : Arn, (∀ m : Nat, (∀ out : List Ent, (((S'2) = (rdS S'1 m)) → ((m ≤ t3.size) → (((out) = (t3.list)) → (∃ hs3 : List Int, (∃ t4 : Tr, ((Wf S'2 hs3) ∧ (Rep S'2 t4 j) ∧ (Asc t4.list) ∧ (Kin t4.list) ∧ (t4.size ≤ 60000) ∧ (S'2.reads ≤ 1000000000000000000) ∧ (∀ S'3 : Arn, (∀ m1 : Nat, (∀ out1 : List Ent, (((S'3) = (rdS S'2 m1)) → ((m1 ≤ t4.size) → (((out1) = (t4.list)) → (K (SV.one (TV.at (At.val (Value.bool (sameB out out1))))) [(Chunk.row false (EC.ent) (raw)), (Chunk.row false (EC.edm) (e1)), (Chunk.row false (EC.edm) (e2))] [])))))))))))))))))))) ((K (SV.one (TV.at (At.val (Value.bool false)))) [(Chunk.row false (EC.ent) (raw)), (Chunk.row false (EC.edm) (e1)), (Chunk.row false (EC.edm) (e2))] [])))) ((K (SV.one (TV.at (At.val (Value.bool false)))) [(Chunk.row false (EC.ent) (raw)), (Chunk.row false (EC.edm) (e1)), (Chunk.row false (EC.edm) (e2))] []))))))))))))))))))))))))))))))))))) = _ by kernel_rfl) ?_
  subst hP
  generalize listE raw 60 = B at *
  refine ⟨h0, by decide, by decide, hk, k1, k2, fun S b o t lo lt fk => ⟨?_, fun x _ => ?_⟩⟩
  · have hh := fk.h
    have rd := fk.rd
    have l1 := fk.sb
    have l2 := fk.so
    have l3 := fk.st
    have cp := fk.cap
    obtain ⟨tb, rb, ab, kb, zb, eb⟩ := hh.ls (x := b) (l := B) (by simp) (by omega)
    obtain ⟨tt, rt, at_, kt, zt, et⟩ := hh.ls (x := t) (l := lt) (by simp) (by omega)
    obtain ⟨to, ro, ao, ko, zo, eo⟩ := hh.ls (x := o) (l := lo) (by simp) (by omega)
    have nb := tb.list_len
    have nt := tt.list_len
    have no := to.list_len
    rw [eb] at nb
    rw [et] at nt
    rw [eo] at no
    refine ⟨_, tb, tt, hh.wf, rb, rt, by omega, by omega, ab, at_, kb, kt, fun p S1 m1 ep e1 b1 _ => ?_⟩
    have h1 := hh.rd (n := m1) (by omega)
    rw [← e1] at h1
    have q1 : S1.reads = S.reads + m1 := by rw [e1]; rfl
    refine ⟨_, tb, to, h1.wf, by rw [e1]; exact rb.rdn, by rw [e1]; exact ro.rdn, by omega, by omega, ab, ao, kb, ko, fun q S2 m2 eq e2 b2 _ => ?_⟩
    have h2 := h1.rd (n := m2) (by omega)
    rw [← e2] at h2
    have q2 : S2.reads = S1.reads + m2 := by rw [e2]; rfl
    have c2 : S2.cap = S.cap := by rw [e2, e1]; rfl
    refine ⟨⟨S2, b, o, t, lo, lt, h2, l1, l2, l3, by omega, by omega⟩, ?_⟩
    rw [eb, et] at ep
    rw [eb, eo] at eq
    (repeat' first | exact trivial | exact rfl | exact ep | exact eq | refine And.intro ?_ ?_)
  clear fk lt lo t o b S
  obtain ⟨S, b, o, t, lo, lt, hh, l1, l2, l3, rd, cp⟩ := x
  dsimp only
  have aB : Asc B := hh.asc (b, B) (by simp)
  have aO : Asc lo := hh.asc (o, lo) (by simp)
  have aT : Asc lt := hh.asc (t, lt) (by simp)
  obtain ⟨a, ha, va, fa, pa, la⟩ := reb_merge aB aO aT
  have n1 := btw_len aB aT
  have n2 := btw_len aB aO
  refine ⟨by omega, fun r c e er => ?_⟩
  have er : r = a ∧ c = confE B lo lt ∧ e = 0 := by
    unfold P19.rebR at er
    rw [valB_iff.2 (btw_val aB aT), valB_iff.2 (btw_val aB aO), ha] at er
    simp only [Bool.and_self, if_true, Prod.mk.injEq] at er
    exact er
  obtain ⟨rfl, rfl, rfl⟩ := er
  obtain ⟨tb, to, tt, hm, eb, eo, et, nm⟩ := hh.mg (b := b) (o := o) (t := t) (lb := B) (lo := lo) (lt := lt) (by simp) (by simp) (by simp) (by omega) (by omega) (by omega) (by simp) (by omega)
  have rm := hh.room
  simp only [sumL_cons, sumL_nil] at rm
  have hn := Hn_rng ((B.length : Int) + lo.length + lt.length)
  refine ⟨_, tb, to, tt, hm, by decide, by decide, by omega, fun q => absurd q (by decide), fun S1 i c1 ec t1 => ?_⟩
  rw [eb, eo, et] at ec t1
  have h1 := hh.step t1 (mergeE_asc ..) (merge_kin (hh.kin (b, B) (by simp)) (hh.kin (o, lo) (by simp)) (hh.kin (t, lt) (by simp)) _)
  have cp1 := tr_cap t1
  have r1 := t1.got.rd
  have g1 : (mergeE B lo lt 1).length ≤ B.length + lo.length + lt.length := merge_len aB aO aT 1
  have rm1 := h1.room
  simp only [sumL_cons, sumL_nil] at rm1
  obtain ⟨uo, ro, lo', bo⟩ := h1.rep (o, lo) (by simp)
  have lo' : uo.list = lo := lo'
  have zo : uo.size = lo.length := by rw [← uo.list_len, lo']
  have hn2 := Hn_rng ((uo.size : Int) + r.length)
  refine ⟨_, uo, ⟨h1.wf, ro, bo, by rw [lo']; exact aO, by omega, by omega, by simp, by omega⟩, valB_iff.2 va, by rw [lo']; exact fa, by unfold needA; omega, fun S2 j t2 => ?_⟩
  rw [lo', pa] at t2
  have h2 := h1.step t2 (mergeE_asc ..) (merge_kin (hh.kin (b, B) (by simp)) (hh.kin (o, lo) (by simp)) (hh.kin (t, lt) (by simp)) _)
  have r2 := t2.got.rd
  have ecd : sameB (confE B lo lt) c1 = true := by rw [ec]; exact decide_eq_true rfl
  refine bt7 rfl (bt7 ecd ?_)
  obtain ⟨u1, rp1, as1, kn1, sz1, lt1⟩ := h2.ls (x := i) (l := mergeE B lo lt 1) (by simp) (by omega)
  refine ⟨_, u1, h2.wf, rp1, as1, kn1, sz1, by omega, fun S3 m3 o3 e3 b3 eo3 => ?_⟩
  have h3 := h2.rd (n := m3) (by omega)
  rw [← e3] at h3
  have r3 : S3.reads = S2.reads + m3 := by rw [e3]; rfl
  rw [lt1] at eo3
  obtain ⟨u2, rp2, as2, kn2, sz2, lt2⟩ := h3.ls (x := j) (l := mergeE B lo lt 1) (List.mem_cons_self ..) (by omega)
  refine ⟨_, u2, h3.wf, rp2, as2, kn2, sz2, by omega, fun S4 m4 o4 e4 b4 eo4 => ?_⟩
  rw [lt2] at eo4
  have same : sameB o3 o4 = true := by rw [eo3, eo4]; exact decide_eq_true rfl
  rw [same]
  exact h
theorem s_rb : SoundT C0 9 tRb := by
  refine .of Try.func9 (by decide) rfl fun args H K h hB => ?_
  unfold tRb at h
  split at h <;> try exact h.elim
  rename_i t raw e1 e2
  refine ⟨_, ?_, vc_rb raw e1 e2 t K h.1 h.2.1 h.2.2.1 h.2.2.2.1 h.2.2.2.2⟩
  exact ⟨s_fk, frame C0.ok s_aw20 _, frame C0.ok s_diff _, frame C0.ok P19.s_reb _, frame C0.ok s_mgK _, frame C0.ok s_apK _, frame C0.ok s_lsOk _, frame C0.ok s_same9 _, frame C0.ok s_sameI _, trivial⟩
end Go.Proofs.Ytmjnoiajenoinaa.Sx
end
section
/- What every law's last step leans on. -/
namespace Go.Proofs.Ytmjnoiajenoinaa
open Go.ChangeShapes Go.WideShapes Go.ChangeAt Go.RowKit

theorem ownK : ownKnob Try.prog.godebug = none := by kernel_rfl
theorem laidO : laidOutB Try.prog = true := by kernel_rfl

theorem lit_i64 {a : Int} (h : (Lit.int .i64 a).wf = true) : -9223372036854775808 ≤ a ∧ a ≤ 9223372036854775807 := by
  have h1 : IntKind.i64.min = -9223372036854775808 := rfl
  have h2 : IntKind.i64.max = 9223372036854775807 := rfl
  simp only [Lit.wf, Bool.and_eq_true, decide_eq_true_eq] at h
  omega
theorem lit_u64 {a : Int} (h : (Lit.int .u64 a).wf = true) : 0 ≤ a ∧ a ≤ 18446744073709551615 := by
  have h1 : IntKind.u64.min = 0 := rfl
  have h2 : IntKind.u64.max = 18446744073709551615 := rfl
  simp only [Lit.wf, Bool.and_eq_true, decide_eq_true_eq] at h
  omega
end Go.Proofs.Ytmjnoiajenoinaa
end
section
/- From contracts to laws: the arguments as they come, what a law's call leaves. -/
namespace Go.Proofs.Ytmjnoiajenoinaa.Sx
open Go Go.Joins Go.ChangeShapes Go.WideShapes Go.ChangeAt Go.RowKit

theorem Sat.imms {C : Ctx} {w : World} (vs : List Value) (H : List (Chunk C)) (h : ∀ (n : Nat) (c : Chunk C), H[n]? = some c → ∃ e l, c = .row false e l ∧ Imm C w (vs.getD n undef) e l) : Sat C (fun n => vs.getD n undef) (fun _ _ => False) w H where
  holds n c hc := by
    obtain ⟨e, l, rfl, hi⟩ := h n c hc
    exact ⟨hi, fun _ hh => hh⟩
  dis _ _ _ hh := hh.elim
  bd _ _ hh := hh.elim
  imm _ _ _ _ _ _ hh := hh
  out _ _ _ hh := hh
  cl n c hc m hm := by
    obtain ⟨e, l, rfl, _⟩ := h n c hc
    simp [Chunk.names] at hm

theorem lawOf {f : FuncId} {t : Tfm C0} (hs : SoundT C0 f t) {args : List TV} {H : List (Chunk C0)} {vs : List Value} {σ : Nat → Value} {w : World} (ht : ∀ K : KT, K (.one (.at (vB true))) H [] → t args H K)
    (hsat : Sat C0 σ (fun _ _ => False) w H) (hr : Rels (TV.rel σ) args vs) (hn : ∀ x ∈ args, ∀ m ∈ x.names, m < H.length) : Calls Try.prog f vs.toArray w (fun e w' => e = .returned (.bool true) ∧ Below w.heap.size w w') := by
  have hc := hs.call args H (fun r _ _ => r = .one (.at (vB true))) (ht _ rfl) σ _ w vs hsat hr hn
  refine Calls.mono hc fun e w' hh => ?_
  cases e with
  | panicked ch => exact hh.elim
  | outgrown => exact hh.elim
  | returned v =>
    obtain ⟨r, H', ts, σ', φ', hout, rfl⟩ := hh
    have hv : v = .bool true := hout.rel
    exact ⟨by rw [hv], hout.adv.os, hout.adv.tape, hout.adv.output, hout.adv.size, fun k hk => hout.adv.fr k hk fun n hh => hh⟩

section
variable {HH : Type} {enc : TypeId × Value → HH} {P : Program} {w : World} {base b0 : Nat} {spare : Nat → Bool} {held : Bool} {r : Reach}
theorem openRowQ {α : Type} [Inhabited α] {t e : TypeId} {f : α → List Value} {Q : α → Prop} {sz : Nat} {v : Value} {d : DataW HH} {p : List MemPlace} (ht : P.underlying t = some (.slice e)) (hC : P.cellsOf e = sz) (hpos : 0 < sz) (hf : ∀ x, (f x).length = sz)
    (hel : ∀ {n : Nat} {cs : List Value} {x : DataW HH × List MemPlace}, DataW.trod enc P w base spare held n e cs = some x → ∃ a, cs = f a ∧ Q a) (hv : Value.okWide P w r b0 t v) (h : DataW.Trod enc P w base spare held t v d p) :
    ∃ A n c l, v = .slice A n c ∧ Rd f sz w A n c l ∧ ∀ x ∈ l, Q x := by
  obtain ⟨A, n, c, rfl⟩ := okWide_slice ht hv
  obtain ⟨fuel, hh⟩ := h
  have hh : DataW.trod enc P w base spare held fuel t [.slice A n c] = some (d, p) := by simpa [Value.cells] using hh
  rcases Go.Deep.open_slice ht hh with ⟨h1, _⟩ | ⟨a, len, cap, m, k, D, Pl, h1, hb, hle, hm, hmm, hx, hall⟩
  · simp only [List.cons.injEq, Value.slice.injEq, and_true] at h1
    obtain ⟨rfl, rfl, rfl⟩ := h1
    exact ⟨none, 0, 0, [], rfl, Rd.nil hf, fun x hx => by simp at hx⟩
  · simp only [List.cons.injEq, Value.slice.injEq, and_true] at h1
    obtain ⟨rfl, rfl, rfl⟩ := h1
    have hlm : n ≤ m := by rw [hmm]; split <;> omega
    have hel' : ∀ i, i < n → ∃ x : α, w.cells? base (a.add (i * P.cellsOf e)) (P.cellsOf e) = some (f x) ∧ Q x := fun i hi => by
      obtain ⟨cs', hc1, hc2⟩ := hall i (by omega)
      obtain ⟨x, rfl, hq⟩ := hel hc2
      exact ⟨x, hc1, hq⟩
    obtain ⟨F, hF⟩ := Go.Deep.choose_lt hel'
    have cell : ∀ i, i < n → ∀ j, j < sz → w.cell? ((a.add (i * sz)).add j) = (f (F i))[j]? := fun i hi j hj => by
      have h2 := (hF i hi).1
      rw [hC] at h2
      unfold World.cells? at h2
      split at h2
      · exact mapM_some_get h2 j j (by simp [hj])
      · cases h2
    refine ⟨some a, n, c, (List.range n).map F, rfl, ⟨by simp, hle, hm, hf, fun h => (by cases h), fun hn => ?_⟩, fun x hx => by obtain ⟨i, hi, rfl⟩ := List.mem_map.1 hx; exact (hF i (List.mem_range.1 hi)).2⟩
    obtain ⟨b, o, sp⟩ := a
    have hsome : ∀ i, i < n → ∀ j, j < sz → ∃ u, w.cell? (((⟨b, o, sp⟩ : Addr).add (i * sz)).add j) = some u := fun i hi j hj => by
      rw [cell i hi j hj]
      exact ⟨_, List.getElem?_eq_getElem (by rw [hf]; exact hj)⟩
    obtain ⟨u0, hu0⟩ := hsome 0 hn 0 hpos
    have hspot : sp = none := by simpa [Addr.add] using World.cell?_spot hu0
    subst hspot
    refine ⟨b, o, rfl, ?_, fun k x hx j u hu => ?_⟩
    · have hu1 : w.cell? ⟨b, o, none⟩ = some u0 := by simpa [Addr.add] using hu0
      unfold World.cell? at hu1
      split at hu1
      · rename_i hb2
        exact (Array.getElem?_eq_some_iff.1 hb2).1
      · cases hu1
    · rw [List.getElem?_map] at hx
      have hk : k < n := by
        rcases Nat.lt_or_ge k n with h2 | h2
        · exact h2
        · rw [List.getElem?_eq_none (by simpa using h2)] at hx; cases hx
      rw [List.getElem?_range hk] at hx
      simp only [Option.map_some, Option.some.injEq] at hx
      subst hx
      have hj : j < sz := by
        have := (List.getElem?_eq_some_iff.1 hu).1
        rwa [hf] at this
      have h3 := cell k hk j hj
      rw [hu] at h3
      rw [← h3]
      congr 1
      rw [Go.WideShapes.add_plain, Go.WideShapes.add_plain]
end

section
variable {HH : Type} {enc : TypeId × Value → HH} {w : World} {base b0 : Nat} {spare : Nat → Bool} {held : Bool} {r : Reach}
set_option maxRecDepth 100000 in
theorem elEw {n : Nat} {cs : List Value} {x : DataW HH × List MemPlace} (h : DataW.trod enc Try.prog w base spare held n 61 cs = some x) :
    ∃ a : Ent, cs = EC.enc .ent a ∧ ((-9223372036854775808 ≤ a.1 ∧ a.1 ≤ 9223372036854775807) ∧ (-9223372036854775808 ≤ a.2 ∧ a.2 ≤ 9223372036854775807)) := by
  obtain ⟨y0, y1, m, _, hl, h0, h1⟩ := trod_struct2 Try.underlying61 h
  obtain ⟨k, e0, _, w0⟩ := DataW.trod_int Try.underlying2 h0
  obtain ⟨v, e1, _, w1⟩ := DataW.trod_int Try.underlying2 h1
  have hl : cs.length = 2 := hl.trans (by kernel_rfl)
  have c1 : Try.prog.cellsOf 2 = 1 := by kernel_rfl
  match cs, hl with
  | [a, b], _ =>
    simp [c1] at e0 e1
    exact ⟨(k, v), by rw [e0, e1]; rfl, lit_i64 w0, lit_i64 w1⟩
set_option maxRecDepth 100000 in
/-- The same with what the entries' numbers are. -/
theorem openEw {v : Value} {d : DataW HH} {p : List MemPlace} (hv : Value.okWide Try.prog w r b0 58 v) (h : DataW.Trod enc Try.prog w base spare held 58 v d p) :
    ∃ (l : List Ent), Imm C0 w v EC.ent l ∧ ∀ x ∈ l, (-9223372036854775808 ≤ x.1 ∧ x.1 ≤ 9223372036854775807) ∧ (-9223372036854775808 ≤ x.2 ∧ x.2 ≤ 9223372036854775807) := by
  obtain ⟨A, n, c, l, rfl, hr, hq⟩ := openRowQ (α := Ent) (f := fun x => EC.enc .ent x) (sz := 2) Try.underlying58 (by kernel_rfl) (by decide) (fun _ => rfl) (fun h => elEw h) hv h
  obtain rfl := hr.len
  exact ⟨l, ⟨A, c, rfl, hr⟩, hq⟩
instance : Inhabited Chg := ⟨⟨0, 0, 0, 0⟩⟩
end
end Go.Proofs.Ytmjnoiajenoinaa.Sx
end
section
/- Opening an argument that is a slice of edits (merge). -/
namespace Go.Proofs.Ytmjnoiajenoinaa.Sx
open Go Go.Joins Go.ChangeShapes Go.WideShapes Go.ChangeAt Go.RowKit

section
variable {HH : Type} {enc : TypeId × Value → HH} {w : World} {base b0 : Nat} {spare : Nat → Bool} {held : Bool} {r : Reach}
set_option maxRecDepth 100000 in
theorem elF {n : Nat} {cs : List Value} {x : DataW HH × List MemPlace} (h : DataW.trod enc Try.prog w base spare held n 207 cs = some x) : ∃ a : EdtT, cs = EC.enc .edm a ∧ ((-9223372036854775808 ≤ a.ent.1 ∧ a.ent.1 ≤ 9223372036854775807) ∧ (-9223372036854775808 ≤ a.ent.2 ∧ a.ent.2 ≤ 9223372036854775807)) := by
  obtain ⟨y0, y1, y2, m, _, hl, h0, h1, h2⟩ := Go.Deep.trod_struct3 Try.underlying207 h
  obtain ⟨k, e0, _⟩ := DataW.trod_bool Try.underlying4 h0
  obtain ⟨v, e1, _⟩ := DataW.trod_int Try.underlying3 h1
  obtain ⟨s, e2, q2⟩ := elEw h2
  have hl : cs.length = 4 := hl.trans (by kernel_rfl)
  have c1 : Try.prog.cellsOf 4 = 1 := by kernel_rfl
  have c2 : Try.prog.cellsOf 3 = 1 := by kernel_rfl
  have c3 : Try.prog.cellsOf 61 = 2 := by kernel_rfl
  match cs, hl with
  | [a, b, c, d], _ =>
    simp [c1, c2, c3] at e0 e1 e2
    have e2 : [c, d] = [Value.int .i64 s.1, Value.int .i64 s.2] := e2
    simp only [List.cons.injEq, and_true] at e2
    exact ⟨⟨k, v, s⟩, by rw [e0, e1, e2.1, e2.2]; rfl, q2⟩
instance : Inhabited EdtT := ⟨⟨false, 0, (0, 0)⟩⟩
set_option maxRecDepth 100000 in
theorem openF {v : Value} {d : DataW HH} {p : List MemPlace} (hv : Value.okWide Try.prog w r b0 104 v) (h : DataW.Trod enc Try.prog w base spare held 104 v d p) :
    ∃ (l : List EdtT), Imm C0 w v EC.edm l ∧ ∀ x ∈ l, (-9223372036854775808 ≤ x.ent.1 ∧ x.ent.1 ≤ 9223372036854775807) ∧ (-9223372036854775808 ≤ x.ent.2 ∧ x.ent.2 ≤ 9223372036854775807) := by
  obtain ⟨A, n, c, l, rfl, hr, hq⟩ := openRowQ (α := EdtT) (f := fun x => EC.enc .edm x) (sz := 4) Try.underlying104 (by kernel_rfl) (by decide) (fun _ => rfl) (fun h => elF h) hv h
  obtain rfl := hr.len
  exact ⟨l, ⟨A, c, rfl, hr⟩, hq⟩
end
end Go.Proofs.Ytmjnoiajenoinaa.Sx
end
section
/- 'MergeIsRebase': the law returns true for every input, and its arguments read afterwards as they read before. -/
namespace Go.Proofs.Ytmjnoiajenoinaa.mergeIsRebase
open Go.ChangeShapes Go.WideShapes Go.ChangeAt Go.RowKit Sx

set_option maxRecDepth 100000 in
theorem lifted (os : Os) (started : os.Started) (H : Type) (enc : TypeId × Value → H) :
    ReturnsInHanded {} Try.checked os 9 .any (Rows.mergeIsRebaseSpec.pre6 enc Try.prog Try.f9 Rows.mergeIsRebaseRow.domain false) (Rows.mergeIsRebaseSpec.post enc Try.prog Try.f9 false true false false) := by
  refine returnsInHanded_of_change (C := Try.checked) ownK started (by kernel_rfl) Try.func9
    (ChangeSpec.witness6 (enc := enc) (C := Try.checked) false ⟨#[], #[.slice none 0 0, .int .u64 0, .slice none 0 0, .slice none 0 0], []⟩ 8 (by kernel_rfl) (by kernel_rfl) (by kernel_rfl) (by kernel_rfl)) ?_
  intro W base args ds gs before hval0 hW hcnd _
  have hval : ∀ (j : Nat) t v, Try.f9.params[j]? = some t → args[j]? = some v → Value.okWide Try.prog W .any base t v := hval0
  have hW' := hW
  obtain ⟨p, q, hA0, hV, rfl, hfz, hnd⟩ := hW
  have hA : DataW.TrodAll enc Try.prog W 0 (fun _ => true) true Try.f9.params.toList args.toList ds p := hA0
  rw [Try.params9] at hA hval
  obtain ⟨v0, vs0, d0, ds0, p0, q0, hargs, rfl, rfl, h0, r0⟩ := trodAll_cons hA
  obtain ⟨v1, vs1, d1, ds1, p1, q1, rfl, rfl, rfl, h1, r1⟩ := trodAll_cons r0
  obtain ⟨v2, vs2, d2, ds2, p2, q2, rfl, rfl, rfl, h2, r2⟩ := trodAll_cons r1
  obtain ⟨v3, vs3, d3, ds3, p3, q3, rfl, rfl, rfl, h3, r3⟩ := trodAll_cons r2
  obtain ⟨rfl, rfl, rfl⟩ := trodAll_nil r3
  obtain rfl : args = #[v0, v1, v2, v3] := by cases args; simp_all
  obtain ⟨rfl, rfl⟩ := trodVars_none hV
  have k0 := h0
  have k1 := h1
  have k2 := h2
  have k3 := h3
  clear hA0 hval0
  simp only [List.append_nil] at hW'
  have hlt : ∀ x ∈ p0 ++ (p1 ++ (p2 ++ (p3))), x.block < W.heap.size := fun x hx => by simpa using hW'.lt x (by simpa using hx)
  have l0 : ∀ x ∈ p0, x.block < W.heap.size := fun x hx => hlt x (by simp [hx])
  have l1 : ∀ x ∈ p1, x.block < W.heap.size := fun x hx => hlt x (by simp [hx])
  have l2 : ∀ x ∈ p2, x.block < W.heap.size := fun x hx => hlt x (by simp [hx])
  have l3 : ∀ x ∈ p3, x.block < W.heap.size := fun x hx => hlt x (by simp [hx])
  obtain ⟨L0, R0, Q0⟩ := openEw (hval 0 58 v0 rfl rfl) h0
  obtain ⟨a1, rfl, rfl, rfl, w1⟩ := open_int Try.underlying74 (hval 1 74 v1 rfl rfl) h1
  have b1 := lit_u64 w1
  obtain ⟨L2, R2, Q2⟩ := openF (hval 2 104 v2 rfl rfl) h2
  obtain ⟨L3, R3, Q3⟩ := openF (hval 3 104 v3 rfl rfl) h3
  refine (lawOf s_rb (args := [.at (.slc 0), .at (.val (.int .u64 a1)), .at (.slc 1), .at (.slc 2)]) (H := [Chunk.row false EC.ent L0, Chunk.row false EC.edm L2, Chunk.row false EC.edm L3]) (vs := [v0, .int .u64 a1, v2, v3]) (σ := fun n => [v0, v2, v3].getD n undef) (w := W) (fun K h => ⟨b1.1, fun x hx => (Q0 x hx).1, fun x hx => (Q2 x hx).1, fun x hx => (Q3 x hx).1, h⟩)
    (Sat.imms [v0, v2, v3] _ fun n c hc => by match n, hc with | 0, hc => exact ⟨_, _, (Option.some.inj hc).symm, R0⟩ | 1, hc => exact ⟨_, _, (Option.some.inj hc).symm, R2⟩ | 2, hc => exact ⟨_, _, (Option.some.inj hc).symm, R3⟩ | n + 3, hc => simp at hc) (Rels.cons rfl (Rels.cons rfl (Rels.cons rfl (Rels.cons rfl Rels.nil)))) (by simp [TV.names, At.names])).mono fun e W' ⟨he, hg⟩ => ?_
  subst he
  exact ⟨_, rfl, _, _, _, [] ++ [], _, [], hW', (trodAll_cons_mk (shut_bool Try.underlying4 true) trodAll_mk0), (trodAll_cons_mk (Below.trod laidO (by kernel_rfl) (of_decide_eq_true (by kernel_rfl)) k0 hg l0) (trodAll_cons_mk (Below.trod laidO (by kernel_rfl) (of_decide_eq_true (by kernel_rfl)) k1 hg l1) (trodAll_cons_mk (Below.trod laidO (by kernel_rfl) (of_decide_eq_true (by kernel_rfl)) k2 hg l2) (trodAll_cons_mk (Below.trod laidO (by kernel_rfl) (of_decide_eq_true (by kernel_rfl)) k3 hg l3) trodAll_mk0)))), rfl, hg.frame _, fun h => by cases h⟩

theorem over : Rows.mergeIsRebaseRow.holds Try.pinned (OpenSpec.ofChange Rows.mergeIsRebaseSpec) :=
  OpenClaim.holds_of_wide 9 Try.f9 rfl rfl rfl rfl rfl rfl rfl ⟨rfl, rfl, rfl, rfl, rfl⟩ rfl rfl rfl rfl rfl (by kernel_rfl) Try.func9 (by kernel_rfl)
    (of_decide_eq_true (by kernel_rfl)) (by unfold Func.isWrapper; first | (rw [if_pos (by decide +kernel)]; kernel_rfl) | (rw [if_neg (by decide +kernel)]; exact ⟨rfl, rfl⟩))
    (fun os started H enc _ => lifted os started H enc)

theorem proved : Rows.MergeIsRebaseSaid := over
#print axioms proved
end Go.Proofs.Ytmjnoiajenoinaa.mergeIsRebase
end
