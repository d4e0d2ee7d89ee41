/- A part of the proof. -/
import Derived.Test.YtmjnoiajenoinaaG7
import Derived.Test.YtmjnoiajenoinaaG9
import Derived.Test.YtmjnoiajenoinaaG10
import Derived.Test.YtmjnoiajenoinaaG5
import Derived.Test.YtmjnoiajenoinaaG6
section
/- merge: trivial, sum, plan, perform, the reservation. -/
namespace Go.Proofs.Ytmjnoiajenoinaa.Sx
open Go

/-KEEP hasK Wf exW inU live Arn.cap Arn.free Rep Kept rdS retL Tr.size Tr.list Tr.Bal TrR Got flt getE Asc Hn planC planK sumO outO cfO fnd Srt perfE stepP PfM trivB trivI Del btw mergeE confE-/
def trivB (b o t : Int) : Prop := b = o ∨ b = t ∨ o = t
instance (b o t : Int) : Decidable (trivB b o t) := inferInstanceAs (Decidable (_ ∨ _))
def trivI (b o t : Int) : Int := if b = o then t else o
def tResM : Tfm C0 := fun args H K => match args, H with
  | [.at (.val (.int .i64 a)), .at (.val (.int .i64 b)), .at (.val (.int .i64 c))], [] => 0 ≤ a ∧ a ≤ 30000 ∧ 0 ≤ b ∧ b ≤ 30000 ∧ 0 ≤ c ∧ c ≤ 30000 ∧ ∀ p, p = a + b + c + 12 * (Hn (a + b + c) + 2) → K (.one (.at (vI p))) [] []
  | _, _ => False
def tTriv : Tfm C0 := fun args H K => match args, H with
  | [.at (.val (.int .u32 b)), .at (.val (.int .u32 o)), .at (.val (.int .u32 t))], [] => (trivB b o t → ∀ r, r = trivI b o t → K (.tup [.at (vU r), .at (vB true)]) [] []) ∧ (¬ trivB b o t → K (.tup [.at (vU 0), .at (vB false)]) [] [])
  | _, _ => False
def tSum : Tfm C0 := fun args H K => match args, H with
  | [.agg [.val (.int .i64 a), .val (.int .i64 b), .val (.int .i64 c), .val (.int .i64 d)], .agg [.val (.int .i64 e), .val (.int .i64 f), .val (.int .i64 g), .val (.int .i64 h)]], [] => K (.one (.at (.slc 0))) [.row true EC.chg (sumO ⟨a, b, c, d⟩ ⟨e, f, g, h⟩).toList] []
  | _, _ => False
structure XPl (p q : List Chg) where
  i : Nat
  j : Nat
  h : j ≤ q.length ∧ Low p i q j
structure XPi (p q : List Chg) where
  i : Nat
  j : Nat
  h : j < q.length ∧ Low p i q j
structure XPk (p q : List Chg) where
  i : Nat
  j : Nat
  h : j < q.length ∧ Low p i q j ∧ (i < p.length → ¬ (cA p i).key < (cA q j).key)
abbrev bxC (c : Chg) : Chunk C0 := .box [vI c.kind, vI c.key, vI c.old, vI c.new]
noncomputable def aPlan (p q : List Chg) (pol : Int) : Ann C0 := { Γ := [(131, frameT [] tSum)], inv := fun n => match n with
  | 5 => some { X := XPl p q, sl := [10, 16, 8, 9], tf := fun x => [vi .i64 x.i, vi .i64 x.j, .one (.at (.slc 2)), .one (.at (.slc 3))], hf := fun x => [.row false EC.chg p, .row false EC.chg q, .row true EC.chg (planC p (q.take x.j) pol), .row true EC.i64 (planK p (q.take x.j))], μ := fun x => q.length - x.j }
  | 7 => some { X := XPi p q, sl := [10, 16, 8, 9, 12], tf := fun x => [vi .i64 x.i, vi .i64 x.j, .one (.at (.slc 2)), .one (.at (.slc 3)), .one (.at (.ptr 4 0))], hf := fun x => [.row false EC.chg p, .row false EC.chg q, .row true EC.chg (planC p (q.take x.j) pol), .row true EC.i64 (planK p (q.take x.j)), bxC (cA q x.j)], μ := fun x => p.length - x.i, rel := fun T _ z => slotI T 16 z.j }
  | 1009 => some { X := XPk p q, sl := [10, 16, 8, 9, 12], tf := fun x => [vi .i64 x.i, vi .i64 x.j, .one (.at (.slc 2)), .one (.at (.slc 3)), .one (.at (.ptr 4 0))], hf := fun x => [.row false EC.chg p, .row false EC.chg q, .row true EC.chg (planC p (q.take x.j) pol), .row true EC.i64 (planK p (q.take x.j)), bxC (cA q x.j)], rel := fun T _ z => slotI T 16 z.j }
  | _ => none }
def tPlan : Tfm C0 := fun args H K => match args, H with
  | [.at (.slc 0), .at (.slc 1), .at (.val (.int .i64 pol))], [.row false .chg p, .row false .chg q] => Srt Chg.key p ∧ Srt Chg.key q ∧ p.length ≤ 1000000 ∧ q.length ≤ 1000000 ∧ K (.tup [.at (.slc 2), .at (.slc 3)]) [.row false EC.chg p, .row false EC.chg q, .row true EC.chg (planC p q pol), .row true EC.i64 (planK p q)] []
  | _, _ => False
structure XPf (P : Nat → Arn → Int → Prop) where
  i : Nat
  S : Arn
  t : Int
  h : P i S t
noncomputable def aPf (P : Nat → Arn → Int → Prop) (p : List Chg) : Ann C0 := { Γ := [(72, frameT [] tDe), (76, frameT [] tIn)], inv := fun n => match n with
  | 2 => some { X := XPf P, sl := [1, 11], wr := W7, tf := fun x => [vi .u32 x.t, vi .i64 x.i], hf := fun x => chS x.S ++ [.row false EC.chg p], μ := fun x => p.length - x.i }
  | _ => none }
def tPf : Tfm C0 := fun args H K => match args with
  | [.at (.ptr 0 0), .at (.val (.int .u32 t)), .at (.slc 7)] => arMr H fun S rest => match rest with
    | [.row false .chg p] => ∃ hs l M, PfM S hs t l M ∧ l.length + p.length ≤ M ∧ Srt Chg.key p ∧ Del l p ∧ S.reads ≤ 900000000000000000 ∧ ∀ S' j, TrR S hs (perfE l p) 65537 (2000 * p.length) S' j → K (.one (.at (vU j))) (chS S' ++ [.row false EC.chg p]) W7
    | _ => False
  | _ => False
theorem okI_three {a b c : Int} (h1 : 0 ≤ a) (h2 : a ≤ 65536) (h3 : 0 ≤ b) (h4 : b ≤ 65536) (h5 : 0 ≤ c) (h6 : c ≤ 65536) : okI [a, b, c] := by
  intro i hi
  match i, hi with
  | 0, _ => exact ⟨h1, h2⟩
  | 1, _ => exact ⟨h3, h4⟩
  | 2, _ => exact ⟨h5, h6⟩
  | n + 3, hi => have hi : n + 3 < 3 := hi; omega
theorem s_rMg : SoundT C0 97 tResM := by
  refine .of Try.func97 (by decide) rfl fun args H K h hB => ?_
  unfold tResM at h
  split at h <;> try exact h.elim
  rename_i a b c
  obtain ⟨h1, h2, h3, h4, h5, h6, h7⟩ := h
  refine ⟨aRes, ⟨frame C0.ok s_vld _, frame C0.ok s_path _, trivial⟩, Eq.mp (show ((∀ i : Nat, ((i < [a, b, c].length) → ((0 ≤ [a, b, c].getD i 0) ∧ ([a, b, c].getD i 0 ≤ 65536)))) ∧
([a, b, c].length ≤ 100) ∧
((0 : Int) ≤ 12) ∧
((12 : Int) ≤ 100) ∧
(0 ≤ IntKind.i64.wrap (IntKind.i64.wrap (a + b) + c)) ∧
(IntKind.i64.wrap (IntKind.i64.wrap (a + b) + c) ≤ 1000000) ∧
(∀ p : Int, (((p) = (12 * (Hn (IntKind.i64.wrap (IntKind.i64.wrap (a + b) + c)) + 2))) → (K (SV.one (TV.at (At.val (Value.int IntKind.i64 (IntKind.i64.wrap (IntKind.i64.wrap (IntKind.i64.wrap (a + b) + c) + p)))))) [] [])))) = _ by kernel_rfl) ?_⟩
  rw [wrap_id (x := a + b) (by omega) (by omega), wrap_id (x := a + b + c) (by omega) (by omega)]
  refine ⟨okI_three h1 (by omega) h3 (by omega) h5 (by omega), by simp, by decide, by decide, by omega, by omega, fun p e => ?_⟩
  have r := Hn_rng (a + b + c)
  subst e
  rw [wrap_id (by omega) (by omega)]
  exact h7 _ rfl
theorem s_triv : SoundT C0 96 tTriv := by
  refine .of Try.func96 (by decide) rfl fun args H K h hB => ⟨A0, trivial, ?_⟩
  unfold tTriv at h
  split at h <;> try exact h.elim
  rename_i b o t
  obtain ⟨h1, h2⟩ := h
  refine Eq.mp (show (brS (b == o) ((K (SV.tup [(TV.at (At.val (Value.int IntKind.u32 (t)))), (TV.at (At.val (Value.bool true)))]) [] [])) ((brS (b == t) ((K (SV.tup [(TV.at (At.val (Value.int IntKind.u32 (o)))), (TV.at (At.val (Value.bool true)))]) [] [])) ((brS (o == t) ((K (SV.tup [(TV.at (At.val (Value.int IntKind.u32 (o)))), (TV.at (At.val (Value.bool true)))]) [] [])) ((K (SV.tup [(TV.at (At.val (Value.int IntKind.u32 0))), (TV.at (At.val (Value.bool false)))]) [] []))))))) = _ by kernel_rfl) ?_
  refine brS_of (fun c => ?_) fun c => brS_of (fun d => ?_) fun d => brS_of (fun e => ?_) fun e => ?_
  · have c : b = o := by simpa using c
    exact h1 (.inl c) t (by unfold trivI; rw [if_pos c])
  all_goals have c : ¬ b = o := by simpa using c
  · have d : b = t := by simpa using d
    exact h1 (.inr (.inl d)) o (by unfold trivI; rw [if_neg c])
  all_goals have d : ¬ b = t := by simpa using d
  · have e : o = t := by simpa using e
    exact h1 (.inr (.inr e)) o (by unfold trivI; rw [if_neg c])
  · have e : ¬ o = t := by simpa using e
    exact h2 fun q => q.elim c fun q => q.elim d e
theorem wrap_64 (x : Int) : IntKind.i64.wrap x = RowKit.wrap64 x := IntWalk.i64_left x
theorem s_sum : SoundT C0 131 tSum := by
  refine .of Try.func131 (by decide) rfl fun args H K hK hB => ⟨A0, trivial, ?_⟩
  unfold tSum at hK
  split at hK <;> try exact hK.elim
  rename_i a b c d e f g h
  refine Eq.mp (show (brS (e == 2) ((K (SV.one (TV.at (At.slc 0))) [(Chunk.row true (EC.chg) [])] [])) ((brS (a == 2) ((K (SV.one (TV.at (At.slc 0))) [(Chunk.row true (EC.chg) [({ kind := e, key := f, old := g, new := h : Chg })])] [])) ((K (SV.one (TV.at (At.slc 0))) [(Chunk.row true (EC.chg) [({ kind := e, key := f, old := g, new := IntKind.i64.wrap (IntKind.i64.wrap (d + h) - g) : Chg })])] []))))) = _ by kernel_rfl) ?_
  unfold sumO at hK
  refine brS_of (fun q => ?_) fun q => brS_of (fun r => ?_) fun r => ?_
  · have q : e = 2 := by simpa using q
    rw [if_pos q] at hK
    exact hK
  all_goals have q : ¬ e = 2 := by simpa using q
  · have r : a = 2 := by simpa using r
    rw [if_neg q, if_pos r] at hK
    exact hK
  · have r : ¬ a = 2 := by simpa using r
    rw [if_neg q, if_neg r] at hK
    rw [wrap_64, wrap_64]
    exact hK
theorem low_up {p q : List Chg} {i j : Nat} (hq : Srt Chg.key q) (hj : j < q.length) (h : Low p i q j) (hi : i < p.length) (c : (cA p i).key < (cA q j).key) : Low p (i + 1) q j := by
  refine ⟨hi, fun n m hn hm hq' => ?_⟩
  rcases Nat.lt_or_ge n i with d | d
  · exact h.2 n m d hm hq'
  · obtain rfl : n = i := by omega
    rcases Nat.lt_or_ge j m with e | e
    · exact Int.lt_trans c (srt_at hq e hq')
    · obtain rfl : j = m := by omega
      exact c
theorem low_next {p q : List Chg} {i j : Nat} (h : Low p i q j) : Low p i q (j + 1) := ⟨h.1, fun n m hn hm hq => h.2 n m hn (by omega) hq⟩
theorem vc_plan (p q : List Chg) (pol : Int) (K : KT) (hp : Srt Chg.key p) (hq : Srt Chg.key q) (lp : p.length ≤ 1000000) (lq : q.length ≤ 1000000)
    (h : K (.tup [.at (.slc 2), .at (.slc 3)]) [.row false EC.chg p, .row false EC.chg q, .row true EC.chg (planC p q pol), .row true EC.i64 (planK p q)] []) :
    vc C0 (aPlan p q pol) Try.f98 [.at (.slc 0), .at (.slc 1), .at (vI pol)] [.row false EC.chg p, .row false EC.chg q] (normK 2 K) := by
  refine Eq.mp (show ((∃ x : XPl p q, (True ∧ (True ∧ ((Value.int IntKind.i64 (pol)) = (Value.int IntKind.i64 (pol))) ∧ True ∧ True ∧ ((Value.int IntKind.i64 0) = (Value.int IntKind.i64 ((↑x.i : Int)))) ∧ True ∧ ((Value.int IntKind.i64 ((↑q.length : Int))) = (Value.int IntKind.i64 ((↑q.length : Int)))) ∧ ((Value.int IntKind.i64 0) = (Value.int IntKind.i64 ((↑x.j : Int)))) ∧ True) ∧ ((p) = (p)) ∧ ((q) = (q)) ∧ ([] = (planC p (List.take x.j q) pol)) ∧ ([] = (planK p (List.take x.j q))) ∧ True)) ∧
(∀ x : XPl p q, (True → (brS (decide ((↑x.j : Int) < (↑q.length : Int))) (((0 ≤ (↑x.j : Int)) ∧ ((↑x.j : Int) < (↑q.length : Int)) ∧ ((∃ x1 : XPi p q, ((((↑x.j : Int)) = ((↑x1.j : Int))) ∧ (True ∧ ((Value.int IntKind.i64 (pol)) = (Value.int IntKind.i64 (pol))) ∧ True ∧ True ∧ ((Value.int IntKind.i64 ((↑x.i : Int))) = (Value.int IntKind.i64 ((↑x1.i : Int)))) ∧ True ∧ True ∧ ((Value.int IntKind.i64 ((↑q.length : Int))) = (Value.int IntKind.i64 ((↑q.length : Int)))) ∧ ((Value.int IntKind.i64 ((↑x.j : Int))) = (Value.int IntKind.i64 ((↑x1.j : Int)))) ∧ True) ∧ ((p) = (p)) ∧ ((q) = (q)) ∧ ((planC p (List.take x.j q) pol) = (planC p (List.take x1.j q) pol)) ∧ ((planK p (List.take x.j q)) = (planK p (List.take x1.j q))) ∧ (((Value.int IntKind.i64 ((cA q x.j).kind)) = (Value.int IntKind.i64 ((cA q x1.j).kind))) ∧ ((Value.int IntKind.i64 ((cA q x.j).key)) = (Value.int IntKind.i64 ((cA q x1.j).key))) ∧ ((Value.int IntKind.i64 ((cA q x.j).old)) = (Value.int IntKind.i64 ((cA q x1.j).old))) ∧
    ((Value.int IntKind.i64 ((cA q x.j).new)) = (Value.int IntKind.i64 ((cA q x1.j).new))) ∧ True) ∧ True)) ∧ (∀ x1 : XPi p q, ((((↑x.j : Int)) = ((↑x1.j : Int))) → (brS (decide ((↑x1.i : Int) < (↑p.length : Int))) (((0 ≤ (↑x1.i : Int)) ∧ ((↑x1.i : Int) < (↑p.length : Int)) ∧ (brS (decide ((cA p x1.i).key < (cA q x1.j).key)) ((∃ x' : XPi p q, ((((↑x.j : Int)) = ((↑x'.j : Int))) ∧ ((True ∧ ((Value.int IntKind.i64 (pol)) = (Value.int IntKind.i64 (pol))) ∧ True ∧ True ∧ ((Value.int IntKind.i64 (IntKind.i64.wrap ((↑x1.i : Int) + 1))) = (Value.int IntKind.i64 ((↑x'.i : Int)))) ∧ True ∧ True ∧ ((Value.int IntKind.i64 ((↑q.length : Int))) = (Value.int IntKind.i64 ((↑q.length : Int)))) ∧ ((Value.int IntKind.i64 ((↑x1.j : Int))) = (Value.int IntKind.i64 ((↑x'.j : Int)))) ∧ True) ∧ ((p) = (p)) ∧ ((q) = (q)) ∧ ((planC p (List.take x1.j q) pol) = (planC p (List.take x'.j q) pol)) ∧ ((planK p (List.take x1.j q)) = (planK p (List.take x'.j q))) ∧ (((Value.int IntKind.i64 ((cA q x1.j).kind)) = (Value.int IntKind.i64 ((cA q x'.j).kind))) ∧ ((Value.int IntKind.i64 ((cA q x1.j).key)) = (Value.int IntKind.i64 ((cA q x'.j).key))) ∧ ((Value.int IntKind.i64 ((cA q x1.j).old)) = (Value.int IntKind.i64 ((cA q x'.j).old))) ∧ ((Value.int IntKind.i64 ((cA q x1.j).new)) = (Value.int IntKind.i64 ((cA q x'.j).new))) ∧ True) ∧ True) ∧ (p.length - x'.i < p.length - x1.i)))) ((∃ x2 : XPk p q, ((((↑x.j : Int)) = ((↑x2.j : Int))) ∧ (True ∧ ((Value.int IntKind.i64 (pol)) = (Value.int IntKind.i64 (pol))) ∧ True ∧
    True ∧ ((Value.int IntKind.i64 ((↑x1.i : Int))) = (Value.int IntKind.i64 ((↑x2.i : Int)))) ∧ True ∧ True ∧ ((Value.int IntKind.i64 ((↑q.length : Int))) = (Value.int IntKind.i64 ((↑q.length : Int)))) ∧ ((Value.int IntKind.i64 ((↑x1.j : Int))) = (Value.int IntKind.i64 ((↑x2.j : Int)))) ∧ True) ∧ ((p) = (p)) ∧ ((q) = (q)) ∧ ((planC p (List.take x1.j q) pol) = (planC p (List.take x2.j q) pol)) ∧ ((planK p (List.take x1.j q)) = (planK p (List.take x2.j q))) ∧ (((Value.int IntKind.i64 ((cA q x1.j).kind)) = (Value.int IntKind.i64 ((cA q x2.j).kind))) ∧ ((Value.int IntKind.i64 ((cA q x1.j).key)) = (Value.int IntKind.i64 ((cA q x2.j).key))) ∧ ((Value.int IntKind.i64 ((cA q x1.j).old)) = (Value.int IntKind.i64 ((cA q x2.j).old))) ∧ ((Value.int IntKind.i64 ((cA q x1.j).new)) = (Value.int IntKind.i64 ((cA q x2.j).new))) ∧ True) ∧ True)))))) ((∃ x2 : XPk p q, ((((↑x.j : Int)) = ((↑x2.j : Int))) ∧ (True ∧ ((Value.int IntKind.i64 (pol)) = (Value.int IntKind.i64 (pol))) ∧ True ∧ True ∧ ((Value.int IntKind.i64 ((↑x1.i : Int))) = (Value.int IntKind.i64 ((↑x2.i : Int)))) ∧ True ∧ True ∧ ((Value.int IntKind.i64 ((↑q.length : Int))) = (Value.int IntKind.i64 ((↑q.length : Int)))) ∧ ((Value.int IntKind.i64 ((↑x1.j : Int))) = (Value.int IntKind.i64 ((↑x2.j : Int)))) ∧ True) ∧ ((p) = (p)) ∧ ((q) = (q)) ∧ ((planC p (List.take x1.j q) pol) = (planC p (List.take x2.j q) pol)) ∧ ((planK p (List.take x1.j q)) = (planK p (List.take x2.j q))) ∧
    (((Value.int IntKind.i64 ((cA q x1.j).kind)) = (Value.int IntKind.i64 ((cA q x2.j).kind))) ∧ ((Value.int IntKind.i64 ((cA q x1.j).key)) = (Value.int IntKind.i64 ((cA q x2.j).key))) ∧ ((Value.int IntKind.i64 ((cA q x1.j).old)) = (Value.int IntKind.i64 ((cA q x2.j).old))) ∧ ((Value.int IntKind.i64 ((cA q x1.j).new)) = (Value.int IntKind.i64 ((cA q x2.j).new))) ∧ True) ∧ True))))))) ∧ (∀ x1 : XPk p q, ((((↑x.j : Int)) = ((↑x1.j : Int))) → (brS ((↑x1.i : Int) == (↑p.length : Int)) (((((planC p (List.take x1.j q) pol).length + [cA q x1.j].length) * bytesOf C0 EC.chg ≤ 140737488355328) ∧ (∃ x' : XPl p q, (True ∧ ((True ∧ ((Value.int IntKind.i64 (pol)) = (Value.int IntKind.i64 (pol))) ∧ True ∧ True ∧ ((Value.int IntKind.i64 ((↑x1.i : Int))) = (Value.int IntKind.i64 ((↑x'.i : Int)))) ∧ True ∧ ((Value.int IntKind.i64 ((↑q.length : Int))) = (Value.int IntKind.i64 ((↑q.length : Int)))) ∧ ((Value.int IntKind.i64 (IntKind.i64.wrap ((↑x1.j : Int) + 1))) = (Value.int IntKind.i64 ((↑x'.j : Int)))) ∧ True) ∧ ((p) = (p)) ∧ ((q) = (q)) ∧ ((planC p (List.take x1.j q) pol ++ [cA q x1.j]) = (planC p (List.take x'.j q) pol)) ∧ ((planK p (List.take x1.j q)) = (planK p (List.take x'.j q))) ∧ True) ∧ (q.length - x'.j < q.length - x.j))))) (((0 ≤ (↑x1.i : Int)) ∧ ((↑x1.i : Int) < (↑p.length : Int)) ∧ (brS ((cA p x1.i).key != (cA q x1.j).key) (((((planC p (List.take x1.j q) pol).length + [cA q x1.j].length) * bytesOf C0 EC.chg ≤ 140737488355328) ∧ (∃ x' : XPl p q, (True ∧ ((True ∧
    ((Value.int IntKind.i64 (pol)) = (Value.int IntKind.i64 (pol))) ∧ True ∧ True ∧ ((Value.int IntKind.i64 ((↑x1.i : Int))) = (Value.int IntKind.i64 ((↑x'.i : Int)))) ∧ True ∧ ((Value.int IntKind.i64 ((↑q.length : Int))) = (Value.int IntKind.i64 ((↑q.length : Int)))) ∧ ((Value.int IntKind.i64 (IntKind.i64.wrap ((↑x1.j : Int) + 1))) = (Value.int IntKind.i64 ((↑x'.j : Int)))) ∧ True) ∧ ((p) = (p)) ∧ ((q) = (q)) ∧ ((planC p (List.take x1.j q) pol ++ [cA q x1.j]) = (planC p (List.take x'.j q) pol)) ∧ ((planK p (List.take x1.j q)) = (planK p (List.take x'.j q))) ∧ True) ∧ (q.length - x'.j < q.length - x.j))))) (((0 ≤ (↑x1.i : Int)) ∧ ((↑x1.i : Int) < (↑p.length : Int)) ∧ (brS ((cA p x1.i).kind == (cA q x1.j).kind && ((cA p x1.i).key == (cA q x1.j).key && ((cA p x1.i).old == (cA q x1.j).old && ((cA p x1.i).new == (cA q x1.j).new && true)))) ((∃ x' : XPl p q, (True ∧ ((True ∧ ((Value.int IntKind.i64 (pol)) = (Value.int IntKind.i64 (pol))) ∧ True ∧ True ∧ ((Value.int IntKind.i64 ((↑x1.i : Int))) = (Value.int IntKind.i64 ((↑x'.i : Int)))) ∧ True ∧ ((Value.int IntKind.i64 ((↑q.length : Int))) = (Value.int IntKind.i64 ((↑q.length : Int)))) ∧ ((Value.int IntKind.i64 (IntKind.i64.wrap ((↑x1.j : Int) + 1))) = (Value.int IntKind.i64 ((↑x'.j : Int)))) ∧ True) ∧ ((p) = (p)) ∧ ((q) = (q)) ∧ ((planC p (List.take x1.j q) pol) = (planC p (List.take x'.j q) pol)) ∧ ((planK p (List.take x1.j q)) = (planK p (List.take x'.j q))) ∧ True) ∧ (q.length - x'.j < q.length - x.j))))
    (((((planK p (List.take x1.j q)).length + [(cA q x1.j).key].length) * bytesOf C0 EC.i64 ≤ 140737488355328) ∧ (brS (pol == 2) (((((planC p (List.take x1.j q) pol).length + [cA q x1.j].length) * bytesOf C0 EC.chg ≤ 140737488355328) ∧ (∃ x' : XPl p q, (True ∧ ((True ∧ ((Value.int IntKind.i64 (pol)) = (Value.int IntKind.i64 (pol))) ∧ True ∧ True ∧ ((Value.int IntKind.i64 ((↑x1.i : Int))) = (Value.int IntKind.i64 ((↑x'.i : Int)))) ∧ True ∧ ((Value.int IntKind.i64 ((↑q.length : Int))) = (Value.int IntKind.i64 ((↑q.length : Int)))) ∧ ((Value.int IntKind.i64 (IntKind.i64.wrap ((↑x1.j : Int) + 1))) = (Value.int IntKind.i64 ((↑x'.j : Int)))) ∧ True) ∧ ((p) = (p)) ∧ ((q) = (q)) ∧ ((planC p (List.take x1.j q) pol ++ [cA q x1.j]) = (planC p (List.take x'.j q) pol)) ∧ ((planK p (List.take x1.j q) ++ [(cA q x1.j).key]) = (planK p (List.take x'.j q))) ∧ True) ∧ (q.length - x'.j < q.length - x.j))))) ((brS (pol == 4) (((((planC p (List.take x1.j q) pol).length + (sumO (cA p x1.i) (cA q x1.j)).toList.length) * bytesOf C0 EC.chg ≤ 140737488355328) ∧ (∃ x' : XPl p q, (True ∧ ((True ∧ ((Value.int IntKind.i64 (pol)) = (Value.int IntKind.i64 (pol))) ∧ True ∧ True ∧ ((Value.int IntKind.i64 ((↑x1.i : Int))) = (Value.int IntKind.i64 ((↑x'.i : Int)))) ∧ True ∧ ((Value.int IntKind.i64 ((↑q.length : Int))) = (Value.int IntKind.i64 ((↑q.length : Int)))) ∧ ((Value.int IntKind.i64 (IntKind.i64.wrap ((↑x1.j : Int) + 1))) = (Value.int IntKind.i64 ((↑x'.j : Int)))) ∧ True) ∧ ((p) = (p)) ∧ ((q) = (q)) ∧
    ((planC p (List.take x1.j q) pol ++ (sumO (cA p x1.i) (cA q x1.j)).toList) = (planC p (List.take x'.j q) pol)) ∧ ((planK p (List.take x1.j q) ++ [(cA q x1.j).key]) = (planK p (List.take x'.j q))) ∧ True) ∧ (q.length - x'.j < q.length - x.j))))) ((∃ x' : XPl p q, (True ∧ ((True ∧ ((Value.int IntKind.i64 (pol)) = (Value.int IntKind.i64 (pol))) ∧ True ∧ True ∧ ((Value.int IntKind.i64 ((↑x1.i : Int))) = (Value.int IntKind.i64 ((↑x'.i : Int)))) ∧ True ∧ ((Value.int IntKind.i64 ((↑q.length : Int))) = (Value.int IntKind.i64 ((↑q.length : Int)))) ∧ ((Value.int IntKind.i64 (IntKind.i64.wrap ((↑x1.j : Int) + 1))) = (Value.int IntKind.i64 ((↑x'.j : Int)))) ∧ True) ∧ ((p) = (p)) ∧ ((q) = (q)) ∧ ((planC p (List.take x1.j q) pol) = (planC p (List.take x'.j q) pol)) ∧ ((planK p (List.take x1.j q) ++ [(cA q x1.j).key]) = (planK p (List.take x'.j q))) ∧ True) ∧ (q.length - x'.j < q.length - x.j)))))))))))))))))))) ((K (SV.tup [(TV.at (At.slc 2)), (TV.at (At.slc 3))]) [(Chunk.row false (EC.chg) (p)), (Chunk.row false (EC.chg) (q)), (Chunk.row true (EC.chg) (planC p (List.take x.j q) pol)), (Chunk.row true (EC.i64) (planK p (List.take x.j q)))] [])))))) = _ by kernel_rfl) ?_
  refine ⟨⟨⟨0, 0, Nat.zero_le _, Nat.zero_le _, fun n m hn => absurd hn (Nat.not_lt_zero _)⟩, ?_⟩, fun x _ => brS_of (fun c => ?_) fun c => ?_⟩
  · (repeat' first | exact trivial | exact rfl | refine And.intro ?_ ?_)
  · obtain ⟨i, j, hj, lo⟩ := x
    dsimp only at c ⊢
    have c : j < q.length := by have := of_decide_eq_true c; omega
    refine ⟨by omega, by omega, ⟨⟨⟨i, j, c, lo⟩, rfl, ?_⟩, fun x1 e => ?_⟩, fun x1 e => ?_⟩
    · (repeat' first | exact trivial | exact rfl | refine And.intro ?_ ?_)
    · obtain ⟨i1, j1, hj1, lo1⟩ := x1
      dsimp only at e ⊢
      obtain rfl : j = j1 := by omega
      have hi1 := lo1.1
      refine brS_of (fun d => ?_) fun d => ⟨⟨i1, j, hj1, lo1, fun d' => absurd d (by rw [decide_eq_true (show (i1 : Int) < p.length by omega)]; decide)⟩, rfl, ?_⟩
      · have d : i1 < p.length := by have := of_decide_eq_true d; omega
        refine ⟨by omega, by omega, brS_of (fun f => ⟨⟨i1 + 1, j, hj1, low_up hq hj1 lo1 d (of_decide_eq_true f)⟩, rfl, ?_, by show p.length - (i1 + 1) < p.length - i1; omega⟩) fun f => ⟨⟨i1, j, hj1, lo1, fun _ => of_decide_eq_false f⟩, rfl, ?_⟩⟩
        · have nx : IntKind.i64.wrap ((i1 : Int) + 1) = ((i1 + 1 : Nat) : Int) := wrap_next d lp
          (repeat' first | exact trivial | exact rfl | exact congrArg (Value.int .i64) nx | refine And.intro ?_ ?_)
        · (repeat' first | exact trivial | exact rfl | refine And.intro ?_ ?_)
      · (repeat' first | exact trivial | exact rfl | refine And.intro ?_ ?_)
    · obtain ⟨i1, j1, hj1, lo1, hx⟩ := x1
      dsimp only at e ⊢
      obtain rfl : j = j1 := by omega
      have hi1 := lo1.1
      have hf := low_fnd hp (j := j) (q := q) (i := i1) (fun n hn => lo1.2 n j hn (Nat.le_refl _) hj1) hi1 hx
      have hc := planC_snoc (p := p) (pol := pol) hj1
      have hk := planK_snoc (p := p) hj1
      have nx : IntKind.i64.wrap ((j : Int) + 1) = ((j + 1 : Nat) : Int) := wrap_next hj1 lq
      have lc := planC_len p (q.take j) pol
      have lk := planK_len p (q.take j)
      rw [List.length_take] at lc lk
      have ms : q.length - (j + 1) < q.length - j := by omega
      have lo2 := low_next lo1
      rw [bytes_chg, bytes_i64]
      have none_ : fnd Chg.key p (cA q j).key = none → planC p (q.take j) pol ++ [cA q j] = planC p (q.take (j + 1)) pol ∧ planK p (q.take j) = planK p (q.take (j + 1)) := fun e => by
        rw [hc, hk, e]
        exact ⟨rfl, (List.append_nil _).symm⟩
      refine brS_of (fun d => ?_) fun d => ?_
      · have d : i1 = p.length := by have : (i1 : Int) = p.length := by simpa using d
                                     omega
        rw [if_neg (by omega)] at hf
        obtain ⟨n1, n2⟩ := none_ hf
        refine ⟨by simp only [List.length_singleton]; omega, ⟨i1, j + 1, hj1, lo2⟩, trivial, ?_, ms⟩
        (repeat' first | exact trivial | exact rfl | exact congrArg (Value.int .i64) nx | exact n1 | exact n2 | refine And.intro ?_ ?_)
      have d : ¬ i1 = p.length := by intro e; rw [e] at d; simp at d
      have d : i1 < p.length := by omega
      refine ⟨by omega, by omega, brS_of (fun f => ?_) fun f => ?_⟩
      · have f : (cA p i1).key ≠ (cA q j).key := by simpa using f
        rw [if_neg fun q => f q.2] at hf
        obtain ⟨n1, n2⟩ := none_ hf
        refine ⟨by simp only [List.length_singleton]; omega, ⟨i1, j + 1, hj1, lo2⟩, trivial, ?_, ms⟩
        (repeat' first | exact trivial | exact rfl | exact congrArg (Value.int .i64) nx | exact n1 | exact n2 | refine And.intro ?_ ?_)
      have f : (cA p i1).key = (cA q j).key := by simpa using f
      rw [if_pos ⟨d, f⟩] at hf
      rw [hf] at hc hk
      refine ⟨by omega, by omega, ?_⟩
      rw [chg_eqB]
      refine brS_of (fun g => ?_) fun g => ?_
      · have g : cA p i1 = cA q j := of_decide_eq_true g
        unfold outO at hc
        dsimp only at hc
        unfold cfO at hk
        dsimp only at hk
        rw [if_pos g] at hc hk
        have n1 : planC p (q.take j) pol = planC p (q.take (j + 1)) pol := by rw [hc]; exact (List.append_nil _).symm
        have n2 : planK p (q.take j) = planK p (q.take (j + 1)) := by rw [hk]; exact (List.append_nil _).symm
        refine ⟨⟨i1, j + 1, hj1, lo2⟩, trivial, ?_, ms⟩
        (repeat' first | exact trivial | exact rfl | exact congrArg (Value.int .i64) nx | exact n1 | exact n2 | refine And.intro ?_ ?_)
      have g : ¬ cA p i1 = cA q j := of_decide_eq_false g
      unfold outO at hc
      dsimp only at hc
      unfold cfO at hk
      dsimp only at hk
      rw [if_neg g] at hc hk
      have n2 : planK p (q.take j) ++ [(cA q j).key] = planK p (q.take (j + 1)) := hk.symm
      refine ⟨by simp only [List.length_singleton]; omega, brS_of (fun r => ?_) fun r => brS_of (fun r2 => ?_) fun r2 => ?_⟩
      · have r : pol = 2 := by simpa using r
        rw [if_pos r] at hc
        have n1 : planC p (q.take j) pol ++ [cA q j] = planC p (q.take (j + 1)) pol := hc.symm
        refine ⟨by simp only [List.length_singleton]; omega, ⟨i1, j + 1, hj1, lo2⟩, trivial, ?_, ms⟩
        (repeat' first | exact trivial | exact rfl | exact congrArg (Value.int .i64) nx | exact n1 | exact n2 | refine And.intro ?_ ?_)
      · have r : ¬ pol = 2 := by simpa using r
        have r2 : pol = 4 := by simpa using r2
        rw [if_neg r, if_pos r2] at hc
        have ls : (sumO (cA p i1) (cA q j)).toList.length ≤ 1 := by cases sumO (cA p i1) (cA q j) <;> simp
        refine ⟨by omega, ⟨i1, j + 1, hj1, lo2⟩, trivial, ?_, ms⟩
        (repeat' first | exact trivial | exact rfl | exact congrArg (Value.int .i64) nx | exact hc.symm | exact n2 | refine And.intro ?_ ?_)
      · have r : ¬ pol = 2 := by simpa using r
        have r2 : ¬ pol = 4 := by simpa using r2
        rw [if_neg r, if_neg r2] at hc
        have n1 : planC p (q.take j) pol = planC p (q.take (j + 1)) pol := by rw [hc]; exact (List.append_nil _).symm
        refine ⟨⟨i1, j + 1, hj1, lo2⟩, trivial, ?_, ms⟩
        (repeat' first | exact trivial | exact rfl | exact congrArg (Value.int .i64) nx | exact n1 | exact n2 | refine And.intro ?_ ?_)
  · have e : x.j = q.length := by have := x.h.1; have := of_decide_eq_false c; omega
    rw [e, List.take_length]
    exact h
theorem s_plan : SoundT C0 98 tPlan := by
  refine .of Try.func98 (by decide) rfl fun args H K h hB => ?_
  unfold tPlan at h
  split at h <;> try exact h.elim
  rename_i pol p q
  exact ⟨aPlan p q pol, ⟨frame C0.ok s_sum _, trivial⟩, vc_plan p q pol K h.1 h.2.1 h.2.2.1 h.2.2.2.1 h.2.2.2.2⟩
def PPf (S0 : Arn) (hs : List Int) (l : List Ent) (p : List Chg) (M : Nat) : Nat → Arn → Int → Prop := fun i S t => i ≤ p.length ∧ PfM S hs t (perfE l (p.take i)) M ∧ Got S0 hs 65537 (2000 * i) S (t :: hs)
theorem pf_step {S0 S S' : Arn} {hs : List Int} {l L : List Ent} {p : List Chg} {M i m r : Nat} {t j : Int} (h : PPf S0 hs l p M i S t) (hi : i < p.length) (hp : Srt Chg.key p) (hl : Asc l) (e : L = perfE l (p.take (i + 1))) (tr : TrR S hs L m r S' j) (hr : r ≤ 2000) : PPf S0 hs l p M (i + 1) S' j := by
  obtain ⟨_, pf, g⟩ := h
  have ha : Asc (perfE l (p.take (i + 1))) := (perf_spec (hp.take _) hl).1
  subst e
  refine ⟨hi, pf.next tr ha, ?_⟩
  have g2 := g.seq tr.got (h := hs) (fun _ h => h) (fun _ h => h)
  exact (g2.loose).mono (Nat.le_refl _) (by omega)
theorem vc_pf (S : Arn) (t : Int) (p : List Chg) (K : KT) (hs : List Int) (l : List Ent) (M : Nat) (pf : PfM S hs t l M) (hM : l.length + p.length ≤ M) (hp : Srt Chg.key p) (hd : Del l p) (rd : S.reads ≤ 900000000000000000)
    (h : ∀ S' j, TrR S hs (perfE l p) 65537 (2000 * p.length) S' j → K (.one (.at (vU j))) (chS S' ++ [.row false EC.chg p]) W7) :
    vc C0 (aPf (PPf S hs l p M) p) Try.f99 [.at (.ptr 0 0), .at (vU t), .at (.slc 7)] (chS S ++ [.row false EC.chg p]) (normK 8 (wideK W7 K)) := by
  generalize hP : PPf S hs l p M = P
  refine Eq.mp (show ((∃ x : XPf P, (True ∧ (True ∧ ((Value.int IntKind.u32 (t)) = (Value.int IntKind.u32 (x.t))) ∧ True ∧ ((Value.int IntKind.i64 ((↑p.length : Int))) = (Value.int IntKind.i64 ((↑p.length : Int)))) ∧ ((Value.int IntKind.i64 0) = (Value.int IntKind.i64 ((↑x.i : Int)))) ∧ True) ∧ (True ∧ True ∧ True ∧ ((Value.int IntKind.u64 (S.reads)) = (Value.int IntKind.u64 (x.S.reads))) ∧ True) ∧ (True ∧ True ∧ True ∧ ((Value.int IntKind.u32 (S.fresh)) = (Value.int IntKind.u32 (x.S.fresh))) ∧ True) ∧ ((S.nodes) = (x.S.nodes)) ∧ ((S.counts) = (x.S.counts)) ∧ ((S.used) = (x.S.used)) ∧ ((S.gen) = (x.S.gen)) ∧ ((S.rel) = (x.S.rel)) ∧ ((p) = (p)) ∧ True)) ∧
(∀ x : XPf P, (True → (brS (decide ((↑x.i : Int) < (↑p.length : Int))) (((0 ≤ (↑x.i : Int)) ∧ ((↑x.i : Int) < (↑p.length : Int)) ∧ (brS ((cA p x.i).kind == 2) ((∃ hs : List Int, (∃ t1 : Tr, ((Wf x.S (x.t :: hs)) ∧ (Rep x.S t1 x.t) ∧ (t1.Bal) ∧ (Asc t1.list) ∧ (t1.size ≤ 700000) ∧ (hasK t1.list (cA p x.i).key) ∧ ((↑(dB t1.size) : Int) ≤ x.S.free) ∧ (hs.length ≤ 200000000) ∧ (x.S.reads + 5 * (↑(dB t1.size) : Int) ≤ 1500000000000000000) ∧ (∀ S' : Arn, (∀ j : Int, ((TrR x.S hs (flt (neK (cA p x.i).key) t1.list) (dB t1.size) (5 * dB t1.size) S' j) → (∃ x' : XPf P, (True ∧ ((True ∧ ((Value.int IntKind.u32 (j)) = (Value.int IntKind.u32 (x'.t))) ∧ True ∧ ((Value.int IntKind.i64 ((↑p.length : Int))) = (Value.int IntKind.i64 ((↑p.length : Int)))) ∧ ((Value.int IntKind.i64 (IntKind.i64.wrap ((↑x.i : Int) + 1))) = (Value.int IntKind.i64 ((↑x'.i : Int)))) ∧
    True) ∧ (True ∧ True ∧ True ∧ ((Value.int IntKind.u64 (S'.reads)) = (Value.int IntKind.u64 (x'.S.reads))) ∧ True) ∧ (True ∧ True ∧ True ∧ ((Value.int IntKind.u32 (S'.fresh)) = (Value.int IntKind.u32 (x'.S.fresh))) ∧ True) ∧ ((S'.nodes) = (x'.S.nodes)) ∧ ((S'.counts) = (x'.S.counts)) ∧ ((S'.used) = (x'.S.used)) ∧ ((S'.gen) = (x'.S.gen)) ∧ ((S'.rel) = (x'.S.rel)) ∧ ((p) = (p)) ∧ True) ∧ (p.length - x'.i < p.length - x.i)))))))))) ((∃ hs : List Int, (∃ t1 : Tr, ((Wf x.S (x.t :: hs)) ∧ (Rep x.S t1 x.t) ∧ (t1.Bal) ∧ (Asc t1.list) ∧ (t1.size ≤ 700000) ∧ ((↑(iB t1.size) : Int) ≤ x.S.free) ∧ (hs.length ≤ 500000000) ∧ (x.S.reads + 5 * (↑(iB t1.size) : Int) ≤ 1600000000000000000) ∧ (∀ S' : Arn, (∀ j : Int, ((TrR x.S hs (insE t1.list ((cA p x.i).key, (cA p x.i).new)) (iB t1.size) (5 * iB t1.size) S' j) → (∃ x' : XPf P, (True ∧ ((True ∧ ((Value.int IntKind.u32 (j)) = (Value.int IntKind.u32 (x'.t))) ∧ True ∧ ((Value.int IntKind.i64 ((↑p.length : Int))) = (Value.int IntKind.i64 ((↑p.length : Int)))) ∧ ((Value.int IntKind.i64 (IntKind.i64.wrap ((↑x.i : Int) + 1))) = (Value.int IntKind.i64 ((↑x'.i : Int)))) ∧ True) ∧ (True ∧ True ∧ True ∧ ((Value.int IntKind.u64 (S'.reads)) = (Value.int IntKind.u64 (x'.S.reads))) ∧ True) ∧ (True ∧ True ∧ True ∧ ((Value.int IntKind.u32 (S'.fresh)) = (Value.int IntKind.u32 (x'.S.fresh))) ∧ True) ∧ ((S'.nodes) = (x'.S.nodes)) ∧ ((S'.counts) = (x'.S.counts)) ∧ ((S'.used) = (x'.S.used)) ∧ ((S'.gen) = (x'.S.gen)) ∧ ((S'.rel) = (x'.S.rel)) ∧ ((p) = (p)) ∧ True) ∧
    (p.length - x'.i < p.length - x.i))))))))))))) ((K (SV.one (TV.at (At.val (Value.int IntKind.u32 (x.t))))) [(Chunk.box [(At.ptr 1 0), (At.slc 2), (At.slc 3), (At.val (Value.int IntKind.u64 (x.S.reads)))]), (Chunk.box [(At.slc 4), (At.slc 5), (At.slc 6), (At.val (Value.int IntKind.u32 (x.S.fresh)))]), (Chunk.row true (EC.node) (x.S.nodes)), (Chunk.row true (EC.int) (x.S.counts)), (Chunk.row true (EC.bool) (x.S.used)), (Chunk.row true (EC.u32) (x.S.gen)), (Chunk.row true (EC.u32) (x.S.rel)), (Chunk.row false (EC.chg) (p))] [0, 1, 2, 3, 4, 5, 6])))))) = _ by kernel_rfl) ?_
  have sz := pf.sz
  have ha := pf.asc
  refine ⟨⟨⟨0, S, t, ?_⟩, ?_⟩, fun x _ => ?_⟩
  · subst hP
    exact ⟨Nat.zero_le _, pf, (Got.refl pf.wf).mono (by omega) (by omega)⟩
  · (repeat' first | exact trivial | exact rfl | refine And.intro ?_ ?_)
  obtain ⟨i, S1, t1, hx⟩ := x
  subst hP
  dsimp only
  obtain ⟨hi, pf1, g⟩ := id hx
  have sp := perf_spec (hp.take i) ha
  have len := sp.2.1
  rw [List.length_take] at len
  have fr := pf1.free (by omega)
  have rd1 := g.rd
  obtain ⟨tr, rp, lt, bt⟩ := pf1.tree
  have zt : tr.size = (perfE l (p.take i)).length := by rw [← tr.list_len, lt]
  have gr := gN_rng (tr.size + 1)
  have iB' : iB tr.size = 4 * gN (tr.size + 1) + 1 := rfl
  have dB' := dB_le tr.size
  rw [← zt] at fr len
  have hl := pf1.hl
  refine brS_of (fun c => ?_) fun c => ?_
  · have c : i < p.length := by have := of_decide_eq_true c; omega
    have nx : IntKind.i64.wrap ((i : Int) + 1) = ((i + 1 : Nat) : Int) := wrap_next c (by omega)
    have sn := perf_snoc (l := l) c
    unfold stepP at sn
    refine ⟨by omega, by omega, brS_of (fun d => ?_) fun d => ?_⟩
    · have d : (cA p i).kind = 2 := by simpa using d
      rw [if_pos d, ← lt] at sn
      refine ⟨hs, tr, pf1.wf, rp, bt, by rw [lt]; exact sp.1, by omega, by rw [lt]; exact hd.at hp ha c d, by omega, by omega, by omega, fun S2 j tj => ⟨⟨i + 1, S2, j, pf_step hx c hp ha sn.symm tj (by omega)⟩, trivial, ?_, by show p.length - (i + 1) < p.length - i; omega⟩⟩
      (repeat' first | exact trivial | exact rfl | exact congrArg (Value.int .i64) nx | refine And.intro ?_ ?_)
    · have d : ¬ (cA p i).kind = 2 := by simpa using d
      rw [if_neg d, ← lt] at sn
      refine ⟨hs, tr, pf1.wf, rp, bt, by rw [lt]; exact sp.1, by omega, by omega, by omega, by omega, fun S2 j tj => ⟨⟨i + 1, S2, j, pf_step hx c hp ha sn.symm tj (by omega)⟩, trivial, ?_, by show p.length - (i + 1) < p.length - i; omega⟩⟩
      (repeat' first | exact trivial | exact rfl | exact congrArg (Value.int .i64) nx | refine And.intro ?_ ?_)
  · have e : i = p.length := by have := of_decide_eq_false c; omega
    subst e
    rw [List.take_length] at lt
    exact h S1 t1 ⟨g, tr, rp, lt, bt⟩
theorem s_pf : SoundT C0 99 tPf := by
  refine .ofW W7 Try.func99 (by decide) rfl fun args H K h hB => ?_
  unfold tPf at h
  split at h <;> try exact h.elim
  unfold arMr at h
  split at h <;> try exact h.elim
  dsimp only at h
  split at h <;> try exact h.elim
  rename_i t _ rd fr nd ct us gn rl _ p
  obtain ⟨hs, l, M, h1, h2, h3, h4, h5, h6⟩ := h
  exact ⟨aPf (PPf ⟨us, gn, rl, fr, nd, ct, rd⟩ hs l p M) p, ⟨frame C0.ok s_de _, frame C0.ok s_in _, trivial⟩, vc_pf ⟨us, gn, rl, fr, nd, ct, rd⟩ t p K hs l M h1 h2 h3 h4 h5 h6⟩
end Go.Proofs.Ytmjnoiajenoinaa.Sx
end
section
/- merge: Merge and Conflicts. -/
namespace Go.Proofs.Ytmjnoiajenoinaa.Sx
open Go

/-KEEP hasK Wf exW inU live Arn.cap Arn.free Rep Kept rdS retL Tr.size Tr.list Tr.Bal TrR Got flt getE Asc Hn planC planK fnd Srt perfE PfM trivB trivI Del btw mergeE confE Kin needM MgM-/
def needM (tb to tt : Tr) : Int := (tb.size : Int) + to.size + tt.size + 12 * (Hn ((tb.size : Int) + to.size + tt.size) + 2)
structure MgM (S : Arn) (hs : List Int) (tb to tt : Tr) (b o t : Int) : Prop where
  wf : Wf S hs
  rb : Rep S tb b
  ro : Rep S to o
  rt : Rep S tt t
  bb : tb.Bal
  bo : to.Bal
  bt : tt.Bal
  ab : Asc tb.list
  ao : Asc to.list
  at_ : Asc tt.list
  kb : Kin tb.list
  ko : Kin to.list
  kt : Kin tt.list
  sb : tb.size ≤ 30000
  so : to.size ≤ 30000
  st : tt.size ≤ 30000
  hl : hs.length ≤ 900000
  rd : S.reads ≤ 500000000000000000
def MgR (S : Arn) (hs : List Int) (tb to tt : Tr) (b o t pol : Int) (S' : Arn) (i : Int) (c : List Int) (e : Int) : Prop :=
  (¬ (1 ≤ pol ∧ pol ≤ 4) ∧ e = 1 ∧ i = 0 ∧ c = [] ∧ S' = S) ∨
  ((1 ≤ pol ∧ pol ≤ 4) ∧ trivB b o t ∧ e = 0 ∧ i = trivI b o t ∧ c = [] ∧ S' = retL S i) ∨
  ((1 ≤ pol ∧ pol ≤ 4) ∧ ¬ trivB b o t ∧ S.free < needM tb to tt ∧ e = 2 ∧ i = 0 ∧ c = [] ∧ ∃ m, m ≤ 3 ∧ S' = rdS S m) ∨
  ((1 ≤ pol ∧ pol ≤ 4) ∧ ¬ trivB b o t ∧ needM tb to tt ≤ S.free ∧ (pol = 3 ∧ confE tb.list to.list tt.list ≠ []) ∧ e = 10 ∧ i = 0 ∧ c = confE tb.list to.list tt.list ∧ ∃ m, m ≤ 2000000 ∧ S' = rdS S m) ∨
  ((1 ≤ pol ∧ pol ≤ 4) ∧ ¬ trivB b o t ∧ needM tb to tt ≤ S.free ∧ ¬ (pol = 3 ∧ confE tb.list to.list tt.list ≠ []) ∧ e = 0 ∧ c = confE tb.list to.list tt.list ∧ TrR S hs (mergeE tb.list to.list tt.list pol) 65537 2000000000 S' i)
noncomputable def aMg : Ann C0 := { Γ := [(96, frameT [] tTriv), (73, frameT [] tHold), (17, frameT [] tSize), (97, frameT [] tResM), (70, frameT [] tRoom), (51, frameT [] tDiff), (98, frameT [] tPlan), (99, frameT [] tPf)] }
def tMg : Tfm C0 := fun args H K => match args with
  | [.at (.ptr 0 0), .at (.val (.int .u32 b)), .at (.val (.int .u32 o)), .at (.val (.int .u32 t)), .at (.val (.int .i64 pol))] => arM H fun S => ∃ hs tb to tt, MgM S hs tb to tt b o t ∧ ∀ S' i c e, MgR S hs tb to tt b o t pol S' i c e → K (.tup [.at (vU i), .at (.slc 7), .at (vI e)]) (chS S' ++ [.row true EC.i64 c]) W7
  | _ => False
theorem btw_len {l m : List Ent} (hl : Asc l) (hm : Asc m) : (btw l m).length ≤ l.length + m.length := by rw [← difE_btw hl hm]; exact difE_len l m
theorem us_b1 (b : Bool) : b.toNat ≤ 1 := by cases b <;> decide
/-- The merge itself, where there is room. -/
theorem mg_go {S S4 S5 S' : Arn} {hs : List Int} {tb to tt : Tr} {b o t pol j : Int} {m : Nat} (h : MgM S hs tb to tt b o t) (hf : needM tb to tt ≤ S.free) (e4 : S4 = rdS S m) (hm : m ≤ 800000) (e5 : S5 = retL S4 o) :
    Wf S4 hs ∧ live S4 o ∧ PfM S5 hs o to.list (tb.size + to.size + tt.size) ∧ to.list.length + (planC (btw tb.list to.list) (btw tb.list tt.list) pol).length ≤ tb.size + to.size + tt.size ∧ Srt Chg.key (planC (btw tb.list to.list) (btw tb.list tt.list) pol) ∧
    Del to.list (planC (btw tb.list to.list) (btw tb.list tt.list) pol) ∧ S5.reads ≤ 900000000000000000 ∧
    (TrR S5 hs (perfE to.list (planC (btw tb.list to.list) (btw tb.list tt.list) pol)) 65537 (2000 * (planC (btw tb.list to.list) (btw tb.list tt.list) pol).length) S' j → TrR S hs (mergeE tb.list to.list tt.list pol) 65537 2000000000 S' j) := by
  have hrd := h.rd
  have hl := h.hl
  have sb := h.sb
  have so := h.so
  have st := h.st
  have lb := tb.list_len
  have lo := to.list_len
  have lt := tt.list_len
  have w4 : Wf S4 hs := by rw [e4]; exact h.wf.rd (by omega)
  have r4 : Rep S4 to o := by rw [e4]; exact h.ro.rdn
  have f4 : S4.free = S.free := by rw [e4]; rfl
  have q4 : S4.reads = S.reads + m := by rw [e4]; rfl
  have bl := btw_len h.ab h.at_
  have pl := planC_len (btw tb.list to.list) (btw tb.list tt.list) pol
  have nd : ((tb.size + to.size + tt.size : Nat) : Int) + 4 * Hn ((tb.size + to.size + tt.size : Nat) : Int) + 4 ≤ S4.free := by
    have := Hn_rng ((tb.size : Int) + to.size + tt.size)
    rw [show ((tb.size + to.size + tt.size : Nat) : Int) = (tb.size : Int) + to.size + tt.size by omega]
    unfold needM at hf
    omega
  obtain ⟨pf, g⟩ := PfM.start (M := tb.size + to.size + tt.size) w4 r4 h.bo h.ao (by omega) (by omega) nd
  rw [← e5] at pf g
  have q5 := g.rd
  refine ⟨w4, r4.us, pf, by omega, planC_srt (btw_srt h.ab h.at_) pol, plan_del h.ab h.ao h.at_ pol, by omega, fun tr => ?_⟩
  have g0 : Got S hs 0 m S4 hs := by rw [e4]; exact Got.rds h.wf (by omega)
  rw [plan_merge h.ab h.ao h.at_ pol] at tr
  exact ⟨((((g0.seq g (h := hs) (fun _ h => h) (fun _ h => h)).seq tr.got (fun _ h => h) (fun _ h => h)).loose).mono (Nat.le_refl _) (by omega)), tr.tree⟩
theorem triv_live {S : Arn} {hs : List Int} {tb to tt : Tr} {b o t : Int} (h : MgM S hs tb to tt b o t) : live S (trivI b o t) := by
  unfold trivI
  split
  · exact h.rt.us
  · exact h.ro.us
theorem conf_pos {l : List Int} : decide ((l.length : Int) > 0) = true ↔ l ≠ [] := by
  cases l with
  | nil => simp
  | cons x l => simp
theorem vc_mg (S : Arn) (b o t pol : Int) (K : KT) (hs : List Int) (tb to tt : Tr) (hm : MgM S hs tb to tt b o t)
    (h : ∀ S' i c e, MgR S hs tb to tt b o t pol S' i c e → K (.tup [.at (vU i), .at (.slc 7), .at (vI e)]) (chS S' ++ [.row true EC.i64 c]) W7) :
    vc C0 aMg Try.f45 [.at (.ptr 0 0), .at (vU b), .at (vU o), .at (vU t), .at (vI pol)] (chS S) (normK 7 (wideK W7 K)) := by
  refine Eq.mp (show (brS (decide (pol < 1)) ((K (SV.tup [(TV.at (At.val (Value.int IntKind.u32 0))), (TV.at (At.slc 7)), (TV.at (At.val (Value.int IntKind.i64 1)))]) [(Chunk.box [(At.ptr 1 0), (At.slc 2), (At.slc 3), (At.val (Value.int IntKind.u64 (S.reads)))]), (Chunk.box [(At.slc 4), (At.slc 5), (At.slc 6), (At.val (Value.int IntKind.u32 (S.fresh)))]), (Chunk.row true (EC.node) (S.nodes)), (Chunk.row true (EC.int) (S.counts)), (Chunk.row true (EC.bool) (S.used)), (Chunk.row true (EC.u32) (S.gen)), (Chunk.row true (EC.u32) (S.rel)), (Chunk.row true (EC.i64) [])] [0, 1, 2, 3, 4, 5, 6])) ((brS (decide (pol > 4)) ((K (SV.tup [(TV.at (At.val (Value.int IntKind.u32 0))), (TV.at (At.slc 7)), (TV.at (At.val (Value.int IntKind.i64 1)))]) [(Chunk.box [(At.ptr 1 0), (At.slc 2), (At.slc 3), (At.val (Value.int IntKind.u64 (S.reads)))]), (Chunk.box [(At.slc 4), (At.slc 5), (At.slc 6), (At.val (Value.int IntKind.u32 (S.fresh)))]), (Chunk.row true (EC.node) (S.nodes)), (Chunk.row true (EC.int) (S.counts)), (Chunk.row true (EC.bool) (S.used)), (Chunk.row true (EC.u32) (S.gen)), (Chunk.row true (EC.u32) (S.rel)), (Chunk.row true (EC.i64) [])] [0, 1, 2, 3, 4, 5, 6])) ((((trivB b o t) → (∀ r : Int, (((r) = (trivI b o t)) → ((live S r) ∧ (exW S) ∧ (∀ S' : Arn, (((S') = (retL S r)) →
    (K (SV.tup [(TV.at (At.val (Value.int IntKind.u32 (r)))), (TV.at (At.slc 7)), (TV.at (At.val (Value.int IntKind.i64 0)))]) [(Chunk.box [(At.ptr 1 0), (At.slc 2), (At.slc 3), (At.val (Value.int IntKind.u64 (S'.reads)))]), (Chunk.box [(At.slc 4), (At.slc 5), (At.slc 6), (At.val (Value.int IntKind.u32 (S'.fresh)))]), (Chunk.row true (EC.node) (S'.nodes)), (Chunk.row true (EC.int) (S'.counts)), (Chunk.row true (EC.bool) (S'.used)), (Chunk.row true (EC.u32) (S'.gen)), (Chunk.row true (EC.u32) (S'.rel)), (Chunk.row true (EC.i64) [])] [0, 1, 2, 3, 4, 5, 6]))))))) ∧ ((¬trivB b o t) → ((inU b) ∧ (exW S) ∧ (S.reads < 4000000000000000000) ∧ (∀ S' : Arn, (((S') = (rdS S (S.us b).toNat)) → ((inU o) ∧ (exW S') ∧ (S'.reads < 4000000000000000000) ∧ (∀ S'1 : Arn, (((S'1) = (rdS S' (S'.us o).toNat)) → ((inU t) ∧ (exW S'1) ∧ (S'1.reads < 4000000000000000000) ∧ (∀ S'2 : Arn, (((S'2) = (rdS S'1 (S'1.us t).toNat)) → ((0 ≤ (S.nd b).size) ∧ ((S.nd b).size ≤ 30000) ∧ (0 ≤ (S'.nd o).size) ∧ ((S'.nd o).size ≤ 30000) ∧ (0 ≤ (S'1.nd t).size) ∧ ((S'1.nd t).size ≤ 30000) ∧ (∀ p : Int, (((p) = ((S.nd b).size + (S'.nd o).size + (S'1.nd t).size + 12 * (Hn ((S.nd b).size + (S'.nd o).size + (S'1.nd t).size) + 2))) → ((exW S'2) ∧ (∀ b1 : Bool, (((b1) = (decide (0 ≤ p) && decide (p ≤ S'2.free))) → (brS (!b1)
    ((K (SV.tup [(TV.at (At.val (Value.int IntKind.u32 0))), (TV.at (At.slc 7)), (TV.at (At.val (Value.int IntKind.i64 2)))]) [(Chunk.box [(At.ptr 1 0), (At.slc 2), (At.slc 3), (At.val (Value.int IntKind.u64 (S'2.reads)))]), (Chunk.box [(At.slc 4), (At.slc 5), (At.slc 6), (At.val (Value.int IntKind.u32 (S'2.fresh)))]), (Chunk.row true (EC.node) (S'2.nodes)), (Chunk.row true (EC.int) (S'2.counts)), (Chunk.row true (EC.bool) (S'2.used)), (Chunk.row true (EC.u32) (S'2.gen)), (Chunk.row true (EC.u32) (S'2.rel)), (Chunk.row true (EC.i64) [])] [0, 1, 2, 3, 4, 5, 6])) ((∃ hs : List Int, (∃ t1 : Tr, (∃ t2 : Tr, ((Wf S'2 hs) ∧ (Rep S'2 t1 b) ∧ (Rep S'2 t2 o) ∧ (t1.size + t2.size ≤ 300000) ∧ (S'2.reads + (2 + 6 * ((↑t1.size : Int) + (↑t2.size : Int))) ≤ 3000000000000000000) ∧ (Asc t1.list) ∧ (Asc t2.list) ∧ (Kin t1.list) ∧ (Kin t2.list) ∧ (∀ s' : List Chg, (∀ S'3 : Arn, (∀ m : Nat, (((s') = (btw t1.list t2.list)) → (((S'3) = (rdS S'2 m)) → ((m ≤ 2 + 6 * (t1.size + t2.size)) → ((((b) = (o)) → ((m) = 0)) → (∃ hs1 : List Int, (∃ t11 : Tr, (∃ t21 : Tr, ((Wf S'3 hs1) ∧ (Rep S'3 t11 b) ∧ (Rep S'3 t21 t) ∧ (t11.size + t21.size ≤ 300000) ∧ (S'3.reads + (2 + 6 * ((↑t11.size : Int) + (↑t21.size : Int))) ≤ 3000000000000000000) ∧ (Asc t11.list) ∧ (Asc t21.list) ∧ (Kin t11.list) ∧ (Kin t21.list) ∧ (∀ s'1 : List Chg, (∀ S'4 : Arn, (∀ m1 : Nat, (((s'1) = (btw t11.list t21.list)) → (((S'4) = (rdS S'3 m1)) → ((m1 ≤ 2 + 6 * (t11.size + t21.size)) → ((((b) = (t)) → ((m1) = 0)) → ((Srt Chg.key s') ∧
    (Srt Chg.key s'1) ∧ (s'.length ≤ 1000000) ∧ (s'1.length ≤ 1000000) ∧ (brS (pol == 3) ((brS (decide ((↑(planK s' s'1).length : Int) > 0)) ((K (SV.tup [(TV.at (At.val (Value.int IntKind.u32 0))), (TV.at (At.slc 7)), (TV.at (At.val (Value.int IntKind.i64 10)))]) [(Chunk.box [(At.ptr 1 0), (At.slc 2), (At.slc 3), (At.val (Value.int IntKind.u64 (S'4.reads)))]), (Chunk.box [(At.slc 4), (At.slc 5), (At.slc 6), (At.val (Value.int IntKind.u32 (S'4.fresh)))]), (Chunk.row true (EC.node) (S'4.nodes)), (Chunk.row true (EC.int) (S'4.counts)), (Chunk.row true (EC.bool) (S'4.used)), (Chunk.row true (EC.u32) (S'4.gen)), (Chunk.row true (EC.u32) (S'4.rel)), (Chunk.row true (EC.i64) (planK s' s'1))] [0, 1, 2, 3, 4, 5, 6])) (((live S'4 o) ∧ (exW S'4) ∧ (∀ S'5 : Arn, (((S'5) = (retL S'4 o)) → (∃ hs2 : List Int, (∃ l : List Ent, (∃ M : Nat, ((PfM S'5 hs2 o l M) ∧ (l.length + (planC s' s'1 pol).length ≤ M) ∧ (Srt Chg.key (planC s' s'1 pol)) ∧ (Del l (planC s' s'1 pol)) ∧ (S'5.reads ≤ 900000000000000000) ∧ (∀ S'6 : Arn, (∀ j : Int, ((TrR S'5 hs2 (perfE l (planC s' s'1 pol)) 65537 (2000 * (planC s' s'1 pol).length) S'6 j) →
    (K (SV.tup [(TV.at (At.val (Value.int IntKind.u32 (j)))), (TV.at (At.slc 7)), (TV.at (At.val (Value.int IntKind.i64 0)))]) [(Chunk.box [(At.ptr 1 0), (At.slc 2), (At.slc 3), (At.val (Value.int IntKind.u64 (S'6.reads)))]), (Chunk.box [(At.slc 4), (At.slc 5), (At.slc 6), (At.val (Value.int IntKind.u32 (S'6.fresh)))]), (Chunk.row true (EC.node) (S'6.nodes)), (Chunk.row true (EC.int) (S'6.counts)), (Chunk.row true (EC.bool) (S'6.used)), (Chunk.row true (EC.u32) (S'6.gen)), (Chunk.row true (EC.u32) (S'6.rel)), (Chunk.row true (EC.i64) (planK s' s'1))] [0, 1, 2, 3, 4, 5, 6])))))))))))))) (((live S'4 o) ∧ (exW S'4) ∧ (∀ S'5 : Arn, (((S'5) = (retL S'4 o)) → (∃ hs2 : List Int, (∃ l : List Ent, (∃ M : Nat, ((PfM S'5 hs2 o l M) ∧ (l.length + (planC s' s'1 pol).length ≤ M) ∧ (Srt Chg.key (planC s' s'1 pol)) ∧ (Del l (planC s' s'1 pol)) ∧ (S'5.reads ≤ 900000000000000000) ∧ (∀ S'6 : Arn, (∀ j : Int, ((TrR S'5 hs2 (perfE l (planC s' s'1 pol)) 65537 (2000 * (planC s' s'1 pol).length) S'6 j) →
    (K (SV.tup [(TV.at (At.val (Value.int IntKind.u32 (j)))), (TV.at (At.slc 7)), (TV.at (At.val (Value.int IntKind.i64 0)))]) [(Chunk.box [(At.ptr 1 0), (At.slc 2), (At.slc 3), (At.val (Value.int IntKind.u64 (S'6.reads)))]), (Chunk.box [(At.slc 4), (At.slc 5), (At.slc 6), (At.val (Value.int IntKind.u32 (S'6.fresh)))]), (Chunk.row true (EC.node) (S'6.nodes)), (Chunk.row true (EC.int) (S'6.counts)), (Chunk.row true (EC.bool) (S'6.used)), (Chunk.row true (EC.u32) (S'6.gen)), (Chunk.row true (EC.u32) (S'6.rel)), (Chunk.row true (EC.i64) (planK s' s'1))] [0, 1, 2, 3, 4, 5, 6]))))))))))))))))))))))))))))))))))))))))))))))))))))))))))) = _ by kernel_rfl) ?_
  have hr := hm.rd
  have sb := hm.sb
  have so := hm.so
  have st := hm.st
  refine brS_of (fun c => h S 0 [] 1 (.inl ⟨fun q => by have := of_decide_eq_true c; omega, rfl, rfl, rfl, rfl⟩)) fun c => brS_of (fun d => h S 0 [] 1 (.inl ⟨fun q => by have := of_decide_eq_true d; omega, rfl, rfl, rfl, rfl⟩)) fun d => ?_
  have c := of_decide_eq_false c
  have d := of_decide_eq_false d
  have pv : 1 ≤ pol ∧ pol ≤ 4 := by omega
  refine ⟨fun tv r er => ⟨by rw [er]; exact triv_live hm, ⟨_, hm.wf⟩, fun S' e => h S' r [] 0 (.inr (.inl ⟨pv, tv, rfl, er, rfl, e⟩))⟩, fun tv => ?_⟩
  have u1 := us_b1 (S.us b)
  have w1 : Wf (rdS S (S.us b).toNat) hs := hm.wf.rd (by omega)
  have r1 : (rdS S (S.us b).toNat).reads = S.reads + (S.us b).toNat := rfl
  refine ⟨inU_of hm.wf hm.rb.us, ⟨_, hm.wf⟩, by omega, fun S1 e1 => ?_⟩
  subst e1
  have u2 := us_b1 ((rdS S (S.us b).toNat).us o)
  have w2 : Wf (rdS (rdS S (S.us b).toNat) ((rdS S (S.us b).toNat).us o).toNat) hs := w1.rd (by omega)
  refine ⟨inU_of w1 hm.ro.rdn.us, ⟨_, w1⟩, by omega, fun S2 e2 => ?_⟩
  have r2 : S2.reads = S.reads + (S.us b).toNat + ((rdS S (S.us b).toNat).us o).toNat := by rw [e2]; rfl
  have f2 : S2.free = S.free := by rw [e2]; rfl
  have q2 : S2 = rdS S ((S.us b).toNat + ((rdS S (S.us b).toNat).us o).toNat) := by rw [e2, rdS_rdS]
  rw [← e2] at w2
  have rt2 : Rep S2 tt t := by rw [q2]; exact hm.rt.rdn
  have z1 := hm.rb.size hm.wf
  have z2 := (hm.ro.rdn (n := (S.us b).toNat)).size w1
  have z3 := rt2.size w2
  refine ⟨inU_of w2 rt2.us, ⟨_, w2⟩, by omega, fun S3 e3 => ?_⟩
  have u3 := us_b1 (S2.us t)
  have w3 : Wf S3 hs := by rw [e3]; exact w2.rd (by omega)
  have f3 : S3.free = S.free := by rw [e3]; exact f2
  have q3 : S3 = rdS S ((S.us b).toNat + ((rdS S (S.us b).toNat).us o).toNat + (S2.us t).toNat) := by rw [e3, q2, rdS_rdS]
  generalize hk : (S.us b).toNat + ((rdS S (S.us b).toNat).us o).toNat + (S2.us t).toNat = k at *
  have k3 : k ≤ 3 := by omega
  clear e3 e2 u1 u2 u3
  rw [z1, z2, z3]
  refine ⟨by omega, by omega, by omega, by omega, by omega, by omega, fun p ep => ⟨⟨_, w3⟩, fun b1 eb => ?_⟩⟩
  have ep : p = needM tb to tt := ep
  have hp0 : 0 ≤ p := by rw [ep]; unfold needM; have := Hn_rng ((tb.size : Int) + to.size + tt.size); omega
  have eb : b1 = decide (needM tb to tt ≤ S.free) := by rw [eb, decide_eq_true hp0, f3, ep]; rfl
  have rd3 : S3.reads = S.reads + k := by rw [q3]; rfl
  refine brS_of (fun q => h S3 0 [] 2 (.inr (.inr (.inl ⟨pv, tv, ?_, rfl, rfl, rfl, k, k3, q3⟩)))) fun q => ?_
  · have : ¬ needM tb to tt ≤ S.free := fun e => by rw [eb, decide_eq_true e] at q; cases q
    omega
  have hf : needM tb to tt ≤ S.free := by rw [eb] at q; simpa using q
  refine ⟨hs, tb, to, w3, by rw [q3]; exact hm.rb.rdn, by rw [q3]; exact hm.ro.rdn, by omega, by omega, hm.ab, hm.ao, hm.kb, hm.ko, fun p1 S4 m1 ep1 e4 b4 _ => ?_⟩
  have q4 : S4 = rdS S (k + m1) := by rw [e4, q3, rdS_rdS]
  have rd4 : S4.reads = S.reads + (k + m1 : Nat) := by rw [q4]; rfl
  have w4 : Wf S4 hs := by rw [q4]; exact hm.wf.rd (by omega)
  refine ⟨hs, tb, tt, w4, by rw [q4]; exact hm.rb.rdn, by rw [q4]; exact hm.rt.rdn, by omega, by omega, hm.ab, hm.at_, hm.kb, hm.kt, fun p2 S5 m2 ep2 e5 b5 _ => ?_⟩
  have q5 : S5 = rdS S (k + m1 + m2) := by rw [e5, q4, rdS_rdS]
  have l1 := btw_len hm.ab hm.ao
  have l2 := btw_len hm.ab hm.at_
  have lb := tb.list_len
  have lo := to.list_len
  have lt := tt.list_len
  subst ep1 ep2
  have cf := plan_conf hm.ab hm.ao hm.at_
  refine ⟨btw_srt hm.ab hm.ao, btw_srt hm.ab hm.at_, by omega, by omega, ?_⟩
  rw [cf]
  have fin : ¬ (pol = 3 ∧ confE tb.list to.list tt.list ≠ []) → live S5 o ∧ exW S5 ∧ ∀ S6, S6 = retL S5 o → ∃ hs2 l M, PfM S6 hs2 o l M ∧ l.length + (planC (btw tb.list to.list) (btw tb.list tt.list) pol).length ≤ M ∧ Srt Chg.key (planC (btw tb.list to.list) (btw tb.list tt.list) pol) ∧ Del l (planC (btw tb.list to.list) (btw tb.list tt.list) pol) ∧ S6.reads ≤ 900000000000000000 ∧
      ∀ S7 j, TrR S6 hs2 (perfE l (planC (btw tb.list to.list) (btw tb.list tt.list) pol)) 65537 (2000 * (planC (btw tb.list to.list) (btw tb.list tt.list) pol).length) S7 j → K (.tup [.at (vU j), .at (.slc 7), .at (vI 0)]) (chS S7 ++ [.row true EC.i64 (confE tb.list to.list tt.list)]) W7 := fun nc => by
    have g0 := mg_go (pol := pol) (S' := S5) (j := 0) hm hf q5 (by omega) rfl
    refine ⟨g0.2.1, ⟨_, g0.1⟩, fun S6 e6 => ?_⟩
    obtain ⟨_, _, g1, g2, g3, g4, g5, _⟩ := mg_go (pol := pol) (S' := S5) (j := 0) hm hf q5 (by omega) e6
    refine ⟨hs, _, _, g1, g2, g3, g4, g5, fun S7 j tr => ?_⟩
    obtain ⟨_, _, _, _, _, _, _, g6⟩ := mg_go (pol := pol) (S' := S7) (j := j) hm hf q5 (by omega) e6
    exact h S7 j _ 0 (.inr (.inr (.inr (.inr ⟨pv, tv, hf, nc, rfl, rfl, g6 tr⟩))))
  refine brS_of (fun e => brS_of (fun f => ?_) fun f => fin fun q => ?_) fun e => fin fun q => ?_
  · have e : pol = 3 := by simpa using e
    exact h S5 0 _ 10 (.inr (.inr (.inr (.inl ⟨pv, tv, hf, ⟨e, conf_pos.1 f⟩, rfl, rfl, rfl, _, by omega, q5⟩))))
  · rw [conf_pos.2 q.2] at f; cases f
  · have e : ¬ pol = 3 := by simpa using e
    exact e q.1
theorem s_mg : SoundT C0 45 tMg := by
  refine .ofW W7 Try.func45 (by decide) rfl fun args H K h hB => ?_
  unfold tMg at h
  split at h <;> try exact h.elim
  unfold arM at h
  split at h <;> try exact h.elim
  rename_i b o t pol _ rd fr nd ct us gn rl
  obtain ⟨hs, tb, to, tt, h1, h2⟩ := h
  exact ⟨aMg, ⟨frame C0.ok s_triv _, frame C0.ok s_hold _, frame C0.ok s_size _, frame C0.ok s_rMg _, frame C0.ok s_room _, frame C0.ok s_diff _, frame C0.ok s_plan _, frame C0.ok s_pf _, trivial⟩, vc_mg ⟨us, gn, rl, fr, nd, ct, rd⟩ b o t pol K hs tb to tt h1 h2⟩
theorem conf_triv {S : Arn} {hs : List Int} {tb to tt : Tr} {b o t : Int} (hm : MgM S hs tb to tt b o t) (tv : trivB b o t) : confE tb.list to.list tt.list = [] := by
  have h0 : S.us 0 = false := hm.wf.us0 (Int.le_refl 0)
  unfold confE
  refine List.filter_eq_nil_iff.2 fun k _ => ?_
  simp only [decide_eq_true_eq]
  rintro ⟨h1, h2, h3⟩
  rcases tv with e | e | e
  · have r := hm.ro; rw [← e] at r
    rw [r.inj h0 hm.rb] at h2
    exact h2 rfl
  · have r := hm.rt; rw [← e] at r
    rw [r.inj h0 hm.rb] at h3
    exact h3 rfl
  · have r := hm.rt; rw [← e] at r
    rw [r.inj h0 hm.ro] at h1
    exact h1 rfl
end Go.Proofs.Ytmjnoiajenoinaa.Sx
end
section
/- Trees that are held, with their entries: what is free. No program in sight. -/
namespace Go.Proofs.Ytmjnoiajenoinaa.Sx
open Go

variable {S S' : Arn} {hs : List Int}
def sumL (E : List (Int × List Ent)) : Nat := (E.map fun p => p.2.length).sum
structure Hld (S : Arn) (E : List (Int × List Ent)) : Prop where
  wf : Wf S (E.map Prod.fst)
  rep : ∀ p ∈ E, ∃ t, Rep S t p.1 ∧ t.list = p.2 ∧ t.Bal
  asc : ∀ p ∈ E, Asc p.2
  kin : ∀ p ∈ E, Kin p.2
theorem nuR_sum (w : Wf S hs) : ∀ E : List (Int × List Ent), (∀ p ∈ E, ∃ t, Rep S t p.1 ∧ t.list = p.2 ∧ t.Bal) → nuR S (E.map Prod.fst) ≤ nuR S [] + sumL E
  | [], _ => by simp [sumL]
  | p :: E, h => by
    obtain ⟨t, rp, lt, _⟩ := h p (List.mem_cons_self ..)
    have a := nuR_cons (hs := E.map Prod.fst) w rp
    have b := nuR_sum w E fun q hq => h q (List.mem_cons_of_mem _ hq)
    have c : t.size = p.2.length := by rw [← t.list_len, lt]
    rw [List.map_cons]
    unfold sumL at *
    rw [List.map_cons, List.sum_cons]
    omega
open Classical in
theorem nuR_nil (w : Wf S hs) : nuR S [] = 0 := by
  unfold nuR
  refine List.countP_eq_zero.2 fun i _ hi => ?_
  have hr : Rch S [] (i : Int) := of_decide_eq_true hi
  clear hi
  generalize (i : Int) = j at hr
  induction hr with
  | root a _ => cases a
  | left _ _ ih => exact ih
  | right _ _ ih => exact ih
theorem Hld.room {E : List (Int × List Ent)} (h : Hld S E) : S.cap ≤ S.free + sumL E := by
  have a := h.wf.free_nonneg.2.2.2
  have b := h.wf.nuR
  have c := nuR_sum h.wf E h.rep
  have d := nuR_nil h.wf
  omega
theorem Hld.step {E : List (Int × List Ent)} {L : List Ent} {m r : Nat} {j : Int} (e : Hld S E) (tr : TrR S (E.map Prod.fst) L m r S' j) (ha : Asc L) (hk : Kin L) : Hld S' ((j, L) :: E) where
  wf := tr.got.wf
  rep p hp := by
    rcases List.mem_cons.1 hp with rfl | hp
    · exact tr.tree
    · obtain ⟨t, rp, lt, bt⟩ := e.rep p hp
      exact ⟨t, rp.held e.wf tr.got.stay (.inr (List.mem_map.2 ⟨p, hp, rfl⟩)), lt, bt⟩
  asc p hp := by
    rcases List.mem_cons.1 hp with rfl | hp
    · exact ha
    · exact e.asc p hp
  kin p hp := by
    rcases List.mem_cons.1 hp with rfl | hp
    · exact hk
    · exact e.kin p hp
theorem Hld.rd {E : List (Int × List Ent)} {n : Nat} (e : Hld S E) (h : S.reads + n ≤ 4000000000000000000) : Hld (rdS S n) E where
  wf := e.wf.rd h
  rep p hp := by
    obtain ⟨t, rp, lt, bt⟩ := e.rep p hp
    exact ⟨t, rp.rdn, lt, bt⟩
  asc := e.asc
  kin := e.kin
theorem Hld.ls {E : List (Int × List Ent)} {x : Int} {l : List Ent} (e : Hld S E) (hx : (x, l) ∈ E) (hl : l.length ≤ 60000) : ∃ t, Rep S t x ∧ Asc t.list ∧ Kin t.list ∧ t.size ≤ 60000 ∧ t.list = l := by
  obtain ⟨t, rp, lt, _⟩ := e.rep _ hx
  have lt : t.list = l := lt
  have sz : t.size = l.length := by rw [← t.list_len, lt]
  exact ⟨t, rp, by rw [lt]; exact e.asc _ hx, by rw [lt]; exact e.kin _ hx, by omega, lt⟩
theorem sumL_cons (j : Int) (L : List Ent) (E : List (Int × List Ent)) : sumL ((j, L) :: E) = L.length + sumL E := by
  unfold sumL; rw [List.map_cons, List.sum_cons]
theorem sumL_nil : sumL [] = 0 := rfl
end Go.Proofs.Ytmjnoiajenoinaa.Sx
end
section
/- The order of the free slots, and the arena's Dump. -/
/-KEEP exW inU Arn.cap Arn.free-/
namespace Go.Proofs.Ytmjnoiajenoinaa.Sx
open Go

def upTo (fr : Int) (n : Nat) : List Int := (List.range n).map fun (k : Nat) => fr + 1 + (k : Int)
def orderL (us : List Bool) (rl : List Int) (fr : Int) : List Int := rl.reverse ++ upTo fr ((us.length : Int) - 1 - fr).toNat
structure XOr1 (rl : List Int) where
  k : Nat
  h : k ≤ rl.length
structure XOr2 (us : List Bool) (fr : Int) where
  n : Nat
  h : n ≤ ((us.length : Int) - 1 - fr).toNat
noncomputable def aOrder (us : List Bool) (gn rl : List Int) (fr : Int) : Ann C0 := { Γ := [(62, frameT [] tSlFree), (79, frameT [] tSlCap)], inv := fun n => match n with
  | 3 => some { X := XOr1 rl, sl := [4, 3], tf := fun x => [vi .i64 ((x.k : Int) - 1), .one (.at (.slc 4))], hf := fun x => slC us gn rl fr ++ [.row true EC.u32 (rl.drop x.k).reverse], μ := fun x => x.k }
  | 7 => some { X := XOr2 us fr, sl := [5, 3], tf := fun x => [vi .i64 (fr + 1 + (x.n : Int)), .one (.at (.slc 4))], hf := fun x => slC us gn rl fr ++ [.row true EC.u32 (rl.reverse ++ upTo fr x.n)], μ := fun x => ((us.length : Int) - 1 - fr).toNat - x.n }
  | _ => none }
def tOrder : Tfm C0 := fun args H K => match args with
  | [.at (.ptr 0 0)] => slM H fun us gn rl fr => 1 ≤ us.length ∧ us.length ≤ 65537 ∧ rl.length ≤ 65537 ∧ 0 ≤ fr ∧ fr ≤ us.length - 1 ∧ ∀ o : List Int, o = orderL us rl fr → K (.one (.at (.slc 4))) (slC us gn rl fr ++ [.row true EC.u32 o]) []
  | _ => False
def SlotT.zero : SlotT := ⟨false, 0, 0, NodeT.zero⟩
def slotAt (S : Arn) (k : Nat) : SlotT := ⟨S.us ((k : Int) + 1), if S.us ((k : Int) + 1) then S.ct ((k : Int) + 1) else 0, S.gn ((k : Int) + 1), S.nd ((k : Int) + 1)⟩
def ncap (S : Arn) : Nat := S.used.length - 1
def slotsOf (S : Arn) : List SlotT := (List.range (ncap S)).map (slotAt S)
def orderOf (S : Arn) : List Int := orderL S.used S.rel S.fresh
structure XDu (S : Arn) where
  i : Nat
  h : i ≤ ncap S
def fillS (S : Arn) (i : Nat) : List SlotT := (List.range i).map (slotAt S) ++ List.replicate (ncap S - i) SlotT.zero
noncomputable def aDump (S : Arn) : Ann C0 := { quiet := [56, 19, 64, 35], Γ := [(35, frameT [] tCap), (63, frameT [] tOrder), (56, frameT [] tSlAllocated), (19, frameT [] tCount), (64, frameT [] tGen)], inv := fun n => match n with
  | 1002 => some { X := Unit, sl := [3, 2], tf := fun _ => [.one (.at (.ptr 7 0)), .one (.at (.ptr 10 0))], hf := fun _ => chS S ++ [.box [.slc 8, .slc 9], .row true EC.slot (fillS S 0), .row true EC.u32 (orderOf S), .box [.slc 11, .slc 12], .row true EC.slot [], .row true EC.u32 []] }
  | 3 => some { X := XDu S, sl := [18, 3, 2], tf := fun x => [vi .i64 x.i, .one (.at (.ptr 7 0)), .one (.at (.ptr 10 0))], hf := fun x => chS S ++ [.box [.slc 8, .slc 9], .row true EC.slot (fillS S x.i), .row true EC.u32 (orderOf S), .box [.slc 11, .slc 12], .row true EC.slot [], .row true EC.u32 []], μ := fun x => ncap S - x.i }
  | _ => none }
def tDump : Tfm C0 := fun args H K => match args with
  | [.at (.ptr 0 0)] => arM H fun S => exW S ∧ ∀ (d : List SlotT) (o : List Int), d = slotsOf S → o = orderOf S → K (.one (.agg [.slc 7, .slc 8])) (chS S ++ [.row true EC.slot d, .row true EC.u32 o]) []
  | _ => False
theorem upTo_snoc (fr : Int) (n : Nat) : upTo fr n ++ [fr + 1 + (n : Int)] = upTo fr (n + 1) := by
  unfold upTo; rw [List.range_succ, List.map_append]; rfl
theorem vc_order (us : List Bool) (gn rl : List Int) (fr : Int) (K : KT) (h1 : 1 ≤ us.length) (h2 : us.length ≤ 65537) (h3 : rl.length ≤ 65537) (h4 : 0 ≤ fr) (h5 : fr ≤ us.length - 1) (h : ∀ o : List Int, o = orderL us rl fr → K (.one (.at (.slc 4))) (slC us gn rl fr ++ [.row true EC.u32 o]) []) :
    vc C0 (aOrder us gn rl fr) Try.f63 [.at (.ptr 0 0)] (slC us gn rl fr) (normK 4 K) := by
  refine Eq.mp (show ((1 ≤ us.length) ∧
(us.length ≤ 65537) ∧
(rl.length ≤ 65537) ∧
(0 ≤ fr) ∧
(fr ≤ 65537) ∧
((0 : Int) ≤ 0) ∧
(0 ≤ (↑rl.length : Int) + ((↑us.length : Int) - 1) - fr) ∧
(((↑rl.length : Int) + ((↑us.length : Int) - 1) - fr) * (↑(bytesOf C0 EC.u32) : Int) ≤ 140737488355328) ∧
(∃ x : XOr1 rl, (True ∧ (True ∧ True ∧ ((Value.int IntKind.i64 (IntKind.i64.wrap ((↑rl.length : Int) - 1))) = (Value.int IntKind.i64 ((↑x.k : Int) - 1))) ∧ True) ∧ (True ∧ True ∧ True ∧ ((Value.int IntKind.u32 (fr)) = (Value.int IntKind.u32 (fr))) ∧ True) ∧ ((us) = (us)) ∧ ((gn) = (gn)) ∧ ((rl) = (rl)) ∧ ([] = ((List.drop x.k rl).reverse)) ∧ True)) ∧
(∀ x : XOr1 rl, (True → (brS (decide ((↑x.k : Int) - 1 ≥ 0)) (((0 ≤ (↑x.k : Int) - 1) ∧ ((↑x.k : Int) - 1 < (↑rl.length : Int)) ∧ (((List.drop x.k rl).reverse.length + [rl.getD ((↑x.k : Int) - 1).toNat 0].length) * bytesOf C0 EC.u32 ≤ 140737488355328) ∧ (∃ x' : XOr1 rl, (True ∧ ((True ∧ True ∧ ((Value.int IntKind.i64 (IntKind.i64.wrap ((↑x.k : Int) - 1 - 1))) = (Value.int IntKind.i64 ((↑x'.k : Int) - 1))) ∧ True) ∧ (True ∧ True ∧ True ∧ ((Value.int IntKind.u32 (fr)) = (Value.int IntKind.u32 (fr))) ∧ True) ∧ ((us) = (us)) ∧ ((gn) = (gn)) ∧ ((rl) = (rl)) ∧ (((List.drop x.k rl).reverse ++ [rl.getD ((↑x.k : Int) - 1).toNat 0]) = ((List.drop x'.k rl).reverse)) ∧ True) ∧ (x'.k < x.k))))) (((∃ x1 : XOr2 us fr, (True ∧ (True ∧ True ∧ ((Value.int IntKind.i64 (IntKind.i64.wrap (IntKind.i64.wrap fr + 1))) = (Value.int IntKind.i64 (fr + 1 + (↑x1.n : Int)))) ∧ True) ∧ (True ∧
    True ∧ True ∧ ((Value.int IntKind.u32 (fr)) = (Value.int IntKind.u32 (fr))) ∧ True) ∧ ((us) = (us)) ∧ ((gn) = (gn)) ∧ ((rl) = (rl)) ∧ (((List.drop x.k rl).reverse) = (rl.reverse ++ upTo fr x1.n)) ∧ True)) ∧ (∀ x1 : XOr2 us fr, (True → ((1 ≤ us.length) ∧ (us.length ≤ 65537) ∧ (brS (decide (fr + 1 + (↑x1.n : Int) ≤ (↑us.length : Int) - 1)) (((((rl.reverse ++ upTo fr x1.n).length + [IntKind.u32.wrap (fr + 1 + (↑x1.n : Int))].length) * bytesOf C0 EC.u32 ≤ 140737488355328) ∧ (∃ x' : XOr2 us fr, (True ∧ ((True ∧ True ∧ ((Value.int IntKind.i64 (IntKind.i64.wrap (fr + 1 + (↑x1.n : Int) + 1))) = (Value.int IntKind.i64 (fr + 1 + (↑x'.n : Int)))) ∧ True) ∧ (True ∧ True ∧ True ∧ ((Value.int IntKind.u32 (fr)) = (Value.int IntKind.u32 (fr))) ∧ True) ∧ ((us) = (us)) ∧ ((gn) = (gn)) ∧ ((rl) = (rl)) ∧ ((rl.reverse ++ upTo fr x1.n ++ [IntKind.u32.wrap (fr + 1 + (↑x1.n : Int))]) = (rl.reverse ++ upTo fr x'.n)) ∧ True) ∧ (((↑us.length : Int) - 1 - fr).toNat - x'.n < ((↑us.length : Int) - 1 - fr).toNat - x1.n))))) ((K (SV.one (TV.at (At.slc 4))) [(Chunk.box [(At.slc 1), (At.slc 2), (At.slc 3), (At.val (Value.int IntKind.u32 (fr)))]), (Chunk.row true (EC.bool) (us)), (Chunk.row true (EC.u32) (gn)), (Chunk.row true (EC.u32) (rl)), (Chunk.row true (EC.u32) (rl.reverse ++ upTo fr x1.n))] [])))))))))))) = _ by kernel_rfl) ?_
  rw [bytes_u32]
  rw [wrap_id (x := (rl.length : Int) - 1) (by omega) (by omega), wrap_id (x := fr) (by omega) (by omega), wrap_id (x := fr + 1) (by omega) (by omega)]
  refine ⟨h1, h2, h3, h4, by omega, by decide, by omega, by omega, ⟨⟨rl.length, Nat.le_refl _⟩, trivial, ⟨trivial, trivial, rfl, trivial⟩, ⟨trivial, trivial, trivial, rfl, trivial⟩, rfl, rfl, rfl, by simp, trivial⟩, fun x _ => brS_of (fun c => ?_) fun c => ?_⟩
  · have c : 1 ≤ x.k := by have := of_decide_eq_true c; omega
    have hk := x.h
    have hg : rl[x.k - 1]? = some (rl.getD (x.k - 1) 0) := by simp [List.getD_eq_getElem?_getD, List.getElem?_eq_getElem (show x.k - 1 < rl.length by omega)]
    rw [wrap_id (by omega) (by omega), show ((x.k : Int) - 1).toNat = x.k - 1 by omega]
    refine ⟨by omega, by omega, ?_, ⟨x.k - 1, by omega⟩, trivial, ⟨⟨trivial, trivial, ?_, trivial⟩, ⟨trivial, trivial, trivial, rfl, trivial⟩, rfl, rfl, rfl, ?_, trivial⟩, ?_⟩
    · simp; omega
    · congr 1; show (x.k : Int) - 1 - 1 = ((x.k - 1 : Nat) : Int) - 1; omega
    · show _ = (rl.drop (x.k - 1)).reverse
      rw [drop_cons hg, List.reverse_cons, show x.k - 1 + 1 = x.k by omega]
    · show x.k - 1 < x.k; omega
  · have c : x.k = 0 := by have := of_decide_eq_false c; omega
    refine ⟨⟨⟨0, Nat.zero_le _⟩, trivial, ⟨trivial, trivial, by congr 1; show fr + 1 = fr + 1 + ((0 : Nat) : Int); omega, trivial⟩, ⟨trivial, trivial, trivial, rfl, trivial⟩, rfl, rfl, rfl, by rw [c]; simp [upTo], trivial⟩, fun y _ => ⟨h1, h2, brS_of (fun d => ?_) fun d => ?_⟩⟩
    · have d : fr + 1 + (y.n : Int) ≤ us.length - 1 := of_decide_eq_true d
      have hul : (upTo fr y.n).length = y.n := by simp [upTo]
      rw [wrap_u32 (by omega) (by omega), wrap_id (by omega) (by omega)]
      refine ⟨?_, ⟨y.n + 1, by omega⟩, trivial, ⟨⟨trivial, trivial, ?_, trivial⟩, ⟨trivial, trivial, trivial, rfl, trivial⟩, rfl, rfl, rfl, ?_, trivial⟩, ?_⟩
      · simp [hul]; omega
      · congr 1; show fr + 1 + (y.n : Int) + 1 = fr + 1 + ((y.n + 1 : Nat) : Int); omega
      · show _ = rl.reverse ++ upTo fr (y.n + 1)
        rw [← upTo_snoc, List.append_assoc]
      · show _ - (y.n + 1) < _; omega
    · have d : ¬ fr + 1 + (y.n : Int) ≤ us.length - 1 := of_decide_eq_false d
      have hn : y.n = ((us.length : Int) - 1 - fr).toNat := by have := y.h; omega
      exact h _ (by unfold orderL; rw [hn])
theorem s_order : SoundT C0 63 tOrder := by
  refine .of Try.func63 (by decide) rfl fun args H K h hB => ?_
  unfold tOrder at h
  split at h <;> try exact h.elim
  unfold slM at h
  split at h <;> try exact h.elim
  rename_i fr us gn rl
  obtain ⟨h1, h2, h3, h4, h5, h6⟩ := h
  exact ⟨aOrder us gn rl fr, ⟨frame C0.ok s_slFree _, frame C0.ok s_slCap _, trivial⟩, vc_order us gn rl fr K h1 h2 h3 h4 h5 h6⟩
theorem fill_zero (S : Arn) : List.replicate (ncap S) SlotT.zero = fillS S 0 := by simp [fillS]
theorem fill_len (S : Arn) (i : Nat) (h : i ≤ ncap S) : (fillS S i).length = ncap S := by simp [fillS]; omega
theorem fill_next (S : Arn) {i : Nat} (h : i < ncap S) : (fillS S i).set i (slotAt S i) = fillS S (i + 1) := by
  unfold fillS
  obtain ⟨m, hm⟩ : ∃ m, ncap S - i = m + 1 := ⟨ncap S - i - 1, by omega⟩
  rw [hm, show ncap S - (i + 1) = m by omega, List.range_succ, List.map_append, List.replicate_succ, List.set_append_right _ _ (by simp)]
  simp
theorem fill_all (S : Arn) : fillS S (ncap S) = slotsOf S := by simp [fillS, slotsOf]
theorem vc_dump (S : Arn) (K : KT) (hw : exW S) (h : ∀ (d : List SlotT) (o : List Int), d = slotsOf S → o = orderOf S → K (.one (.agg [.slc 7, .slc 8])) (chS S ++ [.row true EC.slot d, .row true EC.u32 o]) []) :
    vc C0 (aDump S) Try.f21 [.at (.ptr 0 0)] (chS S) (normK 7 K) := by
  refine Eq.mp (show ((((exW S) ∧
((0 ≤ S.cap) ∧
(S.cap ≤ S.cap) ∧
(S.cap * (↑(bytesOf C0 EC.slot) : Int) ≤ 140737488355328) ∧
(((1 ≤ S.used.length) ∧
(S.used.length ≤ 65537) ∧
(S.rel.length ≤ 65537) ∧
(0 ≤ S.fresh) ∧
(S.fresh ≤ (↑S.used.length : Int) - 1) ∧
(∀ o : List Int, (((o) = (orderL S.used S.rel S.fresh)) → (∃ x : Unit, (True ∧ (True ∧ True ∧ True ∧ True) ∧ (True ∧ True ∧ True ∧ ((Value.int IntKind.u64 (S.reads)) = (Value.int IntKind.u64 (S.reads))) ∧ True) ∧ (True ∧ True ∧ True ∧ ((Value.int IntKind.u32 (S.fresh)) = (Value.int IntKind.u32 (S.fresh))) ∧ True) ∧ ((S.nodes) = (S.nodes)) ∧ ((S.counts) = (S.counts)) ∧ ((S.used) = (S.used)) ∧ ((S.gen) = (S.gen)) ∧ ((S.rel) = (S.rel)) ∧ (True ∧ True ∧ True) ∧ ((List.replicate S.cap.toNat { alloc := false, count := 0, gen := 0, node := { key := 0, value := 0, left := 0, right := 0, size := 0, sum := 0, min := 0, max := 0 : NodeT } : SlotT }) = (fillS S 0)) ∧ ((o) = (orderOf S)) ∧ (True ∧ True ∧ True) ∧ ((([] : List SlotT) = [])) ∧ ((([] : List Int) = [])) ∧ True))))) ∧
(1 ≤ S.used.length) ∧
(S.used.length ≤ 65537) ∧
(S.rel.length ≤ 65537) ∧
(0 ≤ S.fresh) ∧
(S.fresh ≤ (↑S.used.length : Int) - 1) ∧
(∀ o : List Int, (((o) = (orderL S.used S.rel S.fresh)) → (∃ x : Unit, (True ∧ (True ∧ True ∧ True ∧ True) ∧ (True ∧ True ∧ True ∧ ((Value.int IntKind.u64 (S.reads)) = (Value.int IntKind.u64 (S.reads))) ∧ True) ∧ (True ∧ True ∧ True ∧ ((Value.int IntKind.u32 (S.fresh)) = (Value.int IntKind.u32 (S.fresh))) ∧ True) ∧ ((S.nodes) = (S.nodes)) ∧
    ((S.counts) = (S.counts)) ∧ ((S.used) = (S.used)) ∧ ((S.gen) = (S.gen)) ∧ ((S.rel) = (S.rel)) ∧ (True ∧ True ∧ True) ∧ ((List.replicate S.cap.toNat { alloc := false, count := 0, gen := 0, node := { key := 0, value := 0, left := 0, right := 0, size := 0, sum := 0, min := 0, max := 0 : NodeT } : SlotT }) = (fillS S 0)) ∧ ((o) = (orderOf S)) ∧ (True ∧ True ∧ True) ∧ ((([] : List SlotT) = [])) ∧ ((([] : List Int) = [])) ∧ True))))) ∧
(1 ≤ S.used.length) ∧
(S.used.length ≤ 65537) ∧
(S.rel.length ≤ 65537) ∧
(0 ≤ S.fresh) ∧
(S.fresh ≤ (↑S.used.length : Int) - 1) ∧
(∀ o : List Int, (((o) = (orderL S.used S.rel S.fresh)) → (∃ x : Unit, (True ∧ (True ∧ True ∧ True ∧ True) ∧ (True ∧ True ∧ True ∧ ((Value.int IntKind.u64 (S.reads)) = (Value.int IntKind.u64 (S.reads))) ∧ True) ∧ (True ∧ True ∧ True ∧ ((Value.int IntKind.u32 (S.fresh)) = (Value.int IntKind.u32 (S.fresh))) ∧ True) ∧ ((S.nodes) = (S.nodes)) ∧ ((S.counts) = (S.counts)) ∧ ((S.used) = (S.used)) ∧ ((S.gen) = (S.gen)) ∧ ((S.rel) = (S.rel)) ∧ (True ∧ True ∧ True) ∧ ((List.replicate S.cap.toNat { alloc := false, count := 0, gen := 0, node := { key := 0, value := 0, left := 0, right := 0, size := 0, sum := 0, min := 0, max := 0 : NodeT } : SlotT }) = (fillS S 0)) ∧ ((o) = (orderOf S)) ∧ (True ∧ True ∧ True) ∧ ((([] : List SlotT) = [])) ∧ ((([] : List Int) = [])) ∧
    True))))) ∧
(((0 ≤ S.cap) ∧
(S.cap ≤ S.cap) ∧
(S.cap * (↑(bytesOf C0 EC.slot) : Int) ≤ 140737488355328) ∧
((1 ≤ S.used.length) ∧
(S.used.length ≤ 65537) ∧
(S.rel.length ≤ 65537) ∧
(0 ≤ S.fresh) ∧
(S.fresh ≤ (↑S.used.length : Int) - 1) ∧
(∀ o : List Int, (((o) = (orderL S.used S.rel S.fresh)) → (∃ x : Unit, (True ∧ (True ∧ True ∧ True ∧ True) ∧ (True ∧ True ∧ True ∧ ((Value.int IntKind.u64 (S.reads)) = (Value.int IntKind.u64 (S.reads))) ∧ True) ∧ (True ∧ True ∧ True ∧ ((Value.int IntKind.u32 (S.fresh)) = (Value.int IntKind.u32 (S.fresh))) ∧ True) ∧ ((S.nodes) = (S.nodes)) ∧ ((S.counts) = (S.counts)) ∧ ((S.used) = (S.used)) ∧ ((S.gen) = (S.gen)) ∧ ((S.rel) = (S.rel)) ∧ (True ∧ True ∧ True) ∧ ((List.replicate S.cap.toNat { alloc := false, count := 0, gen := 0, node := { key := 0, value := 0, left := 0, right := 0, size := 0, sum := 0, min := 0, max := 0 : NodeT } : SlotT }) = (fillS S 0)) ∧ ((o) = (orderOf S)) ∧ (True ∧ True ∧ True) ∧ ((([] : List SlotT) = [])) ∧ ((([] : List Int) = [])) ∧ True))))) ∧
(1 ≤ S.used.length) ∧
(S.used.length ≤ 65537) ∧
(S.rel.length ≤ 65537) ∧
(0 ≤ S.fresh) ∧
(S.fresh ≤ (↑S.used.length : Int) - 1) ∧
(∀ o : List Int, (((o) = (orderL S.used S.rel S.fresh)) → (∃ x : Unit, (True ∧ (True ∧ True ∧ True ∧ True) ∧ (True ∧ True ∧ True ∧ ((Value.int IntKind.u64 (S.reads)) = (Value.int IntKind.u64 (S.reads))) ∧ True) ∧ (True ∧ True ∧ True ∧ ((Value.int IntKind.u32 (S.fresh)) = (Value.int IntKind.u32 (S.fresh))) ∧ True) ∧ ((S.nodes) = (S.nodes)) ∧
    ((S.counts) = (S.counts)) ∧ ((S.used) = (S.used)) ∧ ((S.gen) = (S.gen)) ∧ ((S.rel) = (S.rel)) ∧ (True ∧ True ∧ True) ∧ ((List.replicate S.cap.toNat { alloc := false, count := 0, gen := 0, node := { key := 0, value := 0, left := 0, right := 0, size := 0, sum := 0, min := 0, max := 0 : NodeT } : SlotT }) = (fillS S 0)) ∧ ((o) = (orderOf S)) ∧ (True ∧ True ∧ True) ∧ ((([] : List SlotT) = [])) ∧ ((([] : List Int) = [])) ∧ True))))) ∧
((1 ≤ S.used.length) ∧
(S.used.length ≤ 65537) ∧
(S.rel.length ≤ 65537) ∧
(0 ≤ S.fresh) ∧
(S.fresh ≤ (↑S.used.length : Int) - 1) ∧
(∀ o : List Int, (((o) = (orderL S.used S.rel S.fresh)) → (((0 ≤ S.cap) ∧ (S.cap ≤ S.cap) ∧ (S.cap * (↑(bytesOf C0 EC.slot) : Int) ≤ 140737488355328) ∧ (∃ x : Unit, (True ∧ (True ∧ True ∧ True ∧ True) ∧ (True ∧ True ∧ True ∧ ((Value.int IntKind.u64 (S.reads)) = (Value.int IntKind.u64 (S.reads))) ∧ True) ∧ (True ∧ True ∧ True ∧ ((Value.int IntKind.u32 (S.fresh)) = (Value.int IntKind.u32 (S.fresh))) ∧ True) ∧ ((S.nodes) = (S.nodes)) ∧ ((S.counts) = (S.counts)) ∧ ((S.used) = (S.used)) ∧ ((S.gen) = (S.gen)) ∧ ((S.rel) = (S.rel)) ∧ (True ∧ True ∧ True) ∧ ((List.replicate S.cap.toNat { alloc := false, count := 0, gen := 0, node := { key := 0, value := 0, left := 0, right := 0, size := 0, sum := 0, min := 0, max := 0 : NodeT } : SlotT }) = (fillS S 0)) ∧ ((o) = (orderOf S)) ∧ (True ∧ True ∧ True) ∧ ((([] : List SlotT) = [])) ∧ ((([] : List Int) = [])) ∧ True))) ∧ (0 ≤ S.cap) ∧ (S.cap ≤ S.cap) ∧
    (S.cap * (↑(bytesOf C0 EC.slot) : Int) ≤ 140737488355328) ∧ (∃ x : Unit, (True ∧ (True ∧ True ∧ True ∧ True) ∧ (True ∧ True ∧ True ∧ ((Value.int IntKind.u64 (S.reads)) = (Value.int IntKind.u64 (S.reads))) ∧ True) ∧ (True ∧ True ∧ True ∧ ((Value.int IntKind.u32 (S.fresh)) = (Value.int IntKind.u32 (S.fresh))) ∧ True) ∧ ((S.nodes) = (S.nodes)) ∧ ((S.counts) = (S.counts)) ∧ ((S.used) = (S.used)) ∧ ((S.gen) = (S.gen)) ∧ ((S.rel) = (S.rel)) ∧ (True ∧ True ∧ True) ∧ ((List.replicate S.cap.toNat { alloc := false, count := 0, gen := 0, node := { key := 0, value := 0, left := 0, right := 0, size := 0, sum := 0, min := 0, max := 0 : NodeT } : SlotT }) = (fillS S 0)) ∧ ((o) = (orderOf S)) ∧ (True ∧ True ∧ True) ∧ ((([] : List SlotT) = [])) ∧ ((([] : List Int) = [])) ∧ True)))))) ∧
((0 ≤ S.cap) ∧
(S.cap ≤ S.cap) ∧
(S.cap * (↑(bytesOf C0 EC.slot) : Int) ≤ 140737488355328) ∧
(1 ≤ S.used.length) ∧
(S.used.length ≤ 65537) ∧
(S.rel.length ≤ 65537) ∧
(0 ≤ S.fresh) ∧
(S.fresh ≤ (↑S.used.length : Int) - 1) ∧
(∀ o : List Int, (((o) = (orderL S.used S.rel S.fresh)) → (∃ x : Unit, (True ∧ (True ∧ True ∧ True ∧ True) ∧ (True ∧ True ∧ True ∧ ((Value.int IntKind.u64 (S.reads)) = (Value.int IntKind.u64 (S.reads))) ∧ True) ∧ (True ∧ True ∧ True ∧ ((Value.int IntKind.u32 (S.fresh)) = (Value.int IntKind.u32 (S.fresh))) ∧ True) ∧ ((S.nodes) = (S.nodes)) ∧ ((S.counts) = (S.counts)) ∧ ((S.used) = (S.used)) ∧ ((S.gen) = (S.gen)) ∧ ((S.rel) = (S.rel)) ∧ (True ∧ True ∧ True) ∧
    ((List.replicate S.cap.toNat { alloc := false, count := 0, gen := 0, node := { key := 0, value := 0, left := 0, right := 0, size := 0, sum := 0, min := 0, max := 0 : NodeT } : SlotT }) = (fillS S 0)) ∧ ((o) = (orderOf S)) ∧ (True ∧ True ∧ True) ∧ ((([] : List SlotT) = [])) ∧ ((([] : List Int) = [])) ∧ True))))) ∧
(1 ≤ S.used.length) ∧
(S.used.length ≤ 65537) ∧
(S.rel.length ≤ 65537) ∧
(0 ≤ S.fresh) ∧
(S.fresh ≤ (↑S.used.length : Int) - 1) ∧
(∀ o : List Int, (((o) = (orderL S.used S.rel S.fresh)) → ((0 ≤ S.cap) ∧ (S.cap ≤ S.cap) ∧ (S.cap * (↑(bytesOf C0 EC.slot) : Int) ≤ 140737488355328) ∧ (∃ x : Unit, (True ∧ (True ∧ True ∧ True ∧ True) ∧ (True ∧ True ∧ True ∧ ((Value.int IntKind.u64 (S.reads)) = (Value.int IntKind.u64 (S.reads))) ∧ True) ∧ (True ∧ True ∧ True ∧ ((Value.int IntKind.u32 (S.fresh)) = (Value.int IntKind.u32 (S.fresh))) ∧ True) ∧ ((S.nodes) = (S.nodes)) ∧ ((S.counts) = (S.counts)) ∧ ((S.used) = (S.used)) ∧ ((S.gen) = (S.gen)) ∧ ((S.rel) = (S.rel)) ∧ (True ∧ True ∧ True) ∧ ((List.replicate S.cap.toNat { alloc := false, count := 0, gen := 0, node := { key := 0, value := 0, left := 0, right := 0, size := 0, sum := 0, min := 0, max := 0 : NodeT } : SlotT }) = (fillS S 0)) ∧ ((o) = (orderOf S)) ∧ (True ∧ True ∧ True) ∧ ((([] : List SlotT) = [])) ∧ ((([] : List Int) = [])) ∧
    True)))))) ∧
((0 ≤ S.cap) ∧
(S.cap ≤ S.cap) ∧
(S.cap * (↑(bytesOf C0 EC.slot) : Int) ≤ 140737488355328) ∧
(1 ≤ S.used.length) ∧
(S.used.length ≤ 65537) ∧
(S.rel.length ≤ 65537) ∧
(0 ≤ S.fresh) ∧
(S.fresh ≤ (↑S.used.length : Int) - 1) ∧
(∀ o : List Int, (((o) = (orderL S.used S.rel S.fresh)) → (∃ x : Unit, (True ∧ (True ∧ True ∧ True ∧ True) ∧ (True ∧ True ∧ True ∧ ((Value.int IntKind.u64 (S.reads)) = (Value.int IntKind.u64 (S.reads))) ∧ True) ∧ (True ∧ True ∧ True ∧ ((Value.int IntKind.u32 (S.fresh)) = (Value.int IntKind.u32 (S.fresh))) ∧ True) ∧ ((S.nodes) = (S.nodes)) ∧ ((S.counts) = (S.counts)) ∧ ((S.used) = (S.used)) ∧ ((S.gen) = (S.gen)) ∧ ((S.rel) = (S.rel)) ∧ (True ∧ True ∧ True) ∧ ((List.replicate S.cap.toNat { alloc := false, count := 0, gen := 0, node := { key := 0, value := 0, left := 0, right := 0, size := 0, sum := 0, min := 0, max := 0 : NodeT } : SlotT }) = (fillS S 0)) ∧ ((o) = (orderOf S)) ∧ (True ∧ True ∧ True) ∧ ((([] : List SlotT) = [])) ∧ ((([] : List Int) = [])) ∧ True))))) ∧
((0 ≤ S.cap) ∧
(S.cap ≤ S.cap) ∧
(S.cap * (↑(bytesOf C0 EC.slot) : Int) ≤ 140737488355328) ∧
(1 ≤ S.used.length) ∧
(S.used.length ≤ 65537) ∧
(S.rel.length ≤ 65537) ∧
(0 ≤ S.fresh) ∧
(S.fresh ≤ (↑S.used.length : Int) - 1) ∧
(∀ o : List Int, (((o) = (orderL S.used S.rel S.fresh)) → (∃ x : Unit, (True ∧ (True ∧ True ∧ True ∧ True) ∧ (True ∧ True ∧ True ∧ ((Value.int IntKind.u64 (S.reads)) = (Value.int IntKind.u64 (S.reads))) ∧ True) ∧ (True ∧ True ∧ True ∧
    ((Value.int IntKind.u32 (S.fresh)) = (Value.int IntKind.u32 (S.fresh))) ∧ True) ∧ ((S.nodes) = (S.nodes)) ∧ ((S.counts) = (S.counts)) ∧ ((S.used) = (S.used)) ∧ ((S.gen) = (S.gen)) ∧ ((S.rel) = (S.rel)) ∧ (True ∧ True ∧ True) ∧ ((List.replicate S.cap.toNat { alloc := false, count := 0, gen := 0, node := { key := 0, value := 0, left := 0, right := 0, size := 0, sum := 0, min := 0, max := 0 : NodeT } : SlotT }) = (fillS S 0)) ∧ ((o) = (orderOf S)) ∧ (True ∧ True ∧ True) ∧ ((([] : List SlotT) = [])) ∧ ((([] : List Int) = [])) ∧ True))))) ∧
(1 ≤ S.used.length) ∧
(S.used.length ≤ 65537) ∧
(S.rel.length ≤ 65537) ∧
(0 ≤ S.fresh) ∧
(S.fresh ≤ (↑S.used.length : Int) - 1) ∧
(∀ o : List Int, (((o) = (orderL S.used S.rel S.fresh)) → ((0 ≤ S.cap) ∧ (S.cap ≤ S.cap) ∧ (S.cap * (↑(bytesOf C0 EC.slot) : Int) ≤ 140737488355328) ∧ (∃ x : Unit, (True ∧ (True ∧ True ∧ True ∧ True) ∧ (True ∧ True ∧ True ∧ ((Value.int IntKind.u64 (S.reads)) = (Value.int IntKind.u64 (S.reads))) ∧ True) ∧ (True ∧ True ∧ True ∧ ((Value.int IntKind.u32 (S.fresh)) = (Value.int IntKind.u32 (S.fresh))) ∧ True) ∧ ((S.nodes) = (S.nodes)) ∧ ((S.counts) = (S.counts)) ∧ ((S.used) = (S.used)) ∧ ((S.gen) = (S.gen)) ∧ ((S.rel) = (S.rel)) ∧ (True ∧ True ∧ True) ∧ ((List.replicate S.cap.toNat { alloc := false, count := 0, gen := 0, node := { key := 0, value := 0, left := 0, right := 0, size := 0, sum := 0, min := 0, max := 0 : NodeT } : SlotT }) = (fillS S 0)) ∧ ((o) = (orderOf S)) ∧ (True ∧ True ∧ True) ∧
    ((([] : List SlotT) = [])) ∧ ((([] : List Int) = [])) ∧ True)))))) ∧
(((exW S) ∧
((0 ≤ S.cap) ∧
(S.cap ≤ S.cap) ∧
(S.cap * (↑(bytesOf C0 EC.slot) : Int) ≤ 140737488355328) ∧
((1 ≤ S.used.length) ∧
(S.used.length ≤ 65537) ∧
(S.rel.length ≤ 65537) ∧
(0 ≤ S.fresh) ∧
(S.fresh ≤ (↑S.used.length : Int) - 1) ∧
(∀ o : List Int, (((o) = (orderL S.used S.rel S.fresh)) → (∃ x : Unit, (True ∧ (True ∧ True ∧ True ∧ True) ∧ (True ∧ True ∧ True ∧ ((Value.int IntKind.u64 (S.reads)) = (Value.int IntKind.u64 (S.reads))) ∧ True) ∧ (True ∧ True ∧ True ∧ ((Value.int IntKind.u32 (S.fresh)) = (Value.int IntKind.u32 (S.fresh))) ∧ True) ∧ ((S.nodes) = (S.nodes)) ∧ ((S.counts) = (S.counts)) ∧ ((S.used) = (S.used)) ∧ ((S.gen) = (S.gen)) ∧ ((S.rel) = (S.rel)) ∧ (True ∧ True ∧ True) ∧ ((List.replicate S.cap.toNat { alloc := false, count := 0, gen := 0, node := { key := 0, value := 0, left := 0, right := 0, size := 0, sum := 0, min := 0, max := 0 : NodeT } : SlotT }) = (fillS S 0)) ∧ ((o) = (orderOf S)) ∧ (True ∧ True ∧ True) ∧ ((([] : List SlotT) = [])) ∧ ((([] : List Int) = [])) ∧ True))))) ∧
(1 ≤ S.used.length) ∧
(S.used.length ≤ 65537) ∧
(S.rel.length ≤ 65537) ∧
(0 ≤ S.fresh) ∧
(S.fresh ≤ (↑S.used.length : Int) - 1) ∧
(∀ o : List Int, (((o) = (orderL S.used S.rel S.fresh)) → (∃ x : Unit, (True ∧ (True ∧ True ∧ True ∧ True) ∧ (True ∧ True ∧ True ∧ ((Value.int IntKind.u64 (S.reads)) = (Value.int IntKind.u64 (S.reads))) ∧ True) ∧ (True ∧ True ∧ True ∧
    ((Value.int IntKind.u32 (S.fresh)) = (Value.int IntKind.u32 (S.fresh))) ∧ True) ∧ ((S.nodes) = (S.nodes)) ∧ ((S.counts) = (S.counts)) ∧ ((S.used) = (S.used)) ∧ ((S.gen) = (S.gen)) ∧ ((S.rel) = (S.rel)) ∧ (True ∧ True ∧ True) ∧ ((List.replicate S.cap.toNat { alloc := false, count := 0, gen := 0, node := { key := 0, value := 0, left := 0, right := 0, size := 0, sum := 0, min := 0, max := 0 : NodeT } : SlotT }) = (fillS S 0)) ∧ ((o) = (orderOf S)) ∧ (True ∧ True ∧ True) ∧ ((([] : List SlotT) = [])) ∧ ((([] : List Int) = [])) ∧ True))))) ∧
((1 ≤ S.used.length) ∧
(S.used.length ≤ 65537) ∧
(S.rel.length ≤ 65537) ∧
(0 ≤ S.fresh) ∧
(S.fresh ≤ (↑S.used.length : Int) - 1) ∧
(∀ o : List Int, (((o) = (orderL S.used S.rel S.fresh)) → (((0 ≤ S.cap) ∧ (S.cap ≤ S.cap) ∧ (S.cap * (↑(bytesOf C0 EC.slot) : Int) ≤ 140737488355328) ∧ (∃ x : Unit, (True ∧ (True ∧ True ∧ True ∧ True) ∧ (True ∧ True ∧ True ∧ ((Value.int IntKind.u64 (S.reads)) = (Value.int IntKind.u64 (S.reads))) ∧ True) ∧ (True ∧ True ∧ True ∧ ((Value.int IntKind.u32 (S.fresh)) = (Value.int IntKind.u32 (S.fresh))) ∧ True) ∧ ((S.nodes) = (S.nodes)) ∧ ((S.counts) = (S.counts)) ∧ ((S.used) = (S.used)) ∧ ((S.gen) = (S.gen)) ∧ ((S.rel) = (S.rel)) ∧ (True ∧ True ∧ True) ∧ ((List.replicate S.cap.toNat { alloc := false, count := 0, gen := 0, node := { key := 0, value := 0, left := 0, right := 0, size := 0, sum := 0, min := 0, max := 0 : NodeT } : SlotT }) = (fillS S 0)) ∧ ((o) = (orderOf S)) ∧ (True ∧ True ∧ True) ∧
    ((([] : List SlotT) = [])) ∧ ((([] : List Int) = [])) ∧ True))) ∧ (0 ≤ S.cap) ∧ (S.cap ≤ S.cap) ∧ (S.cap * (↑(bytesOf C0 EC.slot) : Int) ≤ 140737488355328) ∧ (∃ x : Unit, (True ∧ (True ∧ True ∧ True ∧ True) ∧ (True ∧ True ∧ True ∧ ((Value.int IntKind.u64 (S.reads)) = (Value.int IntKind.u64 (S.reads))) ∧ True) ∧ (True ∧ True ∧ True ∧ ((Value.int IntKind.u32 (S.fresh)) = (Value.int IntKind.u32 (S.fresh))) ∧ True) ∧ ((S.nodes) = (S.nodes)) ∧ ((S.counts) = (S.counts)) ∧ ((S.used) = (S.used)) ∧ ((S.gen) = (S.gen)) ∧ ((S.rel) = (S.rel)) ∧ (True ∧ True ∧ True) ∧ ((List.replicate S.cap.toNat { alloc := false, count := 0, gen := 0, node := { key := 0, value := 0, left := 0, right := 0, size := 0, sum := 0, min := 0, max := 0 : NodeT } : SlotT }) = (fillS S 0)) ∧ ((o) = (orderOf S)) ∧ (True ∧ True ∧ True) ∧ ((([] : List SlotT) = [])) ∧ ((([] : List Int) = [])) ∧ True)))))) ∧
((0 ≤ S.cap) ∧
(S.cap ≤ S.cap) ∧
(S.cap * (↑(bytesOf C0 EC.slot) : Int) ≤ 140737488355328) ∧
(1 ≤ S.used.length) ∧
(S.used.length ≤ 65537) ∧
(S.rel.length ≤ 65537) ∧
(0 ≤ S.fresh) ∧
(S.fresh ≤ (↑S.used.length : Int) - 1) ∧
(∀ o : List Int, (((o) = (orderL S.used S.rel S.fresh)) → (∃ x : Unit, (True ∧ (True ∧ True ∧ True ∧ True) ∧ (True ∧ True ∧ True ∧ ((Value.int IntKind.u64 (S.reads)) = (Value.int IntKind.u64 (S.reads))) ∧ True) ∧ (True ∧ True ∧ True ∧ ((Value.int IntKind.u32 (S.fresh)) = (Value.int IntKind.u32 (S.fresh))) ∧ True) ∧ ((S.nodes) = (S.nodes)) ∧ ((S.counts) = (S.counts)) ∧ ((S.used) = (S.used)) ∧
    ((S.gen) = (S.gen)) ∧ ((S.rel) = (S.rel)) ∧ (True ∧ True ∧ True) ∧ ((List.replicate S.cap.toNat { alloc := false, count := 0, gen := 0, node := { key := 0, value := 0, left := 0, right := 0, size := 0, sum := 0, min := 0, max := 0 : NodeT } : SlotT }) = (fillS S 0)) ∧ ((o) = (orderOf S)) ∧ (True ∧ True ∧ True) ∧ ((([] : List SlotT) = [])) ∧ ((([] : List Int) = [])) ∧ True))))) ∧
(1 ≤ S.used.length) ∧
(S.used.length ≤ 65537) ∧
(S.rel.length ≤ 65537) ∧
(0 ≤ S.fresh) ∧
(S.fresh ≤ (↑S.used.length : Int) - 1) ∧
(∀ o : List Int, (((o) = (orderL S.used S.rel S.fresh)) → ((0 ≤ S.cap) ∧ (S.cap ≤ S.cap) ∧ (S.cap * (↑(bytesOf C0 EC.slot) : Int) ≤ 140737488355328) ∧ (∃ x : Unit, (True ∧ (True ∧ True ∧ True ∧ True) ∧ (True ∧ True ∧ True ∧ ((Value.int IntKind.u64 (S.reads)) = (Value.int IntKind.u64 (S.reads))) ∧ True) ∧ (True ∧ True ∧ True ∧ ((Value.int IntKind.u32 (S.fresh)) = (Value.int IntKind.u32 (S.fresh))) ∧ True) ∧ ((S.nodes) = (S.nodes)) ∧ ((S.counts) = (S.counts)) ∧ ((S.used) = (S.used)) ∧ ((S.gen) = (S.gen)) ∧ ((S.rel) = (S.rel)) ∧ (True ∧ True ∧ True) ∧ ((List.replicate S.cap.toNat { alloc := false, count := 0, gen := 0, node := { key := 0, value := 0, left := 0, right := 0, size := 0, sum := 0, min := 0, max := 0 : NodeT } : SlotT }) = (fillS S 0)) ∧ ((o) = (orderOf S)) ∧ (True ∧ True ∧ True) ∧ ((([] : List SlotT) = [])) ∧ ((([] : List Int) = [])) ∧
    True)))))) ∧
(exW S) ∧
((0 ≤ S.cap) ∧
(S.cap ≤ S.cap) ∧
(S.cap * (↑(bytesOf C0 EC.slot) : Int) ≤ 140737488355328) ∧
(1 ≤ S.used.length) ∧
(S.used.length ≤ 65537) ∧
(S.rel.length ≤ 65537) ∧
(0 ≤ S.fresh) ∧
(S.fresh ≤ (↑S.used.length : Int) - 1) ∧
(∀ o : List Int, (((o) = (orderL S.used S.rel S.fresh)) → (∃ x : Unit, (True ∧ (True ∧ True ∧ True ∧ True) ∧ (True ∧ True ∧ True ∧ ((Value.int IntKind.u64 (S.reads)) = (Value.int IntKind.u64 (S.reads))) ∧ True) ∧ (True ∧ True ∧ True ∧ ((Value.int IntKind.u32 (S.fresh)) = (Value.int IntKind.u32 (S.fresh))) ∧ True) ∧ ((S.nodes) = (S.nodes)) ∧ ((S.counts) = (S.counts)) ∧ ((S.used) = (S.used)) ∧ ((S.gen) = (S.gen)) ∧ ((S.rel) = (S.rel)) ∧ (True ∧ True ∧ True) ∧ ((List.replicate S.cap.toNat { alloc := false, count := 0, gen := 0, node := { key := 0, value := 0, left := 0, right := 0, size := 0, sum := 0, min := 0, max := 0 : NodeT } : SlotT }) = (fillS S 0)) ∧ ((o) = (orderOf S)) ∧ (True ∧ True ∧ True) ∧ ((([] : List SlotT) = [])) ∧ ((([] : List Int) = [])) ∧ True))))) ∧
(1 ≤ S.used.length) ∧
(S.used.length ≤ 65537) ∧
(S.rel.length ≤ 65537) ∧
(0 ≤ S.fresh) ∧
(S.fresh ≤ (↑S.used.length : Int) - 1) ∧
(∀ o : List Int, (((o) = (orderL S.used S.rel S.fresh)) → ((0 ≤ S.cap) ∧ (S.cap ≤ S.cap) ∧ (S.cap * (↑(bytesOf C0 EC.slot) : Int) ≤ 140737488355328) ∧ (∃ x : Unit, (True ∧ (True ∧ True ∧ True ∧ True) ∧ (True ∧ True ∧ True ∧ ((Value.int IntKind.u64 (S.reads)) = (Value.int IntKind.u64 (S.reads))) ∧ True) ∧ (True ∧ True ∧ True ∧
    ((Value.int IntKind.u32 (S.fresh)) = (Value.int IntKind.u32 (S.fresh))) ∧ True) ∧ ((S.nodes) = (S.nodes)) ∧ ((S.counts) = (S.counts)) ∧ ((S.used) = (S.used)) ∧ ((S.gen) = (S.gen)) ∧ ((S.rel) = (S.rel)) ∧ (True ∧ True ∧ True) ∧ ((List.replicate S.cap.toNat { alloc := false, count := 0, gen := 0, node := { key := 0, value := 0, left := 0, right := 0, size := 0, sum := 0, min := 0, max := 0 : NodeT } : SlotT }) = (fillS S 0)) ∧ ((o) = (orderOf S)) ∧ (True ∧ True ∧ True) ∧ ((([] : List SlotT) = [])) ∧ ((([] : List Int) = [])) ∧ True)))))) ∧
((exW S) ∧
((0 ≤ S.cap) ∧
(S.cap ≤ S.cap) ∧
(S.cap * (↑(bytesOf C0 EC.slot) : Int) ≤ 140737488355328) ∧
(1 ≤ S.used.length) ∧
(S.used.length ≤ 65537) ∧
(S.rel.length ≤ 65537) ∧
(0 ≤ S.fresh) ∧
(S.fresh ≤ (↑S.used.length : Int) - 1) ∧
(∀ o : List Int, (((o) = (orderL S.used S.rel S.fresh)) → (∃ x : Unit, (True ∧ (True ∧ True ∧ True ∧ True) ∧ (True ∧ True ∧ True ∧ ((Value.int IntKind.u64 (S.reads)) = (Value.int IntKind.u64 (S.reads))) ∧ True) ∧ (True ∧ True ∧ True ∧ ((Value.int IntKind.u32 (S.fresh)) = (Value.int IntKind.u32 (S.fresh))) ∧ True) ∧ ((S.nodes) = (S.nodes)) ∧ ((S.counts) = (S.counts)) ∧ ((S.used) = (S.used)) ∧ ((S.gen) = (S.gen)) ∧ ((S.rel) = (S.rel)) ∧ (True ∧ True ∧ True) ∧ ((List.replicate S.cap.toNat { alloc := false, count := 0, gen := 0, node := { key := 0, value := 0, left := 0, right := 0, size := 0, sum := 0, min := 0, max := 0 : NodeT } : SlotT }) = (fillS S 0)) ∧ ((o) = (orderOf S)) ∧ (True ∧ True ∧ True) ∧
    ((([] : List SlotT) = [])) ∧ ((([] : List Int) = [])) ∧ True))))) ∧
((0 ≤ S.cap) ∧
(S.cap ≤ S.cap) ∧
(S.cap * (↑(bytesOf C0 EC.slot) : Int) ≤ 140737488355328) ∧
(1 ≤ S.used.length) ∧
(S.used.length ≤ 65537) ∧
(S.rel.length ≤ 65537) ∧
(0 ≤ S.fresh) ∧
(S.fresh ≤ (↑S.used.length : Int) - 1) ∧
(∀ o : List Int, (((o) = (orderL S.used S.rel S.fresh)) → (∃ x : Unit, (True ∧ (True ∧ True ∧ True ∧ True) ∧ (True ∧ True ∧ True ∧ ((Value.int IntKind.u64 (S.reads)) = (Value.int IntKind.u64 (S.reads))) ∧ True) ∧ (True ∧ True ∧ True ∧ ((Value.int IntKind.u32 (S.fresh)) = (Value.int IntKind.u32 (S.fresh))) ∧ True) ∧ ((S.nodes) = (S.nodes)) ∧ ((S.counts) = (S.counts)) ∧ ((S.used) = (S.used)) ∧ ((S.gen) = (S.gen)) ∧ ((S.rel) = (S.rel)) ∧ (True ∧ True ∧ True) ∧ ((List.replicate S.cap.toNat { alloc := false, count := 0, gen := 0, node := { key := 0, value := 0, left := 0, right := 0, size := 0, sum := 0, min := 0, max := 0 : NodeT } : SlotT }) = (fillS S 0)) ∧ ((o) = (orderOf S)) ∧ (True ∧ True ∧ True) ∧ ((([] : List SlotT) = [])) ∧ ((([] : List Int) = [])) ∧ True))))) ∧
(1 ≤ S.used.length) ∧
(S.used.length ≤ 65537) ∧
(S.rel.length ≤ 65537) ∧
(0 ≤ S.fresh) ∧
(S.fresh ≤ (↑S.used.length : Int) - 1) ∧
(∀ o : List Int, (((o) = (orderL S.used S.rel S.fresh)) → ((0 ≤ S.cap) ∧ (S.cap ≤ S.cap) ∧ (S.cap * (↑(bytesOf C0 EC.slot) : Int) ≤ 140737488355328) ∧ (∃ x : Unit, (True ∧ (True ∧ True ∧ True ∧ True) ∧ (True ∧ True ∧ True ∧ ((Value.int IntKind.u64 (S.reads)) = (Value.int IntKind.u64 (S.reads))) ∧
    True) ∧ (True ∧ True ∧ True ∧ ((Value.int IntKind.u32 (S.fresh)) = (Value.int IntKind.u32 (S.fresh))) ∧ True) ∧ ((S.nodes) = (S.nodes)) ∧ ((S.counts) = (S.counts)) ∧ ((S.used) = (S.used)) ∧ ((S.gen) = (S.gen)) ∧ ((S.rel) = (S.rel)) ∧ (True ∧ True ∧ True) ∧ ((List.replicate S.cap.toNat { alloc := false, count := 0, gen := 0, node := { key := 0, value := 0, left := 0, right := 0, size := 0, sum := 0, min := 0, max := 0 : NodeT } : SlotT }) = (fillS S 0)) ∧ ((o) = (orderOf S)) ∧ (True ∧ True ∧ True) ∧ ((([] : List SlotT) = [])) ∧ ((([] : List Int) = [])) ∧ True)))))) ∧
(exW S) ∧
((0 ≤ S.cap) ∧
(S.cap ≤ S.cap) ∧
(S.cap * (↑(bytesOf C0 EC.slot) : Int) ≤ 140737488355328) ∧
(1 ≤ S.used.length) ∧
(S.used.length ≤ 65537) ∧
(S.rel.length ≤ 65537) ∧
(0 ≤ S.fresh) ∧
(S.fresh ≤ (↑S.used.length : Int) - 1) ∧
(∀ o : List Int, (((o) = (orderL S.used S.rel S.fresh)) → (∃ x : Unit, (True ∧ (True ∧ True ∧ True ∧ True) ∧ (True ∧ True ∧ True ∧ ((Value.int IntKind.u64 (S.reads)) = (Value.int IntKind.u64 (S.reads))) ∧ True) ∧ (True ∧ True ∧ True ∧ ((Value.int IntKind.u32 (S.fresh)) = (Value.int IntKind.u32 (S.fresh))) ∧ True) ∧ ((S.nodes) = (S.nodes)) ∧ ((S.counts) = (S.counts)) ∧ ((S.used) = (S.used)) ∧ ((S.gen) = (S.gen)) ∧ ((S.rel) = (S.rel)) ∧ (True ∧ True ∧ True) ∧ ((List.replicate S.cap.toNat { alloc := false, count := 0, gen := 0, node := { key := 0, value := 0, left := 0, right := 0, size := 0, sum := 0, min := 0, max := 0 : NodeT } : SlotT }) = (fillS S 0)) ∧ ((o) = (orderOf S)) ∧ (True ∧
    True ∧ True) ∧ ((([] : List SlotT) = [])) ∧ ((([] : List Int) = [])) ∧ True))))) ∧
(1 ≤ S.used.length) ∧
(S.used.length ≤ 65537) ∧
(S.rel.length ≤ 65537) ∧
(0 ≤ S.fresh) ∧
(S.fresh ≤ (↑S.used.length : Int) - 1) ∧
(∀ o : List Int, (((o) = (orderL S.used S.rel S.fresh)) → ((0 ≤ S.cap) ∧ (S.cap ≤ S.cap) ∧ (S.cap * (↑(bytesOf C0 EC.slot) : Int) ≤ 140737488355328) ∧ (∃ x : Unit, (True ∧ (True ∧ True ∧ True ∧ True) ∧ (True ∧ True ∧ True ∧ ((Value.int IntKind.u64 (S.reads)) = (Value.int IntKind.u64 (S.reads))) ∧ True) ∧ (True ∧ True ∧ True ∧ ((Value.int IntKind.u32 (S.fresh)) = (Value.int IntKind.u32 (S.fresh))) ∧ True) ∧ ((S.nodes) = (S.nodes)) ∧ ((S.counts) = (S.counts)) ∧ ((S.used) = (S.used)) ∧ ((S.gen) = (S.gen)) ∧ ((S.rel) = (S.rel)) ∧ (True ∧ True ∧ True) ∧ ((List.replicate S.cap.toNat { alloc := false, count := 0, gen := 0, node := { key := 0, value := 0, left := 0, right := 0, size := 0, sum := 0, min := 0, max := 0 : NodeT } : SlotT }) = (fillS S 0)) ∧ ((o) = (orderOf S)) ∧ (True ∧ True ∧ True) ∧ ((([] : List SlotT) = [])) ∧ ((([] : List Int) = [])) ∧ True)))))) ∧
(∀ x : Unit, (True → ((∃ x1 : XDu S, (True ∧ (True ∧ True ∧ True ∧ ((Value.int IntKind.i64 ((↑(fillS S 0).length : Int))) = (Value.int IntKind.i64 ((↑(fillS S 0).length : Int)))) ∧ ((Value.int IntKind.i64 0) = (Value.int IntKind.i64 ((↑x1.i : Int)))) ∧ True) ∧ (True ∧ True ∧ True ∧ ((Value.int IntKind.u64 (S.reads)) = (Value.int IntKind.u64 (S.reads))) ∧ True) ∧ (True ∧ True ∧ True ∧
    ((Value.int IntKind.u32 (S.fresh)) = (Value.int IntKind.u32 (S.fresh))) ∧ True) ∧ ((S.nodes) = (S.nodes)) ∧ ((S.counts) = (S.counts)) ∧ ((S.used) = (S.used)) ∧ ((S.gen) = (S.gen)) ∧ ((S.rel) = (S.rel)) ∧ (True ∧ True ∧ True) ∧ ((fillS S 0) = (fillS S x1.i)) ∧ ((orderOf S) = (orderOf S)) ∧ (True ∧ True ∧ True) ∧ ((([] : List SlotT) = [])) ∧ ((([] : List Int) = [])) ∧ True)) ∧ (∀ x1 : XDu S, (True → (brS (decide ((↑x1.i : Int) < (↑(fillS S 0).length : Int))) (((0 ≤ IntKind.u32.wrap (IntKind.i64.wrap ((↑x1.i : Int) + 1))) ∧ (IntKind.u32.wrap (IntKind.i64.wrap ((↑x1.i : Int) + 1)) < (↑S.nodes.length : Int)) ∧ (0 ≤ IntKind.u32.wrap (IntKind.i64.wrap ((↑x1.i : Int) + 1))) ∧ (IntKind.u32.wrap (IntKind.i64.wrap ((↑x1.i : Int) + 1)) < 4294967296) ∧ (S.used.length ≤ 65537) ∧ (inU (IntKind.u32.wrap (IntKind.i64.wrap ((↑x1.i : Int) + 1)))) ∧ (exW S) ∧ (inU (IntKind.u32.wrap (IntKind.i64.wrap ((↑x1.i : Int) + 1)))) ∧ (exW S) ∧ (0 ≤ (↑x1.i : Int)) ∧ ((↑x1.i : Int) < (↑(fillS S x1.i).length : Int)) ∧ (∃ x' : XDu S, (True ∧ ((True ∧ True ∧ True ∧ ((Value.int IntKind.i64 ((↑(fillS S 0).length : Int))) = (Value.int IntKind.i64 ((↑(fillS S 0).length : Int)))) ∧ ((Value.int IntKind.i64 (IntKind.i64.wrap ((↑x1.i : Int) + 1))) = (Value.int IntKind.i64 ((↑x'.i : Int)))) ∧ True) ∧ (True ∧ True ∧ True ∧ ((Value.int IntKind.u64 (S.reads)) = (Value.int IntKind.u64 (S.reads))) ∧ True) ∧ (True ∧ True ∧ True ∧ ((Value.int IntKind.u32 (S.fresh)) = (Value.int IntKind.u32 (S.fresh))) ∧ True) ∧
    ((S.nodes) = (S.nodes)) ∧ ((S.counts) = (S.counts)) ∧ ((S.used) = (S.used)) ∧ ((S.gen) = (S.gen)) ∧ ((S.rel) = (S.rel)) ∧ (True ∧ True ∧ True) ∧ (((fillS S x1.i).set (↑x1.i : Int).toNat { alloc := S.us (IntKind.u32.wrap (IntKind.i64.wrap ((↑x1.i : Int) + 1))), count := if S.us (IntKind.u32.wrap (IntKind.i64.wrap ((↑x1.i : Int) + 1))) = true then S.ct (IntKind.u32.wrap (IntKind.i64.wrap ((↑x1.i : Int) + 1))) else 0, gen := S.gn (IntKind.u32.wrap (IntKind.i64.wrap ((↑x1.i : Int) + 1))), node := S.nd (IntKind.u32.wrap (IntKind.i64.wrap ((↑x1.i : Int) + 1))) : SlotT }) = (fillS S x'.i)) ∧ ((orderOf S) = (orderOf S)) ∧ (True ∧ True ∧ True) ∧ ((([] : List SlotT) = [])) ∧ ((([] : List Int) = [])) ∧ True) ∧ (ncap S - x'.i < ncap S - x1.i))))) ((K (SV.one (TV.agg [(At.slc 7), (At.slc 8)])) [(Chunk.box [(At.ptr 1 0), (At.slc 2), (At.slc 3), (At.val (Value.int IntKind.u64 (S.reads)))]), (Chunk.box [(At.slc 4), (At.slc 5), (At.slc 6), (At.val (Value.int IntKind.u32 (S.fresh)))]), (Chunk.row true (EC.node) (S.nodes)), (Chunk.row true (EC.int) (S.counts)), (Chunk.row true (EC.bool) (S.used)), (Chunk.row true (EC.u32) (S.gen)), (Chunk.row true (EC.u32) (S.rel)), (Chunk.row true (EC.slot) (fillS S x1.i)), (Chunk.row true (EC.u32) (orderOf S))] []))))))))) = _ by kernel_rfl) ?_
  rw [bytes_slot]
  have hw0 := hw
  obtain ⟨hs, hw⟩ := hw
  have hn1 := hw.n1; have hn2 := hw.n2; have hnn := hw.nnod; have hfr := hw.fr; have hfree := hw.free_nonneg
  have hcap : S.cap = (ncap S : Int) := by unfold Arn.cap ncap; omega
  have hc1 : (ncap S : Int) + 1 = S.used.length := by unfold ncap; omega
  have z1 : List.replicate S.cap.toNat SlotT.zero = fillS S 0 := by rw [hcap, ← fill_zero]; rfl
  refine ⟨?_, fun x _ => ⟨⟨⟨0, Nat.zero_le _⟩, ?_⟩, fun y _ => brS_of (fun c => ?_) fun c => ?_⟩⟩
  · (repeat' first | exact trivial | exact hw0 | exact z1 | assumption | exact rfl | omega | refine And.intro ?_ ?_ | refine fun o ho => ?_ | refine ⟨(), ?_⟩)
  · (repeat' first | exact trivial | exact rfl | refine And.intro ?_ ?_)
  · rw [fill_len S 0 (Nat.zero_le _)] at c
    have c : y.i < ncap S := by have := of_decide_eq_true c; omega
    rw [wrap_id (x := (y.i : Int) + 1) (by omega) (by omega), wrap_u32 (by omega) (by omega)]
    refine ⟨by omega, by omega, by omega, by omega, hn2, ⟨by omega, by omega⟩, hw0, ⟨by omega, by omega⟩, hw0, by omega, by rw [fill_len S y.i y.h]; omega, ⟨y.i + 1, c⟩, trivial, ⟨⟨trivial, trivial, trivial, rfl, by congr 1, trivial⟩, ⟨trivial, trivial, trivial, rfl, trivial⟩, ⟨trivial, trivial, trivial, rfl, trivial⟩, rfl, rfl, rfl, rfl, rfl, ⟨trivial, trivial, trivial⟩, fill_next S c, rfl, ⟨trivial, trivial, trivial⟩, rfl, rfl, trivial⟩, ?_⟩
    show ncap S - (y.i + 1) < _; omega
  · rw [fill_len S 0 (Nat.zero_le _)] at c
    have c : y.i = ncap S := by have := of_decide_eq_false c; have := y.h; omega
    exact h _ _ (by rw [c, fill_all]) rfl
theorem s_dump : SoundT C0 21 tDump := by
  refine .of Try.func21 (by decide) rfl fun args H K h hB => ?_
  unfold tDump at h
  split at h <;> try exact h.elim
  unfold arM at h
  split at h <;> try exact h.elim
  rename_i rd fr nd ct us gn rl
  exact ⟨aDump ⟨us, gn, rl, fr, nd, ct, rd⟩, ⟨frame C0.ok s_cap _, frame C0.ok s_order _, frame C0.ok s_slAllocated _, frame C0.ok s_count _, frame C0.ok s_gen _, trivial⟩, vc_dump ⟨us, gn, rl, fr, nd, ct, rd⟩ K h.1 h.2⟩
end Go.Proofs.Ytmjnoiajenoinaa.Sx
end
section
/- A dump's allocated slots, edges, marks; the reference's Check; Sound. -/
namespace Go.Proofs.Ytmjnoiajenoinaa.Sx
open Go

/-KEEP Wf exW inU allU Arn.cap Arn.free alcD cntL kidsL slotsOf orderOf MarksR CleanD kidsU-/
def alcD (d : List SlotT) (i : Int) : Bool := decide (1 ≤ i) && (decide (i ≤ (d.length : Int)) && (d.getD (i - 1).toNat SlotT.zero).alloc)
def kidsL (d : List SlotT) : List Int := d.flatMap fun x => if x.alloc = true then [x.node.left, x.node.right] else []
def mkd (m : List Bool) (i : Int) : Prop := 1 ≤ i ∧ m.getD (i - 1).toNat false = true
def sltD (d : List SlotT) (i : Int) : SlotT := d.getD (i - 1).toNat SlotT.zero
abbrev eS (d : List SlotT) (i : Nat) : SlotT := d.getD i SlotT.zero
structure MarksR (d : List SlotT) (roots : List Int) (m : List Bool) : Prop where
  len : m.length = d.length
  root : ∀ i ∈ roots, alcD d i = true → mkd m i
  left : ∀ i, mkd m i → alcD d (sltD d i).node.left = true → mkd m (sltD d i).node.left
  right : ∀ i, mkd m i → alcD d (sltD d i).node.right = true → mkd m (sltD d i).node.right
def szD (d : List SlotT) (i : Int) : Int := if alcD d i = true then (sltD d i).node.size else 0
structure CleanD (d : List SlotT) (fl roots : List Int) : Prop where
  free : ∀ i < d.length, fl.count ((i : Int) + 1) = if (d.getD i SlotT.zero).alloc = true then 0 else 1
  left : ∀ i < d.length, (d.getD i SlotT.zero).alloc = true → (d.getD i SlotT.zero).node.left = 0 ∨ alcD d (d.getD i SlotT.zero).node.left = true
  right : ∀ i < d.length, (d.getD i SlotT.zero).alloc = true → (d.getD i SlotT.zero).node.right = 0 ∨ alcD d (d.getD i SlotT.zero).node.right = true
  size : ∀ i < d.length, (d.getD i SlotT.zero).alloc = true → (d.getD i SlotT.zero).node.size = 1 + szD d (d.getD i SlotT.zero).node.left + szD d (d.getD i SlotT.zero).node.right
  zr : ∀ i < d.length, 0 ≤ (d.getD i SlotT.zero).node.size ∧ (d.getD i SlotT.zero).node.size ≤ 4294967296
  count : ∀ i < d.length, (d.getD i SlotT.zero).count = if (d.getD i SlotT.zero).alloc = true then ((kidsL d).count ((i : Int) + 1) : Int) + (roots.count ((i : Int) + 1) : Int) else 0
  mark : ∀ m, MarksR d roots m → ∀ i < d.length, (d.getD i SlotT.zero).alloc = true → m.getD i false = true
  rng : ∀ x ∈ fl, 1 ≤ x ∧ x ≤ d.length
  held : ∀ x ∈ roots, x = 0 ∨ alcD d x = true
def tAlc : Tfm C0 := fun args H K => match args, H with
  | [.agg [.slc 0, .slc 1], .at (.val (.int .u32 i))], [.row false .slot d, .row false .u32 fl] => inU i ∧ d.length ≤ 1000000 ∧ K (.one (.at (vB (alcD d i)))) [.row false EC.slot d, .row false EC.u32 fl] []
  | _, _ => False
structure XIx (n : Nat) where
  i : Nat
  h : i ≤ n
structure XIn (d : List SlotT) where
  i : Nat
  h : i < d.length
structure XMks (P : List Bool → List Int → Prop) where
  m : List Bool
  w : List Int
  h : P m w
theorem alcD_at {d : List SlotT} {i : Int} (h1 : 1 ≤ i) (h2 : i ≤ (d.length : Int)) : alcD d i = (d.getD (i - 1).toNat SlotT.zero).alloc := by simp [alcD, h1, h2]
theorem alcD_lo {d : List SlotT} {i : Int} (h : ¬ 1 ≤ i) : alcD d i = false := by simp [alcD, h]
theorem alcD_hi {d : List SlotT} {i : Int} (h : ¬ i ≤ (d.length : Int)) : alcD d i = false := by simp [alcD, h]
theorem alcD_rng {d : List SlotT} {i : Int} (h : alcD d i = true) : 1 ≤ i ∧ i ≤ (d.length : Int) := by simp [alcD] at h; exact ⟨h.1, h.2.1⟩
theorem vc_alc (d : List SlotT) (fl : List Int) (i : Int) (K : KT) (h1 : inU i) (h2 : d.length ≤ 1000000) (h : K (.one (.at (vB (alcD d i)))) [.row false EC.slot d, .row false EC.u32 fl] []) :
    vc C0 A0 Try.f23 [.agg [.slc 0, .slc 1], .at (vU i)] [.row false EC.slot d, .row false EC.u32 fl] (normK 2 K) := by
  refine Eq.mp (show (brS (decide (i ≥ 1)) ((brS (decide (IntKind.u64.wrap i ≤ IntKind.u64.wrap (↑d.length : Int))) (((0 ≤ IntKind.u32.wrap (i - 1)) ∧ (IntKind.u32.wrap (i - 1) < (↑d.length : Int)) ∧ (K (SV.one (TV.at (At.val (Value.bool ((d.getD (IntKind.u32.wrap (i - 1)).toNat { alloc := false, count := 0, gen := 0, node := { key := 0, value := 0, left := 0, right := 0, size := 0, sum := 0, min := 0, max := 0 : NodeT } : SlotT }).alloc))))) [(Chunk.row false (EC.slot) (d)), (Chunk.row false (EC.u32) (fl))] []))) ((K (SV.one (TV.at (At.val (Value.bool false)))) [(Chunk.row false (EC.slot) (d)), (Chunk.row false (EC.u32) (fl))] [])))) ((K (SV.one (TV.at (At.val (Value.bool false)))) [(Chunk.row false (EC.slot) (d)), (Chunk.row false (EC.u32) (fl))] []))) = _ by kernel_rfl) ?_
  obtain ⟨ha, hb⟩ := h1
  rw [wrap_u64 (x := i) ha (by omega), wrap_u64 (x := (d.length : Int)) (by omega) (by omega)]
  refine brS_of (fun c => ?_) fun c => ?_
  · have c : 1 ≤ i := by have := of_decide_eq_true c; omega
    rw [wrap_u32 (by omega) (by omega)]
    refine brS_of (fun e => ?_) fun e => ?_
    · have e : i ≤ (d.length : Int) := of_decide_eq_true e
      rw [alcD_at c e] at h
      exact ⟨by omega, by omega, h⟩
    · rw [alcD_hi (of_decide_eq_false e)] at h; exact h
  · rw [alcD_lo (by have := of_decide_eq_false c; omega)] at h; exact h
theorem s_alc : SoundT C0 23 tAlc := by
  refine .of Try.func23 (by decide) rfl fun args H K h hB => ?_
  unfold tAlc at h
  split at h <;> try exact h.elim
  rename_i i d fl
  exact ⟨A0, trivial, vc_alc d fl i K h.1 h.2.1 h.2.2⟩
structure PMk (d : List SlotT) (roots : List Int) (m : List Bool) (w : List Int) : Prop where
  len : m.length = d.length
  u : ∀ x ∈ w, inU x
  wl : w.length + 2 * m.count false ≤ roots.length + 2 * d.length
  root : ∀ i ∈ roots, alcD d i = true → mkd m i ∨ i ∈ w
  left : ∀ i, mkd m i → alcD d (sltD d i).node.left = true → mkd m (sltD d i).node.left ∨ (sltD d i).node.left ∈ w
  right : ∀ i, mkd m i → alcD d (sltD d i).node.right = true → mkd m (sltD d i).node.right ∨ (sltD d i).node.right ∈ w
theorem PMk.start (d : List SlotT) (roots : List Int) (h : ∀ x ∈ roots, inU x) : PMk d roots (List.replicate d.length false) roots := by
  have z : ∀ i, ¬ mkd (List.replicate d.length false) i := fun i hi => by
    have := hi.2
    rw [getD_replicate] at this; cases this
  exact ⟨by simp, h, by simp, fun i hi _ => .inr hi, fun i hi => (z i hi).elim, fun i hi => (z i hi).elim⟩
theorem PMk.done {d : List SlotT} {roots : List Int} {m : List Bool} (h : PMk d roots m []) : MarksR d roots m :=
  ⟨h.len, fun i a b => (h.root i a b).resolve_right (by simp), fun i a b => (h.left i a b).resolve_right (by simp), fun i a b => (h.right i a b).resolve_right (by simp)⟩
/-- What was taken from the work needs no mark: it is marked, or not allocated. -/
theorem PMk.skip {d : List SlotT} {roots : List Int} {m : List Bool} {w : List Int} {x : Int} (h : PMk d roots m (w ++ [x])) (hx : alcD d x = true → mkd m x) : PMk d roots m w := by
  have key : ∀ j, alcD d j = true → mkd m j ∨ j ∈ w ++ [x] → mkd m j ∨ j ∈ w := fun j ha hj => by
    rcases hj with hj | hj
    · exact .inl hj
    · rcases List.mem_append.1 hj with hj | hj
      · exact .inr hj
      · have e : j = x := by simpa using hj
        subst e; exact .inl (hx ha)
  refine ⟨h.len, fun y hy => h.u y (by simp [hy]), by have := h.wl; simp at this; omega, fun i a b => key i b (h.root i a b), fun i a b => key _ b (h.left i a b), fun i a b => key _ b (h.right i a b)⟩
theorem count_mark {m : List Bool} {k : Nat} (h1 : k < m.length) (h2 : m.getD k false = false) : (m.set k true).count false + 1 = m.count false := by
  have := countP_set' (fun b : Bool => b == false) m k true false h1
  rw [h2] at this
  simpa [List.count] using this
theorem PMk.mark {d : List SlotT} {roots : List Int} {m : List Bool} {w : List Int} {x : Int} (h : PMk d roots m (w ++ [x])) (hx : alcD d x = true) (hm : m.getD (x - 1).toNat false = false) (hk : inU (sltD d x).node.left ∧ inU (sltD d x).node.right) :
    PMk d roots (m.set (x - 1).toNat true) (w ++ [(sltD d x).node.left, (sltD d x).node.right]) := by
  obtain ⟨x1, x2⟩ := alcD_rng hx
  have hl := h.len
  have hs : ∀ j, mkd (m.set (x - 1).toNat true) j ↔ j = x ∨ mkd m j := fun j => by
    unfold mkd
    rw [getD_set]
    constructor
    · rintro ⟨a, b⟩
      by_cases e : j = x
      · exact .inl e
      · rw [if_neg (by omega)] at b; exact .inr ⟨a, b⟩
    · rintro (e | ⟨a, b⟩)
      · subst e; exact ⟨x1, by rw [if_pos ⟨rfl, by omega⟩]⟩
      · refine ⟨a, ?_⟩
        split
        · rfl
        · exact b
  have key : ∀ j, mkd m j ∨ j ∈ w ++ [x] → mkd (m.set (x - 1).toNat true) j ∨ j ∈ w ++ [(sltD d x).node.left, (sltD d x).node.right] := fun j hj => by
    rw [hs]
    rcases hj with hj | hj
    · exact .inl (.inr hj)
    · rcases List.mem_append.1 hj with hj | hj
      · exact .inr (by simp [hj])
      · exact .inl (.inl (by simpa using hj))
  have hc := count_mark (m := m) (k := (x - 1).toNat) (by omega) hm
  have l1 : (w ++ [(sltD d x).node.left, (sltD d x).node.right]).length = w.length + 2 := by simp
  have l2 : (w ++ [x]).length = w.length + 1 := by simp
  refine ⟨by simp [hl], fun y hy => ?_, by have := h.wl; omega, fun i a b => key i (h.root i a b), fun i a b => ?_, fun i a b => ?_⟩
  · simp at hy
    rcases hy with hy | hy | hy
    · exact h.u y (by simp [hy])
    · subst hy; exact hk.1
    · subst hy; exact hk.2
  · rcases (hs i).1 a with e | e
    · subst e; exact .inr (by simp)
    · exact key _ (h.left i e b)
  · rcases (hs i).1 a with e | e
    · subst e; exact .inr (by simp)
    · exact key _ (h.right i e b)
/-! ### The plain law: a whole arena's dump is clean. -/
theorem slotsOf_len (S : Arn) : (slotsOf S).length = ncap S := by simp [slotsOf]
theorem slotsOf_get (S : Arn) {i : Nat} (h : i < ncap S) : (slotsOf S).getD i SlotT.zero = slotAt S i := by
  simp [slotsOf, List.getD_eq_getElem?_getD, h]
theorem us_hi {S : Arn} {i : Int} (h : (ncap S : Int) < i) : S.us i = false := by
  cases hb : S.us i with
  | false => rfl
  | true => have := getD_false hb; unfold ncap at h; omega
theorem alcD_slots {S : Arn} {hs : List Int} (w : Wf S hs) (i : Int) : alcD (slotsOf S) i = S.us i := by
  by_cases h1 : 1 ≤ i
  · by_cases h2 : i ≤ (ncap S : Int)
    · rw [alcD_at h1 (by rw [slotsOf_len]; exact h2), slotsOf_get S (by omega)]
      show S.us _ = S.us i
      congr 1; omega
    · rw [alcD_hi (by rw [slotsOf_len]; exact h2), us_hi (by omega)]
  · rw [alcD_lo h1, w.us0 (by omega)]
theorem sltD_slots {S : Arn} {hs : List Int} (w : Wf S hs) {i : Int} (h : S.us i = true) : (sltD (slotsOf S) i).node = S.nd i := by
  have hp := w.pos h
  have h2 : (i - 1).toNat < ncap S := by unfold ncap; omega
  unfold sltD
  rw [slotsOf_get S h2]
  show S.nd _ = S.nd i
  congr 1; omega
end Go.Proofs.Ytmjnoiajenoinaa.Sx
end
section
/- Equal dumps, and the count of a slot of a dump. -/
namespace Go.Proofs.Ytmjnoiajenoinaa.Sx
open Go

/-KEEP Wf exW inU alcD slotsOf orderOf-/
end Go.Proofs.Ytmjnoiajenoinaa.Sx
end
section
/- The reference's Check of a dump, Clean and Sound. -/
namespace Go.Proofs.Ytmjnoiajenoinaa.Sx
open Go

/-KEEP Wf exW inU allU Arn.cap Arn.free alcD cntL kidsL slotsOf orderOf MarksR CleanD kidsU-/
structure XCk (d : List SlotT) (roots : List Int) where
  i : Nat
  m : List Bool
  h : i ≤ d.length ∧ MarksR d roots m
structure XCj (d : List SlotT) (roots : List Int) (P : Nat → Int → Prop) where
  i : Nat
  m : List Bool
  c : Int
  h : i < d.length ∧ MarksR d roots m ∧ P i c
structure XIy (n : Nat) where
  i : Nat
  h : i < n
end Go.Proofs.Ytmjnoiajenoinaa.Sx
end
section
/- The reference's trees over a dump: nodes, balance, height, list, order, Check, Tree. -/
namespace Go.Proofs.Ytmjnoiajenoinaa.Sx
open Go

/-KEEP Wf exW inU alcD slotsOf orderOf ndD RepD Asc Tr.Bal Tr.size Tr.list ht balB lastK anyK gtL ShpT-/
def ndD (d : List SlotT) (i : Int) : NodeT := if alcD d i = true then (sltD d i).node else NodeT.zero
/-- An index of a dump stands for a tree. -/
def RepD (d : List SlotT) : Tr → Int → Prop
  | .nil, i => i = 0
  | .node l k v r, i => alcD d i = true ∧ (ndD d i).key = k ∧ (ndD d i).value = v ∧ (ndD d i).size = 1 + l.size + r.size ∧ RepD d l (ndD d i).left ∧ RepD d r (ndD d i).right
noncomputable def aAlcG : Ann C0 := { Γ := [(23, frameT [] tAlc)] }
def tNd : Tfm C0 := fun args H K => match args, H with
  | [.agg [.slc 0, .slc 1], .at (.val (.int .u32 i))], [.row false .slot d, .row false .u32 fl] => inU i ∧ d.length ≤ 1000000 ∧ ∀ n, n = ndD d i → K (.one (nodeA n)) [.row false EC.slot d, .row false EC.u32 fl] []
  | _, _ => False
def tLi7 (n : Nat) : Tfm C0 := fun args H K => match args, H with
  | [.agg [.slc 0, .slc 1], .at (.val (.int .u32 i))], [.row false .slot d, .row false .u32 fl] => d.length ≤ 1000000 ∧ ∃ t, RepD d t i ∧ t.size < n ∧ t.size ≤ 1000000 ∧ ∀ r, r = t.list → K (.one (.at (.slc 2))) [.row false EC.slot d, .row false EC.u32 fl, .row true EC.ent r] []
  | _, _ => False
noncomputable def aLi7 (n : Nat) : Ann C0 := { quiet := [78, 48], Γ := [(78, frameT [] tNd), (48, frameT [] (tLi7 n))] }
theorem bt7 {b : Bool} {t f : Prop} (h : b = true) (ht : t) : brS b t f := by rw [h]; exact ht
theorem bf7 {b : Bool} {t f : Prop} (h : b = false) (hf : f) : brS b t f := by rw [h]; exact hf
theorem RepD.inU {d : List SlotT} {t : Tr} {i : Int} (h : RepD d t i) (hl : d.length ≤ 1000000) : inU i := by
  cases t with
  | nil => have : i = 0 := h; rw [this]; exact ⟨by omega, by omega⟩
  | node l k v r => have := alcD_rng h.1; exact ⟨by omega, by omega⟩
theorem RepD.sz {d : List SlotT} {t : Tr} {i : Int} (h : RepD d t i) : (ndD d i).size = t.size := by
  cases t with
  | nil =>
    have : i = 0 := h
    unfold ndD
    rw [this, alcD_lo (by omega)]; rfl
  | node l k v r => rw [h.2.2.2.1]; simp [Tr.size]
theorem RepD.ne {d : List SlotT} {l r : Tr} {k v i : Int} (h : RepD d (.node l k v r) i) : i ≠ 0 := by have := alcD_rng h.1; omega
theorem s_nd7 : SoundT C0 78 tNd := by
  refine .of Try.func78 (by decide) rfl fun args H K h hB => ?_
  unfold tNd at h
  split at h <;> try exact h.elim
  rename_i i d fl
  obtain ⟨h1, h2, h⟩ := h
  have key : ∀ d : List SlotT, d.length ≤ 1000000 → (∀ n, n = ndD d i → K (.one (nodeA n)) [.row false EC.slot d, .row false EC.u32 fl] []) → vc C0 aAlcG Try.f78 [.agg [.slc 0, .slc 1], .at (vU i)] [.row false EC.slot d, .row false EC.u32 fl] (normK 2 K) := fun d h2 h => by
    refine Eq.mp (show ((inU i) ∧
(d.length ≤ 1000000) ∧
(brS (!alcD d i) ((K (SV.one (TV.agg [(At.val (Value.int IntKind.i64 0)), (At.val (Value.int IntKind.i64 0)), (At.val (Value.int IntKind.u32 0)), (At.val (Value.int IntKind.u32 0)), (At.val (Value.int IntKind.i64 0)), (At.val (Value.int IntKind.i64 0)), (At.val (Value.int IntKind.i64 0)), (At.val (Value.int IntKind.i64 0))])) [(Chunk.row false (EC.slot) (d)), (Chunk.row false (EC.u32) (fl))] [])) (((0 ≤ IntKind.u32.wrap (i - 1)) ∧ (IntKind.u32.wrap (i - 1) < (↑d.length : Int)) ∧ (K (SV.one (TV.agg [(At.val (Value.int IntKind.i64 ((eS d (IntKind.u32.wrap (i - 1)).toNat).node.key))), (At.val (Value.int IntKind.i64 ((eS d (IntKind.u32.wrap (i - 1)).toNat).node.value))), (At.val (Value.int IntKind.u32 ((eS d (IntKind.u32.wrap (i - 1)).toNat).node.left))), (At.val (Value.int IntKind.u32 ((eS d (IntKind.u32.wrap (i - 1)).toNat).node.right))), (At.val (Value.int IntKind.i64 ((eS d (IntKind.u32.wrap (i - 1)).toNat).node.size))), (At.val (Value.int IntKind.i64 ((eS d (IntKind.u32.wrap (i - 1)).toNat).node.sum))), (At.val (Value.int IntKind.i64 ((eS d (IntKind.u32.wrap (i - 1)).toNat).node.min))), (At.val (Value.int IntKind.i64 ((eS d (IntKind.u32.wrap (i - 1)).toNat).node.max)))])) [(Chunk.row false (EC.slot) (d)), (Chunk.row false (EC.u32) (fl))] []))))) = _ by kernel_rfl) ?_
    refine ⟨h1, h2, brS_of (fun c => ?_) fun c => ?_⟩
    · have c : alcD d i = false := by simpa using c
      exact h NodeT.zero (by unfold ndD; rw [c]; rfl)
    · have c : alcD d i = true := by simpa using c
      obtain ⟨a, b⟩ := alcD_rng c
      obtain ⟨u1, u2⟩ := h1
      rw [wrap_u32 (x := i - 1) (by omega) (by omega)]
      exact ⟨by omega, by omega, h (eS d (i - 1).toNat).node (by unfold ndD; rw [if_pos c]; rfl)⟩
  exact ⟨aAlcG, ⟨frame C0.ok s_alc _, trivial⟩, key d h2 h⟩
theorem vc_li7 (n : Nat) (d : List SlotT) (fl : List Int) (i : Int) (K : KT) (hl : d.length ≤ 1000000) (t : Tr) (rp : RepD d t i) (hn : t.size < n + 1) (hs : t.size ≤ 1000000) (h : ∀ r, r = t.list → K (.one (.at (.slc 2))) [.row false EC.slot d, .row false EC.u32 fl, .row true EC.ent r] []) :
    vc C0 (aLi7 n) Try.f48 [.agg [.slc 0, .slc 1], .at (vU i)] [.row false EC.slot d, .row false EC.u32 fl] (normK 2 K) := by
  refine Eq.mp (show (brS (i == 0) ((K (SV.one (TV.at (At.slc 2))) [(Chunk.row false (EC.slot) (d)), (Chunk.row false (EC.u32) (fl)), (Chunk.row true (EC.ent) [])] [])) (((inU i) ∧ (d.length ≤ 1000000) ∧ (∀ n1 : NodeT, (((n1) = (ndD d i)) → (((d.length ≤ 1000000) ∧ (∃ t : Tr, ((RepD d t n1.left) ∧ (t.size < n) ∧ (t.size ≤ 1000000) ∧ (∀ r : List Ent, (((r) = (t.list)) → (((r.length + [(n1.key, n1.value)].length) * bytesOf C0 EC.ent ≤ 140737488355328) ∧ (d.length ≤ 1000000) ∧ (∃ t1 : Tr, ((RepD d t1 n1.right) ∧ (t1.size < n) ∧ (t1.size ≤ 1000000) ∧ (∀ r1 : List Ent, (((r1) = (t1.list)) → ((((r ++ [(n1.key, n1.value)]).length + r1.length) * bytesOf C0 EC.ent ≤ 140737488355328) ∧ (K (SV.one (TV.at (At.slc 2))) [(Chunk.row false (EC.slot) (d)), (Chunk.row false (EC.u32) (fl)), (Chunk.row true (EC.ent) (r ++ [(n1.key, n1.value)] ++ r1))] [])))))))))))) ∧ (d.length ≤ 1000000) ∧ (∃ t : Tr, ((RepD d t n1.left) ∧ (t.size < n) ∧ (t.size ≤ 1000000) ∧ (∀ r : List Ent, (((r) = (t.list)) → (((r.length + [(n1.key, n1.value)].length) * bytesOf C0 EC.ent ≤ 140737488355328) ∧ (d.length ≤ 1000000) ∧ (∃ t1 : Tr, ((RepD d t1 n1.right) ∧ (t1.size < n) ∧ (t1.size ≤ 1000000) ∧ (∀ r1 : List Ent, (((r1) = (t1.list)) → ((((r ++ [(n1.key, n1.value)]).length + r1.length) * bytesOf C0 EC.ent ≤ 140737488355328) ∧ (K (SV.one (TV.at (At.slc 2))) [(Chunk.row false (EC.slot) (d)), (Chunk.row false (EC.u32) (fl)), (Chunk.row true (EC.ent) (r ++ [(n1.key, n1.value)] ++ r1))] []))))))))))))))))) = _ by kernel_rfl) ?_
  rw [bytes_ent]
  cases t with
  | nil => have e : i = 0 := rp; exact bt7 (by rw [e]; rfl) (h [] rfl)
  | node l k v r =>
    have hi := rp.inU hl
    have hne := rp.ne
    obtain ⟨h1, h2, h3, h4, h5, h6⟩ := rp
    have hz : (Tr.node l k v r).size = 1 + l.size + r.size := rfl
    refine bf7 (by simp [hne]) ⟨hi, hl, fun n1 e1 => ?_⟩
    subst e1
    have ll := l.list_len
    have lr := r.list_len
    constructor
    all_goals
      refine ⟨hl, l, h5, by omega, by omega, fun a ea => ⟨?_, hl, r, h6, by omega, by omega, fun b eb => ⟨?_, h _ ?_⟩⟩⟩
      · rw [ea, ll]; show (l.size + 1) * 16 ≤ 140737488355328; omega
      · rw [List.length_append, ea, eb, ll, lr]; show (l.size + 1 + r.size) * 16 ≤ 140737488355328; omega
      · rw [ea, eb, h2, h3]; simp [Tr.list]
theorem s_li7 : ∀ n : Nat, SoundT C0 48 (tLi7 n)
  | 0 => by
    refine .of Try.func48 (by decide) rfl fun args H K h hB => ?_
    unfold tLi7 at h
    split at h <;> try exact h.elim
    obtain ⟨_, t, _, hn, _⟩ := h
    omega
  | n + 1 => by
    refine .of Try.func48 (by decide) rfl fun args H K h hB => ?_
    unfold tLi7 at h
    split at h <;> try exact h.elim
    rename_i i d fl
    obtain ⟨hl, t, rp, hn, hs, h⟩ := h
    exact ⟨aLi7 n, ⟨frame C0.ok s_nd7 _, frame C0.ok (s_li7 n) _, trivial⟩, vc_li7 n d fl i K hl t rp hn hs h⟩
/-! ### From the arena to its dump -/
theorem ndD_slots {S : Arn} {hs : List Int} (w : Wf S hs) (i : Int) : ndD (slotsOf S) i = S.nd i := by
  unfold ndD
  rw [alcD_slots w]
  cases hb : S.us i with
  | false => rw [w.zero i hb]; rfl
  | true => rw [if_pos rfl, sltD_slots w hb]
theorem repD_of {S : Arn} {hs : List Int} (w : Wf S hs) : ∀ {t : Tr} {i : Int}, Rep S t i → RepD (slotsOf S) t i
  | .nil, i, h => h
  | .node l k v r, i, h => by
    have sz := Rep.size w h
    obtain ⟨h1, h2, h3, h4, h5⟩ := h
    refine ⟨by rw [alcD_slots w]; exact h1, ?_⟩
    rw [ndD_slots w]
    exact ⟨h2, h3, by rw [sz]; simp [Tr.size], repD_of w h4, repD_of w h5⟩
theorem len_of_nodup {α : Type} [DecidableEq α] : ∀ (a b : List α), a.Nodup → (∀ x ∈ a, x ∈ b) → a.length ≤ b.length
  | [], _, _, _ => Nat.zero_le _
  | x :: a, b, hn, hs => by
    obtain ⟨h1, h2⟩ := List.pairwise_cons.1 hn
    have hx := hs x (by simp)
    have := len_of_nodup a (b.erase x) h2 fun y hy => (List.mem_erase_of_ne (Ne.symm (h1 y hy))).2 (hs y (by simp [hy]))
    rw [List.length_erase_of_mem hx] at this
    have : 0 < b.length := List.length_pos_of_mem hx
    simp; omega
theorem rep_keys {S : Arn} {hs : List Int} (w : Wf S hs) : ∀ {t : Tr} {i : Int}, Rep S t i → ∀ x ∈ t.list, x.1 ∈ (slotsOf S).map fun s => s.node.key
  | .nil, _, _, x, hx => by simp [Tr.list] at hx
  | .node l k v r, i, h, x, hx => by
    obtain ⟨h1, h2, h3, h4, h5⟩ := h
    simp only [Tr.list, List.mem_append, List.mem_cons] at hx
    rcases hx with hx | rfl | hx
    · exact rep_keys w h4 x hx
    · have hp := w.pos h1
      have hi : (i - 1).toNat < ncap S := by unfold ncap; omega
      refine List.mem_map.2 ⟨slotAt S (i - 1).toNat, ?_, ?_⟩
      · unfold slotsOf; exact List.mem_map.2 ⟨_, List.mem_range.2 hi, rfl⟩
      · show (S.nd (((i - 1).toNat : Int) + 1)).key = k
        rw [show (((i - 1).toNat : Nat) : Int) + 1 = i by omega]; exact h2
    · exact rep_keys w h5 x hx
/-- A tree in order has no more nodes than there are slots. -/
theorem rep_few {S : Arn} {hs : List Int} (w : Wf S hs) {t : Tr} {i : Int} (h : Rep S t i) (hasc : Asc t.list) : t.size ≤ (slotsOf S).length := by
  have := len_of_nodup (t.list.map Prod.fst) ((slotsOf S).map fun s => s.node.key) (List.pairwise_map.2 ((show List.Pairwise (fun (a b : Ent) => a.1 < b.1) t.list from hasc).imp fun c e => by omega)) (fun x hx => by
    obtain ⟨y, hy, rfl⟩ := List.mem_map.1 hx
    exact rep_keys w h y hy)
  rw [List.length_map, List.length_map, t.list_len] at this
  exact this
end Go.Proofs.Ytmjnoiajenoinaa.Sx
end
section
/- What the update laws share: Kept, spare, awake, lengths of dumps. -/
namespace Go.Proofs.Ytmjnoiajenoinaa.Sx
open Go

/-KEEP Wf exW inU live Arn.cap Arn.free Rep rdS Tr.size Tr.list alcD slotsOf orderOf PlantR newS insE flt getE TrR upM Hn-/
structure XKp (d : List SlotT) where
  i : Nat
  h : i ≤ d.length
theorem slots_le {S : Arn} {hs : List Int} (w : Wf S hs) : (slotsOf S).length ≤ 65537 := by have := w.n2; rw [slotsOf_len]; unfold ncap; omega
theorem tr_tree {S : Arn} {hs : List Int} {t : Tr} {j : Int} {L : List Ent} (w : Wf S hs) (rp : Rep S t j) (hL : t.list = L) (bal : t.Bal) (asc : Asc L) :
    ∃ t, RepD (slotsOf S) t j ∧ Asc t.list ∧ t.Bal ∧ t.size ≤ 2 * (slotsOf S).length + 2 ∧ t.size ≤ 1000000 ∧ t.list = L := by
  have asc' : Asc t.list := by rw [hL]; exact asc
  have few := rep_few w rp asc'
  have := slots_le w
  exact ⟨t, repD_of w rp, asc', bal, by omega, by omega, hL⟩
end Go.Proofs.Ytmjnoiajenoinaa.Sx
end
