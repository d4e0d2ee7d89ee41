/- A part of the proof. -/
import Derived.Test.YtmjnoiajenoinaaG5
import Derived.Test.YtmjnoiajenoinaaG4
section
/- Planting trees: the statements' helpers. -/
namespace Go.Proofs.Ytmjnoiajenoinaa.Sx
open Go

/-KEEP Wf Kept makeS relA nxt decS NodeR exW inU live Arn.cap Arn.free balN PlantR maxSize mkNode-/
def tLeast : Tfm C0 := fun args H K => match args, H with
  | [.at (.val (.int .i64 n))], [] => 0 ≤ n ∧ n ≤ 1000000 ∧ ∀ x, x = n / 4 → K (.one (.at (vI x))) [] []
  | _, _ => False
def balB (l r : Int) : Bool := decide (balN l r)
def tBal : Tfm C0 := fun args H K => match args, H with
  | [.at (.val (.int .i64 l)), .at (.val (.int .i64 r))], [] => 0 ≤ l ∧ l ≤ 1000000 ∧ 0 ≤ r ∧ r ≤ 1000000 ∧ ∀ b, b = balB l r → K (.one (.at (vB b))) [] []
  | _, _ => False
structure XPv (n : Int) where
  lo : Int
  h : 0 ≤ lo ∧ lo < n ∧ balN lo (n - 1 - lo)
noncomputable def aPivot (n : Int) : Ann C0 := { Γ := [(145, frameT [] tLeast), (144, frameT [] tBal)], inv := fun k => match k with
  | 2 => some { X := XPv n, sl := [5], tf := fun x => [vi .i64 x.lo], hf := fun _ => [], μ := fun x => x.lo.toNat }
  | 4 => some { X := XPv n, sl := [5], tf := fun x => [vi .i64 x.lo], hf := fun _ => [], μ := fun x => (n - x.lo).toNat }
  | _ => none }
def tPivot : Tfm C0 := fun args H K => match args, H with
  | [.at (.val (.int .i64 n)), .at (.val (.int .u64 t))], [] => 1 ≤ n ∧ n ≤ 100000 ∧ 0 ≤ t ∧ ∀ p, 0 ≤ p → p < n → balN p (n - 1 - p) → K (.one (.at (vI p))) [] []
  | _, _ => False
def tPlant (n : Nat) : Tfm C0 := fun args H K => match args with
  | [.at (.ptr 0 0), .at (.slc 7), .at (.val (.int .u64 t))] => arMr H fun S rest => match rest with
    | [.row false .ent l] => ∃ hs, Wf S hs ∧ l.length < n ∧ l.length ≤ 100000 ∧ (l.length : Int) ≤ S.free ∧ hs.length + l.length ≤ 900000000 ∧ 0 ≤ t ∧ ∀ S' i, PlantR S hs l S' i → K (.tup [.at (vU i), .at (vB true)]) (chS S' ++ [.row false EC.ent l]) W7
    | _ => False
  | _ => False
noncomputable def aPlant (n : Nat) : Ann C0 := { Γ := [(123, frameT [] tPivot), (80, frameT [] (tPlant n)), (13, frameT [] tMakeOk), (14, frameT [] tGive)] }
theorem vc_least (n : Int) (K : KT) (h1 : 0 ≤ n) (h2 : n ≤ 1000000) (h : ∀ x, x = n / 4 → K (.one (.at (vI x))) [] []) : vc C0 A0 Try.f145 [.at (vI n)] [] (normK 0 K) := by
  refine Eq.mp (show (K (SV.one (TV.at (At.val (Value.int IntKind.i64 (IntKind.i64.wrap ((if n > 0 then n else 0).tdiv 4)))))) [] []) = _ by kernel_rfl) ?_
  have e : (if n > 0 then n else 0) = n := by split <;> omega
  rw [e, Int.tdiv_eq_ediv_of_nonneg h1, wrap_id (by omega) (by omega)]
  exact h _ rfl
theorem s_least : SoundT C0 145 tLeast := by
  refine .of Try.func145 (by decide) rfl fun args H K h hB => ?_
  unfold tLeast at h
  split at h <;> try exact h.elim
  rename_i n
  exact ⟨A0, trivial, vc_least n K h.1 h.2.1 h.2.2⟩
theorem vc_bal (l r : Int) (K : KT) (h1 : 0 ≤ l) (h2 : l ≤ 1000000) (h3 : 0 ≤ r) (h4 : r ≤ 1000000) (h : ∀ b, b = balB l r → K (.one (.at (vB b))) [] []) : vc C0 A0 Try.f144 [.at (vI l), .at (vI r)] [] (normK 0 K) := by
  refine Eq.mp (show (brS (decide (l < 0)) ((K (SV.one (TV.at (At.val (Value.bool false)))) [] [])) ((brS (decide (l > 2147483647)) ((K (SV.one (TV.at (At.val (Value.bool false)))) [] [])) ((brS (decide (r < 0)) ((K (SV.one (TV.at (At.val (Value.bool false)))) [] [])) ((brS (decide (r > 2147483647)) ((K (SV.one (TV.at (At.val (Value.bool false)))) [] [])) ((brS (decide (IntKind.i64.wrap (l + 1) ≤ IntKind.i64.wrap (3 * IntKind.i64.wrap (r + 1)))) ((K (SV.one (TV.at (At.val (Value.bool (decide (IntKind.i64.wrap (r + 1) ≤ IntKind.i64.wrap (3 * IntKind.i64.wrap (l + 1)))))))) [] [])) ((K (SV.one (TV.at (At.val (Value.bool false)))) [] []))))))))))) = _ by kernel_rfl) ?_
  rw [wrap_id (x := l + 1) (by omega) (by omega), wrap_id (x := r + 1) (by omega) (by omega), wrap_id (x := 3 * (l + 1)) (by omega) (by omega), wrap_id (x := 3 * (r + 1)) (by omega) (by omega)]
  refine brS_of (fun c => ?_) fun _ => brS_of (fun c => ?_) fun _ => brS_of (fun c => ?_) fun _ => brS_of (fun c => ?_) fun _ => brS_of (fun c => ?_) fun c => ?_
  · have := of_decide_eq_true c; omega
  · have : l > 2147483647 := of_decide_eq_true c; omega
  · have := of_decide_eq_true c; omega
  · have : r > 2147483647 := of_decide_eq_true c; omega
  · have c : l + 1 ≤ 3 * (r + 1) := of_decide_eq_true c
    exact h _ (by unfold balB balN; simp [c])
  · have c : ¬ l + 1 ≤ 3 * (r + 1) := of_decide_eq_false c
    exact h _ (by unfold balB balN; simp [c])
theorem s_bal : SoundT C0 144 tBal := by
  refine .of Try.func144 (by decide) rfl fun args H K h hB => ?_
  unfold tBal at h
  split at h <;> try exact h.elim
  rename_i l r
  exact ⟨A0, trivial, vc_bal l r K h.1 h.2.1 h.2.2.1 h.2.2.2.1 h.2.2.2.2⟩
theorem vc_pivot (n t : Int) (K : KT) (h1 : 1 ≤ n) (h2 : n ≤ 100000) (h3 : 0 ≤ t) (h : ∀ p, 0 ≤ p → p < n → balN p (n - 1 - p) → K (.one (.at (vI p))) [] []) :
    vc C0 (aPivot n) Try.f123 [.at (vI n), .at (vU64 t)] [] (normK 0 K) := by
  refine Eq.mp (show ((0 ≤ n) ∧
(n ≤ 1000000) ∧
(∀ x : Int, (((x) = (n / 4)) → ((∃ x1 : XPv n, (True ∧ (((Value.int IntKind.i64 (n)) = (Value.int IntKind.i64 (n))) ∧ ((Value.int IntKind.u64 (t)) = (Value.int IntKind.u64 (t))) ∧ ((Value.int IntKind.i64 (x)) = (Value.int IntKind.i64 (x1.lo))) ∧ True) ∧ True)) ∧ (∀ x1 : XPv n, (True → (brS (decide (x1.lo > 0)) (((0 ≤ IntKind.i64.wrap (x1.lo - 1)) ∧ (IntKind.i64.wrap (x1.lo - 1) ≤ 1000000) ∧ (0 ≤ IntKind.i64.wrap (n - x1.lo)) ∧ (IntKind.i64.wrap (n - x1.lo) ≤ 1000000) ∧ (∀ b : Bool, (((b) = (balB (IntKind.i64.wrap (x1.lo - 1)) (IntKind.i64.wrap (n - x1.lo)))) → (brS (b) ((∃ x' : XPv n, (True ∧ ((((Value.int IntKind.i64 (n)) = (Value.int IntKind.i64 (n))) ∧ ((Value.int IntKind.u64 (t)) = (Value.int IntKind.u64 (t))) ∧ ((Value.int IntKind.i64 (IntKind.i64.wrap (x1.lo - 1))) = (Value.int IntKind.i64 (x'.lo))) ∧ True) ∧ True) ∧ (x'.lo.toNat < x1.lo.toNat)))) (((∃ x2 : XPv n, (True ∧ (((Value.int IntKind.i64 (n)) = (Value.int IntKind.i64 (n))) ∧ ((Value.int IntKind.u64 (t)) = (Value.int IntKind.u64 (t))) ∧ ((Value.int IntKind.i64 (x1.lo)) = (Value.int IntKind.i64 (x2.lo))) ∧ True) ∧ True)) ∧ (∀ x2 : XPv n, (True → (brS (decide (x2.lo < IntKind.i64.wrap (n - 1))) (((0 ≤ x2.lo) ∧ (x2.lo ≤ 1000000) ∧ (0 ≤ IntKind.i64.wrap (IntKind.i64.wrap (n - 1) - x2.lo)) ∧ (IntKind.i64.wrap (IntKind.i64.wrap (n - 1) - x2.lo) ≤ 1000000) ∧ (∀ b1 : Bool, (((b1) = (balB x2.lo (IntKind.i64.wrap (IntKind.i64.wrap (n - 1) - x2.lo)))) → (brS (!b1) ((∃ x' : XPv n, (True ∧
    ((((Value.int IntKind.i64 (n)) = (Value.int IntKind.i64 (n))) ∧ ((Value.int IntKind.u64 (t)) = (Value.int IntKind.u64 (t))) ∧ ((Value.int IntKind.i64 (IntKind.i64.wrap (x2.lo + 1))) = (Value.int IntKind.i64 (x'.lo))) ∧ True) ∧ True) ∧ ((n - x'.lo).toNat < (n - x2.lo).toNat)))) ((brS (decide (IntKind.i64.wrap (IntKind.i64.wrap (n - 1) - x2.lo) < x2.lo)) ((K (SV.one (TV.at (At.val (Value.int IntKind.i64 (IntKind.i64.wrap (n.tdiv 2)))))) [] [])) (((IntKind.u64.wrap (IntKind.i64.wrap (IntKind.i64.wrap (IntKind.i64.wrap (IntKind.i64.wrap (n - 1) - x2.lo) - x2.lo) + 1)) ≠ 0) ∧ (K (SV.one (TV.at (At.val (Value.int IntKind.i64 (IntKind.i64.wrap (x2.lo + IntKind.i64.wrap (t.tmod (IntKind.u64.wrap (IntKind.i64.wrap (IntKind.i64.wrap (IntKind.i64.wrap (IntKind.i64.wrap (n - 1) - x2.lo) - x2.lo) + 1)))))))))) [] [])))))))))) ((brS (decide (IntKind.i64.wrap (IntKind.i64.wrap (n - 1) - x2.lo) < x2.lo)) ((K (SV.one (TV.at (At.val (Value.int IntKind.i64 (IntKind.i64.wrap (n.tdiv 2)))))) [] [])) (((IntKind.u64.wrap (IntKind.i64.wrap (IntKind.i64.wrap (IntKind.i64.wrap (IntKind.i64.wrap (n - 1) - x2.lo) - x2.lo) + 1)) ≠ 0) ∧ (K (SV.one (TV.at (At.val (Value.int IntKind.i64 (IntKind.i64.wrap (x2.lo + IntKind.i64.wrap (t.tmod (IntKind.u64.wrap (IntKind.i64.wrap (IntKind.i64.wrap (IntKind.i64.wrap (IntKind.i64.wrap (n - 1) - x2.lo) - x2.lo) + 1)))))))))) [] []))))))))))))))) (((∃ x2 : XPv n, (True ∧ (((Value.int IntKind.i64 (n)) = (Value.int IntKind.i64 (n))) ∧
    ((Value.int IntKind.u64 (t)) = (Value.int IntKind.u64 (t))) ∧ ((Value.int IntKind.i64 (x1.lo)) = (Value.int IntKind.i64 (x2.lo))) ∧ True) ∧ True)) ∧ (∀ x2 : XPv n, (True → (brS (decide (x2.lo < IntKind.i64.wrap (n - 1))) (((0 ≤ x2.lo) ∧ (x2.lo ≤ 1000000) ∧ (0 ≤ IntKind.i64.wrap (IntKind.i64.wrap (n - 1) - x2.lo)) ∧ (IntKind.i64.wrap (IntKind.i64.wrap (n - 1) - x2.lo) ≤ 1000000) ∧ (∀ b : Bool, (((b) = (balB x2.lo (IntKind.i64.wrap (IntKind.i64.wrap (n - 1) - x2.lo)))) → (brS (!b) ((∃ x' : XPv n, (True ∧ ((((Value.int IntKind.i64 (n)) = (Value.int IntKind.i64 (n))) ∧ ((Value.int IntKind.u64 (t)) = (Value.int IntKind.u64 (t))) ∧ ((Value.int IntKind.i64 (IntKind.i64.wrap (x2.lo + 1))) = (Value.int IntKind.i64 (x'.lo))) ∧ True) ∧ True) ∧ ((n - x'.lo).toNat < (n - x2.lo).toNat)))) ((brS (decide (IntKind.i64.wrap (IntKind.i64.wrap (n - 1) - x2.lo) < x2.lo)) ((K (SV.one (TV.at (At.val (Value.int IntKind.i64 (IntKind.i64.wrap (n.tdiv 2)))))) [] [])) (((IntKind.u64.wrap (IntKind.i64.wrap (IntKind.i64.wrap (IntKind.i64.wrap (IntKind.i64.wrap (n - 1) - x2.lo) - x2.lo) + 1)) ≠ 0) ∧ (K (SV.one (TV.at (At.val (Value.int IntKind.i64 (IntKind.i64.wrap (x2.lo + IntKind.i64.wrap (t.tmod (IntKind.u64.wrap (IntKind.i64.wrap (IntKind.i64.wrap (IntKind.i64.wrap (IntKind.i64.wrap (n - 1) - x2.lo) - x2.lo) + 1)))))))))) [] [])))))))))) ((brS (decide (IntKind.i64.wrap (IntKind.i64.wrap (n - 1) - x2.lo) < x2.lo)) ((K (SV.one (TV.at (At.val (Value.int IntKind.i64 (IntKind.i64.wrap (n.tdiv 2)))))) [] []))
    (((IntKind.u64.wrap (IntKind.i64.wrap (IntKind.i64.wrap (IntKind.i64.wrap (IntKind.i64.wrap (n - 1) - x2.lo) - x2.lo) + 1)) ≠ 0) ∧ (K (SV.one (TV.at (At.val (Value.int IntKind.i64 (IntKind.i64.wrap (x2.lo + IntKind.i64.wrap (t.tmod (IntKind.u64.wrap (IntKind.i64.wrap (IntKind.i64.wrap (IntKind.i64.wrap (IntKind.i64.wrap (n - 1) - x2.lo) - x2.lo) + 1)))))))))) [] []))))))))))))))))) = _ by kernel_rfl) ?_
  refine ⟨by omega, by omega, fun x hx => ⟨⟨⟨x, by omega, by omega, ⟨by omega, by omega⟩⟩, trivial, ⟨rfl, rfl, rfl, trivial⟩, trivial⟩, fun x1 _ => ?_⟩⟩
  obtain ⟨k1, k2, k3, k4⟩ := x1.h
  rw [wrap_id (x := x1.lo - 1) (by omega) (by omega), wrap_id (x := n - x1.lo) (by omega) (by omega)]
  refine brS_of (fun c => ?_) fun c => ?_
  · have c : x1.lo > 0 := of_decide_eq_true c
    refine ⟨by omega, by omega, by omega, by omega, fun b hb => brS_of (fun d => ?_) fun d => ?_⟩
    · rw [d] at hb
      have hb : balN (x1.lo - 1) (n - x1.lo) := of_decide_eq_true hb.symm
      refine ⟨⟨x1.lo - 1, by omega, by omega, by rw [show n - 1 - (x1.lo - 1) = n - x1.lo by omega]; exact hb⟩, trivial, ⟨⟨rfl, rfl, rfl, trivial⟩, trivial⟩, ?_⟩
      show (x1.lo - 1).toNat < x1.lo.toNat
      omega
    · skip
      refine ⟨⟨x1, trivial, ⟨rfl, rfl, rfl, trivial⟩, trivial⟩, fun x2 _ => ?_⟩
      obtain ⟨l1, l2, l3, l4⟩ := x2.h
      rw [wrap_id (x := n - 1) (by omega) (by omega), wrap_id (x := n - 1 - x2.lo) (by omega) (by omega)]
      refine brS_of (fun e => ⟨l1, by omega, by omega, by omega, fun b1 hb1 => brS_of (fun f => ?_) fun f => ?_⟩) fun e => ?_
      · have e : b1 = true := by rw [hb1]; exact decide_eq_true ⟨l3, l4⟩
        rw [e] at f; cases f
      · skip
        rw [wrap_id (x := n - 1 - x2.lo - x2.lo) (by omega) (by omega), wrap_id (x := n - 1 - x2.lo - x2.lo + 1) (by omega) (by omega)]
        refine brS_of (fun g => ?_) fun g => ?_
        · have g : n - 1 - x2.lo < x2.lo := of_decide_eq_true g
          rw [Int.tdiv_eq_ediv_of_nonneg (by omega), wrap_id (by omega) (by omega)]
          exact h _ (by omega) (by omega) ⟨by omega, by omega⟩
        · have g : ¬ n - 1 - x2.lo < x2.lo := of_decide_eq_false g
          have hm := Int.emod_nonneg t (show n - 1 - x2.lo - x2.lo + 1 ≠ 0 by omega)
          have hm2 := Int.emod_lt_of_pos t (show 0 < n - 1 - x2.lo - x2.lo + 1 by omega)
          rw [wrap_u64 (by omega) (by omega), Int.tmod_eq_emod_of_nonneg h3, wrap_id (x := t % _) (by omega) (by omega), wrap_id (by omega) (by omega)]
          exact ⟨by omega, h _ (by omega) (by omega) ⟨by omega, by omega⟩⟩
      · skip
        rw [wrap_id (x := n - 1 - x2.lo - x2.lo) (by omega) (by omega), wrap_id (x := n - 1 - x2.lo - x2.lo + 1) (by omega) (by omega)]
        refine brS_of (fun g => ?_) fun g => ?_
        · have g : n - 1 - x2.lo < x2.lo := of_decide_eq_true g
          rw [Int.tdiv_eq_ediv_of_nonneg (by omega), wrap_id (by omega) (by omega)]
          exact h _ (by omega) (by omega) ⟨by omega, by omega⟩
        · have g : ¬ n - 1 - x2.lo < x2.lo := of_decide_eq_false g
          have hm := Int.emod_nonneg t (show n - 1 - x2.lo - x2.lo + 1 ≠ 0 by omega)
          have hm2 := Int.emod_lt_of_pos t (show 0 < n - 1 - x2.lo - x2.lo + 1 by omega)
          rw [wrap_u64 (by omega) (by omega), Int.tmod_eq_emod_of_nonneg h3, wrap_id (x := t % _) (by omega) (by omega), wrap_id (by omega) (by omega)]
          exact ⟨by omega, h _ (by omega) (by omega) ⟨by omega, by omega⟩⟩
  · skip
    refine ⟨⟨x1, trivial, ⟨rfl, rfl, rfl, trivial⟩, trivial⟩, fun x2 _ => ?_⟩
    obtain ⟨l1, l2, l3, l4⟩ := x2.h
    rw [wrap_id (x := n - 1) (by omega) (by omega), wrap_id (x := n - 1 - x2.lo) (by omega) (by omega)]
    refine brS_of (fun e => ⟨l1, by omega, by omega, by omega, fun b1 hb1 => brS_of (fun f => ?_) fun f => ?_⟩) fun e => ?_
    · have e : b1 = true := by rw [hb1]; exact decide_eq_true ⟨l3, l4⟩
      rw [e] at f; cases f
    · skip
      rw [wrap_id (x := n - 1 - x2.lo - x2.lo) (by omega) (by omega), wrap_id (x := n - 1 - x2.lo - x2.lo + 1) (by omega) (by omega)]
      refine brS_of (fun g => ?_) fun g => ?_
      · have g : n - 1 - x2.lo < x2.lo := of_decide_eq_true g
        rw [Int.tdiv_eq_ediv_of_nonneg (by omega), wrap_id (by omega) (by omega)]
        exact h _ (by omega) (by omega) ⟨by omega, by omega⟩
      · have g : ¬ n - 1 - x2.lo < x2.lo := of_decide_eq_false g
        have hm := Int.emod_nonneg t (show n - 1 - x2.lo - x2.lo + 1 ≠ 0 by omega)
        have hm2 := Int.emod_lt_of_pos t (show 0 < n - 1 - x2.lo - x2.lo + 1 by omega)
        rw [wrap_u64 (by omega) (by omega), Int.tmod_eq_emod_of_nonneg h3, wrap_id (x := t % _) (by omega) (by omega), wrap_id (by omega) (by omega)]
        exact ⟨by omega, h _ (by omega) (by omega) ⟨by omega, by omega⟩⟩
    · skip
      rw [wrap_id (x := n - 1 - x2.lo - x2.lo) (by omega) (by omega), wrap_id (x := n - 1 - x2.lo - x2.lo + 1) (by omega) (by omega)]
      refine brS_of (fun g => ?_) fun g => ?_
      · have g : n - 1 - x2.lo < x2.lo := of_decide_eq_true g
        rw [Int.tdiv_eq_ediv_of_nonneg (by omega), wrap_id (by omega) (by omega)]
        exact h _ (by omega) (by omega) ⟨by omega, by omega⟩
      · have g : ¬ n - 1 - x2.lo < x2.lo := of_decide_eq_false g
        have hm := Int.emod_nonneg t (show n - 1 - x2.lo - x2.lo + 1 ≠ 0 by omega)
        have hm2 := Int.emod_lt_of_pos t (show 0 < n - 1 - x2.lo - x2.lo + 1 by omega)
        rw [wrap_u64 (by omega) (by omega), Int.tmod_eq_emod_of_nonneg h3, wrap_id (x := t % _) (by omega) (by omega), wrap_id (by omega) (by omega)]
        exact ⟨by omega, h _ (by omega) (by omega) ⟨by omega, by omega⟩⟩
theorem s_pivot : SoundT C0 123 tPivot := by
  refine .of Try.func123 (by decide) rfl fun args H K h hB => ?_
  unfold tPivot at h
  split at h <;> try exact h.elim
  rename_i n t
  exact ⟨aPivot n, ⟨frame C0.ok s_least _, frame C0.ok s_bal _, trivial⟩, vc_pivot n t K h.1 h.2.1 h.2.2.1 h.2.2.2⟩
theorem wrap_u64_nonneg (x : Int) : 0 ≤ IntKind.u64.wrap x := by
  unfold IntKind.wrap
  simp [IntKind.signed, IntKind.bits]
  omega
theorem split_at {l : List Ent} {p : Nat} (hp : p < l.length) : l.take p ++ l.getD p (0, 0) :: l.drop (p + 1) = l := by
  have h : l[p]? = some (l.getD p (0, 0)) := by simp [List.getD_eq_getElem?_getD, List.getElem?_eq_getElem hp]
  rw [← drop_cons h, List.take_append_drop]
theorem vc_plant (n : Nat) (S : Arn) (l : List Ent) (t : Int) (K : KT) (hs : List Int) (hw : Wf S hs) (h1 : l.length < n + 1) (h2 : l.length ≤ 100000) (h3 : (l.length : Int) ≤ S.free) (h4 : hs.length + l.length ≤ 900000000) (h5 : 0 ≤ t)
    (h : ∀ S' i, PlantR S hs l S' i → K (.tup [.at (vU i), .at (vB true)]) (chS S' ++ [.row false EC.ent l]) W7) :
    vc C0 (aPlant n) Try.f80 [.at (.ptr 0 0), .at (.slc 7), .at (vU64 t)] (chS S ++ [.row false EC.ent l]) (normK 8 (wideK W7 K)) := by
  refine Eq.mp (show (brS ((↑l.length : Int) == 0) ((K (SV.tup [(TV.at (At.val (Value.int IntKind.u32 0))), (TV.at (At.val (Value.bool true)))]) [(Chunk.box [(At.ptr 1 0), (At.slc 2), (At.slc 3), (At.val (Value.int IntKind.u64 (S.reads)))]), (Chunk.box [(At.slc 4), (At.slc 5), (At.slc 6), (At.val (Value.int IntKind.u32 (S.fresh)))]), (Chunk.row true (EC.node) (S.nodes)), (Chunk.row true (EC.int) (S.counts)), (Chunk.row true (EC.bool) (S.used)), (Chunk.row true (EC.u32) (S.gen)), (Chunk.row true (EC.u32) (S.rel)), (Chunk.row false (EC.ent) (l))] [0, 1, 2, 3, 4, 5, 6])) (((1 ≤ (↑l.length : Int)) ∧ ((↑l.length : Int) ≤ 100000) ∧ (0 ≤ t) ∧ (∀ p : Int, ((0 ≤ p) → ((p < (↑l.length : Int)) → ((balN p ((↑l.length : Int) - 1 - p)) → (((0 : Int) ≤ 0) ∧ (0 ≤ p) ∧ (p ≤ (↑l.length : Int)) ∧ (∃ hs : List Int, ((Wf S hs) ∧ ((List.drop (Int.toNat 0) (List.take p.toNat l)).length < n) ∧ ((List.drop (Int.toNat 0) (List.take p.toNat l)).length ≤ 100000) ∧ ((↑(List.drop (Int.toNat 0) (List.take p.toNat l)).length : Int) ≤ S.free) ∧ (hs.length + (List.drop (Int.toNat 0) (List.take p.toNat l)).length ≤ 900000000) ∧ (0 ≤ IntKind.u64.wrap (IntKind.u64.wrap (t.tdiv 5) + IntKind.u64.wrap (t * 3))) ∧ (∀ S' : Arn, (∀ i : Int, ((PlantR S hs (List.drop (Int.toNat 0) (List.take p.toNat l)) S' i) → ((0 ≤ IntKind.i64.wrap (p + 1)) ∧ (IntKind.i64.wrap (p + 1) ≤ (↑l.length : Int)) ∧ ((↑l.length : Int) ≤ (↑l.length : Int)) ∧ (∃ hs1 : List Int, ((Wf S' hs1) ∧
    ((List.drop (IntKind.i64.wrap (p + 1)).toNat (List.take (↑l.length : Int).toNat l)).length < n) ∧ ((List.drop (IntKind.i64.wrap (p + 1)).toNat (List.take (↑l.length : Int).toNat l)).length ≤ 100000) ∧ ((↑(List.drop (IntKind.i64.wrap (p + 1)).toNat (List.take (↑l.length : Int).toNat l)).length : Int) ≤ S'.free) ∧ (hs1.length + (List.drop (IntKind.i64.wrap (p + 1)).toNat (List.take (↑l.length : Int).toNat l)).length ≤ 900000000) ∧ (0 ≤ IntKind.u64.wrap (IntKind.u64.wrap (IntKind.u64.wrap (t.tdiv 7) + IntKind.u64.wrap (t * 5)) + 1)) ∧ (∀ S'1 : Arn, (∀ i1 : Int, ((PlantR S' hs1 (List.drop (IntKind.i64.wrap (p + 1)).toNat (List.take (↑l.length : Int).toNat l)) S'1 i1) → ((0 ≤ p) ∧ (p < (↑l.length : Int)) ∧ (0 ≤ p) ∧ (p < (↑l.length : Int)) ∧ (exW S'1) ∧ (live S'1 i) ∧ (live S'1 i1) ∧ ((mkNode S'1 (l.getD p.toNat (0, 0)).fst (l.getD p.toNat (0, 0)).snd i i1).size ≤ maxSize) ∧ (0 < S'1.free) ∧ (∀ S'2 : Arn, (∀ i2 : Int, (((S'2) = (makeS S'1 (l.getD p.toNat (0, 0)).fst (l.getD p.toNat (0, 0)).snd i i1)) → (((i2) = (nxt S'1)) → (∃ hs2 : List Int, ((Wf S'2 (i :: hs2)) ∧ (((S'2.us i) = true) → (1 ≤ S'2.indeg i)) ∧ (∀ S'3 : Arn, (((S'3) = (relA S'2 i)) → (∃ hs3 : List Int, ((Wf S'3 (i1 :: hs3)) ∧ (((S'3.us i1) = true) → (1 ≤ S'3.indeg i1)) ∧ (∀ S'4 : Arn, (((S'4) = (relA S'3 i1)) →
    (K (SV.tup [(TV.at (At.val (Value.int IntKind.u32 (i2)))), (TV.at (At.val (Value.bool (i2 != 0))))]) [(Chunk.box [(At.ptr 1 0), (At.slc 2), (At.slc 3), (At.val (Value.int IntKind.u64 (S'4.reads)))]), (Chunk.box [(At.slc 4), (At.slc 5), (At.slc 6), (At.val (Value.int IntKind.u32 (S'4.fresh)))]), (Chunk.row true (EC.node) (S'4.nodes)), (Chunk.row true (EC.int) (S'4.counts)), (Chunk.row true (EC.bool) (S'4.used)), (Chunk.row true (EC.u32) (S'4.gen)), (Chunk.row true (EC.u32) (S'4.rel)), (Chunk.row false (EC.ent) (l))] [0, 1, 2, 3, 4, 5, 6]))))))))))))))))))))))))))))))))) = _ by kernel_rfl) ?_
  refine brS_of (fun c => ?_) fun c => ⟨?_, by omega, h5, fun p p0 p1 hb => ?_⟩
  · have e : l = [] := List.length_eq_zero_iff.1 (by simpa using c)
    have hr : PlantR S hs l S 0 := by rw [e]; exact PlantR.nil hw (by omega)
    exact h S 0 hr
  · have c : ¬ (l.length : Int) = 0 := by simpa using c
    omega
  · have hp : p.toNat < l.length := by omega
    have ea : List.drop (Int.toNat 0) (List.take p.toNat l) = l.take p.toNat := rfl
    rw [wrap_id (x := p + 1) (by omega) (by omega), ea, show (l.length : Int).toNat = l.length by omega, List.take_length, show (p + 1).toNat = p.toNat + 1 by omega]
    have la : (l.take p.toNat).length = p.toNat := by simp; omega
    have lb : (l.drop (p.toNat + 1)).length = l.length - (p.toNat + 1) := by simp
    have hf := hw.free_nonneg
    refine ⟨by decide, p0, by omega, hs, hw, by omega, by omega, by omega, by omega, wrap_u64_nonneg _, fun S1 il r1 => ?_⟩
    have hf1 := r1.wf.free_nonneg
    have n1 := r1.nu
    have c1 : S1.cap = S.cap := by unfold Arn.cap; rw [r1.len]
    refine ⟨by omega, by omega, by omega, il :: hs, r1.wf, by omega, by omega, by omega, by simp; omega, wrap_u64_nonneg _, fun S2 ir r2 => ?_⟩
    have hf2 := r2.wf.free_nonneg
    have n2 := r2.nu
    have c2 : S2.cap = S1.cap := by unfold Arn.cap; rw [r2.len]
    have hw2 : Wf S2 (il :: ir :: hs) := r2.wf.perm (List.Perm.swap _ _ _)
    have hfr : 0 < S2.free := by omega
    obtain ⟨tl, q1, q2, _⟩ := r1.rep
    obtain ⟨tr, q3, q4, _⟩ := r2.rep
    have q1' : Rep S2 tl il := q1.held r1.wf r2.stay (.inr (by simp))
    have s1 : tl.size = p.toNat := by rw [← tl.list_len, q2, la]
    have s2 : tr.size = l.length - (p.toNat + 1) := by rw [← tr.list_len, q4, lb]
    have hz : ∀ k v, (mkNode S2 k v il ir).size ≤ maxSize := fun k v => by rw [mk_size hw2 q1' q3]; unfold maxSize; omega
    refine ⟨p0, p1, p0, p1, ⟨_, hw2⟩, hw2.held il (by simp), hw2.held ir (by simp), hz _ _, hfr, fun S3 i e1 e2 => ?_⟩
    obtain ⟨t1, t2, t3, t4⟩ := node_two (k := (l.getD p.toNat (0, 0)).1) (v := (l.getD p.toNat (0, 0)).2) hw2 hfr (hz _ _) (by omega)
    subst e1
    refine ⟨_, t1, t2, fun S4 e3 => ?_⟩
    subst e3
    refine ⟨_, t3, t4, fun S5 e4 => ?_⟩
    have hx := (hw2.nxt_spec hfr).1
    have hi0 : (i != 0) = true := by rw [e2]; simp; omega
    rw [hi0]
    refine h S5 i ?_
    have hr : PlantR S hs (l.take p.toNat ++ l.getD p.toNat (0, 0) :: l.drop (p.toNat + 1)) S5 i := r1.node r2 (by rw [la, lb]; have e : ((l.length - (p.toNat + 1) : Nat) : Int) = (l.length : Int) - 1 - p := (by omega); rw [e, show (p.toNat : Int) = p by omega]; exact hb) fun tl' tr' x1 x2 => by
      rw [e4, e2]; exact node_ok hw2 hfr (hz _ _) (by omega) x1 x2
    rw [split_at hp] at hr
    exact hr
theorem s_plant : ∀ n, SoundT C0 80 (tPlant n) := by
  intro n
  induction n with
  | zero =>
    refine .of Try.func80 (by decide) rfl fun args H K h hB => ?_
    exfalso
    unfold tPlant at h
    split at h <;> try exact h.elim
    unfold arMr at h
    split at h <;> try exact h.elim
    split at h <;> try exact h.elim
    obtain ⟨_, _, h1, _⟩ := h
    omega
  | succ n ih =>
    refine .ofW W7 Try.func80 (by decide) rfl fun args H K h hB => ?_
    unfold tPlant at h
    split at h <;> try exact h.elim
    unfold arMr at h
    split at h <;> try exact h.elim
    split at h <;> try exact h.elim
    rename_i t _ rd fr nd ct us gn rl _ l
    obtain ⟨hs, h1, h2, h3, h4, h5, h6, h7⟩ := h
    exact ⟨aPlant n, ⟨frame C0.ok s_pivot _, frame C0.ok ih _, frame C0.ok s_makeOk _, frame C0.ok s_give _, trivial⟩, vc_plant n ⟨us, gn, rl, fr, nd, ct, rd⟩ l t K hs h1 h2 h3 h4 h5 h6 h7⟩
def tPlantA : Tfm C0 := fun args H K => match args with
  | [.at (.ptr 0 0), .at (.slc 7), .at (.val (.int .u64 t))] => arMr H fun S rest => match rest with
    | [.row false .ent l] => ∃ hs, Wf S hs ∧ l.length ≤ 100000 ∧ (l.length : Int) ≤ S.free ∧ hs.length + l.length ≤ 900000000 ∧ 0 ≤ t ∧ ∀ S' i, PlantR S hs l S' i → K (.tup [.at (vU i), .at (vB true)]) (chS S' ++ [.row false EC.ent l]) W7
    | _ => False
  | _ => False
theorem s_plantA : SoundT C0 80 tPlantA := (s_plant 100001).weak fun args H K h => by
  unfold tPlantA at h
  unfold tPlant
  split at h <;> try exact h.elim
  unfold arMr at h ⊢
  split at h <;> try exact h.elim
  split at h <;> try exact h.elim
  obtain ⟨hs, h1, h2, h3, h4, h5, h6⟩ := h
  exact ⟨hs, h1, by omega, h2, h3, h4, h5, h6⟩
end Go.Proofs.Ytmjnoiajenoinaa.Sx
end
section
/- Ranks and positions in a tree. No program in sight. -/
namespace Go.Proofs.Ytmjnoiajenoinaa
open Go

end Go.Proofs.Ytmjnoiajenoinaa
end
section
/- Listing a tree gives what the reference gives. No program in sight. -/
namespace Go.Proofs.Ytmjnoiajenoinaa
open Go

end Go.Proofs.Ytmjnoiajenoinaa
end
section
/- Build, Grow, and the example of the chapter on bulk operations. -/
namespace Go.Proofs.Ytmjnoiajenoinaa.Sx
open Go

/-KEEP Wf exW inU live Arn.cap Arn.free Rep rdS Tr.size BuildR PlantR rangeR newS ascB-/
abbrev chSk (k : Nat) (S : Arn) : List (Chunk C0) := [.box [.ptr (k + 1) 0, .slc (k + 2), .slc (k + 3), vU64 S.reads], .box [.slc (k + 4), .slc (k + 5), .slc (k + 6), vU S.fresh], .row true EC.node S.nodes, .row true EC.int S.counts, .row true EC.bool S.used, .row true EC.u32 S.gen, .row true EC.u32 S.rel]
noncomputable def aGrow : Ann C0 := { Γ := [(11, frameT [] tNew), (80, frameT [] tPlantA)] }
def tGrow : Tfm C0 := fun args H K => match args, H with
  | [.at (.slc 0), .at (.val (.int .u64 t)), .at (.val (.int .i64 sp))], [.row false .ent l] => 0 ≤ t ∧ 1 ≤ sp ∧ sp ≤ 30000 ∧ l.length ≤ 30000 ∧ ∀ S' i, PlantR (newS ((l.length : Int) + sp).toNat) [] l S' i → K (.tup [.at (.ptr 1 0), .at (vU i), .at (vB true)]) ([.row false EC.ent l] ++ chSk 1 S') []
  | _, _ => False
theorem new_free {c : Nat} (_ : 1 ≤ c) (_ : c ≤ 65536) : (newS c).free = c := by
  unfold Arn.free Arn.cap newS; simp
theorem vc_grow (l : List Ent) (t sp : Int) (K : KT) (h1 : 0 ≤ t) (h2 : 1 ≤ sp) (h3 : sp ≤ 30000) (h4 : l.length ≤ 30000) (h : ∀ S' i, PlantR (newS ((l.length : Int) + sp).toNat) [] l S' i → K (.tup [.at (.ptr 1 0), .at (vU i), .at (vB true)]) ([.row false EC.ent l] ++ chSk 1 S') []) :
    vc C0 aGrow Try.f37 [.at (.slc 0), .at (vU64 t), .at (vI sp)] [.row false EC.ent l] (normK 1 K) := by
  refine Eq.mp (show (((IntKind.i64.wrap ((↑l.length : Int) + sp) < 1 ∨ 65536 < IntKind.i64.wrap ((↑l.length : Int) + sp)) →
(K (SV.tup [(TV.at (At.val (Value.pointer none))), (TV.at (At.val (Value.int IntKind.u32 0))), (TV.at (At.val (Value.bool false)))]) [(Chunk.row false (EC.ent) (l))] [])) ∧
((1 ≤ IntKind.i64.wrap ((↑l.length : Int) + sp)) →
((IntKind.i64.wrap ((↑l.length : Int) + sp) ≤ 65536) →
(∀ S : Arn, (((S) = (newS (IntKind.i64.wrap ((↑l.length : Int) + sp)).toNat)) → (∃ hs : List Int, ((Wf S hs) ∧ (l.length ≤ 100000) ∧ ((↑l.length : Int) ≤ S.free) ∧ (hs.length + l.length ≤ 900000000) ∧ (0 ≤ t) ∧ (∀ S' : Arn, (∀ i : Int, ((PlantR S hs l S' i) → (K (SV.tup [(TV.at (At.ptr 1 0)), (TV.at (At.val (Value.int IntKind.u32 (i)))), (TV.at (At.val (Value.bool true)))]) [(Chunk.row false (EC.ent) (l)), (Chunk.box [(At.ptr 2 0), (At.slc 3), (At.slc 4), (At.val (Value.int IntKind.u64 (S'.reads)))]), (Chunk.box [(At.slc 5), (At.slc 6), (At.slc 7), (At.val (Value.int IntKind.u32 (S'.fresh)))]), (Chunk.row true (EC.node) (S'.nodes)), (Chunk.row true (EC.int) (S'.counts)), (Chunk.row true (EC.bool) (S'.used)), (Chunk.row true (EC.u32) (S'.gen)), (Chunk.row true (EC.u32) (S'.rel))] []))))))))))) = _ by kernel_rfl) ?_
  rw [wrap_id (x := (l.length : Int) + sp) (by omega) (by omega)]
  refine ⟨fun c => by omega, fun _ _ S hS => ?_⟩
  subst hS
  refine ⟨[], Wf.new (by omega) (by omega), by omega, ?_, by simp; omega, h1, h⟩
  rw [new_free (by omega) (by omega)]; omega
theorem s_grow : SoundT C0 37 tGrow := by
  refine .of Try.func37 (by decide) rfl fun args H K h hB => ?_
  unfold tGrow at h
  split at h <;> try exact h.elim
  rename_i t sp l
  obtain ⟨h1, h2, h3, h4, h5⟩ := h
  exact ⟨aGrow, ⟨frame C0.ok s_new _, frame C0.ok s_plantA _, trivial⟩, vc_grow l t sp K h1 h2 h3 h4 h5⟩
end Go.Proofs.Ytmjnoiajenoinaa.Sx
end
section
/- Numbering the nodes of a graph below some roots: depth first, children first. No program in sight. -/
namespace Go.Proofs.Ytmjnoiajenoinaa
open Go

section
variable {us : Int → Bool} {lf rg : Int → Int}
inductive NumG (us : Int → Bool) (lf rg : Int → Int) : Int → List Int → List Int → Prop where
  | skip {i : Int} {acc : List Int} : (us i = false ∨ i ∈ acc) → NumG us lf rg i acc acc
  | go {i : Int} {acc a1 a2 : List Int} : us i = true → i ∉ acc → NumG us lf rg (lf i) acc a1 → NumG us lf rg (rg i) a1 a2 → NumG us lf rg i acc (a2 ++ [i])
inductive NumsG (us : Int → Bool) (lf rg : Int → Int) : List Int → List Int → List Int → Prop where
  | nil {acc : List Int} : NumsG us lf rg [] acc acc
  | cons {i : Int} {r acc a1 a2 : List Int} : NumG us lf rg i acc a1 → NumsG us lf rg r a1 a2 → NumsG us lf rg (i :: r) acc a2
/-- A tree below an index. -/
def RepG (us : Int → Bool) (lf rg : Int → Int) : Nat → Int → Prop
  | 0, i => us i = false
  | n + 1, i => us i = false ∨ (RepG us lf rg n (lf i) ∧ RepG us lf rg n (rg i))
theorem RepG.mono {n m : Nat} (h : n ≤ m) : ∀ {i : Int}, RepG us lf rg n i → RepG us lf rg m i := by
  induction n generalizing m with
  | zero =>
    intro i hi
    cases m with
    | zero => exact hi
    | succ m => exact .inl hi
  | succ n ih =>
    intro i hi
    cases m with
    | zero => omega
    | succ m => exact hi.imp id fun q => ⟨ih (by omega) q.1, ih (by omega) q.2⟩
theorem NumG.det {i : Int} {acc a b : List Int} (h : NumG us lf rg i acc a) (h' : NumG us lf rg i acc b) : a = b := by
  induction h generalizing b with
  | skip q =>
    cases h' with
    | skip _ => rfl
    | go u n _ _ => exact (q.elim (fun e => by rw [e] at u; cases u) (fun e => absurd e n))
  | go u n _ _ ih1 ih2 =>
    cases h' with
    | skip q => exact (q.elim (fun e => by rw [e] at u; cases u) (fun e => absurd e n))
    | go _ _ k1 k2 =>
      obtain rfl := ih1 k1
      obtain rfl := ih2 k2
      rfl
theorem NumsG.det {r acc a b : List Int} (h : NumsG us lf rg r acc a) (h' : NumsG us lf rg r acc b) : a = b := by
  induction h generalizing b with
  | nil => cases h'; rfl
  | cons h1 _ ih =>
    cases h' with
    | cons k1 k2 =>
      obtain rfl := h1.det k1
      exact ih k2
theorem NumG.ex {n : Nat} : ∀ {i : Int} (acc : List Int), RepG us lf rg n i → ∃ a, NumG us lf rg i acc a := by
  induction n with
  | zero => intro i acc h; exact ⟨acc, .skip (.inl h)⟩
  | succ n ih =>
    intro i acc h
    rcases h with h | ⟨h1, h2⟩
    · exact ⟨acc, .skip (.inl h)⟩
    · cases u : us i with
      | false => exact ⟨acc, .skip (.inl u)⟩
      | true =>
        by_cases m : i ∈ acc
        · exact ⟨acc, .skip (.inr m)⟩
        · obtain ⟨a1, k1⟩ := ih acc h1
          obtain ⟨a2, k2⟩ := ih a1 h2
          exact ⟨a2 ++ [i], .go u m k1 k2⟩
theorem NumsG.ex : ∀ (r : List Int) (acc : List Int), (∀ i ∈ r, ∃ n, RepG us lf rg n i) → ∃ a, NumsG us lf rg r acc a
  | [], acc, _ => ⟨acc, .nil⟩
  | i :: r, acc, h => by
    obtain ⟨n, hn⟩ := h i (List.mem_cons_self ..)
    obtain ⟨a1, h1⟩ := NumG.ex acc hn
    obtain ⟨a2, h2⟩ := NumsG.ex r a1 fun j hj => h j (List.mem_cons_of_mem _ hj)
    exact ⟨a2, .cons h1 h2⟩
theorem NumsG.app {r s acc a b : List Int} (h : NumsG us lf rg r acc a) (h' : NumsG us lf rg s a b) : NumsG us lf rg (r ++ s) acc b := by
  induction h with
  | nil => exact h'
  | cons h1 _ ih => exact .cons h1 (ih h')
theorem NumsG.one {i : Int} {acc a : List Int} (h : NumG us lf rg i acc a) : NumsG us lf rg [i] acc a := .cons h .nil
/-- What is numbered stays, and comes first. -/
theorem NumG.pre {i : Int} {acc a : List Int} (h : NumG us lf rg i acc a) : ∃ x, a = acc ++ x := by
  induction h with
  | skip _ => exact ⟨[], by simp⟩
  | @go i _ _ _ _ _ _ _ ih1 ih2 =>
    obtain ⟨x, rfl⟩ := ih1
    obtain ⟨y, rfl⟩ := ih2
    exact ⟨x ++ y ++ [i], by simp⟩
theorem NumsG.pre {r acc a : List Int} (h : NumsG us lf rg r acc a) : ∃ x, a = acc ++ x := by
  induction h with
  | nil => exact ⟨[], by simp⟩
  | cons h1 _ ih =>
    obtain ⟨x, rfl⟩ := h1.pre
    obtain ⟨y, rfl⟩ := ih
    exact ⟨x ++ y, by simp⟩
theorem NumG.sub {i : Int} {acc a : List Int} (h : NumG us lf rg i acc a) {j : Int} (hj : j ∈ acc) : j ∈ a := by
  obtain ⟨x, rfl⟩ := h.pre; exact List.mem_append.2 (.inl hj)
theorem NumsG.sub {r acc a : List Int} (h : NumsG us lf rg r acc a) {j : Int} (hj : j ∈ acc) : j ∈ a := by
  obtain ⟨x, rfl⟩ := h.pre; exact List.mem_append.2 (.inl hj)
theorem NumG.self {i : Int} {acc a : List Int} (h : NumG us lf rg i acc a) (u : us i = true) : i ∈ a := by
  cases h with
  | skip q => exact q.elim (fun e => by rw [e] at u; cases u) id
  | go _ _ _ _ => simp
theorem NumsG.roots {r acc a : List Int} (h : NumsG us lf rg r acc a) : ∀ i ∈ r, us i = true → i ∈ a := by
  induction h with
  | nil => intro i hi; cases hi
  | cons h1 h2 ih =>
    intro j hj u
    rcases List.mem_cons.1 hj with rfl | hj
    · exact h2.sub (h1.self u)
    · exact ih j hj u
variable {sz : Int → Nat}
/-- Sizes grow upwards: what is numbered below an index is smaller. -/
theorem NumG.small (hz : ∀ i, us i = true → sz (lf i) < sz i ∧ sz (rg i) < sz i) {i : Int} {acc a : List Int} (h : NumG us lf rg i acc a) : ∀ j ∈ a, j ∈ acc ∨ (us j = true ∧ sz j ≤ sz i) := by
  induction h with
  | skip _ => exact fun j hj => .inl hj
  | go u n _ _ ih1 ih2 =>
    have z := hz _ u
    intro j hj
    rcases List.mem_append.1 hj with hj | hj
    · rcases ih2 j hj with q | ⟨q1, q2⟩
      · rcases ih1 j q with q | ⟨q1, q2⟩
        · exact .inl q
        · exact .inr ⟨q1, by omega⟩
      · exact .inr ⟨q1, by omega⟩
    · rw [List.mem_singleton.1 hj]; exact .inr ⟨u, Nat.le_refl _⟩
/-- An index is not numbered below itself. -/
theorem NumG.fresh (hz : ∀ i, us i = true → sz (lf i) < sz i ∧ sz (rg i) < sz i) {i : Int} {acc a1 a2 : List Int} (u : us i = true) (n : i ∉ acc) (h1 : NumG us lf rg (lf i) acc a1) (h2 : NumG us lf rg (rg i) a1 a2) : i ∉ a2 := fun hi => by
  have z := hz i u
  rcases h2.small hz i hi with q | ⟨_, q⟩
  · rcases h1.small hz i q with q | ⟨_, q⟩
    · exact n q
    · omega
  · omega
theorem NumG.nodup (hz : ∀ i, us i = true → sz (lf i) < sz i ∧ sz (rg i) < sz i) {i : Int} {acc a : List Int} (h : NumG us lf rg i acc a) (d : acc.Nodup) : a.Nodup := by
  induction h with
  | skip _ => exact d
  | go u n h1 h2 ih1 ih2 =>
    have f := NumG.fresh hz u n h1 h2
    refine List.nodup_append.2 ⟨ih2 (ih1 d), by simp, fun a ha b hb e => ?_⟩
    rw [List.mem_singleton.1 hb] at e
    exact f (e ▸ ha)
theorem NumsG.nodup (hz : ∀ i, us i = true → sz (lf i) < sz i ∧ sz (rg i) < sz i) {r acc a : List Int} (h : NumsG us lf rg r acc a) (d : acc.Nodup) : a.Nodup := by
  induction h with
  | nil => exact d
  | cons h1 _ ih => exact ih (h1.nodup hz d)
theorem NumG.used {i : Int} {acc a : List Int} (h : NumG us lf rg i acc a) (d : ∀ j ∈ acc, us j = true) : ∀ j ∈ a, us j = true := by
  induction h with
  | skip _ => exact d
  | go u _ _ _ ih1 ih2 =>
    intro j hj
    rcases List.mem_append.1 hj with hj | hj
    · exact ih2 (ih1 d) j hj
    · rw [List.mem_singleton.1 hj]; exact u
theorem NumsG.used {r acc a : List Int} (h : NumsG us lf rg r acc a) (d : ∀ j ∈ acc, us j = true) : ∀ j ∈ a, us j = true := by
  induction h with
  | nil => exact d
  | cons h1 _ ih => exact ih (h1.used d)
/-- Children come ahead of their parents. -/
def OrdG (us : Int → Bool) (lf rg : Int → Int) (a : List Int) : Prop := ∀ (k : Nat) (j : Int), a[k]? = some j → us j = true ∧ (us (lf j) = true → lf j ∈ a.take k) ∧ (us (rg j) = true → rg j ∈ a.take k)
theorem OrdG.nil : OrdG us lf rg [] := fun k j h => by simp at h
theorem OrdG.snoc {a : List Int} (h : OrdG us lf rg a) {i : Int} (u : us i = true) (h1 : us (lf i) = true → lf i ∈ a) (h2 : us (rg i) = true → rg i ∈ a) : OrdG us lf rg (a ++ [i]) := by
  intro k j hk
  rcases Nat.lt_or_ge k a.length with q | q
  · rw [List.getElem?_append_left q] at hk
    obtain ⟨e1, e2, e3⟩ := h k j hk
    rw [List.take_append_of_le_length (by omega)]
    exact ⟨e1, e2, e3⟩
  · rw [List.getElem?_append_right q] at hk
    have hz : k - a.length = 0 := by
      rcases Nat.eq_zero_or_pos (k - a.length) with z | z
      · exact z
      · rw [List.getElem?_eq_none (by simp; omega)] at hk; cases hk
    rw [hz] at hk
    have : i = j := by simpa using hk
    subst this
    rw [show k = a.length by omega, List.take_left' rfl]
    exact ⟨u, h1, h2⟩
theorem NumG.ord {i : Int} {acc a : List Int} (h : NumG us lf rg i acc a) (d : OrdG us lf rg acc) : OrdG us lf rg a := by
  induction h with
  | skip _ => exact d
  | go u _ h1 h2 ih1 ih2 => exact (ih2 (ih1 d)).snoc u (fun e => h2.sub (h1.self e)) fun e => h2.self e
theorem NumsG.ord {r acc a : List Int} (h : NumsG us lf rg r acc a) (d : OrdG us lf rg acc) : OrdG us lf rg a := by
  induction h with
  | nil => exact d
  | cons h1 _ ih => exact ih (h1.ord d)
/-- What is numbered is reached. -/
theorem NumG.reach {P : Int → Prop} (hp : ∀ i, P i → us i = true → P (lf i) ∧ P (rg i)) {i : Int} {acc a : List Int} (h : NumG us lf rg i acc a) (pi : P i) (d : ∀ j ∈ acc, P j) : ∀ j ∈ a, P j := by
  induction h with
  | skip _ => exact d
  | go u _ _ _ ih1 ih2 =>
    have q := hp _ pi u
    intro j hj
    rcases List.mem_append.1 hj with hj | hj
    · exact ih2 q.2 (ih1 q.1 d) j hj
    · rw [List.mem_singleton.1 hj]; exact pi
theorem NumsG.reach {P : Int → Prop} (hp : ∀ i, P i → us i = true → P (lf i) ∧ P (rg i)) {r acc a : List Int} (h : NumsG us lf rg r acc a) (pr : ∀ i ∈ r, P i) (d : ∀ j ∈ acc, P j) : ∀ j ∈ a, P j := by
  induction h with
  | nil => exact d
  | cons h1 _ ih => exact ih (fun i hi => pr i (List.mem_cons_of_mem _ hi)) (h1.reach hp (pr _ (List.mem_cons_self ..)) d)
theorem NumG.congr {us' : Int → Bool} {lf' rg' : Int → Int} (h1 : ∀ i, us' i = us i) (h2 : ∀ i, us i = true → lf' i = lf i) (h3 : ∀ i, us i = true → rg' i = rg i) {i : Int} {acc a : List Int} (h : NumG us lf rg i acc a) : NumG us' lf' rg' i acc a := by
  induction h with
  | skip q => exact .skip (q.imp (fun e => (h1 _).trans e) id)
  | go u n _ _ ih1 ih2 => exact .go ((h1 _).trans u) n (by rw [h2 _ u]; exact ih1) (by rw [h3 _ u]; exact ih2)
theorem NumsG.congr {us' : Int → Bool} {lf' rg' : Int → Int} (h1 : ∀ i, us' i = us i) (h2 : ∀ i, us i = true → lf' i = lf i) (h3 : ∀ i, us i = true → rg' i = rg i) {r acc a : List Int} (h : NumsG us lf rg r acc a) : NumsG us' lf' rg' r acc a := by
  induction h with
  | nil => exact .nil
  | cons k _ ih => exact .cons (k.congr h1 h2 h3) ih
end

/-- The place of an index in a list, counted from 1. -/
def plcN : List Int → Int → Int
  | [], _ => 0
  | x :: l, j => if x = j then 1 else if plcN l j = 0 then 0 else plcN l j + 1
theorem plcN_rng : ∀ (l : List Int) (j : Int), 0 ≤ plcN l j ∧ plcN l j ≤ l.length
  | [], _ => ⟨Int.le_refl _, Int.le_refl _⟩
  | x :: l, j => by
    have := plcN_rng l j
    unfold plcN
    rw [List.length_cons]
    split
    · omega
    · split <;> omega
theorem plcN_mem : ∀ {l : List Int} {j : Int}, 0 < plcN l j ↔ j ∈ l
  | [], j => by simp [plcN]
  | x :: l, j => by
    have ih := plcN_mem (l := l) (j := j)
    have r := plcN_rng l j
    unfold plcN
    rw [List.mem_cons]
    split
    · rename_i e; exact ⟨fun _ => .inl e.symm, fun _ => by decide⟩
    · rename_i e
      split
      · rename_i z
        constructor
        · intro h; omega
        · rintro (h | h)
          · exact absurd h.symm e
          · have := ih.2 h; omega
      · rename_i z
        exact ⟨fun _ => .inr (ih.1 (by omega)), fun _ => by omega⟩
theorem plcN_none {l : List Int} {j : Int} (h : j ∉ l) : plcN l j = 0 := by
  have a := plcN_rng l j
  have b : ¬ 0 < plcN l j := fun q => h (plcN_mem.1 q)
  omega
theorem plcN_snoc : ∀ (l : List Int) (i j : Int), i ∉ l → plcN (l ++ [i]) j = if i = j then (l.length : Int) + 1 else plcN l j
  | [], i, j, _ => by
    show (if i = j then 1 else if (0 : Int) = 0 then 0 else 0 + 1) = if i = j then 0 + 1 else 0
    split <;> simp
  | x :: l, i, j, h => by
    have ih := plcN_snoc l i j (fun q => h (List.mem_cons_of_mem _ q))
    have nx : x ≠ i := fun e => h (by rw [e]; exact List.mem_cons_self ..)
    show (if x = j then 1 else if plcN (l ++ [i]) j = 0 then 0 else plcN (l ++ [i]) j + 1) = if i = j then ((x :: l).length : Int) + 1 else if x = j then 1 else if plcN l j = 0 then 0 else plcN l j + 1
    rw [ih]
    by_cases e : i = j
    · rw [if_pos e, if_pos e, if_neg (fun q => nx (q.trans e.symm)), if_neg (by omega), List.length_cons]; omega
    · rw [if_neg e, if_neg e]
theorem plcN_at : ∀ {l : List Int} {k : Nat} {j : Int}, l.Nodup → l[k]? = some j → plcN l j = (k : Int) + 1
  | [], k, j, _, h => by simp at h
  | x :: l, 0, j, _, h => by
    have : x = j := by simpa using h
    unfold plcN; rw [if_pos this]; rfl
  | x :: l, k + 1, j, d, h => by
    have h' : l[k]? = some j := by simpa using h
    have m : j ∈ l := List.mem_of_getElem? h'
    obtain ⟨d1, d2⟩ := List.nodup_cons.1 d
    have ih := plcN_at d2 h'
    unfold plcN
    rw [if_neg (fun e : x = j => d1 (e ▸ m)), ih, if_neg (by omega)]
    omega
theorem plcN_get {l : List Int} {j : Int} (h : j ∈ l) : l[(plcN l j - 1).toNat]? = some j ∧ 1 ≤ plcN l j := by
  induction l with
  | nil => cases h
  | cons x l ih =>
    unfold plcN
    by_cases e : x = j
    · rw [if_pos e]; subst e; exact ⟨rfl, Int.le_refl _⟩
    · rw [if_neg e]
      have m : j ∈ l := (List.mem_cons.1 h).resolve_left (fun q => e q.symm)
      obtain ⟨i1, i2⟩ := ih m
      rw [if_neg (by omega), show (plcN l j + 1 - 1).toNat = (plcN l j - 1).toNat + 1 by omega]
      exact ⟨by simpa using i1, by omega⟩
end Go.Proofs.Ytmjnoiajenoinaa
end
section
/- Numbering in an arena: sizes, existence, how many. -/
namespace Go.Proofs.Ytmjnoiajenoinaa
open Go

def lfA (S : Arn) (i : Int) : Int := (S.nd i).left
def rgA (S : Arn) (i : Int) : Int := (S.nd i).right
abbrev NumA (S : Arn) := NumG S.us (lfA S) (rgA S)
abbrev NumsA (S : Arn) := NumsG S.us (lfA S) (rgA S)
variable {S : Arn} {hs : List Int}
theorem sz_kids (h : Wf S hs) : ∀ i, S.us i = true → (S.nd (lfA S i)).size.toNat < (S.nd i).size.toNat ∧ (S.nd (rgA S i)).size.toNat < (S.nd i).size.toNat := fun i u => by
  have z := h.siz i u
  have a := h.size_nonneg (S.nd i).left
  have b := h.size_nonneg (S.nd i).right
  unfold lfA rgA
  omega
theorem repG_wf (h : Wf S hs) : ∀ (n : Nat) (i : Int), (S.nd i).size.toNat ≤ n → RepG S.us (lfA S) (rgA S) n i
  | 0, i, z => by
    cases u : S.us i with
    | false => exact u
    | true => have := (h.siz i u).1; omega
  | n + 1, i, z => by
    cases u : S.us i with
    | false => exact .inl u
    | true =>
      have k := sz_kids h i u
      exact .inr ⟨repG_wf h n _ (by omega), repG_wf h n _ (by omega)⟩
theorem numA_ex (h : Wf S hs) (i : Int) (acc : List Int) : ∃ a, NumA S i acc a := NumG.ex acc (repG_wf h _ i (Nat.le_refl _))
theorem numsA_ex (h : Wf S hs) (r : List Int) (acc : List Int) : ∃ a, NumsA S r acc a := NumsG.ex r acc fun i _ => ⟨_, repG_wf h _ i (Nat.le_refl _)⟩
def szA (S : Arn) (i : Int) : Nat := (S.nd i).size.toNat
theorem szA_kids (h : Wf S hs) : ∀ i, S.us i = true → szA S (lfA S i) < szA S i ∧ szA S (rgA S i) < szA S i := sz_kids h
theorem len_nd {α : Type} [DecidableEq α] : ∀ (a b : List α), a.Nodup → (∀ x ∈ a, x ∈ b) → a.length ≤ b.length
  | [], _, _, _ => Nat.zero_le _
  | x :: a, b, hn, hs => by
    obtain ⟨h1, h2⟩ := List.pairwise_cons.1 hn
    have hx := hs x (by simp)
    have := len_nd a (b.erase x) h2 fun y hy => (List.mem_erase_of_ne (Ne.symm (h1 y hy))).2 (hs y (by simp [hy]))
    rw [List.length_erase_of_mem hx] at this
    have : 0 < b.length := List.length_pos_of_mem hx
    simp; omega
theorem used_few (h : Wf S hs) {l : List Int} (d : l.Nodup) (u : ∀ j ∈ l, S.us j = true) : l.length + 1 ≤ S.used.length := by
  have q := len_nd l ((List.range (S.used.length - 1)).map fun (n : Nat) => (n : Int) + 1) d fun x hx => by
    have p := h.pos (u x hx)
    exact List.mem_map.2 ⟨(x - 1).toNat, List.mem_range.2 (by omega), by omega⟩
  have := h.n1
  rw [List.length_map, List.length_range] at q
  omega
end Go.Proofs.Ytmjnoiajenoinaa
end
section
/- packwork extend, number, Nodes; pack.Nodes; compact.Needed. -/
namespace Go.Proofs.Ytmjnoiajenoinaa.Sx
open Go

/-KEEP Wf exW inU allV rdS NumsA NumA ExtR opN StkN NmR NmB NumK-/
def allV (l : List Int) : Prop := ∀ x ∈ l, inU x
abbrev chX (l : List Int) (pm : List (Int × Int)) (rs : List Int) (S : Arn) : List (Chunk C0) := [.box [.slc 2, .slc 3], .box [.ptr 4 0, .slc 5, .slc 6, vU64 S.reads], .row true EC.u32 l, .map .u32 .u64 pm, .box [.slc 7, .slc 8, .slc 9, vU S.fresh], .row true EC.node S.nodes, .row true EC.int S.counts, .row true EC.bool S.used, .row true EC.u32 S.gen, .row true EC.u32 S.rel, .row false EC.u32 rs]
def exM (H : List (Chunk C0)) (k : List Int → List (Int × Int) → List Int → Arn → Prop) : Prop := match H with
  | [.box [.slc 2, .slc 3], .box [.ptr 4 0, .slc 5, .slc 6, .val (.int .u64 rd)], .row true .u32 l, .map .u32 .u64 pm, .box [.slc 7, .slc 8, .slc 9, .val (.int .u32 fr)], .row true .node nd, .row true .int ct, .row true .bool us, .row true .u32 gn, .row true .u32 rl, .row false .u32 rs] => k l pm rs ⟨us, gn, rl, fr, nd, ct, rd⟩
  | _ => False
structure ExtR (S : Arn) (l rs : List Int) (S' : Arn) (l' : List Int) (pm' : List (Int × Int)) : Prop where
  num : NumsA S rs l l'
  map : ∀ j, lookM pm' j = plcN l' j
  st : S' = rdS S (l'.length - l.length)
def NmB (S : Arn) (rs : List Int) : Prop := exW S ∧ S.reads ≤ 3000000000000000000 ∧ rs.length ≤ 1000000 ∧ allV rs
structure NmR (S : Arn) (rs : List Int) (S' : Arn) (l : List Int) : Prop where
  num : NumsA S rs [] l
  st : S' = rdS S l.length
/-- A numbering's list, and its map. -/
structure NumK (S : Arn) (l : List Int) (pm : List (Int × Int)) : Prop where
  nd : l.Nodup
  us : ∀ j ∈ l, S.us j = true
  map : ∀ j, lookM pm j = plcN l j
/-- What is still to come of a traversal: the steps, the topmost first. -/
inductive StkN (us : Int → Bool) (lf rg : Int → Int) : List PStepT → List Int → List Int → Prop where
  | nil {acc : List Int} : StkN us lf rg [] acc acc
  | open {i : Int} {r : List PStepT} {acc tgt : List Int} : us i = true → i ∉ acc → StkN us lf rg r (acc ++ [i]) tgt → StkN us lf rg (⟨i, true⟩ :: r) acc tgt
  | closed {i : Int} {r : List PStepT} {acc a tgt : List Int} : inU i → NumG us lf rg i acc a → StkN us lf rg r a tgt → StkN us lf rg (⟨i, false⟩ :: r) acc tgt
def opN (w : List PStepT) : Nat := w.countP fun x => x.open_
structure XEa (P : Arn → List Int → List (Int × Int) → Nat → Prop) where
  S : Arn
  l : List Int
  pm : List (Int × Int)
  i : Nat
  h : P S l pm i
structure XEb (P : Arn → List Int → List (Int × Int) → Nat → List PStepT → Prop) where
  S : Arn
  l : List Int
  pm : List (Int × Int)
  i : Nat
  w : List PStepT
  h : P S l pm i w
def wtP (S : Arn) (w : List PStepT) : Nat := (w.map fun x => if x.open_ then 1 else 3 * (S.nd x.index).size.toNat + 1).sum
noncomputable def aExt (P1 : Arn → List Int → List (Int × Int) → Nat → Prop) (P2 : Arn → List Int → List (Int × Int) → Nat → List PStepT → Prop) (rs : List Int) : Ann C0 := { Γ := [(60, frameT [] tNode)], trunc := fun n => n = 34, inv := fun n => match n with
  | 1 => some { X := XEa P1, sl := [14], tf := fun x => [vi .i64 x.i], hf := fun x => chX x.l x.pm rs x.S, μ := fun x => rs.length - x.i, wr := [0, 1, 2, 3] }
  | 4 => some { X := XEb P2, sl := [8], tf := fun _ => [.one (.at (.slc 11))], hf := fun x => chX x.l x.pm rs x.S ++ [.row true EC.pstep x.w], μ := fun x => wtP x.S x.w, wr := [0, 1, 2, 3], rel := fun T _ x => slotI T 14 x.i }
  | _ => none }
def tExt : Tfm C0 := fun args H K => match args with
  | [.at (.ptr 0 0), .at (.ptr 1 0), .at (.slc 10)] => exM H fun l pm rs S => exW S ∧ S.reads ≤ 3000000000000000000 ∧ rs.length ≤ 1000000 ∧ allV rs ∧ NumK S l pm ∧ ∀ S' l' pm', ExtR S l rs S' l' pm' → K (.tup []) (chX l' pm' rs S') [0, 1, 2, 3]
  | _ => False
noncomputable def aNmb : Ann C0 := { Γ := [(155, frameT [] tExt)] }
abbrev nbM (H : List (Chunk C0)) (k : Arn → List Int → Prop) : Prop := arMr H fun S rest => match rest with
  | [.row false .u32 rs] => k S rs
  | _ => False
def tNmb : Tfm C0 := fun args H K => match args with
  | [.at (.ptr 0 0), .at (.slc 7)] => nbM H fun S rs => NmB S rs ∧ ∀ S' l pm, NmR S rs S' l → K (.one (.at (.ptr 8 0))) (chS S' ++ [.row false EC.u32 rs, .box [.slc 9, .slc 10], .row true EC.u32 l, .map .u32 .u64 pm]) [0]
  | _ => False
noncomputable def aNds : Ann C0 := { Γ := [(137, frameT [] tNmb)] }
def tNds : Tfm C0 := fun args H K => match args with
  | [.at (.ptr 0 0), .at (.slc 7)] => nbM H fun S rs => NmB S rs ∧ ∀ S' l, NmR S rs S' l → K (.one (.at (.slc 8))) (chS S' ++ [.row false EC.u32 rs, .row true EC.u32 l]) [0]
  | _ => False
noncomputable def aPno : Ann C0 := { Γ := [(111, frameT [] tNds)] }
noncomputable def aNdd : Ann C0 := { Γ := [(59, frameT [] tNds)] }
def tNdd : Tfm C0 := fun args H K => match args with
  | [.at (.ptr 0 0), .at (.slc 7)] => nbM H fun S rs => NmB S rs ∧ ∀ S' l (n : Int), NmR S rs S' l → n = l.length → K (.one (.at (vI n))) (chS S' ++ [.row false EC.u32 rs]) [0]
  | _ => False
theorem lookM_set : ∀ (l : List (Int × Int)) (k v j : Int), lookM (setM l k v) j = if k = j then v else lookM l j
  | [], k, v, j => rfl
  | p :: r, k, v, j => by
    have ih := lookM_set r k v j
    unfold setM
    by_cases c : p.1 = k
    · rw [if_pos c]
      show (if k = j then v else lookM r j) = if k = j then v else (if p.1 = j then p.2 else lookM r j)
      by_cases d : k = j
      · rw [if_pos d, if_pos d]
      · rw [if_neg d, if_neg d, if_neg (by omega)]
    · rw [if_neg c]
      show (if p.1 = j then p.2 else lookM (setM r k v) j) = if k = j then v else (if p.1 = j then p.2 else lookM r j)
      rw [ih]
      by_cases d : p.1 = j
      · rw [if_pos d, if_pos d, if_neg (by omega)]
      · rw [if_neg d, if_neg d]
theorem opN_snoc (w : List PStepT) (x : PStepT) : opN (w ++ [x]) = opN w + if x.open_ then 1 else 0 := by
  unfold opN; rw [List.countP_append, List.countP_singleton]
theorem opN_app (w v : List PStepT) : opN (w ++ v) = opN w + opN v := by unfold opN; rw [List.countP_append]
theorem wtP_app (S : Arn) (w v : List PStepT) : wtP S (w ++ v) = wtP S w + wtP S v := by unfold wtP; simp
theorem StkN.opens {us : Int → Bool} {lf rg : Int → Int} {w : List PStepT} {acc tgt : List Int} (h : StkN us lf rg w acc tgt) : acc.length + opN w ≤ tgt.length := by
  induction h with
  | nil => exact Nat.le_refl _
  | @«open» i r acc tgt _ _ _ ih =>
    have e : opN (⟨i, true⟩ :: r) = opN r + 1 := by unfold opN; simp
    rw [List.length_append, List.length_singleton] at ih
    omega
  | @closed i r acc a tgt _ k _ ih =>
    have e : opN (⟨i, false⟩ :: r) = opN r := by unfold opN; simp
    obtain ⟨x, rfl⟩ := k.pre
    rw [List.length_append] at ih
    omega
structure InR (S0 : Arn) (l0 rs : List Int) (S : Arn) (l : List Int) (pm : List (Int × Int)) (i : Nat) (w : List PStepT) : Prop where
  lt : i < rs.length
  tgt : ∃ l1 t, NumsA S0 (rs.take i) l0 l1 ∧ NumA S0 (rs.getD i 0) l1 t ∧ StkN S0.us (lfA S0) (rgA S0) w.reverse l t
  map : ∀ j, lookM pm j = plcN l j
  nd : l.Nodup
  us : ∀ j ∈ l, S0.us j = true
  m : ∃ m, S = rdS S0 m ∧ m + l0.length = l.length + opN w ∧ w.length ≤ 3 * m + 1
theorem takeD_one {α : Type} {l : List α} {i : Nat} {dft : α} (h : i < l.length) : l.take (i + 1) = l.take i ++ [l.getD i dft] := by
  rw [List.take_add_one, List.getD_eq_getElem?_getD, List.getElem?_eq_getElem h]; rfl
section
variable {S0 S : Arn} {hs l0 rs l : List Int} {pm : List (Int × Int)} {i : Nat} {w : List PStepT}
theorem InR.bd (hw : Wf S0 hs) (hn : l0.Nodup) (hu : ∀ j ∈ l0, S0.us j = true) (h : InR S0 l0 rs S l pm i w) : l.length ≤ 65536 ∧ ∃ m, S = rdS S0 m ∧ m ≤ 65536 ∧ w.length ≤ 3 * m + 1 := by
  obtain ⟨l1, t, n1, n2, st⟩ := h.tgt
  obtain ⟨m, m1, m2, m3⟩ := h.m
  have q := used_few hw (n2.nodup (szA_kids hw) (n1.nodup (szA_kids hw) hn)) (n2.used (n1.used hu))
  have o := st.opens
  rw [show opN w.reverse = opN w by unfold opN; rw [List.countP_reverse]] at o
  have u2 := hw.n2
  exact ⟨by omega, m, m1, by omega, m3⟩
theorem ExtR.more (hw : Wf S0 hs) (hi : i < rs.length) (hv : allV rs) (hn : l0.Nodup) (hu : ∀ j ∈ l0, S0.us j = true) (h : ExtR S0 l0 (rs.take i) S l pm) : InR S0 l0 rs S l pm i [⟨rs.getD i 0, false⟩] := by
  obtain ⟨t, ht⟩ := numA_ex hw (rs.getD i 0) l
  have hm : rs.getD i 0 ∈ rs := by rw [List.getD_eq_getElem?_getD, List.getElem?_eq_getElem hi]; exact List.getElem_mem hi
  obtain ⟨y, hy⟩ := h.num.pre
  exact ⟨hi, ⟨l, t, h.num, ht, .closed (hv _ hm) ht .nil⟩, h.map, h.num.nodup (szA_kids hw) hn, h.num.used hu, _, h.st, by rw [hy, List.length_append]; show _ = _ + 0; omega, by simp⟩
theorem InR.done (h : InR S0 l0 rs S l pm i []) : ExtR S0 l0 (rs.take (i + 1)) S l pm := by
  obtain ⟨l1, t, n1, n2, st⟩ := h.tgt
  obtain ⟨m, m1, m2, m3⟩ := h.m
  cases st
  refine ⟨?_, h.map, ?_⟩
  · rw [takeD_one (dft := (0 : Int)) h.lt]; exact n1.app (NumsG.one n2)
  · rw [m1]
    have : opN [] = 0 := rfl
    congr 1; omega
theorem InR.pop {j v : Int} (h : InR S0 l0 rs S l pm i (w ++ [⟨j, true⟩])) (hv : v = (l.length : Int) + 1) : InR S0 l0 rs S (l ++ [j]) (setM pm j v) i w := by
  obtain ⟨l1, t, n1, n2, st⟩ := h.tgt
  obtain ⟨m, m1, m2, m3⟩ := h.m
  rw [List.reverse_append] at st
  have st : StkN S0.us (lfA S0) (rgA S0) (⟨j, true⟩ :: w.reverse) l t := st
  cases st with
  | «open» u n st =>
    refine ⟨h.lt, ⟨l1, t, n1, n2, st⟩, fun k => ?_, ?_, ?_, m, m1, ?_, ?_⟩
    · rw [lookM_set, plcN_snoc _ _ _ n, h.map, hv]
    · refine List.nodup_append.2 ⟨h.nd, by simp, fun a ha b hb e => ?_⟩
      rw [List.mem_singleton.1 hb] at e
      exact n (e ▸ ha)
    · intro k hk
      rcases List.mem_append.1 hk with hk | hk
      · exact h.us k hk
      · rw [List.mem_singleton.1 hk]; exact u
    · rw [opN_snoc, if_pos rfl] at m2
      rw [List.length_append, List.length_singleton]; omega
    · rw [List.length_append, List.length_singleton] at m3; omega
theorem InR.inu {j : Int} (h : InR S0 l0 rs S l pm i (w ++ [⟨j, false⟩])) : inU j := by
  obtain ⟨l1, t, n1, n2, st⟩ := h.tgt
  rw [List.reverse_append] at st
  have st : StkN S0.us (lfA S0) (rgA S0) (⟨j, false⟩ :: w.reverse) l t := st
  cases st with
  | closed u _ _ => exact u
theorem InR.skip {j : Int} (h : InR S0 l0 rs S l pm i (w ++ [⟨j, false⟩])) (hj : S0.us j = false ∨ j ∈ l) : InR S0 l0 rs S l pm i w := by
  obtain ⟨l1, t, n1, n2, st⟩ := h.tgt
  obtain ⟨m, m1, m2, m3⟩ := h.m
  rw [List.reverse_append] at st
  have st : StkN S0.us (lfA S0) (rgA S0) (⟨j, false⟩ :: w.reverse) l t := st
  cases st with
  | closed _ n st =>
    have e := n.det (.skip hj)
    rw [e] at st
    refine ⟨h.lt, ⟨l1, t, n1, n2, st⟩, h.map, h.nd, h.us, m, m1, ?_, ?_⟩
    · rw [opN_snoc] at m2
      simpa using m2
    · rw [List.length_append, List.length_singleton] at m3; omega
theorem InR.push {j : Int} (hw : Wf S0 hs) (h : InR S0 l0 rs S l pm i (w ++ [⟨j, false⟩])) (u : S0.us j = true) (hj : j ∉ l) : InR S0 l0 rs (rdS S 1) l pm i (w ++ [⟨j, true⟩, ⟨(S0.nd j).right, false⟩, ⟨(S0.nd j).left, false⟩]) := by
  obtain ⟨l1, t, n1, n2, st⟩ := h.tgt
  obtain ⟨m, m1, m2, m3⟩ := h.m
  rw [List.reverse_append] at st
  have st : StkN S0.us (lfA S0) (rgA S0) (⟨j, false⟩ :: w.reverse) l t := st
  cases st with
  | closed _ n st =>
    cases n with
    | skip q => exact absurd q (by rw [u]; simp [hj])
    | go _ _ k1 k2 =>
      have kd := hw.kid j u
      refine ⟨h.lt, ⟨l1, t, n1, n2, ?_⟩, h.map, h.nd, h.us, m + 1, ?_, ?_, ?_⟩
      · rw [List.reverse_append]
        exact .closed (inU_of hw kd.1) k1 (.closed (inU_of hw kd.2) k2 (.open u (NumG.fresh (szA_kids hw) u hj k1 k2) st))
      · rw [m1, rdS_rdS]
      · rw [opN_snoc] at m2
        rw [opN_app, show opN [⟨j, true⟩, ⟨(S0.nd j).right, false⟩, ⟨(S0.nd j).left, false⟩] = 1 from rfl]
        have : (if (⟨j, false⟩ : PStepT).open_ = true then 1 else 0) = 0 := rfl
        omega
      · rw [List.length_append] at m3 ⊢
        simp at m3 ⊢; omega
end
def PX1 (S0 : Arn) (l0 rs : List Int) : Arn → List Int → List (Int × Int) → Nat → Prop := fun S l pm i => i ≤ rs.length ∧ ExtR S0 l0 (rs.take i) S l pm
theorem vc_ext (l : List Int) (pm : List (Int × Int)) (rs : List Int) (S : Arn) (K : KT) (hx : exW S) (hr : S.reads ≤ 3000000000000000000) (h1 : rs.length ≤ 1000000) (hv : allV rs) (hk : NumK S l pm) (h : ∀ S' l' pm', ExtR S l rs S' l' pm' → K (.tup []) (chX l' pm' rs S') [0, 1, 2, 3]) :
    vc C0 (aExt (PX1 S l rs) (InR S l rs) rs) Try.f155 [.at (.ptr 0 0), .at (.ptr 1 0), .at (.slc 10)] (chX l pm rs S) (normK 11 (wideK [0, 1, 2, 3] K)) := by
  generalize hP1 : PX1 S l rs = P1
  generalize hP2 : InR S l rs = P2
  refine Eq.mp (show ((∃ x : XEa P1, (True ∧ (True ∧ True ∧ True ∧ ((Value.int IntKind.i64 ((↑rs.length : Int))) = (Value.int IntKind.i64 ((↑rs.length : Int)))) ∧ ((Value.int IntKind.i64 0) = (Value.int IntKind.i64 ((↑x.i : Int)))) ∧ True) ∧ (True ∧ True ∧ True) ∧ (True ∧ True ∧ True ∧ ((Value.int IntKind.u64 (S.reads)) = (Value.int IntKind.u64 (x.S.reads))) ∧ True) ∧ ((l) = (x.l)) ∧ ((pm) = (x.pm)) ∧ (True ∧ True ∧ True ∧ ((Value.int IntKind.u32 (S.fresh)) = (Value.int IntKind.u32 (x.S.fresh))) ∧ True) ∧ ((S.nodes) = (x.S.nodes)) ∧ ((S.counts) = (x.S.counts)) ∧ ((S.used) = (x.S.used)) ∧ ((S.gen) = (x.S.gen)) ∧ ((S.rel) = (x.S.rel)) ∧ ((rs) = (rs)) ∧ True)) ∧
(∀ x : XEa P1, (True → (brS (decide ((↑x.i : Int) < (↑rs.length : Int))) (((0 ≤ (↑x.i : Int)) ∧ ((↑x.i : Int) < (↑rs.length : Int)) ∧ (∃ x1 : XEb P2, ((((↑x.i : Int)) = ((↑x1.i : Int))) ∧ (True ∧ True ∧ True ∧ True ∧ ((Value.int IntKind.i64 ((↑rs.length : Int))) = (Value.int IntKind.i64 ((↑rs.length : Int)))) ∧ ((Value.int IntKind.i64 ((↑x.i : Int))) = (Value.int IntKind.i64 ((↑x.i : Int)))) ∧ True) ∧ (True ∧ True ∧ True) ∧ (True ∧ True ∧ True ∧ ((Value.int IntKind.u64 (x.S.reads)) = (Value.int IntKind.u64 (x1.S.reads))) ∧ True) ∧ ((x.l) = (x1.l)) ∧ ((x.pm) = (x1.pm)) ∧ (True ∧ True ∧ True ∧ ((Value.int IntKind.u32 (x.S.fresh)) = (Value.int IntKind.u32 (x1.S.fresh))) ∧ True) ∧ ((x.S.nodes) = (x1.S.nodes)) ∧ ((x.S.counts) = (x1.S.counts)) ∧ ((x.S.used) = (x1.S.used)) ∧ ((x.S.gen) = (x1.S.gen)) ∧ ((x.S.rel) = (x1.S.rel)) ∧ ((rs) = (rs)) ∧
    ([({ index := rs.getD (↑x.i : Int).toNat 0, open_ := false : PStepT })] = (x1.w)) ∧ True)) ∧ (∀ x1 : XEb P2, ((((↑x.i : Int)) = ((↑x1.i : Int))) → (brS (decide ((↑x1.w.length : Int) > 0)) (((0 ≤ IntKind.i64.wrap ((↑x1.w.length : Int) - 1)) ∧ (IntKind.i64.wrap ((↑x1.w.length : Int) - 1) < (↑x1.w.length : Int)) ∧ (0 ≤ IntKind.i64.wrap ((↑x1.w.length : Int) - 1)) ∧ (IntKind.i64.wrap ((↑x1.w.length : Int) - 1) ≤ (↑x1.w.length : Int)) ∧ (brS ((x1.w.getD (IntKind.i64.wrap ((↑x1.w.length : Int) - 1)).toNat { index := 0, open_ := false : PStepT }).open_) (((((x1.l.length + [(x1.w.getD (IntKind.i64.wrap ((↑x1.w.length : Int) - 1)).toNat { index := 0, open_ := false : PStepT }).index].length) * bytesOf C0 EC.u32 ≤ 140737488355328) ∧ (∃ x' : XEb P2, ((((↑x.i : Int)) = ((↑x'.i : Int))) ∧ ((True ∧ True ∧ True ∧ True ∧ ((Value.int IntKind.i64 ((↑rs.length : Int))) = (Value.int IntKind.i64 ((↑rs.length : Int)))) ∧ ((Value.int IntKind.i64 ((↑x.i : Int))) = (Value.int IntKind.i64 ((↑x.i : Int)))) ∧ True) ∧ (True ∧ True ∧ True) ∧ (True ∧ True ∧ True ∧ ((Value.int IntKind.u64 (x1.S.reads)) = (Value.int IntKind.u64 (x'.S.reads))) ∧ True) ∧ ((x1.l ++ [(x1.w.getD (IntKind.i64.wrap ((↑x1.w.length : Int) - 1)).toNat { index := 0, open_ := false : PStepT }).index]) = (x'.l)) ∧
    ((setM x1.pm (x1.w.getD (IntKind.i64.wrap ((↑x1.w.length : Int) - 1)).toNat { index := 0, open_ := false : PStepT }).index (IntKind.u64.wrap (↑(x1.l ++ [(x1.w.getD (IntKind.i64.wrap ((↑x1.w.length : Int) - 1)).toNat { index := 0, open_ := false : PStepT }).index]).length : Int))) = (x'.pm)) ∧ (True ∧ True ∧ True ∧ ((Value.int IntKind.u32 (x1.S.fresh)) = (Value.int IntKind.u32 (x'.S.fresh))) ∧ True) ∧ ((x1.S.nodes) = (x'.S.nodes)) ∧ ((x1.S.counts) = (x'.S.counts)) ∧ ((x1.S.used) = (x'.S.used)) ∧ ((x1.S.gen) = (x'.S.gen)) ∧ ((x1.S.rel) = (x'.S.rel)) ∧ ((rs) = (rs)) ∧ ((List.take (IntKind.i64.wrap ((↑x1.w.length : Int) - 1)).toNat x1.w) = (x'.w)) ∧ True) ∧ (wtP x'.S x'.w < wtP x1.S x1.w)))) ∧ ((x1.l.length + [(x1.w.getD (IntKind.i64.wrap ((↑x1.w.length : Int) - 1)).toNat { index := 0, open_ := false : PStepT }).index].length) * bytesOf C0 EC.u32 ≤ 140737488355328) ∧ (∃ x' : XEb P2, ((((↑x.i : Int)) = ((↑x'.i : Int))) ∧ ((True ∧ True ∧ True ∧ True ∧ ((Value.int IntKind.i64 ((↑rs.length : Int))) = (Value.int IntKind.i64 ((↑rs.length : Int)))) ∧ ((Value.int IntKind.i64 ((↑x.i : Int))) = (Value.int IntKind.i64 ((↑x.i : Int)))) ∧ True) ∧ (True ∧ True ∧ True) ∧ (True ∧ True ∧ True ∧ ((Value.int IntKind.u64 (x1.S.reads)) = (Value.int IntKind.u64 (x'.S.reads))) ∧ True) ∧ ((x1.l ++ [(x1.w.getD (IntKind.i64.wrap ((↑x1.w.length : Int) - 1)).toNat { index := 0, open_ := false : PStepT }).index]) = (x'.l)) ∧
    ((setM x1.pm (x1.w.getD (IntKind.i64.wrap ((↑x1.w.length : Int) - 1)).toNat { index := 0, open_ := false : PStepT }).index (IntKind.u64.wrap (↑(x1.l ++ [(x1.w.getD (IntKind.i64.wrap ((↑x1.w.length : Int) - 1)).toNat { index := 0, open_ := false : PStepT }).index]).length : Int))) = (x'.pm)) ∧ (True ∧ True ∧ True ∧ ((Value.int IntKind.u32 (x1.S.fresh)) = (Value.int IntKind.u32 (x'.S.fresh))) ∧ True) ∧ ((x1.S.nodes) = (x'.S.nodes)) ∧ ((x1.S.counts) = (x'.S.counts)) ∧ ((x1.S.used) = (x'.S.used)) ∧ ((x1.S.gen) = (x'.S.gen)) ∧ ((x1.S.rel) = (x'.S.rel)) ∧ ((rs) = (rs)) ∧ ((List.take (IntKind.i64.wrap ((↑x1.w.length : Int) - 1)).toNat x1.w) = (x'.w)) ∧ True) ∧ (wtP x'.S x'.w < wtP x1.S x1.w))))) ((brS (decide (lookM x1.pm (x1.w.getD (IntKind.i64.wrap ((↑x1.w.length : Int) - 1)).toNat { index := 0, open_ := false : PStepT }).index > 0)) ((∃ x' : XEb P2, ((((↑x.i : Int)) = ((↑x'.i : Int))) ∧ ((True ∧ True ∧ True ∧ True ∧ ((Value.int IntKind.i64 ((↑rs.length : Int))) = (Value.int IntKind.i64 ((↑rs.length : Int)))) ∧ ((Value.int IntKind.i64 ((↑x.i : Int))) = (Value.int IntKind.i64 ((↑x.i : Int)))) ∧ True) ∧ (True ∧ True ∧ True) ∧ (True ∧ True ∧ True ∧ ((Value.int IntKind.u64 (x1.S.reads)) = (Value.int IntKind.u64 (x'.S.reads))) ∧ True) ∧ ((x1.l) = (x'.l)) ∧ ((x1.pm) = (x'.pm)) ∧ (True ∧ True ∧ True ∧ ((Value.int IntKind.u32 (x1.S.fresh)) = (Value.int IntKind.u32 (x'.S.fresh))) ∧ True) ∧ ((x1.S.nodes) = (x'.S.nodes)) ∧ ((x1.S.counts) = (x'.S.counts)) ∧ ((x1.S.used) = (x'.S.used)) ∧
    ((x1.S.gen) = (x'.S.gen)) ∧ ((x1.S.rel) = (x'.S.rel)) ∧ ((rs) = (rs)) ∧ ((List.take (IntKind.i64.wrap ((↑x1.w.length : Int) - 1)).toNat x1.w) = (x'.w)) ∧ True) ∧ (wtP x'.S x'.w < wtP x1.S x1.w)))) (((inU (x1.w.getD (IntKind.i64.wrap ((↑x1.w.length : Int) - 1)).toNat { index := 0, open_ := false : PStepT }).index) ∧ (exW x1.S) ∧ (x1.S.reads < 4000000000000000000) ∧ (∀ S' : Arn, (((S') = (rdS x1.S (x1.S.us (x1.w.getD (IntKind.i64.wrap ((↑x1.w.length : Int) - 1)).toNat { index := 0, open_ := false : PStepT }).index).toNat)) → (brS (x1.S.us (x1.w.getD (IntKind.i64.wrap ((↑x1.w.length : Int) - 1)).toNat { index := 0, open_ := false : PStepT }).index) (((((List.take (IntKind.i64.wrap ((↑x1.w.length : Int) - 1)).toNat x1.w).length + [{ index := (x1.w.getD (IntKind.i64.wrap ((↑x1.w.length : Int) - 1)).toNat { index := 0, open_ := false : PStepT }).index, open_ := true : PStepT }, { index := (x1.S.nd (x1.w.getD (IntKind.i64.wrap ((↑x1.w.length : Int) - 1)).toNat { index := 0, open_ := false : PStepT }).index).right, open_ := false : PStepT }, { index := (x1.S.nd (x1.w.getD (IntKind.i64.wrap ((↑x1.w.length : Int) - 1)).toNat { index := 0, open_ := false : PStepT }).index).left, open_ := false : PStepT }].length) * bytesOf C0 EC.pstep ≤ 140737488355328) ∧ (∃ x' : XEb P2, ((((↑x.i : Int)) = ((↑x'.i : Int))) ∧ ((True ∧ True ∧ True ∧ True ∧ ((Value.int IntKind.i64 ((↑rs.length : Int))) = (Value.int IntKind.i64 ((↑rs.length : Int)))) ∧
    ((Value.int IntKind.i64 ((↑x.i : Int))) = (Value.int IntKind.i64 ((↑x.i : Int)))) ∧ True) ∧ (True ∧ True ∧ True) ∧ (True ∧ True ∧ True ∧ ((Value.int IntKind.u64 (S'.reads)) = (Value.int IntKind.u64 (x'.S.reads))) ∧ True) ∧ ((x1.l) = (x'.l)) ∧ ((x1.pm) = (x'.pm)) ∧ (True ∧ True ∧ True ∧ ((Value.int IntKind.u32 (S'.fresh)) = (Value.int IntKind.u32 (x'.S.fresh))) ∧ True) ∧ ((S'.nodes) = (x'.S.nodes)) ∧ ((S'.counts) = (x'.S.counts)) ∧ ((S'.used) = (x'.S.used)) ∧ ((S'.gen) = (x'.S.gen)) ∧ ((S'.rel) = (x'.S.rel)) ∧ ((rs) = (rs)) ∧ ((List.take (IntKind.i64.wrap ((↑x1.w.length : Int) - 1)).toNat x1.w ++ [{ index := (x1.w.getD (IntKind.i64.wrap ((↑x1.w.length : Int) - 1)).toNat { index := 0, open_ := false : PStepT }).index, open_ := true : PStepT }, { index := (x1.S.nd (x1.w.getD (IntKind.i64.wrap ((↑x1.w.length : Int) - 1)).toNat { index := 0, open_ := false : PStepT }).index).right, open_ := false : PStepT }, { index := (x1.S.nd (x1.w.getD (IntKind.i64.wrap ((↑x1.w.length : Int) - 1)).toNat { index := 0, open_ := false : PStepT }).index).left, open_ := false : PStepT }]) = (x'.w)) ∧ True) ∧ (wtP x'.S x'.w < wtP x1.S x1.w))))) ((∃ x' : XEb P2, ((((↑x.i : Int)) = ((↑x'.i : Int))) ∧ ((True ∧ True ∧ True ∧ True ∧ ((Value.int IntKind.i64 ((↑rs.length : Int))) = (Value.int IntKind.i64 ((↑rs.length : Int)))) ∧ ((Value.int IntKind.i64 ((↑x.i : Int))) = (Value.int IntKind.i64 ((↑x.i : Int)))) ∧ True) ∧ (True ∧ True ∧ True) ∧ (True ∧ True ∧ True ∧
    ((Value.int IntKind.u64 (S'.reads)) = (Value.int IntKind.u64 (x'.S.reads))) ∧ True) ∧ ((x1.l) = (x'.l)) ∧ ((x1.pm) = (x'.pm)) ∧ (True ∧ True ∧ True ∧ ((Value.int IntKind.u32 (S'.fresh)) = (Value.int IntKind.u32 (x'.S.fresh))) ∧ True) ∧ ((S'.nodes) = (x'.S.nodes)) ∧ ((S'.counts) = (x'.S.counts)) ∧ ((S'.used) = (x'.S.used)) ∧ ((S'.gen) = (x'.S.gen)) ∧ ((S'.rel) = (x'.S.rel)) ∧ ((rs) = (rs)) ∧ ((List.take (IntKind.i64.wrap ((↑x1.w.length : Int) - 1)).toNat x1.w) = (x'.w)) ∧ True) ∧ (wtP x'.S x'.w < wtP x1.S x1.w)))))))))))))) ((∃ x' : XEa P1, (True ∧ ((True ∧ True ∧ True ∧ ((Value.int IntKind.i64 ((↑rs.length : Int))) = (Value.int IntKind.i64 ((↑rs.length : Int)))) ∧ ((Value.int IntKind.i64 (IntKind.i64.wrap ((↑x.i : Int) + 1))) = (Value.int IntKind.i64 ((↑x'.i : Int)))) ∧ True) ∧ (True ∧ True ∧ True) ∧ (True ∧ True ∧ True ∧ ((Value.int IntKind.u64 (x1.S.reads)) = (Value.int IntKind.u64 (x'.S.reads))) ∧ True) ∧ ((x1.l) = (x'.l)) ∧ ((x1.pm) = (x'.pm)) ∧ (True ∧ True ∧ True ∧ ((Value.int IntKind.u32 (x1.S.fresh)) = (Value.int IntKind.u32 (x'.S.fresh))) ∧ True) ∧ ((x1.S.nodes) = (x'.S.nodes)) ∧ ((x1.S.counts) = (x'.S.counts)) ∧ ((x1.S.used) = (x'.S.used)) ∧ ((x1.S.gen) = (x'.S.gen)) ∧ ((x1.S.rel) = (x'.S.rel)) ∧ ((rs) = (rs)) ∧ True) ∧ (rs.length - x'.i < rs.length - x.i)))))))))
    ((K (SV.tup []) [(Chunk.box [(At.slc 2), (At.slc 3)]), (Chunk.box [(At.ptr 4 0), (At.slc 5), (At.slc 6), (At.val (Value.int IntKind.u64 (x.S.reads)))]), (Chunk.row true (EC.u32) (x.l)), (Chunk.map IntKind.u32 IntKind.u64 (x.pm)), (Chunk.box [(At.slc 7), (At.slc 8), (At.slc 9), (At.val (Value.int IntKind.u32 (x.S.fresh)))]), (Chunk.row true (EC.node) (x.S.nodes)), (Chunk.row true (EC.int) (x.S.counts)), (Chunk.row true (EC.bool) (x.S.used)), (Chunk.row true (EC.u32) (x.S.gen)), (Chunk.row true (EC.u32) (x.S.rel)), (Chunk.row false (EC.u32) (rs))] [0, 1, 2, 3])))))) = _ by kernel_rfl) ?_
  subst hP1 hP2
  obtain ⟨hs, hw⟩ := hx
  obtain ⟨hn, hu, hm⟩ := hk
  refine ⟨⟨⟨S, l, pm, 0, Nat.zero_le _, .nil, hm, ?_⟩, ?_⟩, fun x _ => brS_of (fun c => ?_) fun c => ?_⟩
  · rw [Nat.sub_self, rdS_zero]
  · (repeat' first | exact trivial | exact rfl | refine And.intro ?_ ?_)
  · obtain ⟨Sa, la, pa, i, hi, ha⟩ := x
    dsimp only at c ⊢
    have c : i < rs.length := by have := of_decide_eq_true c; omega
    refine ⟨by omega, by omega, ⟨⟨Sa, la, pa, i, _, ha.more hw c hv hn hu⟩, rfl, ?_⟩, fun x ex => brS_of (fun d => ?_) fun d => ?_⟩
    · (repeat' first | exact trivial | exact rfl | refine And.intro ?_ ?_)
    · skip
      obtain ⟨Sb, lb, pb, i', w, hb⟩ := x
      dsimp only at d ex ⊢
      obtain rfl : i = i' := by omega
      have d : 0 < w.length := by have := of_decide_eq_true d; omega
      obtain ⟨w', x, rfl⟩ : ∃ w' x, w = w' ++ [x] := by
        rcases List.eq_nil_or_concat w with e | ⟨w', x, e⟩
        · rw [e] at d; exact absurd d (by decide)
        · exact ⟨w', x, by rw [e, List.concat_eq_append]⟩
      obtain ⟨b1, m, b2, b3, b4⟩ := hb.bd hw hn hu
      have e1 : IntKind.i64.wrap (((w' ++ [x]).length : Int) - 1) = (w'.length : Int) := by
        rw [wrap_id (by omega) (by omega), List.length_append, List.length_singleton]; omega
      rw [e1]
      have e2 : (w' ++ [x]).getD ((w'.length : Int)).toNat { index := 0, open_ := false : PStepT } = x := by
        show (w' ++ [x]).getD w'.length _ = x
        simp [List.getD_eq_getElem?_getD]
      have e3 : List.take ((w'.length : Int)).toNat (w' ++ [x]) = w' := by
        show List.take w'.length (w' ++ [x]) = w'
        simp
      rw [e2, e3]
      have e4 : (w' ++ [x]).length = w'.length + 1 := by simp
      obtain ⟨j, o⟩ := x
      dsimp only
      refine ⟨by omega, by omega, by omega, by omega, brS_of (fun z => ?_) fun z => brS_of (fun y => ?_) fun y => ⟨?_, ⟨hs, ?_⟩, ?_, fun S' es => brS_of (fun v => ?_) fun v => ?_⟩⟩
      · subst z
        have hp := hb.pop (v := IntKind.u64.wrap ((lb ++ [j]).length : Int)) (by rw [wrap_u64 (by omega) (by rw [List.length_append, List.length_singleton]; omega), List.length_append, List.length_singleton]; omega)
        have hz : (lb.length + [j].length) * bytesOf C0 EC.u32 ≤ 140737488355328 := by rw [bytes_u32, List.length_singleton]; omega
        have hμ : wtP Sb w' < wtP Sb (w' ++ [⟨j, true⟩]) := by rw [wtP_app]; show _ < _ + 1; omega
        refine ⟨⟨hz, ⟨⟨Sb, lb ++ [j], _, i, w', hp⟩, rfl, ?_, hμ⟩⟩, hz, ⟨⟨Sb, lb ++ [j], _, i, w', hp⟩, rfl, ?_, hμ⟩⟩
        · (repeat' first | exact trivial | exact rfl | refine And.intro ?_ ?_)
        · (repeat' first | exact trivial | exact rfl | refine And.intro ?_ ?_)
      · subst z
        have y : j ∈ lb := plcN_mem.1 (by rw [← hb.map]; exact of_decide_eq_true y)
        refine ⟨⟨Sb, lb, pb, i, w', hb.skip (.inr y)⟩, rfl, ?_, ?_⟩
        · (repeat' first | exact trivial | exact rfl | refine And.intro ?_ ?_)
        · rw [wtP_app]; show wtP Sb w' < _ + (3 * _ + 1 + 0); omega
      · subst z; exact hb.inu
      · rw [b2]; exact hw.rd (by omega)
      · rw [b2]; show S.reads + (m : Int) < _; omega
      · subst z
        have y : j ∉ lb := fun q => by
          have q := plcN_mem.2 q
          rw [← hb.map] at q
          exact of_decide_eq_false y q
        rw [b2] at v
        have v : S.us j = true := v
        have hp := hb.push hw v y
        have es : S' = rdS Sb 1 := by rw [es, b2]; show rdS _ (S.us j).toNat = _; rw [v]; rfl
        subst es
        have en : ∀ k, Sb.nd k = S.nd k := fun k => by rw [b2]; rfl
        refine ⟨by rw [bytes_pstep]; simp; omega, ⟨⟨rdS Sb 1, lb, pb, i, _, hp⟩, rfl, ?_, ?_⟩⟩
        · rw [en]
          (repeat' first | exact trivial | exact rfl | refine And.intro ?_ ?_)
        · rw [wtP_app, wtP_app]
          have k := sz_kids hw j v
          unfold lfA rgA at k
          show _ + (1 + (3 * ((rdS Sb 1).nd (S.nd j).right).size.toNat + 1 + (3 * ((rdS Sb 1).nd (S.nd j).left).size.toNat + 1 + 0))) < _ + (3 * (Sb.nd j).size.toNat + 1 + 0)
          have f1 : wtP (rdS Sb 1) w' = wtP Sb w' := rfl
          have f2 : ∀ k, (rdS Sb 1).nd k = S.nd k := fun k => en k
          rw [f1, f2, f2, en]
          have s0 := hw.siz j v
          have s1 := hw.size_nonneg (S.nd j).left
          have s2 := hw.size_nonneg (S.nd j).right
          omega
      · subst z
        rw [b2] at v
        have v : S.us j = false := v
        have es : S' = Sb := by rw [es, b2]; show rdS _ (S.us j).toNat = _; rw [v]; exact rdS_zero _
        subst es
        refine ⟨⟨S', lb, pb, i, w', hb.skip (.inl v)⟩, rfl, ?_, ?_⟩
        · (repeat' first | exact trivial | exact rfl | refine And.intro ?_ ?_)
        · rw [wtP_app]; show wtP S' w' < _ + (3 * _ + 1 + 0); omega
    · obtain ⟨Sb, lb, pb, i', w, hb⟩ := x
      dsimp only at d ex ⊢
      obtain rfl : i = i' := by omega
      have d : w = [] := List.eq_nil_of_length_eq_zero (by have := of_decide_eq_false d; omega)
      subst d
      rw [wrap_id (by omega) (by omega)]
      refine ⟨⟨Sb, lb, pb, i + 1, c, hb.done⟩, trivial, ?_, Nat.sub_lt_sub_left c (Nat.lt_succ_self i)⟩
      (repeat' first | exact trivial | exact rfl | refine And.intro ?_ ?_)
  · obtain ⟨Sa, la, pa, i, hi, ha⟩ := x
    dsimp only at c
    have c : i = rs.length := by have := of_decide_eq_false c; omega
    rw [c, List.take_length] at ha
    exact h _ _ _ ha
theorem s_ext : SoundT C0 155 tExt := by
  refine .ofW [0, 1, 2, 3] Try.func155 (by decide) rfl fun args H K h hB => ?_
  unfold tExt at h
  split at h <;> try exact h.elim
  unfold exM at h
  split at h <;> try exact h.elim
  rename_i _ rd l pm fr nd ct us gn rl rs
  refine ⟨_, ?_, vc_ext l pm rs ⟨us, gn, rl, fr, nd, ct, rd⟩ K h.1 h.2.1 h.2.2.1 h.2.2.2.1 h.2.2.2.2.1 h.2.2.2.2.2⟩
  exact ⟨frame C0.ok s_node _, trivial⟩
theorem NmR.of {S S' : Arn} {rs l : List Int} {pm : List (Int × Int)} (h : ExtR S [] rs S' l pm) : NmR S rs S' l := ⟨h.num, by rw [h.st]; rfl⟩
theorem vc_nmb (S : Arn) (rs : List Int) (K : KT) (hb : NmB S rs) (h : ∀ S' l pm, NmR S rs S' l → K (.one (.at (.ptr 8 0))) (chS S' ++ [.row false EC.u32 rs, .box [.slc 9, .slc 10], .row true EC.u32 l, .map .u32 .u64 pm]) [0]) :
    vc C0 aNmb Try.f137 [.at (.ptr 0 0), .at (.slc 7)] (chS S ++ [.row false EC.u32 rs]) (normK 8 (wideK [0] K)) := by
  refine Eq.mp (show ((exW S) ∧
(S.reads ≤ 3000000000000000000) ∧
(rs.length ≤ 1000000) ∧
(allV rs) ∧
(NumK S [] []) ∧
(∀ S' : Arn, (∀ l' : List Int, (∀ pm' : List (Int × Int), ((ExtR S [] rs S' l' pm') → (K (SV.one (TV.at (At.ptr 8 0))) [(Chunk.box [(At.ptr 1 0), (At.slc 2), (At.slc 3), (At.val (Value.int IntKind.u64 (S'.reads)))]), (Chunk.box [(At.slc 4), (At.slc 5), (At.slc 6), (At.val (Value.int IntKind.u32 (S'.fresh)))]), (Chunk.row true (EC.node) (S'.nodes)), (Chunk.row true (EC.int) (S'.counts)), (Chunk.row true (EC.bool) (S'.used)), (Chunk.row true (EC.u32) (S'.gen)), (Chunk.row true (EC.u32) (S'.rel)), (Chunk.row false (EC.u32) (rs)), (Chunk.box [(At.slc 9), (At.slc 10)]), (Chunk.row true (EC.u32) (l')), (Chunk.map IntKind.u32 IntKind.u64 (pm'))] [0])))))) = _ by kernel_rfl) ?_
  obtain ⟨h1, h2, h3, h4⟩ := hb
  exact ⟨h1, h2, h3, h4, ⟨List.nodup_nil, by simp, fun _ => rfl⟩, fun S' l pm e => h S' l pm (.of e)⟩
theorem s_nmb : SoundT C0 137 tNmb := by
  refine .ofW [0] Try.func137 (by decide) rfl fun args H K h hB => ?_
  unfold tNmb at h
  split at h <;> try exact h.elim
  unfold nbM arMr at h
  split at h <;> try exact h.elim
  split at h <;> try exact h.elim
  rename_i _ rd fr nd ct us gn rl _ rs
  refine ⟨_, ?_, vc_nmb ⟨us, gn, rl, fr, nd, ct, rd⟩ rs K h.1 h.2⟩
  exact ⟨frame C0.ok s_ext _, trivial⟩
theorem vc_nds (S : Arn) (rs : List Int) (K : KT) (hb : NmB S rs) (h : ∀ S' l, NmR S rs S' l → K (.one (.at (.slc 8))) (chS S' ++ [.row false EC.u32 rs, .row true EC.u32 l]) [0]) :
    vc C0 aNds Try.f111 [.at (.ptr 0 0), .at (.slc 7)] (chS S ++ [.row false EC.u32 rs]) (normK 8 (wideK [0] K)) := by
  refine Eq.mp (show ((NmB S rs) ∧
(∀ S' : Arn, (∀ l : List Int, (∀ pm : List (Int × Int), ((NmR S rs S' l) → (K (SV.one (TV.at (At.slc 8))) [(Chunk.box [(At.ptr 1 0), (At.slc 2), (At.slc 3), (At.val (Value.int IntKind.u64 (S'.reads)))]), (Chunk.box [(At.slc 4), (At.slc 5), (At.slc 6), (At.val (Value.int IntKind.u32 (S'.fresh)))]), (Chunk.row true (EC.node) (S'.nodes)), (Chunk.row true (EC.int) (S'.counts)), (Chunk.row true (EC.bool) (S'.used)), (Chunk.row true (EC.u32) (S'.gen)), (Chunk.row true (EC.u32) (S'.rel)), (Chunk.row false (EC.u32) (rs)), (Chunk.row true (EC.u32) (l))] [0])))))) = _ by kernel_rfl) ?_
  exact ⟨hb, fun S' l pm e => h S' l e⟩
theorem s_nds : SoundT C0 111 tNds := by
  refine .ofW [0] Try.func111 (by decide) rfl fun args H K h hB => ?_
  unfold tNds at h
  split at h <;> try exact h.elim
  unfold nbM arMr at h
  split at h <;> try exact h.elim
  split at h <;> try exact h.elim
  rename_i _ rd fr nd ct us gn rl _ rs
  refine ⟨_, ?_, vc_nds ⟨us, gn, rl, fr, nd, ct, rd⟩ rs K h.1 h.2⟩
  exact ⟨frame C0.ok s_nmb _, trivial⟩
theorem vc_pno (S : Arn) (rs : List Int) (K : KT) (hb : NmB S rs) (h : ∀ S' l, NmR S rs S' l → K (.one (.at (.slc 8))) (chS S' ++ [.row false EC.u32 rs, .row true EC.u32 l]) [0]) :
    vc C0 aPno Try.f59 [.at (.ptr 0 0), .at (.slc 7)] (chS S ++ [.row false EC.u32 rs]) (normK 8 (wideK [0] K)) := by
  refine Eq.mp (show ((NmB S rs) ∧
(∀ S' : Arn, (∀ l : List Int, ((NmR S rs S' l) → (K (SV.one (TV.at (At.slc 8))) [(Chunk.box [(At.ptr 1 0), (At.slc 2), (At.slc 3), (At.val (Value.int IntKind.u64 (S'.reads)))]), (Chunk.box [(At.slc 4), (At.slc 5), (At.slc 6), (At.val (Value.int IntKind.u32 (S'.fresh)))]), (Chunk.row true (EC.node) (S'.nodes)), (Chunk.row true (EC.int) (S'.counts)), (Chunk.row true (EC.bool) (S'.used)), (Chunk.row true (EC.u32) (S'.gen)), (Chunk.row true (EC.u32) (S'.rel)), (Chunk.row false (EC.u32) (rs)), (Chunk.row true (EC.u32) (l))] [0]))))) = _ by kernel_rfl) ?_
  exact ⟨hb, fun S' l e => h S' l e⟩
theorem s_pno : SoundT C0 59 tNds := by
  refine .ofW [0] Try.func59 (by decide) rfl fun args H K h hB => ?_
  unfold tNds at h
  split at h <;> try exact h.elim
  unfold nbM arMr at h
  split at h <;> try exact h.elim
  split at h <;> try exact h.elim
  rename_i _ rd fr nd ct us gn rl _ rs
  refine ⟨_, ?_, vc_pno ⟨us, gn, rl, fr, nd, ct, rd⟩ rs K h.1 h.2⟩
  exact ⟨frame C0.ok s_nds _, trivial⟩
theorem vc_ndd (S : Arn) (rs : List Int) (K : KT) (hb : NmB S rs) (h : ∀ S' l (n : Int), NmR S rs S' l → n = l.length → K (.one (.at (vI n))) (chS S' ++ [.row false EC.u32 rs]) [0]) :
    vc C0 aNdd Try.f16 [.at (.ptr 0 0), .at (.slc 7)] (chS S ++ [.row false EC.u32 rs]) (normK 8 (wideK [0] K)) := by
  refine Eq.mp (show ((NmB S rs) ∧
(∀ S' : Arn, (∀ l : List Int, ((NmR S rs S' l) → (K (SV.one (TV.at (At.val (Value.int IntKind.i64 ((↑l.length : Int)))))) [(Chunk.box [(At.ptr 1 0), (At.slc 2), (At.slc 3), (At.val (Value.int IntKind.u64 (S'.reads)))]), (Chunk.box [(At.slc 4), (At.slc 5), (At.slc 6), (At.val (Value.int IntKind.u32 (S'.fresh)))]), (Chunk.row true (EC.node) (S'.nodes)), (Chunk.row true (EC.int) (S'.counts)), (Chunk.row true (EC.bool) (S'.used)), (Chunk.row true (EC.u32) (S'.gen)), (Chunk.row true (EC.u32) (S'.rel)), (Chunk.row false (EC.u32) (rs))] [0]))))) = _ by kernel_rfl) ?_
  exact ⟨hb, fun S' l e => h S' l _ e rfl⟩
theorem s_ndd : SoundT C0 16 tNdd := by
  refine .ofW [0] Try.func16 (by decide) rfl fun args H K h hB => ?_
  unfold tNdd at h
  split at h <;> try exact h.elim
  unfold nbM arMr at h
  split at h <;> try exact h.elim
  split at h <;> try exact h.elim
  rename_i _ rd fr nd ct us gn rl _ rs
  refine ⟨_, ?_, vc_ndd ⟨us, gn, rl, fr, nd, ct, rd⟩ rs K h.1 h.2⟩
  exact ⟨frame C0.ok s_pno _, trivial⟩
end Go.Proofs.Ytmjnoiajenoinaa.Sx
end
section
/- How high a balanced tree is at most, and how many nodes a listing reads. No program in sight. -/
namespace Go.Proofs.Ytmjnoiajenoinaa
open Go

/-- The least weights of trees of the heights 0 to 80. -/
def wtsL : List Int := [1, 2, 3, 4, 6, 8, 11, 15, 20, 27, 36, 48, 64, 86, 115, 154, 206, 275, 367, 490, 654, 872, 1163, 1551, 2068, 2758, 3678, 4904, 6539, 8719, 11626, 15502, 20670, 27560, 36747, 48996, 65328, 87104, 116139, 154852, 206470, 275294, 367059, 489412, 652550, 870067, 1160090, 1546787, 2062383, 2749844, 3666459, 4888612, 6518150, 8690867, 11587823, 15450431, 20600575, 27467434, 36623246, 48830995, 65107994, 86810659, 115747546, 154330062, 205773416, 274364555, 365819407, 487759210, 650345614, 867127486, 1156169982, 1541559976, 2055413302, 2740551070, 3654068094, 4872090792, 6496121056, 8661494742, 11548659656, 15398212875, 20530950500]
def wt (h : Nat) : Int := wtsL.getD h 0
def hnC : List Int → Int → Int → Int
  | [], h, _ => h
  | w :: l, h, k => if w - 1 ≤ k then hnC l (h + 1) k else h
/-- The greatest height of a tree with k keys. -/
def Hn (k : Int) : Int := hnC (wtsL.drop 1) 0 k
theorem wt_step : ∀ h < 80, wt (h + 1) = wt h + (wt h + 2) / 3 := by decide
theorem hnC_le : ∀ (l : List Int) (h k : Int), h ≤ hnC l h k
  | [], _, _ => Int.le_refl _
  | w :: l, h, k => by
    unfold hnC
    split
    · have := hnC_le l (h + 1) k; omega
    · exact Int.le_refl _
theorem hnC_ge : ∀ (l : List Int) (h k : Int) (m : Nat), m ≤ l.length → (∀ i < m, l.getD i 0 - 1 ≤ k) → h + m ≤ hnC l h k
  | [], h, k, m, hm, _ => by have : m = 0 := by simpa using hm
                             subst this; show h + 0 ≤ h; omega
  | w :: l, h, k, 0, _, _ => by have := hnC_le (w :: l) h k; show h + 0 ≤ _; omega
  | w :: l, h, k, m + 1, hm, hk => by
    have h0 := hk 0 (by omega)
    unfold hnC
    rw [if_pos (by simpa using h0)]
    have := hnC_ge l (h + 1) k m (by simpa using hm) (fun i hi => by have := hk (i + 1) (by omega); simpa using this)
    omega
theorem hnC_up : ∀ (l : List Int) (h k : Int), hnC l h k ≤ h + l.length
  | [], h, k => by show h ≤ h + 0; omega
  | w :: l, h, k => by
    unfold hnC
    have := hnC_up l (h + 1) k
    rw [List.length_cons]
    split <;> omega
theorem Hn_rng (k : Int) : 0 ≤ Hn k ∧ Hn k ≤ 80 := by
  have h1 := hnC_le (wtsL.drop 1) 0 k
  have h2 := hnC_up (wtsL.drop 1) 0 k
  have h3 : (wtsL.drop 1).length = 80 := rfl
  unfold Hn
  omega
def ht : Tr → Nat
  | .nil => 0
  | .node l _ _ r => 1 + (if ht l ≤ ht r then ht r else ht l)
theorem bal_wt : ∀ (t : Tr) (h : Nat), t.Bal → h ≤ 80 → h ≤ ht t → wt h ≤ t.size + 1
  | t, 0, _, _, _ => by have : wt 0 = 1 := rfl
                        rw [this]; omega
  | .nil, h + 1, _, _, hh => by simp [ht] at hh
  | .node l k v r, h + 1, hb, h8, hh => by
    obtain ⟨b0, bl, br⟩ := hb
    unfold balN at b0
    have hs : ((Tr.node l k v r).size : Int) = 1 + l.size + r.size := by simp [Tr.size]
    have st := wt_step h (by omega)
    have hh : h + 1 ≤ 1 + (if ht l ≤ ht r then ht r else ht l) := hh
    by_cases c : ht l ≤ ht r
    · rw [if_pos c] at hh
      have := bal_wt r h br (by omega) (by omega)
      omega
    · rw [if_neg c] at hh
      have := bal_wt l h bl (by omega) (by omega)
      omega
/-- A balanced tree is no higher than its number of keys allows. -/
theorem Bal.height {t : Tr} (hb : t.Bal) (hs : t.size ≤ 1000000) : (ht t : Int) ≤ Hn t.size := by
  have h80 : ht t ≤ 80 := by
    by_cases c : ht t ≤ 80
    · exact c
    · have := bal_wt t 80 hb (Nat.le_refl _) (by omega)
      have e : wt 80 = 20530950500 := rfl
      omega
  have hl : (wtsL.drop 1).length = 80 := rfl
  have := hnC_ge (wtsL.drop 1) 0 t.size (ht t) (by omega) (fun i hi => by
    have e : (wtsL.drop 1).getD i 0 = wt (i + 1) := by simp [wt, List.getD_eq_getElem?_getD]
    have := bal_wt t (i + 1) hb (by omega) (by omega)
    rw [e]; omega)
  unfold Hn
  omega

/-! ### Reads of a listing by keys -/
theorem ht_l (l r : Tr) (k v : Int) : 1 + ht l ≤ ht (.node l k v r) := by rw [ht]; split <;> omega
theorem ht_r (l r : Tr) (k v : Int) : 1 + ht r ≤ ht (.node l k v r) := by rw [ht]; split <;> omega
/-! ### Reads of a listing by places -/
end Go.Proofs.Ytmjnoiajenoinaa
end
section
/- What joining trees costs, and that one rotation is enough. No program in sight. -/
namespace Go.Proofs.Ytmjnoiajenoinaa
open Go

/-! ### The greatest height of a weight -/
/-- The greatest h whose least weight is at most w. -/
def gN (w : Nat) : Nat := (Hn ((w : Int) - 1)).toNat
theorem hnC_spec : ∀ (l : List Int) (h k : Int) (i : Nat), (i : Int) < hnC l h k - h → l.getD i 0 - 1 ≤ k
  | [], h, k, i, hi => by simp [hnC] at hi; omega
  | w :: l, h, k, i, hi => by
    unfold hnC at hi
    split at hi
    · rename_i c
      cases i with
      | zero => simpa using c
      | succ i => have := hnC_spec l (h + 1) k i (by omega); simpa using this
    · omega
theorem wtsL_drop (i : Nat) : (wtsL.drop 1).getD i 0 = wt (i + 1) := by simp [wt, List.getD_eq_getElem?_getD]
theorem gN_rng (w : Nat) : gN w ≤ 80 := by have := Hn_rng ((w : Int) - 1); unfold gN; omega
theorem gN_Hn (w : Nat) : (gN w : Int) = Hn ((w : Int) - 1) := by have := Hn_rng ((w : Int) - 1); unfold gN; omega
theorem gN_size (n : Nat) : (gN (n + 1) : Int) = Hn n := by rw [gN_Hn]; congr 1; omega
theorem gN_wt {w : Nat} (hw : 1 ≤ w) : wt (gN w) ≤ w := by
  have h0 := Hn_rng ((w : Int) - 1)
  have e := gN_Hn w
  cases h : gN w with
  | zero => have : wt 0 = 1 := rfl
            rw [this]; omega
  | succ g =>
    have := hnC_spec (wtsL.drop 1) 0 ((w : Int) - 1) g (by unfold Hn at e; omega)
    rw [wtsL_drop] at this
    omega
theorem wt_mono1 : ∀ h < 80, wt h < wt (h + 1) := by decide
theorem wt_mono : ∀ {i j : Nat}, i ≤ j → j ≤ 80 → wt i ≤ wt j := by
  intro i j h
  induction h with
  | refl => intro _; exact Int.le_refl _
  | @step m h ih => intro hj; have := ih (by omega); have := wt_mono1 m (by omega); show wt i ≤ wt (m + 1); omega
theorem gN_le {w h : Nat} (h8 : h ≤ 80) (hw : wt h ≤ w) : h ≤ gN w := by
  have hl : (wtsL.drop 1).length = 80 := rfl
  have := hnC_ge (wtsL.drop 1) 0 ((w : Int) - 1) h (by omega) (fun i hi => by
    rw [wtsL_drop]
    have := wt_mono (show i + 1 ≤ h by omega) h8
    omega)
  have e := gN_Hn w
  unfold Hn at e
  omega
theorem gN_mono {v w : Nat} (hv : 1 ≤ v) (h : v ≤ w) : gN v ≤ gN w := gN_le (gN_rng v) (by have := gN_wt hv; omega)
theorem gN_small {w : Nat} (hw : 1 ≤ w) (h : w ≤ 1000000) : gN w ≤ 60 := by
  by_cases c : gN w ≤ 60
  · exact c
  · have h1 := gN_wt hw
    have h2 := wt_mono (show 61 ≤ gN w by omega) (gN_rng w)
    have : wt 61 = 86810659 := rfl
    omega
theorem gN_step {m w : Nat} (hm : 1 ≤ m) (h : 4 * m ≤ 3 * w) (hw : w ≤ 1000000) : gN m + 1 ≤ gN w := by
  have h1 := gN_small hm (by omega)
  have h2 := gN_wt hm
  have h3 := wt_step (gN m) (by omega)
  exact gN_le (by omega) (by omega)
theorem wt_step4 : ∀ h < 77, 4 ≤ h → wt (h + 4) ≤ 4 * wt h - 2 := by decide
theorem gN_step4 {r w : Nat} (hr : 5 ≤ r) (h : 4 * r ≤ w + 2) (hw : w ≤ 1000000) : gN r + 4 ≤ gN w := by
  have h1 := gN_small (w := r) (by omega) (by omega)
  have h2 := gN_wt (w := r) (by omega)
  have h3 : 3 ≤ gN r := gN_le (by decide) (by have : wt 3 = 4 := rfl
                                              omega)
  by_cases c : gN r = 3
  · rw [c]; exact gN_le (by decide) (by have : wt (3 + 4) = 15 := rfl
                                        omega)
  · have := wt_step4 (gN r) (by omega) (by omega)
    exact gN_le (by omega) (by omega)

/-! ### How often a join goes down -/
def dsc (w v : Nat) : Nat := if h : w ≤ 3 * v then 0 else 1 + dsc (3 * w / 4) v
termination_by w
decreasing_by omega
theorem dsc_zero {w v : Nat} (h : w ≤ 3 * v) : dsc w v = 0 := by rw [dsc, dif_pos h]
theorem dsc_succ {w v : Nat} (h : ¬ w ≤ 3 * v) : dsc w v = 1 + dsc (3 * w / 4) v := by rw [dsc, dif_neg h]
theorem dsc_mono (v : Nat) : ∀ (n w w' : Nat), w' < n → w ≤ w' → dsc w v ≤ dsc w' v := by
  intro n
  induction n with
  | zero => intro w w' h; omega
  | succ n ih =>
    intro w w' hn h
    by_cases c : w ≤ 3 * v
    · rw [dsc_zero c]; exact Nat.zero_le _
    · rw [dsc_succ c, dsc_succ (show ¬ w' ≤ 3 * v by omega)]
      have := ih (3 * w / 4) (3 * w' / 4) (by omega) (by omega)
      omega
theorem dsc_one {w v : Nat} (h : w ≤ 3 * v + 3) (hv : 2 ≤ v) : dsc w v ≤ 1 := by
  by_cases c : w ≤ 3 * v
  · rw [dsc_zero c]; omega
  · rw [dsc_succ c, dsc_zero (by omega)]; omega
theorem dsc_two {w : Nat} (h : w ≤ 6) : dsc w 1 ≤ 2 := by
  by_cases c : w ≤ 3
  · rw [dsc_zero (by omega)]; omega
  · rw [dsc_succ (by omega)]
    by_cases d : 3 * w / 4 ≤ 3
    · rw [dsc_zero (by omega)]; omega
    · rw [dsc_succ (by omega), dsc_zero (by omega)]; omega
theorem dsc_tiny {w : Nat} (h : w ≤ 5) : dsc w 1 ≤ 1 := by
  by_cases c : w ≤ 3
  · rw [dsc_zero (by omega)]; omega
  · rw [dsc_succ (by omega), dsc_zero (by omega)]; omega
/-- What a join of trees of these sizes may need. -/
def jB (a b : Nat) : Nat := 1 + 3 * (dsc (a + 1) (b + 1) + dsc (b + 1) (a + 1))
theorem jB_pos (a b : Nat) : 1 ≤ jB a b := by unfold jB; omega
theorem jB_comm (a b : Nat) : jB a b = jB b a := by unfold jB; omega
theorem jB_bal {a b : Nat} (h : balN a b) : jB a b = 1 := by
  unfold balN at h
  unfold jB
  rw [dsc_zero (by omega), dsc_zero (by omega)]
theorem jB_down {s m r : Nat} (h : balN s m) (hb : ¬ balN ((s + m + 1 : Nat) : Int) r) (hg : r < s + m + 1) : jB m r + 3 ≤ jB (s + m + 1) r := by
  unfold balN at h hb
  unfold jB
  rw [dsc_zero (w := r + 1) (by omega), dsc_zero (w := r + 1) (by omega), dsc_succ (w := s + m + 1 + 1) (by omega)]
  have := dsc_mono (r + 1) (3 * (s + m + 1 + 1) / 4 + 1) (m + 1) (3 * (s + m + 1 + 1) / 4) (by omega) (by omega)
  omega
/-! ### Rotations -/
def near (a b : Nat) : Prop := 3 * (b + 1) ≤ 13 * (a + 1) ∧ 3 * (a + 1) ≤ 13 * (b + 1)
theorem join_near {s m r : Nat} (h : balN s m) (hb : ¬ balN ((s + m + 1 : Nat) : Int) r) (hg : r < s + m + 1) : near s (m + r + 1) := by
  unfold balN at h hb
  unfold near
  omega
theorem rot_nil {a s : Nat} (hn : near a (0 + s + 1)) (h1 : balN (0 : Nat) s) (_ : ¬ balN a ((0 + s + 1 : Nat) : Int)) (hlt : a < 0 + s + 1) : balN a (0 : Nat) ∧ balN ((a + 0 + 1 : Nat) : Int) s := by
  unfold balN at *
  unfold near at hn
  omega
theorem rot_two {a s x y : Nat} (hn : near a (x + y + 1 + s + 1)) (h1 : balN ((x + y + 1 : Nat) : Int) s) (h2 : balN x y) (hb : ¬ balN a ((x + y + 1 + s + 1 : Nat) : Int)) (hlt : a < x + y + 1 + s + 1)
    (hc : ¬ (balN a ((x + y + 1 : Nat) : Int) ∧ balN ((a + (x + y + 1) + 1 : Nat) : Int) s)) : balN a x ∧ balN y s ∧ balN ((a + x + 1 : Nat) : Int) ((y + s + 1 : Nat) : Int) := by
  unfold balN at *
  unfold near at hn
  omega
theorem near_comm {a b : Nat} (h : near a b) : near b a := ⟨h.2, h.1⟩
theorem balN_comm {a b : Int} (h : balN a b) : balN b a := ⟨h.2, h.1⟩
/-! ### States between -/
variable {S S' S1 S2 : Arn} {hs h1 h2 hs1 hs2 : List Int}
structure Got (S : Arn) (hs : List Int) (mk rd : Nat) (S' : Arn) (hs' : List Int) : Prop where
  wf : Wf S' hs'
  stay : Stay S S' hs
  len : S'.used.length = S.used.length
  nu : S'.nu ≤ S.nu + mk
  rd0 : S.reads ≤ S'.reads
  rd : S'.reads ≤ S.reads + rd
theorem Got.free {m r : Nat} (h : Got S hs m r S' hs1) (w : Wf S hs2) : S.free ≤ S'.free + m := by
  have a := w.free_nonneg.2.2.2
  have b := h.wf.free_nonneg.2.2.2
  have c : S'.cap = S.cap := by unfold Arn.cap; rw [h.len]
  have := h.nu
  omega
theorem Got.seq {h : List Int} {m1 r1 m2 r2 : Nat} (a : Got S h1 m1 r1 S1 hs1) (b : Got S1 h2 m2 r2 S2 hs2) (e1 : ∀ i ∈ h, i ∈ h1) (e2 : ∀ i ∈ h, i ∈ h2) : Got S h (m1 + m2) (r1 + r2) S2 hs2 where
  wf := b.wf
  stay := (a.stay.mono e1).trans (b.stay.mono e2)
  len := b.len.trans a.len
  nu := by have := a.nu; have := b.nu; omega
  rd0 := Int.le_trans a.rd0 b.rd0
  rd := by have := a.rd; have := b.rd; omega
theorem Got.mono {m r m' r' : Nat} (a : Got S hs m r S' hs1) (h1 : m ≤ m') (h2 : r ≤ r') : Got S hs m' r' S' hs1 where
  wf := a.wf
  stay := a.stay
  len := a.len
  nu := by have := a.nu; omega
  rd0 := a.rd0
  rd := by have := a.rd; omega
theorem Got.perm {m r : Nat} (a : Got S hs m r S' hs1) (p : hs1.Perm hs2) : Got S hs m r S' hs2 := ⟨a.wf.perm p, a.stay, a.len, a.nu, a.rd0, a.rd⟩
theorem Got.rds (w : Wf S hs1) {n : Nat} (hn : S.reads + n ≤ 4000000000000000000) : Got S hs 0 n (rdS S n) hs1 where
  wf := w.rd hn
  stay := stay_rd S n hs
  len := rfl
  nu := Nat.le_refl _
  rd0 := by show S.reads ≤ S.reads + n; omega
  rd := Int.le_refl _
theorem Got.refl (w : Wf S hs1) : Got S hs 0 0 S hs1 := ⟨w, Stay.refl _ _, rfl, Nat.le_refl _, Int.le_refl _, by omega⟩
theorem Got.node {k v : Int} {tl tr : Tr} {i : Int} (n : NodeR S hs k v tl tr S' i) : Got S hs 1 0 S' (i :: hs) := ⟨n.wf, n.stay, n.len, by rw [n.nu]; exact Nat.le_refl _, by rw [n.rds]; exact Int.le_refl _, by rw [n.rds]; omega⟩
/-- A balanced tree with these entries is made, and held. -/
structure TrR (S : Arn) (hs : List Int) (L : List Ent) (mk rd : Nat) (S' : Arn) (i : Int) : Prop where
  got : Got S hs mk rd S' (i :: hs)
  tree : ∃ t, Rep S' t i ∧ t.list = L ∧ t.Bal
theorem TrR.mono {L : List Ent} {m r m' r' : Nat} {i : Int} (a : TrR S hs L m r S' i) (h1 : m ≤ m') (h2 : r ≤ r') : TrR S hs L m' r' S' i := ⟨a.got.mono h1 h2, a.tree⟩
end Go.Proofs.Ytmjnoiajenoinaa
end
section
/- Taking a node apart, holding and giving back a tree. No program in sight. -/
namespace Go.Proofs.Ytmjnoiajenoinaa
open Go

variable {S S' S1 S2 : Arn} {hs h1 h2 hs1 hs2 : List Int}

theorem countP_le : ∀ (l m : List Bool), l.length = m.length → (∀ i : Nat, m.getD i false = true → l.getD i false = true) → m.countP id ≤ l.countP id
  | [], [], _, _ => Nat.le_refl _
  | [], _ :: _, h, _ => by simp at h
  | _ :: _, [], h, _ => by simp at h
  | a :: l, b :: m, h, hi => by
    have h0 := hi 0
    have ih := countP_le l m (by simpa using h) (fun i => by simpa using hi (i + 1))
    simp at h0
    rw [List.countP_cons, List.countP_cons]
    cases a <;> cases b <;> simp_all <;> omega
theorem Kept.nu_le (k : Kept S S') : S'.nu ≤ S.nu := by
  unfold Arn.nu
  refine countP_le _ _ k.len.symm fun i hi => ?_
  have := (k.kp (i : Int) (by unfold Arn.us; simpa using hi)).1
  unfold Arn.us at this
  simpa using this
/-- One more reference to a tree that may be empty. -/
def retL (S : Arn) (i : Int) : Arn := if i = 0 then S else retA S i
theorem retL_flds (S : Arn) (i : Int) : (retL S i).reads = S.reads ∧ (retL S i).used = S.used ∧ (∀ j, (retL S i).us j = S.us j) ∧ (∀ j, (retL S i).nd j = S.nd j) ∧ (∀ j, (retL S i).gn j = S.gn j) := by
  unfold retL; split <;> exact ⟨rfl, rfl, fun _ => rfl, fun _ => rfl, fun _ => rfl⟩
theorem retL_wf (w : Wf S hs) {i : Int} (hi : i = 0 ∨ S.us i = true) (hl : hs.length ≤ 999999990) : Wf (retL S i) (i :: hs) := by
  unfold retL
  split
  · rename_i e; subst e; exact w.zero_cons (by omega)
  · rename_i e; exact w.ret (hi.resolve_left e) (by omega)
theorem retL_got (w : Wf S hs1) {i : Int} (hi : i = 0 ∨ S.us i = true) (hl : hs1.length ≤ 999999990) : Got S hs 0 0 (retL S i) (i :: hs1) := by
  obtain ⟨a, b, c, d, e⟩ := retL_flds S i
  exact ⟨retL_wf w hi hl, stay_same c d e hs, by rw [b], by unfold Arn.nu; rw [b]; exact Nat.le_refl _, by rw [a]; exact Int.le_refl _, by rw [a]; omega⟩
theorem Rep.retL {t : Tr} {i j : Int} (h : Rep S t i) : Rep (retL S j) t i := Rep.same (retL_flds S j).2.2.1 (retL_flds S j).2.2.2.1 h
/-- A tree is given back. -/
theorem rel_got {i : Int} (w : Wf S (i :: hs1)) (w' : Wf S' hs1) (k : Kept S S') : Got S hs1 0 0 S' hs1 := ⟨w', k.stay w w', k.len, k.nu_le, by rw [k.rds]; exact Int.le_refl _, by rw [k.rds]; omega⟩
/-- A node is taken apart. -/
structure OpnR (S : Arn) (hs : List Int) (a : Tr) (k v : Int) (b : Tr) (S' : Arn) (l r : Int) : Prop where
  got : Got S hs 0 1 S' (l :: r :: hs)
  repl : Rep S' a l
  repr : Rep S' b r
theorem opn_wf {i : Int} {a b : Tr} {k v : Int} (w : Wf S (i :: hs)) (hr : Rep S (.node a k v b) i) (hl : hs.length ≤ 900000000) (hrd : S.reads + 1 ≤ 4000000000000000000) :
    Wf (rdS S 1) (i :: hs) ∧ Wf (retL (rdS S 1) (S.nd i).left) ((S.nd i).left :: i :: hs) ∧ Wf (retL (retL (rdS S 1) (S.nd i).left) (S.nd i).right) (i :: (S.nd i).left :: (S.nd i).right :: hs) := by
  have w1 : Wf (rdS S 1) (i :: hs) := w.rd (by omega)
  have hk := w.kid i hr.1
  have w2 := retL_wf w1 (i := (S.nd i).left) hk.1 (by simp; omega)
  have w3 := retL_wf w2 (i := (S.nd i).right) (by rw [(retL_flds _ _).2.2.1]; exact hk.2) (by simp; omega)
  refine ⟨w1, w2, w3.perm ?_⟩
  refine (List.Perm.swap _ _ _).trans ?_
  refine ((List.Perm.swap _ _ _).cons _).trans ?_
  exact List.Perm.swap _ _ _
theorem opn_ok {i : Int} {a b : Tr} {k v : Int} (w : Wf S (i :: hs)) (hr : Rep S (.node a k v b) i) (hl : hs.length ≤ 900000000) (hrd : S.reads + 1 ≤ 4000000000000000000)
    (w' : Wf S' ((S.nd i).left :: (S.nd i).right :: hs)) (kp : Kept (retL (retL (rdS S 1) (S.nd i).left) (S.nd i).right) S') : OpnR S hs a k v b S' (S.nd i).left (S.nd i).right := by
  obtain ⟨w1, w2, w3⟩ := opn_wf w hr hl hrd
  have hk := w.kid i hr.1
  have g1 : Got S hs 0 1 (rdS S 1) (i :: hs) := Got.rds w (by omega)
  have g2 : Got (rdS S 1) hs 0 0 _ _ := retL_got (hs := hs) w1 (i := (S.nd i).left) hk.1 (by simp; omega)
  have g3 : Got (retL (rdS S 1) (S.nd i).left) hs 0 0 _ _ := retL_got (hs := hs) w2 (i := (S.nd i).right) (by rw [(retL_flds _ _).2.2.1]; exact hk.2) (by simp; omega)
  have g4 := rel_got w3 w' kp
  refine ⟨(((g1.seq g2 (h := hs) (fun _ h => h) (fun _ h => h)).seq g3 (fun _ h => h) (fun _ h => h)).seq g4 (fun _ h => h) (fun _ h => by simp [h])), ?_, ?_⟩
  · have h1 : Rep (retL (retL (rdS S 1) (S.nd i).left) (S.nd i).right) a (S.nd i).left := (Rep.same (S := S) (S' := rdS S 1) (fun _ => rfl) (fun _ => rfl) hr.2.2.2.1).retL.retL
    exact h1.held w3 (kp.stay w3 w') (.inr (by simp))
  · have h1 : Rep (retL (retL (rdS S 1) (S.nd i).left) (S.nd i).right) b (S.nd i).right := (Rep.same (S := S) (S' := rdS S 1) (fun _ => rfl) (fun _ => rfl) hr.2.2.2.2).retL.retL
    exact h1.held w3 (kp.stay w3 w') (.inr (by simp))
theorem perm_rot {α : Type} (a b c : α) (l : List α) : (a :: b :: c :: l).Perm (c :: a :: b :: l) := ((List.Perm.swap c b l).cons a).trans (List.Perm.swap c a (b :: l))
theorem perm_tor {α : Type} (a b c : α) (l : List α) : (a :: b :: c :: l).Perm (b :: c :: a :: l) := (perm_rot b c a l).symm
theorem Got.rdn {m r n k : Nat} (a : Got S hs m r S1 hs1) (hn : n ≤ k) (hb : S1.reads + n ≤ 4000000000000000000) : Got S hs m (r + k) (rdS S1 n) hs1 :=
  (a.seq (Got.rds (hs := hs) a.wf hb) (fun _ h => h) (fun _ h => h)).mono (by omega) (by omega)
theorem Rep.rdn {t : Tr} {i : Int} {n : Nat} (h : Rep S t i) : Rep (rdS S n) t i := Rep.same (S := S) (S' := rdS S n) (fun _ => rfl) (fun _ => rfl) h
/-! ### Rotations on the arena -/
section
variable {S0 S3 S4 : Arn} {A M B x y : Tr} {k1 v1 k2 v2 k3 v3 u m w i j q ix iy : Int} {r0 : Nat}
theorem single_okL (g : Got S0 hs 0 r0 S (u :: m :: w :: hs)) (n1 : NodeR S (w :: hs) k1 v1 A M S2 i) (n2 : NodeR S2 hs k2 v2 (.node A k1 v1 M) B S3 j)
    (bA : A.Bal) (bM : M.Bal) (bB : B.Bal) (c1 : balN A.size M.size) (c2 : balN ((A.size + M.size + 1 : Nat) : Int) B.size) : TrR S0 hs (A.list ++ (k1, v1) :: (M.list ++ (k2, v2) :: B.list)) 3 (r0 + 1) S3 j where
  got := ((g.seq (Got.node n1) (h := hs) (fun _ h => h) (fun _ h => by simp [h])).seq (Got.node n2) (fun _ h => h) (fun _ h => h)).mono (by omega) (by omega)
  tree := ⟨_, n2.rep, by simp [Tr.list], by
    refine ⟨?_, ⟨c1, bA, bM⟩, bB⟩
    have e : ((Tr.node A k1 v1 M).size : Int) = ((A.size + M.size + 1 : Nat) : Int) := by simp [Tr.size]; omega
    rw [e]; exact c2⟩
theorem single_okR (g : Got S0 hs 0 r0 S (u :: m :: w :: hs)) (n1 : NodeR S (u :: hs) k2 v2 M B S2 i) (n2 : NodeR S2 hs k1 v1 A (.node M k2 v2 B) S3 j)
    (bA : A.Bal) (bM : M.Bal) (bB : B.Bal) (c1 : balN M.size B.size) (c2 : balN A.size ((M.size + B.size + 1 : Nat) : Int)) : TrR S0 hs (A.list ++ (k1, v1) :: (M.list ++ (k2, v2) :: B.list)) 3 (r0 + 1) S3 j where
  got := ((g.seq (Got.node n1) (h := hs) (fun _ h => h) (fun _ h => by simp [h])).seq (Got.node n2) (fun _ h => h) (fun _ h => h)).mono (by omega) (by omega)
  tree := ⟨_, n2.rep, by simp [Tr.list], by
    refine ⟨?_, bA, ⟨c1, bM, bB⟩⟩
    have e : ((Tr.node M k2 v2 B).size : Int) = ((M.size + B.size + 1 : Nat) : Int) := by simp [Tr.size]; omega
    rw [e]; exact c2⟩
theorem double_ok (g : Got S0 hs 0 r0 S (u :: m :: w :: hs)) (o : OpnR S (u :: w :: hs) x k3 v3 y S1 ix iy) (n1 : NodeR S1 (iy :: w :: hs) k1 v1 A x S2 i) (n2 : NodeR S2 (i :: hs) k2 v2 y B S3 j)
    (n3 : NodeR S3 hs k3 v3 (.node A k1 v1 x) (.node y k2 v2 B) S4 q) (bA : A.Bal) (bx : x.Bal) (bY : y.Bal) (bB : B.Bal) (c1 : balN A.size x.size) (c2 : balN y.size B.size) (c3 : balN ((A.size + x.size + 1 : Nat) : Int) ((y.size + B.size + 1 : Nat) : Int)) :
    TrR S0 hs (A.list ++ (k1, v1) :: (x.list ++ (k3, v3) :: (y.list ++ (k2, v2) :: B.list))) 3 (r0 + 1) S4 q where
  got := ((((g.seq o.got (h := hs) (fun _ h => h) (fun _ h => by simp [h])).seq (Got.node n1) (h := hs) (fun _ h => h) (fun _ h => by simp [h])).seq (Got.node n2) (h := hs) (fun _ h => h) (fun _ h => by simp [h])).seq (Got.node n3) (fun _ h => h) (fun _ h => h)).mono (by omega) (by omega)
  tree := ⟨_, n3.rep, by simp [Tr.list], by
    refine ⟨?_, ⟨c1, bA, bx⟩, ⟨c2, bY, bB⟩⟩
    have e : ((Tr.node A k1 v1 x).size : Int) = ((A.size + x.size + 1 : Nat) : Int) := by simp [Tr.size]; omega
    have e2 : ((Tr.node y k2 v2 B).size : Int) = ((y.size + B.size + 1 : Nat) : Int) := by simp [Tr.size]; omega
    rw [e, e2]; exact c3⟩
end
end Go.Proofs.Ytmjnoiajenoinaa
end
section
/- The arena that compacting makes: its slots are the numbered nodes, in order. -/
namespace Go.Proofs.Ytmjnoiajenoinaa
open Go

section
variable {us : Int → Bool} {lf rg : Int → Int}
/-- What is numbered is a root, or a child of what is numbered. -/
theorem NumG.par {i : Int} {acc a : List Int} (h : NumG us lf rg i acc a) : ∀ j ∈ a, j ∈ acc ∨ j = i ∨ ∃ k ∈ a, lf k = j ∨ rg k = j := by
  induction h with
  | skip _ => exact fun j hj => .inl hj
  | @go i acc a1 a2 u n h1 h2 ih1 ih2 =>
    intro j hj
    have me : i ∈ a2 ++ [i] := by simp
    rcases List.mem_append.1 hj with hj | hj
    · rcases ih2 j hj with q | q | ⟨k, hk, q⟩
      · rcases ih1 j q with q | q | ⟨k, hk, q⟩
        · exact .inl q
        · exact .inr (.inr ⟨i, me, .inl q.symm⟩)
        · exact .inr (.inr ⟨k, List.mem_append.2 (.inl (h2.sub hk)), q⟩)
      · exact .inr (.inr ⟨i, me, .inr q.symm⟩)
      · exact .inr (.inr ⟨k, List.mem_append.2 (.inl hk), q⟩)
    · exact .inr (.inl (List.mem_singleton.1 hj))
theorem NumsG.par {r acc a : List Int} (h : NumsG us lf rg r acc a) : ∀ j ∈ a, j ∈ acc ∨ j ∈ r ∨ ∃ k ∈ a, lf k = j ∨ rg k = j := by
  induction h with
  | nil => exact fun j hj => .inl hj
  | @cons i r acc a1 a2 h1 h2 ih =>
    intro j hj
    rcases ih j hj with q | q | q
    · rcases h1.par j q with q | q | ⟨k, hk, q⟩
      · exact .inl q
      · exact .inr (.inl (by rw [q]; exact List.mem_cons_self ..))
      · exact .inr (.inr ⟨k, h2.sub hk, q⟩)
    · exact .inr (.inl (List.mem_cons_of_mem _ q))
    · exact .inr (.inr q)
end
def cpN (S : Arn) (l : List Int) (j : Int) : NodeT := { S.nd j with left := plcN l (lfA S j), right := plcN l (rgA S j) }
/-- The numbers i + 1 to n. -/
def hsI (i n : Nat) : List Int := ((List.range n).drop i).map fun (p : Nat) => (p : Int) + 1
structure CpB (S : Arn) (l : List Int) (c : Int) (k : Nat) (hs : List Int) (B : Arn) : Prop where
  wf : Wf B hs
  fresh : B.fresh = k
  rel : B.rel = []
  len : (B.used.length : Int) = c + 1
  rd : B.reads = 0
  nd : ∀ (p : Nat) (j : Int), p < k → l[p]? = some j → B.nd ((p : Int) + 1) = cpN S l j
  gn : ∀ p : Int, 1 ≤ p → B.gn p = if p ≤ k then 1 else 0
/-- A list of nodes of an arena, children first. -/
structure LsN (S : Arn) (l : List Int) : Prop where
  nd : l.Nodup
  ord : OrdG S.us (lfA S) (rgA S) l
variable {S B : Arn} {hs hb l : List Int} {c : Int} {k : Nat}
theorem LsN.used (h : LsN S l) : ∀ j ∈ l, S.us j = true := fun j hj => by
  obtain ⟨k, hk⟩ := List.mem_iff_getElem?.1 hj
  exact (h.ord k j hk).1
theorem LsN.of (hw : Wf S hs) {rs : List Int} (h : NumsA S rs [] l) : LsN S l := ⟨h.nodup (szA_kids hw) List.nodup_nil, h.ord .nil⟩
theorem LsN.plc0 (h : LsN S l) (hw : Wf S hs) : plcN l 0 = 0 := plcN_none fun q => by
  have := h.used 0 q
  rw [hw.us0 (Int.le_refl 0)] at this; cases this
theorem CpB.us (h : CpB S l c k hb B) (i : Int) : B.us i = true ↔ 1 ≤ i ∧ i ≤ k := by
  rw [h.wf.use, h.fresh, h.rel]
  simp
theorem CpB.free (h : CpB S l c k hb B) : B.free = c - k := by
  unfold Arn.free Arn.cap
  rw [h.rel, h.fresh]
  have := h.len
  show ((0 : Nat) : Int) + (_ - 1) - _ = _
  omega
theorem CpB.new (h1 : 1 ≤ c) (h2 : c ≤ 65536) : CpB S l c 0 [] (newS c.toNat) where
  wf := Wf.new (by omega) (by omega)
  fresh := rfl
  rel := rfl
  len := by show ((List.replicate (c.toNat + 1) false).length : Int) = c + 1; rw [List.length_replicate]; omega
  rd := rfl
  nd := fun p j hp _ => absurd hp (Nat.not_lt_zero _)
  gn := fun p hp => by
    rw [if_neg (by omega)]
    exact getD_replicate _ _ _
theorem take_plc {q : Nat} {x : Int} (hn : l.Nodup) (hx : x ∈ l.take q) : ∃ p, p < q ∧ l[p]? = some x ∧ plcN l x = (p : Int) + 1 := by
  obtain ⟨p, hp⟩ := List.mem_iff_getElem?.1 hx
  rw [List.getElem?_take] at hp
  split at hp
  · rename_i z
    exact ⟨p, z, hp, plcN_at hn hp⟩
  · cases hp
/-- A child's place is 0, or the place of a node that comes before. -/
def KidN (l : List Int) (k : Nat) (x : Int) : Prop := (x = 0 ∧ plcN l x = 0) ∨ (x ≠ 0 ∧ ∃ p, p < k ∧ l[p]? = some x ∧ plcN l x = (p : Int) + 1)
theorem LsN.kid (h : LsN S l) (hw : Wf S hs) {q : Nat} {x : Int} (h0 : x = 0 ∨ S.us x = true) (hx : S.us x = true → x ∈ l.take q) : KidN l q x := by
  rcases h0 with rfl | u
  · exact .inl ⟨rfl, h.plc0 hw⟩
  · exact .inr ⟨fun e => (by rw [e, hw.us0 (Int.le_refl 0)] at u; cases u), take_plc h.nd (hx u)⟩
theorem LsN.kids (h : LsN S l) (hw : Wf S hs) {q : Nat} {j : Int} (hj : l[q]? = some j) : S.us j = true ∧ KidN l q (lfA S j) ∧ KidN l q (rgA S j) := by
  obtain ⟨u, h1, h2⟩ := h.ord q j hj
  have k := hw.kid j u
  exact ⟨u, h.kid hw k.1 h1, h.kid hw k.2 h2⟩
theorem addC_cp (h : CpB S l c k hb B) {x : Int} (hx : KidN l k x) (n : NodeT) : addC B n (plcN l x) = addC S n x := by
  unfold addC
  rcases hx with ⟨e, z⟩ | ⟨x0, p, hp, e, z⟩
  · rw [if_pos z, if_pos e]
  · rw [if_neg (by omega), if_neg x0, z, h.nd p x hp e]
    rfl
theorem addC_lr (S : Arn) (n : NodeT) (x a b : Int) : addC S { n with left := a, right := b } x = { addC S n x with left := a, right := b } := by
  unfold addC; split <;> rfl
theorem mkNode_lr (S : Arn) (k v l r a b : Int) : addC S (addC S ⟨k, v, a, b, 1, v, v, v⟩ l) r = { mkNode S k v l r with left := a, right := b } := by
  unfold mkNode
  have e1 := addC_lr S ⟨k, v, l, r, 1, v, v, v⟩ l a b
  have e2 := addC_lr S (addC S ⟨k, v, l, r, 1, v, v, v⟩ l) r a b
  rw [← e2, ← e1]
theorem mkNode_cp (h : CpB S l c k hb B) (ll : LsN S l) (hw : Wf S hs) {j : Int} (hj : l[k]? = some j) : mkNode B (S.nd j).key (S.nd j).value (plcN l (lfA S j)) (plcN l (rgA S j)) = cpN S l j := by
  obtain ⟨u, h1, h2⟩ := ll.kids hw hj
  have e : mkNode B (S.nd j).key (S.nd j).value (plcN l (lfA S j)) (plcN l (rgA S j)) = { mkNode S (S.nd j).key (S.nd j).value (lfA S j) (rgA S j) with left := plcN l (lfA S j), right := plcN l (rgA S j) } := by
    rw [← mkNode_lr]
    show addC B (addC B _ _) _ = _
    rw [addC_cp h h1, addC_cp h h2]
  rw [e]
  have a := hw.agg j u
  unfold cpN
  show { mkNode S (S.nd j).key (S.nd j).value (S.nd j).left (S.nd j).right with left := plcN l (lfA S j), right := plcN l (rgA S j) } = _
  rw [← a]
theorem hsI_len (i n : Nat) : (hsI i n).length = n - i := by simp [hsI]
theorem hsI_snoc (k : Nat) : hsI 0 (k + 1) = hsI 0 k ++ [(k : Int) + 1] := by
  simp [hsI, List.range_succ]
theorem hsI_cons {i n : Nat} (h : i < n) : hsI i n = ((i : Int) + 1) :: hsI (i + 1) n := by
  unfold hsI
  rw [List.drop_eq_getElem_cons (by simpa using h), List.map_cons, List.getElem_range]
theorem hsI_end (n : Nat) : hsI n n = [] := by simp [hsI]
theorem KidN.live (h : CpB S l c k hb B) {x : Int} (hx : KidN l k x) : plcN l x = 0 ∨ B.us (plcN l x) = true := by
  rcases hx with ⟨_, z⟩ | ⟨_, p, hp, _, z⟩
  · exact .inl z
  · exact .inr ((h.us _).2 (by omega))
theorem CpB.nxt (h : CpB S l c k hb B) : nxt B = (k : Int) + 1 := by
  unfold Go.Proofs.Ytmjnoiajenoinaa.nxt freshS fresh3
  rw [h.rel, h.fresh]; rfl
structure MkR (S B : Arn) (l : List Int) (c : Int) (k : Nat) (j : Int) : Prop where
  fl : plcN l (lfA S j) = 0 ∨ B.us (plcN l (lfA S j)) = true
  fr : plcN l (rgA S j) = 0 ∨ B.us (plcN l (rgA S j)) = true
  size : (mkNode B (S.nd j).key (S.nd j).value (plcN l (lfA S j)) (plcN l (rgA S j))).size ≤ maxSize
  free : 0 < B.free
  next : CpB S l c (k + 1) (hsI 0 (k + 1)) (makeS B (S.nd j).key (S.nd j).value (plcN l (lfA S j)) (plcN l (rgA S j)))
theorem CpB.make (h : CpB S l c k (hsI 0 k) B) (ll : LsN S l) (hw : Wf S hs) {j : Int} (hj : l[k]? = some j) (hc : (l.length : Int) ≤ c) : MkR S B l c k j := by
  obtain ⟨u, h1, h2⟩ := ll.kids hw hj
  have kl : k < l.length := (List.getElem?_eq_some_iff.1 hj).1
  have em := mkNode_cp h ll hw hj
  have z := hw.siz j u
  have fr : 0 < B.free := by rw [h.free]; omega
  have l1 := h1.live h
  have l2 := h2.live h
  have sz : (mkNode B (S.nd j).key (S.nd j).value (plcN l (lfA S j)) (plcN l (rgA S j))).size ≤ maxSize := by rw [em]; exact z.2.1
  have b2 := h.wf.n2
  have ln := h.len
  have nx := h.nxt
  have wf := h.wf.make (k := (S.nd j).key) (v := (S.nd j).value) l1 l2 fr sz (by rw [hsI_len]; omega)
  have fs : freshS B = ((k : Int) + 1, [], (k : Int) + 1) := by unfold freshS fresh3; rw [h.rel, h.fresh]; rfl
  refine ⟨l1, l2, sz, fr, ?_, ?_, ?_, ?_, h.rd, fun p i hp hi => ?_, fun p hp => ?_⟩
  · rw [nx] at wf
    rw [hsI_snoc]
    exact wf.perm (List.perm_append_singleton _ _).symm
  · show (freshS B).2.2 = _
    rw [fs]; simp
  · show (freshS B).2.1 = _
    rw [fs]
  · show ((B.used.set _ true).length : Int) = _
    rw [List.length_set]; exact ln
  · show (B.nodes.set (Go.Proofs.Ytmjnoiajenoinaa.nxt B).toNat (mkNode B _ _ _ _)).getD ((p : Int) + 1).toNat NodeT.zero = _
    rw [getD_set, nx, em]
    by_cases e : p = k
    · subst e
      rw [if_pos ⟨rfl, by rw [h.wf.nnod]; omega⟩]
      rw [hj] at hi
      rw [Option.some.inj hi]
    · rw [if_neg (by omega)]
      exact h.nd p i (by omega) hi
  · show (B.gen.set (Go.Proofs.Ytmjnoiajenoinaa.nxt B).toNat (IntKind.u32.wrap (B.gn (Go.Proofs.Ytmjnoiajenoinaa.nxt B) + 1))).getD p.toNat 0 = _
    rw [getD_set, nx]
    by_cases e : p = (k : Int) + 1
    · rw [if_pos ⟨by omega, by rw [h.wf.ngen]; omega⟩, h.gn _ (by omega), if_neg (by omega), if_pos (by omega)]
      decide
    · rw [if_neg (by omega)]
      have q := h.gn p hp
      unfold Arn.gn at q
      rw [q]
      by_cases y : p ≤ (k : Int)
      · rw [if_pos y, if_pos (by omega)]
      · rw [if_neg y, if_neg (by omega)]
theorem CpB.perm {hb' : List Int} (h : CpB S l c k hb B) (p : hb.Perm hb') : CpB S l c k hb' B := { h with wf := h.wf.perm p }
theorem CpB.ret (h : CpB S l c k hb B) {i : Int} (hi : i = 0 ∨ B.us i = true) (hl : hb.length ≤ 999999990) : CpB S l c k (i :: hb) (retL B i) := by
  obtain ⟨f1, f2, f3, f4, f5⟩ := retL_flds B i
  refine ⟨retL_wf h.wf hi hl, ?_, ?_, by rw [f2]; exact h.len, by rw [f1]; exact h.rd, fun p j hp hj => by rw [f4]; exact h.nd p j hp hj, fun p hp => by rw [f5]; exact h.gn p hp⟩
  · rw [← h.fresh]; unfold retL; split <;> rfl
  · rw [← h.rel]; unfold retL; split <;> rfl
theorem CpB.dec {i : Int} (h : CpB S l c k (i :: hb) B) (u : B.us i = true) (h1 : 1 < B.ct i) : CpB S l c k hb (decS B i) :=
  ⟨h.wf.dec u h1, h.fresh, h.rel, h.len, h.rd, h.nd, h.gn⟩
/-- Each of the nodes is held by a root, or by another node. -/
theorem CpB.two {rs : List Int} {i : Nat} (hn : NumsA S rs [] l) (ll : LsN S l) (hi : i < l.length) (h : CpB S l c l.length (((i : Int) + 1) :: (rs.map (plcN l) ++ hb)) B) : B.us ((i : Int) + 1) = true ∧ 1 < B.ct ((i : Int) + 1) := by
  have u : B.us ((i : Int) + 1) = true := (h.us _).2 (by omega)
  refine ⟨u, ?_⟩
  obtain ⟨h1, _⟩ := h.wf.cnt _ u
  rw [List.count_cons_self, List.count_append] at h1
  obtain ⟨j, hj⟩ : ∃ j, l[i]? = some j := ⟨_, List.getElem?_eq_getElem hi⟩
  have pj := plcN_at ll.nd hj
  rcases hn.par j (List.mem_of_getElem? hj) with q | q | ⟨x, hx, q⟩
  · cases q
  · have : 0 < (rs.map (plcN l)).count ((i : Int) + 1) := List.count_pos_iff.2 (by rw [← pj]; exact List.mem_map.2 ⟨j, q, rfl⟩)
    omega
  · obtain ⟨m, hm⟩ := List.mem_iff_getElem?.1 hx
    have ml : m < l.length := (List.getElem?_eq_some_iff.1 hm).1
    have en := h.nd m x ml hm
    have ln := h.wf.nnod
    have le : (m : Int) + 1 < B.used.length := by
      have := h.wf.pos ((h.us ((m : Int) + 1)).2 (by omega))
      omega
    have mem : B.nd ((m : Int) + 1) ∈ B.nodes := by
      unfold Arn.nd
      rw [List.getD_eq_getElem?_getD, List.getElem?_eq_getElem (by omega)]
      exact List.getElem_mem _
    have : 0 < B.indeg ((i : Int) + 1) := by
      unfold Arn.indeg
      rcases q with q | q
      · have : 0 < B.nodes.countP (fun x => x.left == (i : Int) + 1) := List.countP_pos_iff.2 ⟨_, mem, by rw [en]; show (plcN l (lfA S x) == _) = true; rw [q, pj]; simp⟩
        omega
      · have : 0 < B.nodes.countP (fun x => x.right == (i : Int) + 1) := List.countP_pos_iff.2 ⟨_, mem, by rw [en]; show (plcN l (rgA S x) == _) = true; rw [q, pj]; simp⟩
        omega
    omega
end Go.Proofs.Ytmjnoiajenoinaa
end
