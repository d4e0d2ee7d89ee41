/- Planting trees: the statements' helpers. -/
import Derived.Test.YtacdmmomkngpkaaQAn
import Derived.Test.YtacdmmomkngpkaaQR9
import Derived.Test.YtacdmmomkngpkaaArC
namespace Go.Proofs.Ytacdmmomkngpkaa.Sx
open Go

/-KEEP Wf Kept makeS relA nxt decS NodeR exW inU live Arn.cap Arn.free balN PlantR maxSize mkNode-/
def tLeast : Tfm C0 := fun args H K => match args, H with
  | [.at (.val (.int .i64 n))], [] => 0 ≤ n ∧ n ≤ 1000000 ∧ ∀ x, x = n / 4 → K (.one (.at (vI x))) [] []
  | _, _ => False
def balB (l r : Int) : Bool := decide (balN l r)
def tBal : Tfm C0 := fun args H K => match args, H with
  | [.at (.val (.int .i64 l)), .at (.val (.int .i64 r))], [] => 0 ≤ l ∧ l ≤ 1000000 ∧ 0 ≤ r ∧ r ≤ 1000000 ∧ ∀ b, b = balB l r → K (.one (.at (vB b))) [] []
  | _, _ => False
structure XPv (n : Int) where
  lo : Int
  h : 0 ≤ lo ∧ lo < n ∧ balN lo (n - 1 - lo)
noncomputable def aPivot (n : Int) : Ann C0 := { Γ := [(125, frameT [] tLeast), (126, frameT [] tBal)], inv := fun k => match k with
  | 2 => some { X := XPv n, sl := [5], tf := fun x => [vi .i64 x.lo], hf := fun _ => [], μ := fun x => x.lo.toNat }
  | 4 => some { X := XPv n, sl := [5], tf := fun x => [vi .i64 x.lo], hf := fun _ => [], μ := fun x => (n - x.lo).toNat }
  | _ => none }
def tPivot : Tfm C0 := fun args H K => match args, H with
  | [.at (.val (.int .i64 n)), .at (.val (.int .u64 t))], [] => 1 ≤ n ∧ n ≤ 100000 ∧ 0 ≤ t ∧ ∀ p, 0 ≤ p → p < n → balN p (n - 1 - p) → K (.one (.at (vI p))) [] []
  | _, _ => False
def tPlant (n : Nat) : Tfm C0 := fun args H K => match args with
  | [.at (.ptr 0 0), .at (.slc 7), .at (.val (.int .u64 t))] => arMr H fun S rest => match rest with
    | [.row false .ent l] => ∃ hs, Wf S hs ∧ l.length < n ∧ l.length ≤ 100000 ∧ (l.length : Int) ≤ S.free ∧ hs.length + l.length ≤ 900000000 ∧ 0 ≤ t ∧ ∀ S' i, PlantR S hs l S' i → K (.tup [.at (vU i), .at (vB true)]) (chS S' ++ [.row false EC.ent l]) W7
    | _ => False
  | _ => False
noncomputable def aPlant (n : Nat) : Ann C0 := { Γ := [(95, frameT [] tPivot), (46, frameT [] (tPlant n)), (16, frameT [] tMakeOk), (17, frameT [] tGive)] }
theorem vc_least (n : Int) (K : KT) (h1 : 0 ≤ n) (h2 : n ≤ 1000000) (h : ∀ x, x = n / 4 → K (.one (.at (vI x))) [] []) : vc C0 A0 Try.f125 [.at (vI n)] [] (normK 0 K) := by
  refine Eq.mp (show (K (SV.one (TV.at (At.val (Value.int IntKind.i64 (IntKind.i64.wrap ((if n > 0 then n else 0).tdiv 4)))))) [] []) = _ by kernel_rfl) ?_
  have e : (if n > 0 then n else 0) = n := by split <;> omega
  rw [e, Int.tdiv_eq_ediv_of_nonneg h1, wrap_id (by omega) (by omega)]
  exact h _ rfl
theorem s_least : SoundT C0 125 tLeast := by
  refine .of Try.func125 (by decide) rfl fun args H K h hB => ?_
  unfold tLeast at h
  split at h <;> try exact h.elim
  rename_i n
  exact ⟨A0, trivial, vc_least n K h.1 h.2.1 h.2.2⟩
theorem vc_bal (l r : Int) (K : KT) (h1 : 0 ≤ l) (h2 : l ≤ 1000000) (h3 : 0 ≤ r) (h4 : r ≤ 1000000) (h : ∀ b, b = balB l r → K (.one (.at (vB b))) [] []) : vc C0 A0 Try.f126 [.at (vI l), .at (vI r)] [] (normK 0 K) := by
  refine Eq.mp (show (brS (decide (l < 0))
  ((K (SV.one (TV.at (At.val (Value.bool false)))) [] []))
  ((brS (decide (l > 2147483647))
    ((K (SV.one (TV.at (At.val (Value.bool false)))) [] []))
    ((brS (decide (r < 0))
      ((K (SV.one (TV.at (At.val (Value.bool false)))) [] []))
      ((brS (decide (r > 2147483647))
        ((K (SV.one (TV.at (At.val (Value.bool false)))) [] []))
        ((brS (decide (IntKind.i64.wrap (l + 1) ≤ IntKind.i64.wrap (3 * IntKind.i64.wrap (r + 1))))
          ((K (SV.one (TV.at (At.val (Value.bool (decide (IntKind.i64.wrap (r + 1) ≤ IntKind.i64.wrap (3 * IntKind.i64.wrap (l + 1)))))))) [] []))
          ((K (SV.one (TV.at (At.val (Value.bool false)))) [] []))))))))))) = _ by kernel_rfl) ?_
  rw [wrap_id (x := l + 1) (by omega) (by omega), wrap_id (x := r + 1) (by omega) (by omega), wrap_id (x := 3 * (l + 1)) (by omega) (by omega), wrap_id (x := 3 * (r + 1)) (by omega) (by omega)]
  refine brS_of (fun c => ?_) fun _ => brS_of (fun c => ?_) fun _ => brS_of (fun c => ?_) fun _ => brS_of (fun c => ?_) fun _ => brS_of (fun c => ?_) fun c => ?_
  · have := of_decide_eq_true c; omega
  · have : l > 2147483647 := of_decide_eq_true c; omega
  · have := of_decide_eq_true c; omega
  · have : r > 2147483647 := of_decide_eq_true c; omega
  · have c : l + 1 ≤ 3 * (r + 1) := of_decide_eq_true c
    exact h _ (by unfold balB balN; simp [c])
  · have c : ¬ l + 1 ≤ 3 * (r + 1) := of_decide_eq_false c
    exact h _ (by unfold balB balN; simp [c])
theorem s_bal : SoundT C0 126 tBal := by
  refine .of Try.func126 (by decide) rfl fun args H K h hB => ?_
  unfold tBal at h
  split at h <;> try exact h.elim
  rename_i l r
  exact ⟨A0, trivial, vc_bal l r K h.1 h.2.1 h.2.2.1 h.2.2.2.1 h.2.2.2.2⟩
theorem vc_pivot (n t : Int) (K : KT) (h1 : 1 ≤ n) (h2 : n ≤ 100000) (h3 : 0 ≤ t) (h : ∀ p, 0 ≤ p → p < n → balN p (n - 1 - p) → K (.one (.at (vI p))) [] []) :
    vc C0 (aPivot n) Try.f95 [.at (vI n), .at (vU64 t)] [] (normK 0 K) := by
  refine Eq.mp (show ((0 ≤ n) ∧
(n ≤ 1000000) ∧
(∀ x : Int,
  (((x) = (n / 4)) →
  ((∃ x1 : XPv n,
    (True ∧
    (((Value.int IntKind.i64 (n)) = (Value.int IntKind.i64 (n))) ∧
    ((Value.int IntKind.u64 (t)) = (Value.int IntKind.u64 (t))) ∧
    ((Value.int IntKind.i64 (x)) = (Value.int IntKind.i64 (x1.lo))) ∧
    True) ∧
    True)) ∧
  (∀ x1 : XPv n,
    (True →
    (brS (decide (x1.lo > 0))
      (((0 ≤ IntKind.i64.wrap (x1.lo - 1)) ∧
      (IntKind.i64.wrap (x1.lo - 1) ≤ 1000000) ∧
      (0 ≤ IntKind.i64.wrap (n - x1.lo)) ∧
      (IntKind.i64.wrap (n - x1.lo) ≤ 1000000) ∧
      (∀ b : Bool,
        (((b) = (balB (IntKind.i64.wrap (x1.lo - 1)) (IntKind.i64.wrap (n - x1.lo)))) →
        (brS (b)
          ((∃ x' : XPv n,
            (True ∧
            ((((Value.int IntKind.i64 (n)) = (Value.int IntKind.i64 (n))) ∧
            ((Value.int IntKind.u64 (t)) = (Value.int IntKind.u64 (t))) ∧
            ((Value.int IntKind.i64 (IntKind.i64.wrap (x1.lo - 1))) = (Value.int IntKind.i64 (x'.lo))) ∧
            True) ∧
            True) ∧
            (x'.lo.toNat < x1.lo.toNat))))
          (((∃ x2 : XPv n,
            (True ∧
            (((Value.int IntKind.i64 (n)) = (Value.int IntKind.i64 (n))) ∧
            ((Value.int IntKind.u64 (t)) = (Value.int IntKind.u64 (t))) ∧
            ((Value.int IntKind.i64 (x1.lo)) = (Value.int IntKind.i64 (x2.lo))) ∧
            True) ∧
            True)) ∧
          (∀ x2 : XPv n,
            (True →
            (brS (decide (x2.lo < IntKind.i64.wrap (n - 1)))
              (((0 ≤ x2.lo) ∧
              (x2.lo ≤ 1000000) ∧
              (0 ≤ IntKind.i64.wrap (IntKind.i64.wrap (n - 1) - x2.lo)) ∧
              (IntKind.i64.wrap (IntKind.i64.wrap (n - 1) - x2.lo) ≤ 1000000) ∧
              (∀ b1 : Bool,
                (((b1) = (balB x2.lo (IntKind.i64.wrap (IntKind.i64.wrap (n - 1) - x2.lo)))) →
                (brS (!b1)
                  ((∃ x' : XPv n,
                    (True ∧
                    ((((Value.int IntKind.i64 (n)) = (Value.int IntKind.i64 (n))) ∧
                    ((Value.int IntKind.u64 (t)) = (Value.int IntKind.u64 (t))) ∧
                    ((Value.int IntKind.i64 (IntKind.i64.wrap (x2.lo + 1))) = (Value.int IntKind.i64 (x'.lo))) ∧
                    True) ∧
                    True) ∧
                    ((n - x'.lo).toNat < (n - x2.lo).toNat))))
                  ((brS (decide (IntKind.i64.wrap (IntKind.i64.wrap (n - 1) - x2.lo) < x2.lo))
                    ((K (SV.one (TV.at (At.val (Value.int IntKind.i64 (IntKind.i64.wrap (n.tdiv 2)))))) [] []))
                    (((IntKind.u64.wrap (IntKind.i64.wrap (IntKind.i64.wrap (IntKind.i64.wrap (IntKind.i64.wrap (n - 1) - x2.lo) - x2.lo) + 1)) ≠ 0) ∧
                    (K (SV.one (TV.at (At.val (Value.int IntKind.i64 (IntKind.i64.wrap (x2.lo + IntKind.i64.wrap (t.tmod (IntKind.u64.wrap (IntKind.i64.wrap (IntKind.i64.wrap (IntKind.i64.wrap (IntKind.i64.wrap (n - 1) - x2.lo) - x2.lo) + 1)))))))))) [] []))))))))))
              ((brS (decide (IntKind.i64.wrap (IntKind.i64.wrap (n - 1) - x2.lo) < x2.lo))
                ((K (SV.one (TV.at (At.val (Value.int IntKind.i64 (IntKind.i64.wrap (n.tdiv 2)))))) [] []))
                (((IntKind.u64.wrap (IntKind.i64.wrap (IntKind.i64.wrap (IntKind.i64.wrap (IntKind.i64.wrap (n - 1) - x2.lo) - x2.lo) + 1)) ≠ 0) ∧
                (K (SV.one (TV.at (At.val (Value.int IntKind.i64 (IntKind.i64.wrap (x2.lo + IntKind.i64.wrap (t.tmod (IntKind.u64.wrap (IntKind.i64.wrap (IntKind.i64.wrap (IntKind.i64.wrap (IntKind.i64.wrap (n - 1) - x2.lo) - x2.lo) + 1)))))))))) [] [])))))))))))))))
      (((∃ x2 : XPv n,
        (True ∧
        (((Value.int IntKind.i64 (n)) = (Value.int IntKind.i64 (n))) ∧
        ((Value.int IntKind.u64 (t)) = (Value.int IntKind.u64 (t))) ∧
        ((Value.int IntKind.i64 (x1.lo)) = (Value.int IntKind.i64 (x2.lo))) ∧
        True) ∧
        True)) ∧
      (∀ x2 : XPv n,
        (True →
        (brS (decide (x2.lo < IntKind.i64.wrap (n - 1)))
          (((0 ≤ x2.lo) ∧
          (x2.lo ≤ 1000000) ∧
          (0 ≤ IntKind.i64.wrap (IntKind.i64.wrap (n - 1) - x2.lo)) ∧
          (IntKind.i64.wrap (IntKind.i64.wrap (n - 1) - x2.lo) ≤ 1000000) ∧
          (∀ b : Bool,
            (((b) = (balB x2.lo (IntKind.i64.wrap (IntKind.i64.wrap (n - 1) - x2.lo)))) →
            (brS (!b)
              ((∃ x' : XPv n,
                (True ∧
                ((((Value.int IntKind.i64 (n)) = (Value.int IntKind.i64 (n))) ∧
                ((Value.int IntKind.u64 (t)) = (Value.int IntKind.u64 (t))) ∧
                ((Value.int IntKind.i64 (IntKind.i64.wrap (x2.lo + 1))) = (Value.int IntKind.i64 (x'.lo))) ∧
                True) ∧
                True) ∧
                ((n - x'.lo).toNat < (n - x2.lo).toNat))))
              ((brS (decide (IntKind.i64.wrap (IntKind.i64.wrap (n - 1) - x2.lo) < x2.lo))
                ((K (SV.one (TV.at (At.val (Value.int IntKind.i64 (IntKind.i64.wrap (n.tdiv 2)))))) [] []))
                (((IntKind.u64.wrap (IntKind.i64.wrap (IntKind.i64.wrap (IntKind.i64.wrap (IntKind.i64.wrap (n - 1) - x2.lo) - x2.lo) + 1)) ≠ 0) ∧
                (K (SV.one (TV.at (At.val (Value.int IntKind.i64 (IntKind.i64.wrap (x2.lo + IntKind.i64.wrap (t.tmod (IntKind.u64.wrap (IntKind.i64.wrap (IntKind.i64.wrap (IntKind.i64.wrap (IntKind.i64.wrap (n - 1) - x2.lo) - x2.lo) + 1)))))))))) [] []))))))))))
          ((brS (decide (IntKind.i64.wrap (IntKind.i64.wrap (n - 1) - x2.lo) < x2.lo))
            ((K (SV.one (TV.at (At.val (Value.int IntKind.i64 (IntKind.i64.wrap (n.tdiv 2)))))) [] []))
            (((IntKind.u64.wrap (IntKind.i64.wrap (IntKind.i64.wrap (IntKind.i64.wrap (IntKind.i64.wrap (n - 1) - x2.lo) - x2.lo) + 1)) ≠ 0) ∧
            (K (SV.one (TV.at (At.val (Value.int IntKind.i64 (IntKind.i64.wrap (x2.lo + IntKind.i64.wrap (t.tmod (IntKind.u64.wrap (IntKind.i64.wrap (IntKind.i64.wrap (IntKind.i64.wrap (IntKind.i64.wrap (n - 1) - x2.lo) - x2.lo) + 1)))))))))) [] []))))))))))))))))) = _ by kernel_rfl) ?_
  refine ⟨by omega, by omega, fun x hx => ⟨⟨⟨x, by omega, by omega, ⟨by omega, by omega⟩⟩, trivial, ⟨rfl, rfl, rfl, trivial⟩, trivial⟩, fun x1 _ => ?_⟩⟩
  obtain ⟨k1, k2, k3, k4⟩ := x1.h
  rw [wrap_id (x := x1.lo - 1) (by omega) (by omega), wrap_id (x := n - x1.lo) (by omega) (by omega)]
  refine brS_of (fun c => ?_) fun c => ?_
  · have c : x1.lo > 0 := of_decide_eq_true c
    refine ⟨by omega, by omega, by omega, by omega, fun b hb => brS_of (fun d => ?_) fun d => ?_⟩
    · rw [d] at hb
      have hb : balN (x1.lo - 1) (n - x1.lo) := of_decide_eq_true hb.symm
      refine ⟨⟨x1.lo - 1, by omega, by omega, by rw [show n - 1 - (x1.lo - 1) = n - x1.lo by omega]; exact hb⟩, trivial, ⟨⟨rfl, rfl, rfl, trivial⟩, trivial⟩, ?_⟩
      show (x1.lo - 1).toNat < x1.lo.toNat
      omega
    · skip
      refine ⟨⟨x1, trivial, ⟨rfl, rfl, rfl, trivial⟩, trivial⟩, fun x2 _ => ?_⟩
      obtain ⟨l1, l2, l3, l4⟩ := x2.h
      rw [wrap_id (x := n - 1) (by omega) (by omega), wrap_id (x := n - 1 - x2.lo) (by omega) (by omega)]
      refine brS_of (fun e => ⟨l1, by omega, by omega, by omega, fun b1 hb1 => brS_of (fun f => ?_) fun f => ?_⟩) fun e => ?_
      · have e : b1 = true := by rw [hb1]; exact decide_eq_true ⟨l3, l4⟩
        rw [e] at f; cases f
      · skip
        rw [wrap_id (x := n - 1 - x2.lo - x2.lo) (by omega) (by omega), wrap_id (x := n - 1 - x2.lo - x2.lo + 1) (by omega) (by omega)]
        refine brS_of (fun g => ?_) fun g => ?_
        · have g : n - 1 - x2.lo < x2.lo := of_decide_eq_true g
          rw [Int.tdiv_eq_ediv_of_nonneg (by omega), wrap_id (by omega) (by omega)]
          exact h _ (by omega) (by omega) ⟨by omega, by omega⟩
        · have g : ¬ n - 1 - x2.lo < x2.lo := of_decide_eq_false g
          have hm := Int.emod_nonneg t (show n - 1 - x2.lo - x2.lo + 1 ≠ 0 by omega)
          have hm2 := Int.emod_lt_of_pos t (show 0 < n - 1 - x2.lo - x2.lo + 1 by omega)
          rw [wrap_u64 (by omega) (by omega), Int.tmod_eq_emod_of_nonneg h3, wrap_id (x := t % _) (by omega) (by omega), wrap_id (by omega) (by omega)]
          exact ⟨by omega, h _ (by omega) (by omega) ⟨by omega, by omega⟩⟩
      · skip
        rw [wrap_id (x := n - 1 - x2.lo - x2.lo) (by omega) (by omega), wrap_id (x := n - 1 - x2.lo - x2.lo + 1) (by omega) (by omega)]
        refine brS_of (fun g => ?_) fun g => ?_
        · have g : n - 1 - x2.lo < x2.lo := of_decide_eq_true g
          rw [Int.tdiv_eq_ediv_of_nonneg (by omega), wrap_id (by omega) (by omega)]
          exact h _ (by omega) (by omega) ⟨by omega, by omega⟩
        · have g : ¬ n - 1 - x2.lo < x2.lo := of_decide_eq_false g
          have hm := Int.emod_nonneg t (show n - 1 - x2.lo - x2.lo + 1 ≠ 0 by omega)
          have hm2 := Int.emod_lt_of_pos t (show 0 < n - 1 - x2.lo - x2.lo + 1 by omega)
          rw [wrap_u64 (by omega) (by omega), Int.tmod_eq_emod_of_nonneg h3, wrap_id (x := t % _) (by omega) (by omega), wrap_id (by omega) (by omega)]
          exact ⟨by omega, h _ (by omega) (by omega) ⟨by omega, by omega⟩⟩
  · skip
    refine ⟨⟨x1, trivial, ⟨rfl, rfl, rfl, trivial⟩, trivial⟩, fun x2 _ => ?_⟩
    obtain ⟨l1, l2, l3, l4⟩ := x2.h
    rw [wrap_id (x := n - 1) (by omega) (by omega), wrap_id (x := n - 1 - x2.lo) (by omega) (by omega)]
    refine brS_of (fun e => ⟨l1, by omega, by omega, by omega, fun b1 hb1 => brS_of (fun f => ?_) fun f => ?_⟩) fun e => ?_
    · have e : b1 = true := by rw [hb1]; exact decide_eq_true ⟨l3, l4⟩
      rw [e] at f; cases f
    · skip
      rw [wrap_id (x := n - 1 - x2.lo - x2.lo) (by omega) (by omega), wrap_id (x := n - 1 - x2.lo - x2.lo + 1) (by omega) (by omega)]
      refine brS_of (fun g => ?_) fun g => ?_
      · have g : n - 1 - x2.lo < x2.lo := of_decide_eq_true g
        rw [Int.tdiv_eq_ediv_of_nonneg (by omega), wrap_id (by omega) (by omega)]
        exact h _ (by omega) (by omega) ⟨by omega, by omega⟩
      · have g : ¬ n - 1 - x2.lo < x2.lo := of_decide_eq_false g
        have hm := Int.emod_nonneg t (show n - 1 - x2.lo - x2.lo + 1 ≠ 0 by omega)
        have hm2 := Int.emod_lt_of_pos t (show 0 < n - 1 - x2.lo - x2.lo + 1 by omega)
        rw [wrap_u64 (by omega) (by omega), Int.tmod_eq_emod_of_nonneg h3, wrap_id (x := t % _) (by omega) (by omega), wrap_id (by omega) (by omega)]
        exact ⟨by omega, h _ (by omega) (by omega) ⟨by omega, by omega⟩⟩
    · skip
      rw [wrap_id (x := n - 1 - x2.lo - x2.lo) (by omega) (by omega), wrap_id (x := n - 1 - x2.lo - x2.lo + 1) (by omega) (by omega)]
      refine brS_of (fun g => ?_) fun g => ?_
      · have g : n - 1 - x2.lo < x2.lo := of_decide_eq_true g
        rw [Int.tdiv_eq_ediv_of_nonneg (by omega), wrap_id (by omega) (by omega)]
        exact h _ (by omega) (by omega) ⟨by omega, by omega⟩
      · have g : ¬ n - 1 - x2.lo < x2.lo := of_decide_eq_false g
        have hm := Int.emod_nonneg t (show n - 1 - x2.lo - x2.lo + 1 ≠ 0 by omega)
        have hm2 := Int.emod_lt_of_pos t (show 0 < n - 1 - x2.lo - x2.lo + 1 by omega)
        rw [wrap_u64 (by omega) (by omega), Int.tmod_eq_emod_of_nonneg h3, wrap_id (x := t % _) (by omega) (by omega), wrap_id (by omega) (by omega)]
        exact ⟨by omega, h _ (by omega) (by omega) ⟨by omega, by omega⟩⟩
theorem s_pivot : SoundT C0 95 tPivot := by
  refine .of Try.func95 (by decide) rfl fun args H K h hB => ?_
  unfold tPivot at h
  split at h <;> try exact h.elim
  rename_i n t
  exact ⟨aPivot n, ⟨frame C0.ok s_least _, frame C0.ok s_bal _, trivial⟩, vc_pivot n t K h.1 h.2.1 h.2.2.1 h.2.2.2⟩
theorem wrap_u64_nonneg (x : Int) : 0 ≤ IntKind.u64.wrap x := by
  unfold IntKind.wrap
  simp [IntKind.signed, IntKind.bits]
  omega
theorem split_at {l : List Ent} {p : Nat} (hp : p < l.length) : l.take p ++ l.getD p (0, 0) :: l.drop (p + 1) = l := by
  have h : l[p]? = some (l.getD p (0, 0)) := by simp [List.getD_eq_getElem?_getD, List.getElem?_eq_getElem hp]
  rw [← drop_cons h, List.take_append_drop]
theorem vc_plant (n : Nat) (S : Arn) (l : List Ent) (t : Int) (K : KT) (hs : List Int) (hw : Wf S hs) (h1 : l.length < n + 1) (h2 : l.length ≤ 100000) (h3 : (l.length : Int) ≤ S.free) (h4 : hs.length + l.length ≤ 900000000) (h5 : 0 ≤ t)
    (h : ∀ S' i, PlantR S hs l S' i → K (.tup [.at (vU i), .at (vB true)]) (chS S' ++ [.row false EC.ent l]) W7) :
    vc C0 (aPlant n) Try.f46 [.at (.ptr 0 0), .at (.slc 7), .at (vU64 t)] (chS S ++ [.row false EC.ent l]) (normK 8 (wideK W7 K)) := by
  refine Eq.mp (show (brS ((↑l.length : Int) == 0)
  ((K (SV.tup [(TV.at (At.val (Value.int IntKind.u32 0))), (TV.at (At.val (Value.bool true)))]) [(Chunk.box [(At.ptr 1 0), (At.slc 2), (At.slc 3), (At.val (Value.int IntKind.u64 (S.reads)))]), (Chunk.box [(At.slc 4), (At.slc 5), (At.slc 6), (At.val (Value.int IntKind.u32 (S.fresh)))]), (Chunk.row true (EC.node) (S.nodes)), (Chunk.row true (EC.int) (S.counts)), (Chunk.row true (EC.bool) (S.used)), (Chunk.row true (EC.u32) (S.gen)), (Chunk.row true (EC.u32) (S.rel)), (Chunk.row false (EC.ent) (l))] [0, 1, 2, 3, 4, 5, 6]))
  (((1 ≤ (↑l.length : Int)) ∧
  ((↑l.length : Int) ≤ 100000) ∧
  (0 ≤ t) ∧
  (∀ p : Int,
    ((0 ≤ p) →
    ((p < (↑l.length : Int)) →
    ((balN p ((↑l.length : Int) - 1 - p)) →
    (((0 : Int) ≤ 0) ∧
    (0 ≤ p) ∧
    (p ≤ (↑l.length : Int)) ∧
    (∃ hs : List Int,
      ((Wf S hs) ∧
      ((List.drop (Int.toNat 0) (List.take p.toNat l)).length < n) ∧
      ((List.drop (Int.toNat 0) (List.take p.toNat l)).length ≤ 100000) ∧
      ((↑(List.drop (Int.toNat 0) (List.take p.toNat l)).length : Int) ≤ S.free) ∧
      (hs.length + (List.drop (Int.toNat 0) (List.take p.toNat l)).length ≤ 900000000) ∧
      (0 ≤ IntKind.u64.wrap (IntKind.u64.wrap (t.tdiv 5) + IntKind.u64.wrap (t * 3))) ∧
      (∀ S' : Arn,
        (∀ i : Int,
          ((PlantR S hs (List.drop (Int.toNat 0) (List.take p.toNat l)) S' i) →
          ((0 ≤ IntKind.i64.wrap (p + 1)) ∧
          (IntKind.i64.wrap (p + 1) ≤ (↑l.length : Int)) ∧
          ((↑l.length : Int) ≤ (↑l.length : Int)) ∧
          (∃ hs1 : List Int,
            ((Wf S' hs1) ∧
            ((List.drop (IntKind.i64.wrap (p + 1)).toNat (List.take (↑l.length : Int).toNat l)).length < n) ∧
            ((List.drop (IntKind.i64.wrap (p + 1)).toNat (List.take (↑l.length : Int).toNat l)).length ≤ 100000) ∧
            ((↑(List.drop (IntKind.i64.wrap (p + 1)).toNat (List.take (↑l.length : Int).toNat l)).length : Int) ≤ S'.free) ∧
            (hs1.length + (List.drop (IntKind.i64.wrap (p + 1)).toNat (List.take (↑l.length : Int).toNat l)).length ≤ 900000000) ∧
            (0 ≤ IntKind.u64.wrap (IntKind.u64.wrap (IntKind.u64.wrap (t.tdiv 7) + IntKind.u64.wrap (t * 5)) + 1)) ∧
            (∀ S'1 : Arn,
              (∀ i1 : Int,
                ((PlantR S' hs1 (List.drop (IntKind.i64.wrap (p + 1)).toNat (List.take (↑l.length : Int).toNat l)) S'1 i1) →
                ((0 ≤ p) ∧
                (p < (↑l.length : Int)) ∧
                (0 ≤ p) ∧
                (p < (↑l.length : Int)) ∧
                (exW S'1) ∧
                (live S'1 i) ∧
                (live S'1 i1) ∧
                ((mkNode S'1 (l.getD p.toNat (0, 0)).fst (l.getD p.toNat (0, 0)).snd i i1).size ≤ maxSize) ∧
                (0 < S'1.free) ∧
                (∀ S'2 : Arn,
                  (∀ i2 : Int,
                    (((S'2) = (makeS S'1 (l.getD p.toNat (0, 0)).fst (l.getD p.toNat (0, 0)).snd i i1)) →
                    (((i2) = (nxt S'1)) →
                    (∃ hs2 : List Int,
                      ((Wf S'2 (i :: hs2)) ∧
                      (((S'2.us i) = true) →
                      (1 ≤ S'2.indeg i)) ∧
                      (∀ S'3 : Arn,
                        (((S'3) = (relA S'2 i)) →
                        (∃ hs3 : List Int,
                          ((Wf S'3 (i1 :: hs3)) ∧
                          (((S'3.us i1) = true) →
                          (1 ≤ S'3.indeg i1)) ∧
                          (∀ S'4 : Arn,
                            (((S'4) = (relA S'3 i1)) →
                            (K (SV.tup [(TV.at (At.val (Value.int IntKind.u32 (i2)))), (TV.at (At.val (Value.bool (i2 != 0))))]) [(Chunk.box [(At.ptr 1 0), (At.slc 2), (At.slc 3), (At.val (Value.int IntKind.u64 (S'4.reads)))]), (Chunk.box [(At.slc 4), (At.slc 5), (At.slc 6), (At.val (Value.int IntKind.u32 (S'4.fresh)))]), (Chunk.row true (EC.node) (S'4.nodes)), (Chunk.row true (EC.int) (S'4.counts)), (Chunk.row true (EC.bool) (S'4.used)), (Chunk.row true (EC.u32) (S'4.gen)), (Chunk.row true (EC.u32) (S'4.rel)), (Chunk.row false (EC.ent) (l))] [0, 1, 2, 3, 4, 5, 6]))))))))))))))))))))))))))))))))) = _ by kernel_rfl) ?_
  refine brS_of (fun c => ?_) fun c => ⟨?_, by omega, h5, fun p p0 p1 hb => ?_⟩
  · have e : l = [] := List.length_eq_zero_iff.1 (by simpa using c)
    have hr : PlantR S hs l S 0 := by rw [e]; exact PlantR.nil hw (by omega)
    exact h S 0 hr
  · have c : ¬ (l.length : Int) = 0 := by simpa using c
    omega
  · have hp : p.toNat < l.length := by omega
    have ea : List.drop (Int.toNat 0) (List.take p.toNat l) = l.take p.toNat := rfl
    rw [wrap_id (x := p + 1) (by omega) (by omega), ea, show (l.length : Int).toNat = l.length by omega, List.take_length, show (p + 1).toNat = p.toNat + 1 by omega]
    have la : (l.take p.toNat).length = p.toNat := by simp; omega
    have lb : (l.drop (p.toNat + 1)).length = l.length - (p.toNat + 1) := by simp
    have hf := hw.free_nonneg
    refine ⟨by decide, p0, by omega, hs, hw, by omega, by omega, by omega, by omega, wrap_u64_nonneg _, fun S1 il r1 => ?_⟩
    have hf1 := r1.wf.free_nonneg
    have n1 := r1.nu
    have c1 : S1.cap = S.cap := by unfold Arn.cap; rw [r1.len]
    refine ⟨by omega, by omega, by omega, il :: hs, r1.wf, by omega, by omega, by omega, by simp; omega, wrap_u64_nonneg _, fun S2 ir r2 => ?_⟩
    have hf2 := r2.wf.free_nonneg
    have n2 := r2.nu
    have c2 : S2.cap = S1.cap := by unfold Arn.cap; rw [r2.len]
    have hw2 : Wf S2 (il :: ir :: hs) := r2.wf.perm (List.Perm.swap _ _ _)
    have hfr : 0 < S2.free := by omega
    obtain ⟨tl, q1, q2, _⟩ := r1.rep
    obtain ⟨tr, q3, q4, _⟩ := r2.rep
    have q1' : Rep S2 tl il := q1.held r1.wf r2.stay (.inr (by simp))
    have s1 : tl.size = p.toNat := by rw [← tl.list_len, q2, la]
    have s2 : tr.size = l.length - (p.toNat + 1) := by rw [← tr.list_len, q4, lb]
    have hz : ∀ k v, (mkNode S2 k v il ir).size ≤ maxSize := fun k v => by rw [mk_size hw2 q1' q3]; unfold maxSize; omega
    refine ⟨p0, p1, p0, p1, ⟨_, hw2⟩, hw2.held il (by simp), hw2.held ir (by simp), hz _ _, hfr, fun S3 i e1 e2 => ?_⟩
    obtain ⟨t1, t2, t3, t4⟩ := node_two (k := (l.getD p.toNat (0, 0)).1) (v := (l.getD p.toNat (0, 0)).2) hw2 hfr (hz _ _) (by omega)
    subst e1
    refine ⟨_, t1, t2, fun S4 e3 => ?_⟩
    subst e3
    refine ⟨_, t3, t4, fun S5 e4 => ?_⟩
    have hx := (hw2.nxt_spec hfr).1
    have hi0 : (i != 0) = true := by rw [e2]; simp; omega
    rw [hi0]
    refine h S5 i ?_
    have hr : PlantR S hs (l.take p.toNat ++ l.getD p.toNat (0, 0) :: l.drop (p.toNat + 1)) S5 i := r1.node r2 (by rw [la, lb]; have e : ((l.length - (p.toNat + 1) : Nat) : Int) = (l.length : Int) - 1 - p := (by omega); rw [e, show (p.toNat : Int) = p by omega]; exact hb) fun tl' tr' x1 x2 => by
      rw [e4, e2]; exact node_ok hw2 hfr (hz _ _) (by omega) x1 x2
    rw [split_at hp] at hr
    exact hr
theorem s_plant : ∀ n, SoundT C0 46 (tPlant n) := by
  intro n
  induction n with
  | zero =>
    refine .of Try.func46 (by decide) rfl fun args H K h hB => ?_
    exfalso
    unfold tPlant at h
    split at h <;> try exact h.elim
    unfold arMr at h
    split at h <;> try exact h.elim
    split at h <;> try exact h.elim
    obtain ⟨_, _, h1, _⟩ := h
    omega
  | succ n ih =>
    refine .ofW W7 Try.func46 (by decide) rfl fun args H K h hB => ?_
    unfold tPlant at h
    split at h <;> try exact h.elim
    unfold arMr at h
    split at h <;> try exact h.elim
    split at h <;> try exact h.elim
    rename_i t _ rd fr nd ct us gn rl _ l
    obtain ⟨hs, h1, h2, h3, h4, h5, h6, h7⟩ := h
    exact ⟨aPlant n, ⟨frame C0.ok s_pivot _, frame C0.ok ih _, frame C0.ok s_makeOk _, frame C0.ok s_give _, trivial⟩, vc_plant n ⟨us, gn, rl, fr, nd, ct, rd⟩ l t K hs h1 h2 h3 h4 h5 h6 h7⟩
def tPlantA : Tfm C0 := fun args H K => match args with
  | [.at (.ptr 0 0), .at (.slc 7), .at (.val (.int .u64 t))] => arMr H fun S rest => match rest with
    | [.row false .ent l] => ∃ hs, Wf S hs ∧ l.length ≤ 100000 ∧ (l.length : Int) ≤ S.free ∧ hs.length + l.length ≤ 900000000 ∧ 0 ≤ t ∧ ∀ S' i, PlantR S hs l S' i → K (.tup [.at (vU i), .at (vB true)]) (chS S' ++ [.row false EC.ent l]) W7
    | _ => False
  | _ => False
theorem s_plantA : SoundT C0 46 tPlantA := (s_plant 100001).weak fun args H K h => by
  unfold tPlantA at h
  unfold tPlant
  split at h <;> try exact h.elim
  unfold arMr at h ⊢
  split at h <;> try exact h.elim
  split at h <;> try exact h.elim
  obtain ⟨hs, h1, h2, h3, h4, h5, h6⟩ := h
  exact ⟨hs, h1, by omega, h2, h3, h4, h5, h6⟩
end Go.Proofs.Ytacdmmomkngpkaa.Sx
