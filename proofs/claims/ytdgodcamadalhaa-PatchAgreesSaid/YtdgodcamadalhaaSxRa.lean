/- What the small functions of the patch layer answer. -/
import Derived.Test.YtdgodcamadalhaaSxP
namespace Go.Proofs.Ytdgodcamadalhaa.Sx
open Go

abbrev vI (x : Int) : At := .val (.int .i64 x)
abbrev vB (b : Bool) : At := .val (.bool b)
abbrev KT := SV → List (Chunk C0) → List Nat → Prop
def mayA (x : Option Int) : TV := .agg [vB x.isSome, vI (x.getD 0)]
def optA (x : Option Int) : TV := .agg [vI (x.getD 0), vB x.isSome]
def chgA (c : Chg) : TV := .agg [vI c.kind, vI c.key, vI c.old, vI c.new]

/-- A contract out of a run. -/
theorem SoundT.of {f : FuncId} {fn : Func} {c : Code} {t : Tfm C0} (hf : Try.prog.funcs[f]? = some fn) (hname : (fn.name == "runtime.NumGoroutine") = false) (hb : fn.body = some c)
    (h : ∀ args H K, t args H K → RowB H → ∃ A : Ann C0, GOK C0 A.Γ ∧ vc C0 A fn args H (normK H.length K)) : SoundT C0 f t :=
  ⟨enter_of hf hname hb, fun args H K hk => by
    refine CallOK.rowB C0.ok fun hB => ?_
    obtain ⟨A, hG, hv⟩ := h args H K hk hB
    exact CallOK.norm (call_of_vc C0.ok hG hf hv)⟩

noncomputable def A0 : Ann C0 := { Γ := [] }

/-- What 'change' answers to proper values. -/
def ChgR (k : Int) (a : Bool) (v : Int) (b : Bool) (w : Int) (d : Chg) (ok : Bool) : Prop :=
  ∀ x y : Option Int, a = x.isSome → v = x.getD 0 → b = y.isSome → w = y.getD 0 → ok = (mkChg k x y).isSome ∧ (mkChg k x y = none → d = ⟨0, 0, 0, 0⟩) ∧ ∀ c, mkChg k x y = some c → d = c

def tBefore (r : Option Int → TV) : Tfm C0 := fun args H K => match args, H with
  | [.agg [.val (.int .i64 kd), .val (.int .i64 ky), .val (.int .i64 od), .val (.int .i64 nw)]], [] => ∀ x, x = Chg.before ⟨kd, ky, od, nw⟩ → K (.one (r x)) [] []
  | _, _ => False
def tAfter (r : Option Int → TV) : Tfm C0 := fun args H K => match args, H with
  | [.agg [.val (.int .i64 kd), .val (.int .i64 ky), .val (.int .i64 od), .val (.int .i64 nw)]], [] => ∀ x, x = Chg.after ⟨kd, ky, od, nw⟩ → K (.one (r x)) [] []
  | _, _ => False
def tChange : Tfm C0 := fun args H K => match args, H with
  | [.at (.val (.int .i64 k)), .agg [.val (.bool a), .val (.int .i64 v)], .agg [.val (.bool b), .val (.int .i64 w)]], [] =>
    ∀ d ok, ChgR k a v b w d ok → K (.tup [chgA d, .at (vB ok)]) [] []
  | _, _ => False
def tChange19 : Tfm C0 := fun args H K => match args, H with
  | [.at (.val (.int .i64 k)), .agg [.val (.int .i64 v), .val (.bool a)], .agg [.val (.int .i64 w), .val (.bool b)]], [] =>
    ∀ d ok, ChgR k a v b w d ok → K (.tup [chgA d, .at (vB ok)]) [] []
  | _, _ => False

theorem brS_of {b : Bool} {t f : Prop} (ht : b = true → t) (hf : b = false → f) : brS b t f := by cases b <;> simp_all [brS]

theorem chg_arms {k v w : Int} {a b : Bool} {Q : Chg → Bool → Prop} (h : ∀ d ok, ChgR k a v b w d ok → Q d ok) : (a = b ∧ v = w → Q ⟨0, 0, 0, 0⟩ false) ∧ (¬ (a = b ∧ v = w) → a = false → Q ⟨1, k, 0, w⟩ true) ∧
    (¬ (a = b ∧ v = w) → a = true → b = false → Q ⟨2, k, v, 0⟩ true) ∧ (¬ (a = b ∧ v = w) → a = true → b = true → Q ⟨3, k, v, w⟩ true) := by
  refine ⟨fun e => h _ _ ?_, fun e e1 => h _ _ ?_, fun e e1 e2 => h _ _ ?_, fun e e1 e2 => h _ _ ?_⟩ <;> (intro x y h1 h2 h3 h4; subst h1 h2 h3 h4; cases x <;> cases y <;> simp_all [mkChg])

theorem s_before : SoundT C0 62 (tBefore mayA) := by
  refine .of Try.func62 (by decide) rfl fun args H K h hB => ⟨A0, trivial, ?_⟩
  unfold tBefore at h
  split at h <;> try exact h.elim
  rename_i kd ky od nw
  refine Eq.mp (show (brS (kd == 1)
    ((K (SV.one (TV.agg [(At.val (Value.bool false)), (At.val (Value.int IntKind.i64 0))])) [] []))
    ((K (SV.one (TV.agg [(At.val (Value.bool true)), (At.val (Value.int IntKind.i64 od))])) [] []))) = _ by kernel_rfl) (brS_of (fun hb => ?_) fun hb => ?_)
  · simpa [Chg.before, mayA, show kd = 1 by simpa using hb] using h _ rfl
  · simpa [Chg.before, mayA, show ¬ kd = 1 by simpa using hb] using h _ rfl
theorem s_after : SoundT C0 61 (tAfter mayA) := by
  refine .of Try.func61 (by decide) rfl fun args H K h hB => ⟨A0, trivial, ?_⟩
  unfold tAfter at h
  split at h <;> try exact h.elim
  rename_i kd ky od nw
  refine Eq.mp (show (brS (kd == 2)
    ((K (SV.one (TV.agg [(At.val (Value.bool false)), (At.val (Value.int IntKind.i64 0))])) [] []))
    ((K (SV.one (TV.agg [(At.val (Value.bool true)), (At.val (Value.int IntKind.i64 nw))])) [] []))) = _ by kernel_rfl) (brS_of (fun hb => ?_) fun hb => ?_)
  · simpa [Chg.after, mayA, show kd = 2 by simpa using hb] using h _ rfl
  · simpa [Chg.after, mayA, show ¬ kd = 2 by simpa using hb] using h _ rfl
theorem s_before19 : SoundT C0 70 (tBefore optA) := by
  refine .of Try.func70 (by decide) rfl fun args H K h hB => ⟨A0, trivial, ?_⟩
  unfold tBefore at h
  split at h <;> try exact h.elim
  rename_i kd ky od nw
  refine Eq.mp (show (brS (kd == 1)
    ((K (SV.one (TV.agg [(At.val (Value.int IntKind.i64 0)), (At.val (Value.bool false))])) [] []))
    ((K (SV.one (TV.agg [(At.val (Value.int IntKind.i64 od)), (At.val (Value.bool true))])) [] []))) = _ by kernel_rfl) (brS_of (fun hb => ?_) fun hb => ?_)
  · simpa [Chg.before, optA, show kd = 1 by simpa using hb] using h _ rfl
  · simpa [Chg.before, optA, show ¬ kd = 1 by simpa using hb] using h _ rfl
theorem s_after19 : SoundT C0 71 (tAfter optA) := by
  refine .of Try.func71 (by decide) rfl fun args H K h hB => ⟨A0, trivial, ?_⟩
  unfold tAfter at h
  split at h <;> try exact h.elim
  rename_i kd ky od nw
  refine Eq.mp (show (brS (kd == 2)
    ((K (SV.one (TV.agg [(At.val (Value.int IntKind.i64 0)), (At.val (Value.bool false))])) [] []))
    ((K (SV.one (TV.agg [(At.val (Value.int IntKind.i64 nw)), (At.val (Value.bool true))])) [] []))) = _ by kernel_rfl) (brS_of (fun hb => ?_) fun hb => ?_)
  · simpa [Chg.after, optA, show kd = 2 by simpa using hb] using h _ rfl
  · simpa [Chg.after, optA, show ¬ kd = 2 by simpa using hb] using h _ rfl
theorem s_change : SoundT C0 63 tChange := by
  refine .of Try.func63 (by decide) rfl fun args H K h hB => ⟨A0, trivial, ?_⟩
  unfold tChange at h
  split at h <;> try exact h.elim
  rename_i k a v b w
  obtain ⟨h1, h2, h3, h4⟩ := chg_arms h
  refine Eq.mp (show (brS (a == b && (v == w && true))
  ((K (SV.tup [(TV.agg [(At.val (Value.int IntKind.i64 0)), (At.val (Value.int IntKind.i64 0)), (At.val (Value.int IntKind.i64 0)), (At.val (Value.int IntKind.i64 0))]), (TV.at (At.val (Value.bool false)))]) [] []))
  ((brS (!a)
    ((K (SV.tup [(TV.agg [(At.val (Value.int IntKind.i64 1)), (At.val (Value.int IntKind.i64 (k))), (At.val (Value.int IntKind.i64 0)), (At.val (Value.int IntKind.i64 (w)))]), (TV.at (At.val (Value.bool true)))]) [] []))
    ((brS (!b)
      ((K (SV.tup [(TV.agg [(At.val (Value.int IntKind.i64 2)), (At.val (Value.int IntKind.i64 (k))), (At.val (Value.int IntKind.i64 (v))), (At.val (Value.int IntKind.i64 0))]), (TV.at (At.val (Value.bool true)))]) [] []))
      ((K (SV.tup [(TV.agg [(At.val (Value.int IntKind.i64 3)), (At.val (Value.int IntKind.i64 (k))), (At.val (Value.int IntKind.i64 (v))), (At.val (Value.int IntKind.i64 (w)))]), (TV.at (At.val (Value.bool true)))]) [] []))))))) = _ by kernel_rfl) ?_
  refine brS_of (fun e => ?_) fun e => brS_of (fun e1 => ?_) fun e1 => brS_of (fun e2 => ?_) fun e2 => ?_
  · exact h1 (by simpa using e)
  · exact h2 (by simpa using e) (by simpa using e1)
  · exact h3 (by simpa using e) (by simpa using e1) (by simpa using e2)
  · exact h4 (by simpa using e) (by simpa using e1) (by simpa using e2)
theorem s_change19 : SoundT C0 72 tChange19 := by
  refine .of Try.func72 (by decide) rfl fun args H K h hB => ⟨A0, trivial, ?_⟩
  unfold tChange19 at h
  split at h <;> try exact h.elim
  rename_i k v a w b
  obtain ⟨h1, h2, h3, h4⟩ := chg_arms h
  refine Eq.mp (show (brS (v == w && (a == b && true))
  ((K (SV.tup [(TV.agg [(At.val (Value.int IntKind.i64 0)), (At.val (Value.int IntKind.i64 0)), (At.val (Value.int IntKind.i64 0)), (At.val (Value.int IntKind.i64 0))]), (TV.at (At.val (Value.bool false)))]) [] []))
  ((brS (!a)
    ((K (SV.tup [(TV.agg [(At.val (Value.int IntKind.i64 1)), (At.val (Value.int IntKind.i64 (k))), (At.val (Value.int IntKind.i64 0)), (At.val (Value.int IntKind.i64 (w)))]), (TV.at (At.val (Value.bool true)))]) [] []))
    ((brS (!b)
      ((K (SV.tup [(TV.agg [(At.val (Value.int IntKind.i64 2)), (At.val (Value.int IntKind.i64 (k))), (At.val (Value.int IntKind.i64 (v))), (At.val (Value.int IntKind.i64 0))]), (TV.at (At.val (Value.bool true)))]) [] []))
      ((K (SV.tup [(TV.agg [(At.val (Value.int IntKind.i64 3)), (At.val (Value.int IntKind.i64 (k))), (At.val (Value.int IntKind.i64 (v))), (At.val (Value.int IntKind.i64 (w)))]), (TV.at (At.val (Value.bool true)))]) [] []))))))) = _ by kernel_rfl) ?_
  refine brS_of (fun e => ?_) fun e => brS_of (fun e1 => ?_) fun e1 => brS_of (fun e2 => ?_) fun e2 => ?_
  · exact h1 (by simp at e; exact ⟨e.2, e.1⟩)
  · exact h2 (by simp at e; exact fun hh => e hh.2 hh.1) (by simpa using e1)
  · exact h3 (by simp at e; exact fun hh => e hh.2 hh.1) (by simpa using e1) (by simpa using e2)
  · exact h4 (by simp at e; exact fun hh => e hh.2 hh.1) (by simpa using e1) (by simpa using e2)
end Go.Proofs.Ytdgodcamadalhaa.Sx
