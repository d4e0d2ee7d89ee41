/- A part of the proof. -/
import Derived.Test.YtbonbaccmlomhaaGreatG9
import Derived.Test.YtbonbaccmlomhaaGreatG5
import Derived.Test.YtbonbaccmlomhaaGreatG2
import Derived.Test.YtbonbaccmlomhaaGreatG8
import Derived.Test.YtbonbaccmlomhaaGreatG1
section
/- diff's functions as they are used, and the law DiffOfSelf. -/
namespace Go.Proofs.YtbonbaccmlomhaaGreat.Sx
open Go

/-! ### Plain -/
def rngC (lo hi : Int) (cs : List Chg) : List Chg := cs.filter fun c => decide (lo ≤ c.key ∧ c.key ≤ hi)
theorem goV_fR (lo hi : Int) : ∀ (cs out : List Chg), Srt Chg.key cs → goV (fR lo hi) out cs = out ++ rngC lo hi cs
  | [], out, _ => by simp [goV, rngC]
  | c :: cs, out, h => by
    have hd : (fR lo hi c out).1 = out ++ (if lo ≤ c.key ∧ c.key ≤ hi then [c] else []) := by
      unfold fR; dsimp only; split <;> simp
    have hc : rngC lo hi (c :: cs) = (if lo ≤ c.key ∧ c.key ≤ hi then [c] else []) ++ rngC lo hi cs := by
      unfold rngC
      rw [List.filter_cons]
      by_cases d : lo ≤ c.key ∧ c.key ≤ hi <;> simp [d]
    have h2 : (fR lo hi c out).2 = decide (c.key < hi) := rfl
    rw [goV, h2, hd, hc, ← List.append_assoc]
    split
    · exact goV_fR lo hi cs _ h.tail
    · rename_i d
      have d : ¬ c.key < hi := by simpa using d
      have e : rngC lo hi cs = [] := by
        unfold rngC
        rw [List.filter_eq_nil_iff]
        intro x hx
        have := h.head x hx
        simp; omega
      rw [e, List.append_nil]
theorem btw_keys {l m : List Ent} (hl : Asc l) (hm : Asc m) (P : Int → Prop) (h1 : ∀ x ∈ l, P x.1) (h2 : ∀ x ∈ m, P x.1) : ∀ c ∈ btw l m, P c.key := by
  intro c hc
  have e := (btw_srt hl hm).fnd_self hc
  rw [btw_fnd hl hm, getE_fnd, getE_fnd] at e
  cases a : fnd Prod.fst l c.key with
  | some x => have := h1 x (fnd_mem a); rw [← fnd_key a]; exact this
  | none =>
    cases b : fnd Prod.fst m c.key with
    | some x => have := h2 x (fnd_mem b); rw [← fnd_key b]; exact this
    | none => rw [a, b] at e; simp [mkChg] at e
def Kin (l : List Ent) : Prop := ∀ x ∈ l, -9223372036854775808 ≤ x.1 ∧ x.1 ≤ 9223372036854775807
theorem rngC_all {l m : List Ent} (hl : Asc l) (hm : Asc m) (h1 : Kin l) (h2 : Kin m) : rngC (-9223372036854775808) 9223372036854775807 (btw l m) = btw l m := by
  have h := btw_keys hl hm (fun k => -9223372036854775808 ≤ k ∧ k ≤ 9223372036854775807) h1 h2
  unfold rngC
  rw [List.filter_eq_self]
  intro c hc
  simpa using h c hc

/-! ### The contracts -/
/-KEEP Wf exW inU live Arn.cap Arn.free Rep rdS Tr.size Tr.list btw rngC goV fR Asc Kin PlantR listE newS sameB-/
def tRangeB : Tfm C0 := fun args H K => match args with
  | [.at (.ptr 0 0), .at (.val (.int .u32 x)), .at (.val (.int .u32 y)), .at (.val (.int .i64 lo)), .at (.val (.int .i64 hi))] => arM H fun S => ∃ hs t1 t2, Wf S hs ∧ Rep S t1 x ∧ Rep S t2 y ∧ t1.size + t2.size ≤ 300000 ∧ S.reads + (2 + 6 * (t1.size + t2.size)) ≤ 3000000000000000000 ∧ Asc t1.list ∧ Asc t2.list ∧
    ∀ s' S' m, s' = rngC lo hi (btw t1.list t2.list) → S' = rdS S m → m ≤ 2 + 6 * (t1.size + t2.size) → (x = y → m = 0) → K (.one (.at (.slc 7))) (chS S' ++ [.row true EC.chg s']) [0]
  | _ => False
theorem s_rangeB : SoundT C0 71 tRangeB := s_fnR.weak fun args H K h => by
  unfold tRangeB at h
  split at h <;> try exact h.elim
  unfold arM at h
  split at h <;> try exact h.elim
  obtain ⟨hs, t1, t2, h1, h2, h3, h4, h5, h6, h7, h8⟩ := h
  exact ⟨hs, t1, t2, h1, h2, h3, h4, h5, fun s' S' m a1 a2 a3 a4 => h8 s' S' m (by rw [a1, goV_fR _ _ _ _ (btw_srt h6 h7)]; rfl) a2 a3 a4⟩
noncomputable def aDiff : Ann C0 := { Γ := [(71, frameT [] tRangeB)] }
def tDiff : Tfm C0 := fun args H K => match args with
  | [.at (.ptr 0 0), .at (.val (.int .u32 x)), .at (.val (.int .u32 y))] => arM H fun S => ∃ hs t1 t2, Wf S hs ∧ Rep S t1 x ∧ Rep S t2 y ∧ t1.size + t2.size ≤ 300000 ∧ S.reads + (2 + 6 * (t1.size + t2.size)) ≤ 3000000000000000000 ∧ Asc t1.list ∧ Asc t2.list ∧ Kin t1.list ∧ Kin t2.list ∧
    ∀ s' S' m, s' = btw t1.list t2.list → S' = rdS S m → m ≤ 2 + 6 * (t1.size + t2.size) → (x = y → m = 0) → K (.one (.at (.slc 7))) (chS S' ++ [.row true EC.chg s']) [0]
  | _ => False
theorem vc_diff (S : Arn) (x y : Int) (K : KT) (hs : List Int) (t1 t2 : Tr) (h1 : Wf S hs) (h2 : Rep S t1 x) (h3 : Rep S t2 y) (h4 : t1.size + t2.size ≤ 300000) (h5 : S.reads + (2 + 6 * (t1.size + t2.size)) ≤ 3000000000000000000)
    (h6 : Asc t1.list) (h7 : Asc t2.list) (h8 : Kin t1.list) (h9 : Kin t2.list) (h : ∀ s' S' m, s' = btw t1.list t2.list → S' = rdS S m → m ≤ 2 + 6 * (t1.size + t2.size) → (x = y → m = 0) → K (.one (.at (.slc 7))) (chS S' ++ [.row true EC.chg s']) [0]) :
    vc C0 aDiff Tryz.f42 [.at (.ptr 0 0), .at (vU x), .at (vU y)] (chS S) (normK 7 (wideK [0] K)) := by
  refine Eq.mp (show (∃ hs : List Int, (∃ t1 : Tr, (∃ t2 : Tr, ((Wf S hs) ∧ (Rep S t1 x) ∧ (Rep S t2 y) ∧ (t1.size + t2.size ≤ 300000) ∧ (S.reads + (2 + 6 * ((↑t1.size : Int) + (↑t2.size : Int))) ≤ 3000000000000000000) ∧ (Asc t1.list) ∧ (Asc t2.list) ∧ (∀ s' : List Chg, (∀ S' : Arn, (∀ m : Nat, (((s') = (rngC (-9223372036854775808) 9223372036854775807 (btw t1.list t2.list))) → (((S') = (rdS S m)) → ((m ≤ 2 + 6 * (t1.size + t2.size)) → ((((x) = (y)) → ((m) = 0)) → (K (SV.one (TV.at (At.slc 7))) [(Chunk.box [(At.ptr 1 0), (At.slc 2), (At.slc 3), (At.val (Value.int IntKind.u64 (S'.reads)))]), (Chunk.box [(At.slc 4), (At.slc 5), (At.slc 6), (At.val (Value.int IntKind.u32 (S'.fresh)))]), (Chunk.row true (EC.node) (S'.nodes)), (Chunk.row true (EC.int) (S'.counts)), (Chunk.row true (EC.bool) (S'.used)), (Chunk.row true (EC.u32) (S'.gen)), (Chunk.row true (EC.u32) (S'.rel)), (Chunk.row true (EC.chg) (s'))] [0])))))))))))) = _ by kernel_rfl) ?_
  exact ⟨hs, t1, t2, h1, h2, h3, h4, h5, h6, h7, fun s' S' m a1 a2 a3 a4 => h s' S' m (by rw [a1, rngC_all h6 h7 h8 h9]) a2 a3 a4⟩
theorem s_diff : SoundT C0 42 tDiff := by
  refine .ofW [0] Tryz.func42 (by decide) rfl fun args H K h hB => ?_
  unfold tDiff at h
  split at h <;> try exact h.elim
  unfold arM at h
  split at h <;> try exact h.elim
  rename_i x y _ rd fr nd ct us gn rl
  obtain ⟨hs, t1, t2, h1, h2, h3, h4, h5, h6, h7, h8, h9, h10⟩ := h
  exact ⟨aDiff, ⟨frame C0.ok s_rangeB _, trivial⟩, vc_diff ⟨us, gn, rl, fr, nd, ct, rd⟩ x y K hs t1 t2 h1 h2 h3 h4 h5 h6 h7 h8 h9 h10⟩
/-! A tree and itself. -/
def selfM (x y : Int) (S : Arn) : Prop := x = y ∧ ∃ hs t, Wf S hs ∧ Rep S t x ∧ t.size ≤ 100000 ∧ S.reads ≤ 1000000000000000000 ∧ Asc t.list ∧ Kin t.list
theorem selfM.go {x y : Int} {S : Arn} (h : selfM x y S) : ∃ hs t, Wf S hs ∧ Rep S t x ∧ Rep S t y ∧ t.size + t.size ≤ 300000 ∧ S.reads + (2 + 6 * ((t.size : Int) + t.size)) ≤ 3000000000000000000 ∧ Asc t.list ∧ Kin t.list ∧ btw t.list t.list = [] ∧ (∀ m, (x = y → m = 0) → rdS S m = S) := by
  obtain ⟨rfl, hs, t, h1, h2, h3, h4, h5, h6⟩ := h
  exact ⟨hs, t, h1, h2, h2, by omega, by omega, h5, h6, btw_self _, fun m hm => by rw [hm rfl, rdS_zero]⟩
def tDiffS : Tfm C0 := fun args H K => match args with
  | [.at (.ptr 0 0), .at (.val (.int .u32 x)), .at (.val (.int .u32 y))] => arM H fun S => selfM x y S ∧ K (.one (.at (.slc 7))) (chS S ++ [.row true EC.chg []]) [0]
  | _ => False
def tRangeS : Tfm C0 := fun args H K => match args with
  | [.at (.ptr 0 0), .at (.val (.int .u32 x)), .at (.val (.int .u32 y)), .at (.val (.int .i64 _)), .at (.val (.int .i64 _))] => arM H fun S => selfM x y S ∧ K (.one (.at (.slc 7))) (chS S ++ [.row true EC.chg []]) [0]
  | _ => False
def tFirstS : Tfm C0 := fun args H K => match args with
  | [.at (.ptr 0 0), .at (.val (.int .u32 x)), .at (.val (.int .u32 y))] => arM H fun S => selfM x y S ∧ K (.tup [.agg [vI 0, vI 0, vI 0, vI 0], .at (vB false)]) (chS S) [0]
  | _ => False
def tCountS : Tfm C0 := fun args H K => match args with
  | [.at (.ptr 0 0), .at (.val (.int .u32 x)), .at (.val (.int .u32 y))] => arM H fun S => selfM x y S ∧ K (.one (.at (vI 0))) (chS S) [0]
  | _ => False
def tSameT : Tfm C0 := fun args H K => match args, H with
  | [.at (.slc 0), .at (.slc 1)], [.row false .chg l, .row false .chg m] => l = m ∧ K (.one (.at (vB true))) [.row false EC.chg l, .row false EC.chg m] []
  | _, _ => False
/-! ### The example of the chapter -/
def tAwake18 : Tfm C0 := fun args H K => match args, H with
  | [], [] => K (.one (.at (vB true))) [] []
  | _, _ => False
/-! ### The law -/
def tDos : Tfm C0 := fun args H K => match args, H with
  | [.at (.slc 0), .at (.val (.int .u64 t)), .at (.val (.int .i64 _)), .at (.val (.int .i64 _))], [.row false .ent raw] => 0 ≤ t ∧ Kin raw ∧ K (.one (.at (vB true))) [.row false EC.ent raw] []
  | _, _ => False
theorem listE_sub (raw : List Ent) (n : Nat) : ∀ x ∈ listE raw n, x ∈ raw := by
  have key : ∀ (l acc : List Ent), Asc acc → ∀ x ∈ l.foldl insE acc, x ∈ acc ∨ x ∈ l := by
    intro l
    induction l with
    | nil => intro acc _ x hx; exact .inl hx
    | cons a l ih =>
      intro acc ha x hx
      rcases ih (insE acc a) (insE_asc a ha) x hx with h | h
      · rcases insE_mem ha h with h | h
        · exact .inr (by simp [h])
        · exact .inl h
      · exact .inr (by simp [h])
  intro x hx
  unfold listE at hx
  rcases key (raw.take n) [] (by simp [Srt]) x hx with h | h
  · simp at h
  · exact List.mem_of_mem_take h
end Go.Proofs.YtbonbaccmlomhaaGreat.Sx
end
section
/- merge: trivial, sum, plan, perform, the reservation. -/
namespace Go.Proofs.YtbonbaccmlomhaaGreat.Sx
open Go

/-KEEP hasK Wf exW inU live Arn.cap Arn.free Rep Kept rdS retL Tr.size Tr.list Tr.Bal TrR Got flt getE Asc Hn planC planK sumO outO cfO fnd Srt perfE stepP PfM trivB trivI Del btw mergeE confE-/
def trivB (b o t : Int) : Prop := b = o ∨ b = t ∨ o = t
instance (b o t : Int) : Decidable (trivB b o t) := inferInstanceAs (Decidable (_ ∨ _))
def trivI (b o t : Int) : Int := if b = o then t else o
def tResM : Tfm C0 := fun args H K => match args, H with
  | [.at (.val (.int .i64 a)), .at (.val (.int .i64 b)), .at (.val (.int .i64 c))], [] => 0 ≤ a ∧ a ≤ 30000 ∧ 0 ≤ b ∧ b ≤ 30000 ∧ 0 ≤ c ∧ c ≤ 30000 ∧ ∀ p, p = a + b + c + 12 * (Hn (a + b + c) + 2) → K (.one (.at (vI p))) [] []
  | _, _ => False
def tTriv : Tfm C0 := fun args H K => match args, H with
  | [.at (.val (.int .u32 b)), .at (.val (.int .u32 o)), .at (.val (.int .u32 t))], [] => (trivB b o t → ∀ r, r = trivI b o t → K (.tup [.at (vU r), .at (vB true)]) [] []) ∧ (¬ trivB b o t → K (.tup [.at (vU 0), .at (vB false)]) [] [])
  | _, _ => False
abbrev agC (c : Chg) : TV := .agg [vI c.kind, vI c.key, vI c.old, vI c.new]
def tSum : Tfm C0 := fun args H K => match args, H with
  | [.agg [.val (.int .i64 a), .val (.int .i64 b), .val (.int .i64 c), .val (.int .i64 d)], .agg [.val (.int .i64 e), .val (.int .i64 f), .val (.int .i64 g), .val (.int .i64 h)]], [] => K (.one (.at (.slc 0))) [.row true EC.chg (sumO ⟨a, b, c, d⟩ ⟨e, f, g, h⟩).toList] []
  | _, _ => False
structure XPl (p q : List Chg) where
  i : Nat
  j : Nat
  h : j ≤ q.length ∧ Low p i q j
structure XPi (p q : List Chg) where
  i : Nat
  j : Nat
  h : j < q.length ∧ Low p i q j
structure XPk (p q : List Chg) where
  i : Nat
  j : Nat
  h : j < q.length ∧ Low p i q j ∧ (i < p.length → ¬ (cA p i).key < (cA q j).key)
abbrev bxC (c : Chg) : Chunk C0 := .box [vI c.kind, vI c.key, vI c.old, vI c.new]
noncomputable def aPlan (p q : List Chg) (pol : Int) : Ann C0 := { Γ := [(70, frameT [] tSum)], inv := fun n => match n with
  | 5 => some { X := XPl p q, sl := [10, 16, 8, 9], tf := fun x => [vi .i64 x.i, vi .i64 x.j, .one (.at (.slc 2)), .one (.at (.slc 3))], hf := fun x => [.row false EC.chg p, .row false EC.chg q, .row true EC.chg (planC p (q.take x.j) pol), .row true EC.i64 (planK p (q.take x.j))], μ := fun x => q.length - x.j }
  | 7 => some { X := XPi p q, sl := [10, 16, 8, 9, 12], tf := fun x => [vi .i64 x.i, vi .i64 x.j, .one (.at (.slc 2)), .one (.at (.slc 3)), .one (.at (.ptr 4 0))], hf := fun x => [.row false EC.chg p, .row false EC.chg q, .row true EC.chg (planC p (q.take x.j) pol), .row true EC.i64 (planK p (q.take x.j)), bxC (cA q x.j)], μ := fun x => p.length - x.i, rel := fun T _ z => slotI T 16 z.j }
  | 1009 => some { X := XPk p q, sl := [10, 16, 8, 9, 12], tf := fun x => [vi .i64 x.i, vi .i64 x.j, .one (.at (.slc 2)), .one (.at (.slc 3)), .one (.at (.ptr 4 0))], hf := fun x => [.row false EC.chg p, .row false EC.chg q, .row true EC.chg (planC p (q.take x.j) pol), .row true EC.i64 (planK p (q.take x.j)), bxC (cA q x.j)], rel := fun T _ z => slotI T 16 z.j }
  | _ => none }
def tPlan : Tfm C0 := fun args H K => match args, H with
  | [.at (.slc 0), .at (.slc 1), .at (.val (.int .i64 pol))], [.row false .chg p, .row false .chg q] => Srt Chg.key p ∧ Srt Chg.key q ∧ p.length ≤ 1000000 ∧ q.length ≤ 1000000 ∧ K (.tup [.at (.slc 2), .at (.slc 3)]) [.row false EC.chg p, .row false EC.chg q, .row true EC.chg (planC p q pol), .row true EC.i64 (planK p q)] []
  | _, _ => False
structure XPf (P : Nat → Arn → Int → Prop) where
  i : Nat
  S : Arn
  t : Int
  h : P i S t
noncomputable def aPf (P : Nat → Arn → Int → Prop) (p : List Chg) : Ann C0 := { Γ := [(72, frameT [] tDe), (73, frameT [] tIn)], inv := fun n => match n with
  | 2 => some { X := XPf P, sl := [1, 11], wr := W7, tf := fun x => [vi .u32 x.t, vi .i64 x.i], hf := fun x => chS x.S ++ [.row false EC.chg p], μ := fun x => p.length - x.i }
  | _ => none }
def tPf : Tfm C0 := fun args H K => match args with
  | [.at (.ptr 0 0), .at (.val (.int .u32 t)), .at (.slc 7)] => arMr H fun S rest => match rest with
    | [.row false .chg p] => ∃ hs l M, PfM S hs t l M ∧ l.length + p.length ≤ M ∧ Srt Chg.key p ∧ Del l p ∧ S.reads ≤ 900000000000000000 ∧ ∀ S' j, TrR S hs (perfE l p) 65537 (2000 * p.length) S' j → K (.one (.at (vU j))) (chS S' ++ [.row false EC.chg p]) W7
    | _ => False
  | _ => False
theorem okI_three {a b c : Int} (h1 : 0 ≤ a) (h2 : a ≤ 65536) (h3 : 0 ≤ b) (h4 : b ≤ 65536) (h5 : 0 ≤ c) (h6 : c ≤ 65536) : okI [a, b, c] := by
  intro i hi
  match i, hi with
  | 0, _ => exact ⟨h1, h2⟩
  | 1, _ => exact ⟨h3, h4⟩
  | 2, _ => exact ⟨h5, h6⟩
  | n + 3, hi => have hi : n + 3 < 3 := hi; omega
theorem s_rMg : SoundT C0 40 tResM := by
  refine .of Tryz.func40 (by decide) rfl fun args H K h hB => ?_
  unfold tResM at h
  split at h <;> try exact h.elim
  rename_i a b c
  obtain ⟨h1, h2, h3, h4, h5, h6, h7⟩ := h
  refine ⟨aRes, ⟨frame C0.ok s_vld _, frame C0.ok s_path _, trivial⟩, Eq.mp (show ((∀ i : Nat, ((i < [a, b, c].length) → ((0 ≤ [a, b, c].getD i 0) ∧ ([a, b, c].getD i 0 ≤ 65536)))) ∧
([a, b, c].length ≤ 100) ∧
((0 : Int) ≤ 12) ∧
((12 : Int) ≤ 100) ∧
(0 ≤ IntKind.i64.wrap (IntKind.i64.wrap (a + b) + c)) ∧
(IntKind.i64.wrap (IntKind.i64.wrap (a + b) + c) ≤ 1000000) ∧
(∀ p : Int, (((p) = (12 * (Hn (IntKind.i64.wrap (IntKind.i64.wrap (a + b) + c)) + 2))) → (K (SV.one (TV.at (At.val (Value.int IntKind.i64 (IntKind.i64.wrap (IntKind.i64.wrap (IntKind.i64.wrap (a + b) + c) + p)))))) [] [])))) = _ by kernel_rfl) ?_⟩
  rw [wrap_id (x := a + b) (by omega) (by omega), wrap_id (x := a + b + c) (by omega) (by omega)]
  refine ⟨okI_three h1 (by omega) h3 (by omega) h5 (by omega), by simp, by decide, by decide, by omega, by omega, fun p e => ?_⟩
  have r := Hn_rng (a + b + c)
  subst e
  rw [wrap_id (by omega) (by omega)]
  exact h7 _ rfl
theorem s_triv : SoundT C0 37 tTriv := by
  refine .of Tryz.func37 (by decide) rfl fun args H K h hB => ⟨A0, trivial, ?_⟩
  unfold tTriv at h
  split at h <;> try exact h.elim
  rename_i b o t
  obtain ⟨h1, h2⟩ := h
  refine Eq.mp (show (brS (b == o) ((K (SV.tup [(TV.at (At.val (Value.int IntKind.u32 (t)))), (TV.at (At.val (Value.bool true)))]) [] [])) ((brS (b == t) ((K (SV.tup [(TV.at (At.val (Value.int IntKind.u32 (o)))), (TV.at (At.val (Value.bool true)))]) [] [])) ((brS (o == t) ((K (SV.tup [(TV.at (At.val (Value.int IntKind.u32 (o)))), (TV.at (At.val (Value.bool true)))]) [] [])) ((K (SV.tup [(TV.at (At.val (Value.int IntKind.u32 0))), (TV.at (At.val (Value.bool false)))]) [] []))))))) = _ by kernel_rfl) ?_
  refine brS_of (fun c => ?_) fun c => brS_of (fun d => ?_) fun d => brS_of (fun e => ?_) fun e => ?_
  · have c : b = o := by simpa using c
    exact h1 (.inl c) t (by unfold trivI; rw [if_pos c])
  all_goals have c : ¬ b = o := by simpa using c
  · have d : b = t := by simpa using d
    exact h1 (.inr (.inl d)) o (by unfold trivI; rw [if_neg c])
  all_goals have d : ¬ b = t := by simpa using d
  · have e : o = t := by simpa using e
    exact h1 (.inr (.inr e)) o (by unfold trivI; rw [if_neg c])
  · have e : ¬ o = t := by simpa using e
    exact h2 fun q => q.elim c fun q => q.elim d e
theorem wrap_64 (x : Int) : IntKind.i64.wrap x = RowKit.wrap64 x := IntWalk.i64_left x
theorem s_sum : SoundT C0 70 tSum := by
  refine .of Tryz.func70 (by decide) rfl fun args H K hK hB => ⟨A0, trivial, ?_⟩
  unfold tSum at hK
  split at hK <;> try exact hK.elim
  rename_i a b c d e f g h
  refine Eq.mp (show (brS (e == 2) ((K (SV.one (TV.at (At.slc 0))) [(Chunk.row true (EC.chg) [])] [])) ((brS (a == 2) ((K (SV.one (TV.at (At.slc 0))) [(Chunk.row true (EC.chg) [({ kind := e, key := f, old := g, new := h : Chg })])] [])) ((K (SV.one (TV.at (At.slc 0))) [(Chunk.row true (EC.chg) [({ kind := e, key := f, old := g, new := IntKind.i64.wrap (IntKind.i64.wrap (d + h) - g) : Chg })])] []))))) = _ by kernel_rfl) ?_
  unfold sumO at hK
  refine brS_of (fun q => ?_) fun q => brS_of (fun r => ?_) fun r => ?_
  · have q : e = 2 := by simpa using q
    rw [if_pos q] at hK
    exact hK
  all_goals have q : ¬ e = 2 := by simpa using q
  · have r : a = 2 := by simpa using r
    rw [if_neg q, if_pos r] at hK
    exact hK
  · have r : ¬ a = 2 := by simpa using r
    rw [if_neg q, if_neg r] at hK
    rw [wrap_64, wrap_64]
    exact hK
theorem low_up {p q : List Chg} {i j : Nat} (hq : Srt Chg.key q) (hj : j < q.length) (h : Low p i q j) (hi : i < p.length) (c : (cA p i).key < (cA q j).key) : Low p (i + 1) q j := by
  refine ⟨hi, fun n m hn hm hq' => ?_⟩
  rcases Nat.lt_or_ge n i with d | d
  · exact h.2 n m d hm hq'
  · obtain rfl : n = i := by omega
    rcases Nat.lt_or_ge j m with e | e
    · exact Int.lt_trans c (srt_at hq e hq')
    · obtain rfl : j = m := by omega
      exact c
theorem low_next {p q : List Chg} {i j : Nat} (h : Low p i q j) : Low p i q (j + 1) := ⟨h.1, fun n m hn hm hq => h.2 n m hn (by omega) hq⟩
theorem vc_plan (p q : List Chg) (pol : Int) (K : KT) (hp : Srt Chg.key p) (hq : Srt Chg.key q) (lp : p.length ≤ 1000000) (lq : q.length ≤ 1000000)
    (h : K (.tup [.at (.slc 2), .at (.slc 3)]) [.row false EC.chg p, .row false EC.chg q, .row true EC.chg (planC p q pol), .row true EC.i64 (planK p q)] []) :
    vc C0 (aPlan p q pol) Tryz.f41 [.at (.slc 0), .at (.slc 1), .at (vI pol)] [.row false EC.chg p, .row false EC.chg q] (normK 2 K) := by
  refine Eq.mp (show ((∃ x : XPl p q, (True ∧ (True ∧ ((Value.int IntKind.i64 (pol)) = (Value.int IntKind.i64 (pol))) ∧ True ∧ True ∧ ((Value.int IntKind.i64 0) = (Value.int IntKind.i64 ((↑x.i : Int)))) ∧ True ∧ ((Value.int IntKind.i64 ((↑q.length : Int))) = (Value.int IntKind.i64 ((↑q.length : Int)))) ∧ ((Value.int IntKind.i64 0) = (Value.int IntKind.i64 ((↑x.j : Int)))) ∧ True) ∧ ((p) = (p)) ∧ ((q) = (q)) ∧ ([] = (planC p (List.take x.j q) pol)) ∧ ([] = (planK p (List.take x.j q))) ∧ True)) ∧
(∀ x : XPl p q, (True → (brS (decide ((↑x.j : Int) < (↑q.length : Int))) (((0 ≤ (↑x.j : Int)) ∧ ((↑x.j : Int) < (↑q.length : Int)) ∧ ((∃ x1 : XPi p q, ((((↑x.j : Int)) = ((↑x1.j : Int))) ∧ (True ∧ ((Value.int IntKind.i64 (pol)) = (Value.int IntKind.i64 (pol))) ∧ True ∧ True ∧ ((Value.int IntKind.i64 ((↑x.i : Int))) = (Value.int IntKind.i64 ((↑x1.i : Int)))) ∧ True ∧ True ∧ ((Value.int IntKind.i64 ((↑q.length : Int))) = (Value.int IntKind.i64 ((↑q.length : Int)))) ∧ ((Value.int IntKind.i64 ((↑x.j : Int))) = (Value.int IntKind.i64 ((↑x1.j : Int)))) ∧ True) ∧ ((p) = (p)) ∧ ((q) = (q)) ∧ ((planC p (List.take x.j q) pol) = (planC p (List.take x1.j q) pol)) ∧ ((planK p (List.take x.j q)) = (planK p (List.take x1.j q))) ∧ (((Value.int IntKind.i64 ((cA q x.j).kind)) = (Value.int IntKind.i64 ((cA q x1.j).kind))) ∧ ((Value.int IntKind.i64 ((cA q x.j).key)) = (Value.int IntKind.i64 ((cA q x1.j).key))) ∧ ((Value.int IntKind.i64 ((cA q x.j).old)) = (Value.int IntKind.i64 ((cA q x1.j).old))) ∧
    ((Value.int IntKind.i64 ((cA q x.j).new)) = (Value.int IntKind.i64 ((cA q x1.j).new))) ∧ True) ∧ True)) ∧ (∀ x1 : XPi p q, ((((↑x.j : Int)) = ((↑x1.j : Int))) → (brS (decide ((↑x1.i : Int) < (↑p.length : Int))) (((0 ≤ (↑x1.i : Int)) ∧ ((↑x1.i : Int) < (↑p.length : Int)) ∧ (brS (decide ((cA p x1.i).key < (cA q x1.j).key)) ((∃ x' : XPi p q, ((((↑x.j : Int)) = ((↑x'.j : Int))) ∧ ((True ∧ ((Value.int IntKind.i64 (pol)) = (Value.int IntKind.i64 (pol))) ∧ True ∧ True ∧ ((Value.int IntKind.i64 (IntKind.i64.wrap ((↑x1.i : Int) + 1))) = (Value.int IntKind.i64 ((↑x'.i : Int)))) ∧ True ∧ True ∧ ((Value.int IntKind.i64 ((↑q.length : Int))) = (Value.int IntKind.i64 ((↑q.length : Int)))) ∧ ((Value.int IntKind.i64 ((↑x1.j : Int))) = (Value.int IntKind.i64 ((↑x'.j : Int)))) ∧ True) ∧ ((p) = (p)) ∧ ((q) = (q)) ∧ ((planC p (List.take x1.j q) pol) = (planC p (List.take x'.j q) pol)) ∧ ((planK p (List.take x1.j q)) = (planK p (List.take x'.j q))) ∧ (((Value.int IntKind.i64 ((cA q x1.j).kind)) = (Value.int IntKind.i64 ((cA q x'.j).kind))) ∧ ((Value.int IntKind.i64 ((cA q x1.j).key)) = (Value.int IntKind.i64 ((cA q x'.j).key))) ∧ ((Value.int IntKind.i64 ((cA q x1.j).old)) = (Value.int IntKind.i64 ((cA q x'.j).old))) ∧ ((Value.int IntKind.i64 ((cA q x1.j).new)) = (Value.int IntKind.i64 ((cA q x'.j).new))) ∧ True) ∧ True) ∧ (p.length - x'.i < p.length - x1.i)))) ((∃ x2 : XPk p q, ((((↑x.j : Int)) = ((↑x2.j : Int))) ∧ (True ∧ ((Value.int IntKind.i64 (pol)) = (Value.int IntKind.i64 (pol))) ∧ True ∧
    True ∧ ((Value.int IntKind.i64 ((↑x1.i : Int))) = (Value.int IntKind.i64 ((↑x2.i : Int)))) ∧ True ∧ True ∧ ((Value.int IntKind.i64 ((↑q.length : Int))) = (Value.int IntKind.i64 ((↑q.length : Int)))) ∧ ((Value.int IntKind.i64 ((↑x1.j : Int))) = (Value.int IntKind.i64 ((↑x2.j : Int)))) ∧ True) ∧ ((p) = (p)) ∧ ((q) = (q)) ∧ ((planC p (List.take x1.j q) pol) = (planC p (List.take x2.j q) pol)) ∧ ((planK p (List.take x1.j q)) = (planK p (List.take x2.j q))) ∧ (((Value.int IntKind.i64 ((cA q x1.j).kind)) = (Value.int IntKind.i64 ((cA q x2.j).kind))) ∧ ((Value.int IntKind.i64 ((cA q x1.j).key)) = (Value.int IntKind.i64 ((cA q x2.j).key))) ∧ ((Value.int IntKind.i64 ((cA q x1.j).old)) = (Value.int IntKind.i64 ((cA q x2.j).old))) ∧ ((Value.int IntKind.i64 ((cA q x1.j).new)) = (Value.int IntKind.i64 ((cA q x2.j).new))) ∧ True) ∧ True)))))) ((∃ x2 : XPk p q, ((((↑x.j : Int)) = ((↑x2.j : Int))) ∧ (True ∧ ((Value.int IntKind.i64 (pol)) = (Value.int IntKind.i64 (pol))) ∧ True ∧ True ∧ ((Value.int IntKind.i64 ((↑x1.i : Int))) = (Value.int IntKind.i64 ((↑x2.i : Int)))) ∧ True ∧ True ∧ ((Value.int IntKind.i64 ((↑q.length : Int))) = (Value.int IntKind.i64 ((↑q.length : Int)))) ∧ ((Value.int IntKind.i64 ((↑x1.j : Int))) = (Value.int IntKind.i64 ((↑x2.j : Int)))) ∧ True) ∧ ((p) = (p)) ∧ ((q) = (q)) ∧ ((planC p (List.take x1.j q) pol) = (planC p (List.take x2.j q) pol)) ∧ ((planK p (List.take x1.j q)) = (planK p (List.take x2.j q))) ∧
    (((Value.int IntKind.i64 ((cA q x1.j).kind)) = (Value.int IntKind.i64 ((cA q x2.j).kind))) ∧ ((Value.int IntKind.i64 ((cA q x1.j).key)) = (Value.int IntKind.i64 ((cA q x2.j).key))) ∧ ((Value.int IntKind.i64 ((cA q x1.j).old)) = (Value.int IntKind.i64 ((cA q x2.j).old))) ∧ ((Value.int IntKind.i64 ((cA q x1.j).new)) = (Value.int IntKind.i64 ((cA q x2.j).new))) ∧ True) ∧ True))))))) ∧ (∀ x1 : XPk p q, ((((↑x.j : Int)) = ((↑x1.j : Int))) → (brS ((↑x1.i : Int) == (↑p.length : Int)) (((((planC p (List.take x1.j q) pol).length + [cA q x1.j].length) * bytesOf C0 EC.chg ≤ 140737488355328) ∧ (∃ x' : XPl p q, (True ∧ ((True ∧ ((Value.int IntKind.i64 (pol)) = (Value.int IntKind.i64 (pol))) ∧ True ∧ True ∧ ((Value.int IntKind.i64 ((↑x1.i : Int))) = (Value.int IntKind.i64 ((↑x'.i : Int)))) ∧ True ∧ ((Value.int IntKind.i64 ((↑q.length : Int))) = (Value.int IntKind.i64 ((↑q.length : Int)))) ∧ ((Value.int IntKind.i64 (IntKind.i64.wrap ((↑x1.j : Int) + 1))) = (Value.int IntKind.i64 ((↑x'.j : Int)))) ∧ True) ∧ ((p) = (p)) ∧ ((q) = (q)) ∧ ((planC p (List.take x1.j q) pol ++ [cA q x1.j]) = (planC p (List.take x'.j q) pol)) ∧ ((planK p (List.take x1.j q)) = (planK p (List.take x'.j q))) ∧ True) ∧ (q.length - x'.j < q.length - x.j))))) (((0 ≤ (↑x1.i : Int)) ∧ ((↑x1.i : Int) < (↑p.length : Int)) ∧ (brS ((cA p x1.i).key != (cA q x1.j).key) (((((planC p (List.take x1.j q) pol).length + [cA q x1.j].length) * bytesOf C0 EC.chg ≤ 140737488355328) ∧ (∃ x' : XPl p q, (True ∧ ((True ∧
    ((Value.int IntKind.i64 (pol)) = (Value.int IntKind.i64 (pol))) ∧ True ∧ True ∧ ((Value.int IntKind.i64 ((↑x1.i : Int))) = (Value.int IntKind.i64 ((↑x'.i : Int)))) ∧ True ∧ ((Value.int IntKind.i64 ((↑q.length : Int))) = (Value.int IntKind.i64 ((↑q.length : Int)))) ∧ ((Value.int IntKind.i64 (IntKind.i64.wrap ((↑x1.j : Int) + 1))) = (Value.int IntKind.i64 ((↑x'.j : Int)))) ∧ True) ∧ ((p) = (p)) ∧ ((q) = (q)) ∧ ((planC p (List.take x1.j q) pol ++ [cA q x1.j]) = (planC p (List.take x'.j q) pol)) ∧ ((planK p (List.take x1.j q)) = (planK p (List.take x'.j q))) ∧ True) ∧ (q.length - x'.j < q.length - x.j))))) (((0 ≤ (↑x1.i : Int)) ∧ ((↑x1.i : Int) < (↑p.length : Int)) ∧ (brS ((cA p x1.i).kind == (cA q x1.j).kind && ((cA p x1.i).key == (cA q x1.j).key && ((cA p x1.i).old == (cA q x1.j).old && ((cA p x1.i).new == (cA q x1.j).new && true)))) ((∃ x' : XPl p q, (True ∧ ((True ∧ ((Value.int IntKind.i64 (pol)) = (Value.int IntKind.i64 (pol))) ∧ True ∧ True ∧ ((Value.int IntKind.i64 ((↑x1.i : Int))) = (Value.int IntKind.i64 ((↑x'.i : Int)))) ∧ True ∧ ((Value.int IntKind.i64 ((↑q.length : Int))) = (Value.int IntKind.i64 ((↑q.length : Int)))) ∧ ((Value.int IntKind.i64 (IntKind.i64.wrap ((↑x1.j : Int) + 1))) = (Value.int IntKind.i64 ((↑x'.j : Int)))) ∧ True) ∧ ((p) = (p)) ∧ ((q) = (q)) ∧ ((planC p (List.take x1.j q) pol) = (planC p (List.take x'.j q) pol)) ∧ ((planK p (List.take x1.j q)) = (planK p (List.take x'.j q))) ∧ True) ∧ (q.length - x'.j < q.length - x.j))))
    (((((planK p (List.take x1.j q)).length + [(cA q x1.j).key].length) * bytesOf C0 EC.i64 ≤ 140737488355328) ∧ (brS (pol == 2) (((((planC p (List.take x1.j q) pol).length + [cA q x1.j].length) * bytesOf C0 EC.chg ≤ 140737488355328) ∧ (∃ x' : XPl p q, (True ∧ ((True ∧ ((Value.int IntKind.i64 (pol)) = (Value.int IntKind.i64 (pol))) ∧ True ∧ True ∧ ((Value.int IntKind.i64 ((↑x1.i : Int))) = (Value.int IntKind.i64 ((↑x'.i : Int)))) ∧ True ∧ ((Value.int IntKind.i64 ((↑q.length : Int))) = (Value.int IntKind.i64 ((↑q.length : Int)))) ∧ ((Value.int IntKind.i64 (IntKind.i64.wrap ((↑x1.j : Int) + 1))) = (Value.int IntKind.i64 ((↑x'.j : Int)))) ∧ True) ∧ ((p) = (p)) ∧ ((q) = (q)) ∧ ((planC p (List.take x1.j q) pol ++ [cA q x1.j]) = (planC p (List.take x'.j q) pol)) ∧ ((planK p (List.take x1.j q) ++ [(cA q x1.j).key]) = (planK p (List.take x'.j q))) ∧ True) ∧ (q.length - x'.j < q.length - x.j))))) ((brS (pol == 4) (((((planC p (List.take x1.j q) pol).length + (sumO (cA p x1.i) (cA q x1.j)).toList.length) * bytesOf C0 EC.chg ≤ 140737488355328) ∧ (∃ x' : XPl p q, (True ∧ ((True ∧ ((Value.int IntKind.i64 (pol)) = (Value.int IntKind.i64 (pol))) ∧ True ∧ True ∧ ((Value.int IntKind.i64 ((↑x1.i : Int))) = (Value.int IntKind.i64 ((↑x'.i : Int)))) ∧ True ∧ ((Value.int IntKind.i64 ((↑q.length : Int))) = (Value.int IntKind.i64 ((↑q.length : Int)))) ∧ ((Value.int IntKind.i64 (IntKind.i64.wrap ((↑x1.j : Int) + 1))) = (Value.int IntKind.i64 ((↑x'.j : Int)))) ∧ True) ∧ ((p) = (p)) ∧ ((q) = (q)) ∧
    ((planC p (List.take x1.j q) pol ++ (sumO (cA p x1.i) (cA q x1.j)).toList) = (planC p (List.take x'.j q) pol)) ∧ ((planK p (List.take x1.j q) ++ [(cA q x1.j).key]) = (planK p (List.take x'.j q))) ∧ True) ∧ (q.length - x'.j < q.length - x.j))))) ((∃ x' : XPl p q, (True ∧ ((True ∧ ((Value.int IntKind.i64 (pol)) = (Value.int IntKind.i64 (pol))) ∧ True ∧ True ∧ ((Value.int IntKind.i64 ((↑x1.i : Int))) = (Value.int IntKind.i64 ((↑x'.i : Int)))) ∧ True ∧ ((Value.int IntKind.i64 ((↑q.length : Int))) = (Value.int IntKind.i64 ((↑q.length : Int)))) ∧ ((Value.int IntKind.i64 (IntKind.i64.wrap ((↑x1.j : Int) + 1))) = (Value.int IntKind.i64 ((↑x'.j : Int)))) ∧ True) ∧ ((p) = (p)) ∧ ((q) = (q)) ∧ ((planC p (List.take x1.j q) pol) = (planC p (List.take x'.j q) pol)) ∧ ((planK p (List.take x1.j q) ++ [(cA q x1.j).key]) = (planK p (List.take x'.j q))) ∧ True) ∧ (q.length - x'.j < q.length - x.j)))))))))))))))))))) ((K (SV.tup [(TV.at (At.slc 2)), (TV.at (At.slc 3))]) [(Chunk.row false (EC.chg) (p)), (Chunk.row false (EC.chg) (q)), (Chunk.row true (EC.chg) (planC p (List.take x.j q) pol)), (Chunk.row true (EC.i64) (planK p (List.take x.j q)))] [])))))) = _ by kernel_rfl) ?_
  refine ⟨⟨⟨0, 0, Nat.zero_le _, Nat.zero_le _, fun n m hn => absurd hn (Nat.not_lt_zero _)⟩, ?_⟩, fun x _ => brS_of (fun c => ?_) fun c => ?_⟩
  · (repeat' first | exact trivial | exact rfl | refine And.intro ?_ ?_)
  · obtain ⟨i, j, hj, lo⟩ := x
    dsimp only at c ⊢
    have c : j < q.length := by have := of_decide_eq_true c; omega
    refine ⟨by omega, by omega, ⟨⟨⟨i, j, c, lo⟩, rfl, ?_⟩, fun x1 e => ?_⟩, fun x1 e => ?_⟩
    · (repeat' first | exact trivial | exact rfl | refine And.intro ?_ ?_)
    · obtain ⟨i1, j1, hj1, lo1⟩ := x1
      dsimp only at e ⊢
      obtain rfl : j = j1 := by omega
      have hi1 := lo1.1
      refine brS_of (fun d => ?_) fun d => ⟨⟨i1, j, hj1, lo1, fun d' => absurd d (by rw [decide_eq_true (show (i1 : Int) < p.length by omega)]; decide)⟩, rfl, ?_⟩
      · have d : i1 < p.length := by have := of_decide_eq_true d; omega
        refine ⟨by omega, by omega, brS_of (fun f => ⟨⟨i1 + 1, j, hj1, low_up hq hj1 lo1 d (of_decide_eq_true f)⟩, rfl, ?_, by show p.length - (i1 + 1) < p.length - i1; omega⟩) fun f => ⟨⟨i1, j, hj1, lo1, fun _ => of_decide_eq_false f⟩, rfl, ?_⟩⟩
        · have nx : IntKind.i64.wrap ((i1 : Int) + 1) = ((i1 + 1 : Nat) : Int) := wrap_next d lp
          (repeat' first | exact trivial | exact rfl | exact congrArg (Value.int .i64) nx | refine And.intro ?_ ?_)
        · (repeat' first | exact trivial | exact rfl | refine And.intro ?_ ?_)
      · (repeat' first | exact trivial | exact rfl | refine And.intro ?_ ?_)
    · obtain ⟨i1, j1, hj1, lo1, hx⟩ := x1
      dsimp only at e ⊢
      obtain rfl : j = j1 := by omega
      have hi1 := lo1.1
      have hf := low_fnd hp (j := j) (q := q) (i := i1) (fun n hn => lo1.2 n j hn (Nat.le_refl _) hj1) hi1 hx
      have hc := planC_snoc (p := p) (pol := pol) hj1
      have hk := planK_snoc (p := p) hj1
      have nx : IntKind.i64.wrap ((j : Int) + 1) = ((j + 1 : Nat) : Int) := wrap_next hj1 lq
      have lc := planC_len p (q.take j) pol
      have lk := planK_len p (q.take j)
      rw [List.length_take] at lc lk
      have ms : q.length - (j + 1) < q.length - j := by omega
      have lo2 := low_next lo1
      rw [bytes_chg, bytes_i64]
      have none_ : fnd Chg.key p (cA q j).key = none → planC p (q.take j) pol ++ [cA q j] = planC p (q.take (j + 1)) pol ∧ planK p (q.take j) = planK p (q.take (j + 1)) := fun e => by
        rw [hc, hk, e]
        exact ⟨rfl, (List.append_nil _).symm⟩
      refine brS_of (fun d => ?_) fun d => ?_
      · have d : i1 = p.length := by have : (i1 : Int) = p.length := by simpa using d
                                     omega
        rw [if_neg (by omega)] at hf
        obtain ⟨n1, n2⟩ := none_ hf
        refine ⟨by simp only [List.length_singleton]; omega, ⟨i1, j + 1, hj1, lo2⟩, trivial, ?_, ms⟩
        (repeat' first | exact trivial | exact rfl | exact congrArg (Value.int .i64) nx | exact n1 | exact n2 | refine And.intro ?_ ?_)
      have d : ¬ i1 = p.length := by intro e; rw [e] at d; simp at d
      have d : i1 < p.length := by omega
      refine ⟨by omega, by omega, brS_of (fun f => ?_) fun f => ?_⟩
      · have f : (cA p i1).key ≠ (cA q j).key := by simpa using f
        rw [if_neg fun q => f q.2] at hf
        obtain ⟨n1, n2⟩ := none_ hf
        refine ⟨by simp only [List.length_singleton]; omega, ⟨i1, j + 1, hj1, lo2⟩, trivial, ?_, ms⟩
        (repeat' first | exact trivial | exact rfl | exact congrArg (Value.int .i64) nx | exact n1 | exact n2 | refine And.intro ?_ ?_)
      have f : (cA p i1).key = (cA q j).key := by simpa using f
      rw [if_pos ⟨d, f⟩] at hf
      rw [hf] at hc hk
      refine ⟨by omega, by omega, ?_⟩
      rw [chg_eqB]
      refine brS_of (fun g => ?_) fun g => ?_
      · have g : cA p i1 = cA q j := of_decide_eq_true g
        unfold outO at hc
        dsimp only at hc
        unfold cfO at hk
        dsimp only at hk
        rw [if_pos g] at hc hk
        have n1 : planC p (q.take j) pol = planC p (q.take (j + 1)) pol := by rw [hc]; exact (List.append_nil _).symm
        have n2 : planK p (q.take j) = planK p (q.take (j + 1)) := by rw [hk]; exact (List.append_nil _).symm
        refine ⟨⟨i1, j + 1, hj1, lo2⟩, trivial, ?_, ms⟩
        (repeat' first | exact trivial | exact rfl | exact congrArg (Value.int .i64) nx | exact n1 | exact n2 | refine And.intro ?_ ?_)
      have g : ¬ cA p i1 = cA q j := of_decide_eq_false g
      unfold outO at hc
      dsimp only at hc
      unfold cfO at hk
      dsimp only at hk
      rw [if_neg g] at hc hk
      have n2 : planK p (q.take j) ++ [(cA q j).key] = planK p (q.take (j + 1)) := hk.symm
      refine ⟨by simp only [List.length_singleton]; omega, brS_of (fun r => ?_) fun r => brS_of (fun r2 => ?_) fun r2 => ?_⟩
      · have r : pol = 2 := by simpa using r
        rw [if_pos r] at hc
        have n1 : planC p (q.take j) pol ++ [cA q j] = planC p (q.take (j + 1)) pol := hc.symm
        refine ⟨by simp only [List.length_singleton]; omega, ⟨i1, j + 1, hj1, lo2⟩, trivial, ?_, ms⟩
        (repeat' first | exact trivial | exact rfl | exact congrArg (Value.int .i64) nx | exact n1 | exact n2 | refine And.intro ?_ ?_)
      · have r : ¬ pol = 2 := by simpa using r
        have r2 : pol = 4 := by simpa using r2
        rw [if_neg r, if_pos r2] at hc
        have ls : (sumO (cA p i1) (cA q j)).toList.length ≤ 1 := by cases sumO (cA p i1) (cA q j) <;> simp
        refine ⟨by omega, ⟨i1, j + 1, hj1, lo2⟩, trivial, ?_, ms⟩
        (repeat' first | exact trivial | exact rfl | exact congrArg (Value.int .i64) nx | exact hc.symm | exact n2 | refine And.intro ?_ ?_)
      · have r : ¬ pol = 2 := by simpa using r
        have r2 : ¬ pol = 4 := by simpa using r2
        rw [if_neg r, if_neg r2] at hc
        have n1 : planC p (q.take j) pol = planC p (q.take (j + 1)) pol := by rw [hc]; exact (List.append_nil _).symm
        refine ⟨⟨i1, j + 1, hj1, lo2⟩, trivial, ?_, ms⟩
        (repeat' first | exact trivial | exact rfl | exact congrArg (Value.int .i64) nx | exact n1 | exact n2 | refine And.intro ?_ ?_)
  · have e : x.j = q.length := by have := x.h.1; have := of_decide_eq_false c; omega
    rw [e, List.take_length]
    exact h
theorem s_plan : SoundT C0 41 tPlan := by
  refine .of Tryz.func41 (by decide) rfl fun args H K h hB => ?_
  unfold tPlan at h
  split at h <;> try exact h.elim
  rename_i pol p q
  exact ⟨aPlan p q pol, ⟨frame C0.ok s_sum _, trivial⟩, vc_plan p q pol K h.1 h.2.1 h.2.2.1 h.2.2.2.1 h.2.2.2.2⟩
def PPf (S0 : Arn) (hs : List Int) (l : List Ent) (p : List Chg) (M : Nat) : Nat → Arn → Int → Prop := fun i S t => i ≤ p.length ∧ PfM S hs t (perfE l (p.take i)) M ∧ Got S0 hs 65537 (2000 * i) S (t :: hs)
theorem pf_step {S0 S S' : Arn} {hs : List Int} {l L : List Ent} {p : List Chg} {M i m r : Nat} {t j : Int} (h : PPf S0 hs l p M i S t) (hi : i < p.length) (hp : Srt Chg.key p) (hl : Asc l) (e : L = perfE l (p.take (i + 1))) (tr : TrR S hs L m r S' j) (hr : r ≤ 2000) : PPf S0 hs l p M (i + 1) S' j := by
  obtain ⟨_, pf, g⟩ := h
  have ha : Asc (perfE l (p.take (i + 1))) := (perf_spec (hp.take _) hl).1
  subst e
  refine ⟨hi, pf.next tr ha, ?_⟩
  have g2 := g.seq tr.got (h := hs) (fun _ h => h) (fun _ h => h)
  exact (g2.loose).mono (Nat.le_refl _) (by omega)
theorem vc_pf (S : Arn) (t : Int) (p : List Chg) (K : KT) (hs : List Int) (l : List Ent) (M : Nat) (pf : PfM S hs t l M) (hM : l.length + p.length ≤ M) (hp : Srt Chg.key p) (hd : Del l p) (rd : S.reads ≤ 900000000000000000)
    (h : ∀ S' j, TrR S hs (perfE l p) 65537 (2000 * p.length) S' j → K (.one (.at (vU j))) (chS S' ++ [.row false EC.chg p]) W7) :
    vc C0 (aPf (PPf S hs l p M) p) Tryz.f43 [.at (.ptr 0 0), .at (vU t), .at (.slc 7)] (chS S ++ [.row false EC.chg p]) (normK 8 (wideK W7 K)) := by
  generalize hP : PPf S hs l p M = P
  refine Eq.mp (show ((∃ x : XPf P, (True ∧ (True ∧ ((Value.int IntKind.u32 (t)) = (Value.int IntKind.u32 (x.t))) ∧ True ∧ ((Value.int IntKind.i64 ((↑p.length : Int))) = (Value.int IntKind.i64 ((↑p.length : Int)))) ∧ ((Value.int IntKind.i64 0) = (Value.int IntKind.i64 ((↑x.i : Int)))) ∧ True) ∧ (True ∧ True ∧ True ∧ ((Value.int IntKind.u64 (S.reads)) = (Value.int IntKind.u64 (x.S.reads))) ∧ True) ∧ (True ∧ True ∧ True ∧ ((Value.int IntKind.u32 (S.fresh)) = (Value.int IntKind.u32 (x.S.fresh))) ∧ True) ∧ ((S.nodes) = (x.S.nodes)) ∧ ((S.counts) = (x.S.counts)) ∧ ((S.used) = (x.S.used)) ∧ ((S.gen) = (x.S.gen)) ∧ ((S.rel) = (x.S.rel)) ∧ ((p) = (p)) ∧ True)) ∧
(∀ x : XPf P, (True → (brS (decide ((↑x.i : Int) < (↑p.length : Int))) (((0 ≤ (↑x.i : Int)) ∧ ((↑x.i : Int) < (↑p.length : Int)) ∧ (brS ((cA p x.i).kind == 2) ((∃ hs : List Int, (∃ t1 : Tr, ((Wf x.S (x.t :: hs)) ∧ (Rep x.S t1 x.t) ∧ (t1.Bal) ∧ (Asc t1.list) ∧ (t1.size ≤ 700000) ∧ (hasK t1.list (cA p x.i).key) ∧ ((↑(dB t1.size) : Int) ≤ x.S.free) ∧ (hs.length ≤ 200000000) ∧ (x.S.reads + 5 * (↑(dB t1.size) : Int) ≤ 1500000000000000000) ∧ (∀ S' : Arn, (∀ j : Int, ((TrR x.S hs (flt (neK (cA p x.i).key) t1.list) (dB t1.size) (5 * dB t1.size) S' j) → (∃ x' : XPf P, (True ∧ ((True ∧ ((Value.int IntKind.u32 (j)) = (Value.int IntKind.u32 (x'.t))) ∧ True ∧ ((Value.int IntKind.i64 ((↑p.length : Int))) = (Value.int IntKind.i64 ((↑p.length : Int)))) ∧ ((Value.int IntKind.i64 (IntKind.i64.wrap ((↑x.i : Int) + 1))) = (Value.int IntKind.i64 ((↑x'.i : Int)))) ∧
    True) ∧ (True ∧ True ∧ True ∧ ((Value.int IntKind.u64 (S'.reads)) = (Value.int IntKind.u64 (x'.S.reads))) ∧ True) ∧ (True ∧ True ∧ True ∧ ((Value.int IntKind.u32 (S'.fresh)) = (Value.int IntKind.u32 (x'.S.fresh))) ∧ True) ∧ ((S'.nodes) = (x'.S.nodes)) ∧ ((S'.counts) = (x'.S.counts)) ∧ ((S'.used) = (x'.S.used)) ∧ ((S'.gen) = (x'.S.gen)) ∧ ((S'.rel) = (x'.S.rel)) ∧ ((p) = (p)) ∧ True) ∧ (p.length - x'.i < p.length - x.i)))))))))) ((∃ hs : List Int, (∃ t1 : Tr, ((Wf x.S (x.t :: hs)) ∧ (Rep x.S t1 x.t) ∧ (t1.Bal) ∧ (Asc t1.list) ∧ (t1.size ≤ 700000) ∧ ((↑(iB t1.size) : Int) ≤ x.S.free) ∧ (hs.length ≤ 500000000) ∧ (x.S.reads + 5 * (↑(iB t1.size) : Int) ≤ 1600000000000000000) ∧ (∀ S' : Arn, (∀ j : Int, ((TrR x.S hs (insE t1.list ((cA p x.i).key, (cA p x.i).new)) (iB t1.size) (5 * iB t1.size) S' j) → (∃ x' : XPf P, (True ∧ ((True ∧ ((Value.int IntKind.u32 (j)) = (Value.int IntKind.u32 (x'.t))) ∧ True ∧ ((Value.int IntKind.i64 ((↑p.length : Int))) = (Value.int IntKind.i64 ((↑p.length : Int)))) ∧ ((Value.int IntKind.i64 (IntKind.i64.wrap ((↑x.i : Int) + 1))) = (Value.int IntKind.i64 ((↑x'.i : Int)))) ∧ True) ∧ (True ∧ True ∧ True ∧ ((Value.int IntKind.u64 (S'.reads)) = (Value.int IntKind.u64 (x'.S.reads))) ∧ True) ∧ (True ∧ True ∧ True ∧ ((Value.int IntKind.u32 (S'.fresh)) = (Value.int IntKind.u32 (x'.S.fresh))) ∧ True) ∧ ((S'.nodes) = (x'.S.nodes)) ∧ ((S'.counts) = (x'.S.counts)) ∧ ((S'.used) = (x'.S.used)) ∧ ((S'.gen) = (x'.S.gen)) ∧ ((S'.rel) = (x'.S.rel)) ∧ ((p) = (p)) ∧ True) ∧
    (p.length - x'.i < p.length - x.i))))))))))))) ((K (SV.one (TV.at (At.val (Value.int IntKind.u32 (x.t))))) [(Chunk.box [(At.ptr 1 0), (At.slc 2), (At.slc 3), (At.val (Value.int IntKind.u64 (x.S.reads)))]), (Chunk.box [(At.slc 4), (At.slc 5), (At.slc 6), (At.val (Value.int IntKind.u32 (x.S.fresh)))]), (Chunk.row true (EC.node) (x.S.nodes)), (Chunk.row true (EC.int) (x.S.counts)), (Chunk.row true (EC.bool) (x.S.used)), (Chunk.row true (EC.u32) (x.S.gen)), (Chunk.row true (EC.u32) (x.S.rel)), (Chunk.row false (EC.chg) (p))] [0, 1, 2, 3, 4, 5, 6])))))) = _ by kernel_rfl) ?_
  have sz := pf.sz
  have ha := pf.asc
  refine ⟨⟨⟨0, S, t, ?_⟩, ?_⟩, fun x _ => ?_⟩
  · subst hP
    exact ⟨Nat.zero_le _, pf, (Got.refl pf.wf).mono (by omega) (by omega)⟩
  · (repeat' first | exact trivial | exact rfl | refine And.intro ?_ ?_)
  obtain ⟨i, S1, t1, hx⟩ := x
  subst hP
  dsimp only
  obtain ⟨hi, pf1, g⟩ := id hx
  have sp := perf_spec (hp.take i) ha
  have len := sp.2.1
  rw [List.length_take] at len
  have fr := pf1.free (by omega)
  have rd1 := g.rd
  obtain ⟨tr, rp, lt, bt⟩ := pf1.tree
  have zt : tr.size = (perfE l (p.take i)).length := by rw [← tr.list_len, lt]
  have gr := gN_rng (tr.size + 1)
  have iB' : iB tr.size = 4 * gN (tr.size + 1) + 1 := rfl
  have dB' := dB_le tr.size
  rw [← zt] at fr len
  have hl := pf1.hl
  refine brS_of (fun c => ?_) fun c => ?_
  · have c : i < p.length := by have := of_decide_eq_true c; omega
    have nx : IntKind.i64.wrap ((i : Int) + 1) = ((i + 1 : Nat) : Int) := wrap_next c (by omega)
    have sn := perf_snoc (l := l) c
    unfold stepP at sn
    refine ⟨by omega, by omega, brS_of (fun d => ?_) fun d => ?_⟩
    · have d : (cA p i).kind = 2 := by simpa using d
      rw [if_pos d, ← lt] at sn
      refine ⟨hs, tr, pf1.wf, rp, bt, by rw [lt]; exact sp.1, by omega, by rw [lt]; exact hd.at hp ha c d, by omega, by omega, by omega, fun S2 j tj => ⟨⟨i + 1, S2, j, pf_step hx c hp ha sn.symm tj (by omega)⟩, trivial, ?_, by show p.length - (i + 1) < p.length - i; omega⟩⟩
      (repeat' first | exact trivial | exact rfl | exact congrArg (Value.int .i64) nx | refine And.intro ?_ ?_)
    · have d : ¬ (cA p i).kind = 2 := by simpa using d
      rw [if_neg d, ← lt] at sn
      refine ⟨hs, tr, pf1.wf, rp, bt, by rw [lt]; exact sp.1, by omega, by omega, by omega, by omega, fun S2 j tj => ⟨⟨i + 1, S2, j, pf_step hx c hp ha sn.symm tj (by omega)⟩, trivial, ?_, by show p.length - (i + 1) < p.length - i; omega⟩⟩
      (repeat' first | exact trivial | exact rfl | exact congrArg (Value.int .i64) nx | refine And.intro ?_ ?_)
  · have e : i = p.length := by have := of_decide_eq_false c; omega
    subst e
    rw [List.take_length] at lt
    exact h S1 t1 ⟨g, tr, rp, lt, bt⟩
theorem s_pf : SoundT C0 43 tPf := by
  refine .ofW W7 Tryz.func43 (by decide) rfl fun args H K h hB => ?_
  unfold tPf at h
  split at h <;> try exact h.elim
  unfold arMr at h
  split at h <;> try exact h.elim
  dsimp only at h
  split at h <;> try exact h.elim
  rename_i t _ rd fr nd ct us gn rl _ p
  obtain ⟨hs, l, M, h1, h2, h3, h4, h5, h6⟩ := h
  exact ⟨aPf (PPf ⟨us, gn, rl, fr, nd, ct, rd⟩ hs l p M) p, ⟨frame C0.ok s_de _, frame C0.ok s_in _, trivial⟩, vc_pf ⟨us, gn, rl, fr, nd, ct, rd⟩ t p K hs l M h1 h2 h3 h4 h5 h6⟩
end Go.Proofs.YtbonbaccmlomhaaGreat.Sx
end
section
/- merge: Merge and Conflicts. -/
namespace Go.Proofs.YtbonbaccmlomhaaGreat.Sx
open Go

/-KEEP hasK Wf exW inU live Arn.cap Arn.free Rep Kept rdS retL Tr.size Tr.list Tr.Bal TrR Got flt getE Asc Hn planC planK fnd Srt perfE PfM trivB trivI Del btw mergeE confE Kin needM MgM-/
def needM (tb to tt : Tr) : Int := (tb.size : Int) + to.size + tt.size + 12 * (Hn ((tb.size : Int) + to.size + tt.size) + 2)
structure MgM (S : Arn) (hs : List Int) (tb to tt : Tr) (b o t : Int) : Prop where
  wf : Wf S hs
  rb : Rep S tb b
  ro : Rep S to o
  rt : Rep S tt t
  bb : tb.Bal
  bo : to.Bal
  bt : tt.Bal
  ab : Asc tb.list
  ao : Asc to.list
  at_ : Asc tt.list
  kb : Kin tb.list
  ko : Kin to.list
  kt : Kin tt.list
  sb : tb.size ≤ 30000
  so : to.size ≤ 30000
  st : tt.size ≤ 30000
  hl : hs.length ≤ 900000
  rd : S.reads ≤ 500000000000000000
def MgR (S : Arn) (hs : List Int) (tb to tt : Tr) (b o t pol : Int) (S' : Arn) (i : Int) (c : List Int) (e : Int) : Prop :=
  (¬ (1 ≤ pol ∧ pol ≤ 4) ∧ e = 1 ∧ i = 0 ∧ c = [] ∧ S' = S) ∨
  ((1 ≤ pol ∧ pol ≤ 4) ∧ trivB b o t ∧ e = 0 ∧ i = trivI b o t ∧ c = [] ∧ S' = retL S i) ∨
  ((1 ≤ pol ∧ pol ≤ 4) ∧ ¬ trivB b o t ∧ S.free < needM tb to tt ∧ e = 2 ∧ i = 0 ∧ c = [] ∧ ∃ m, m ≤ 3 ∧ S' = rdS S m) ∨
  ((1 ≤ pol ∧ pol ≤ 4) ∧ ¬ trivB b o t ∧ needM tb to tt ≤ S.free ∧ (pol = 3 ∧ confE tb.list to.list tt.list ≠ []) ∧ e = 10 ∧ i = 0 ∧ c = confE tb.list to.list tt.list ∧ ∃ m, m ≤ 2000000 ∧ S' = rdS S m) ∨
  ((1 ≤ pol ∧ pol ≤ 4) ∧ ¬ trivB b o t ∧ needM tb to tt ≤ S.free ∧ ¬ (pol = 3 ∧ confE tb.list to.list tt.list ≠ []) ∧ e = 0 ∧ c = confE tb.list to.list tt.list ∧ TrR S hs (mergeE tb.list to.list tt.list pol) 65537 2000000000 S' i)
noncomputable def aMg : Ann C0 := { Γ := [(37, frameT [] tTriv), (38, frameT [] tHold), (28, frameT [] tSize), (40, frameT [] tResM), (39, frameT [] tRoom), (42, frameT [] tDiff), (41, frameT [] tPlan), (43, frameT [] tPf)] }
def tMg : Tfm C0 := fun args H K => match args with
  | [.at (.ptr 0 0), .at (.val (.int .u32 b)), .at (.val (.int .u32 o)), .at (.val (.int .u32 t)), .at (.val (.int .i64 pol))] => arM H fun S => ∃ hs tb to tt, MgM S hs tb to tt b o t ∧ ∀ S' i c e, MgR S hs tb to tt b o t pol S' i c e → K (.tup [.at (vU i), .at (.slc 7), .at (vI e)]) (chS S' ++ [.row true EC.i64 c]) W7
  | _ => False
def tCf : Tfm C0 := fun args H K => match args with
  | [.at (.ptr 0 0), .at (.val (.int .u32 b)), .at (.val (.int .u32 o)), .at (.val (.int .u32 t))] => arM H fun S => ∃ hs tb to tt, MgM S hs tb to tt b o t ∧ ∀ S' m c, S' = rdS S m → m ≤ 2000000 → c = confE tb.list to.list tt.list → K (.one (.at (.slc 7))) (chS S' ++ [.row true EC.i64 c]) [0]
  | _ => False
theorem btw_len {l m : List Ent} (hl : Asc l) (hm : Asc m) : (btw l m).length ≤ l.length + m.length := by rw [← difE_btw hl hm]; exact difE_len l m
theorem us_b1 (b : Bool) : b.toNat ≤ 1 := by cases b <;> decide
/-- The merge itself, where there is room. -/
theorem mg_go {S S4 S5 S' : Arn} {hs : List Int} {tb to tt : Tr} {b o t pol j : Int} {m : Nat} (h : MgM S hs tb to tt b o t) (hf : needM tb to tt ≤ S.free) (e4 : S4 = rdS S m) (hm : m ≤ 800000) (e5 : S5 = retL S4 o) :
    Wf S4 hs ∧ live S4 o ∧ PfM S5 hs o to.list (tb.size + to.size + tt.size) ∧ to.list.length + (planC (btw tb.list to.list) (btw tb.list tt.list) pol).length ≤ tb.size + to.size + tt.size ∧ Srt Chg.key (planC (btw tb.list to.list) (btw tb.list tt.list) pol) ∧
    Del to.list (planC (btw tb.list to.list) (btw tb.list tt.list) pol) ∧ S5.reads ≤ 900000000000000000 ∧
    (TrR S5 hs (perfE to.list (planC (btw tb.list to.list) (btw tb.list tt.list) pol)) 65537 (2000 * (planC (btw tb.list to.list) (btw tb.list tt.list) pol).length) S' j → TrR S hs (mergeE tb.list to.list tt.list pol) 65537 2000000000 S' j) := by
  have hrd := h.rd
  have hl := h.hl
  have sb := h.sb
  have so := h.so
  have st := h.st
  have lb := tb.list_len
  have lo := to.list_len
  have lt := tt.list_len
  have w4 : Wf S4 hs := by rw [e4]; exact h.wf.rd (by omega)
  have r4 : Rep S4 to o := by rw [e4]; exact h.ro.rdn
  have f4 : S4.free = S.free := by rw [e4]; rfl
  have q4 : S4.reads = S.reads + m := by rw [e4]; rfl
  have bl := btw_len h.ab h.at_
  have pl := planC_len (btw tb.list to.list) (btw tb.list tt.list) pol
  have nd : ((tb.size + to.size + tt.size : Nat) : Int) + 4 * Hn ((tb.size + to.size + tt.size : Nat) : Int) + 4 ≤ S4.free := by
    have := Hn_rng ((tb.size : Int) + to.size + tt.size)
    rw [show ((tb.size + to.size + tt.size : Nat) : Int) = (tb.size : Int) + to.size + tt.size by omega]
    unfold needM at hf
    omega
  obtain ⟨pf, g⟩ := PfM.start (M := tb.size + to.size + tt.size) w4 r4 h.bo h.ao (by omega) (by omega) nd
  rw [← e5] at pf g
  have q5 := g.rd
  refine ⟨w4, r4.us, pf, by omega, planC_srt (btw_srt h.ab h.at_) pol, plan_del h.ab h.ao h.at_ pol, by omega, fun tr => ?_⟩
  have g0 : Got S hs 0 m S4 hs := by rw [e4]; exact Got.rds h.wf (by omega)
  rw [plan_merge h.ab h.ao h.at_ pol] at tr
  exact ⟨((((g0.seq g (h := hs) (fun _ h => h) (fun _ h => h)).seq tr.got (fun _ h => h) (fun _ h => h)).loose).mono (Nat.le_refl _) (by omega)), tr.tree⟩
theorem triv_live {S : Arn} {hs : List Int} {tb to tt : Tr} {b o t : Int} (h : MgM S hs tb to tt b o t) : live S (trivI b o t) := by
  unfold trivI
  split
  · exact h.rt.us
  · exact h.ro.us
theorem conf_pos {l : List Int} : decide ((l.length : Int) > 0) = true ↔ l ≠ [] := by
  cases l with
  | nil => simp
  | cons x l => simp
theorem vc_mg (S : Arn) (b o t pol : Int) (K : KT) (hs : List Int) (tb to tt : Tr) (hm : MgM S hs tb to tt b o t)
    (h : ∀ S' i c e, MgR S hs tb to tt b o t pol S' i c e → K (.tup [.at (vU i), .at (.slc 7), .at (vI e)]) (chS S' ++ [.row true EC.i64 c]) W7) :
    vc C0 aMg Tryz.f11 [.at (.ptr 0 0), .at (vU b), .at (vU o), .at (vU t), .at (vI pol)] (chS S) (normK 7 (wideK W7 K)) := by
  refine Eq.mp (show (brS (decide (pol < 1)) ((K (SV.tup [(TV.at (At.val (Value.int IntKind.u32 0))), (TV.at (At.slc 7)), (TV.at (At.val (Value.int IntKind.i64 1)))]) [(Chunk.box [(At.ptr 1 0), (At.slc 2), (At.slc 3), (At.val (Value.int IntKind.u64 (S.reads)))]), (Chunk.box [(At.slc 4), (At.slc 5), (At.slc 6), (At.val (Value.int IntKind.u32 (S.fresh)))]), (Chunk.row true (EC.node) (S.nodes)), (Chunk.row true (EC.int) (S.counts)), (Chunk.row true (EC.bool) (S.used)), (Chunk.row true (EC.u32) (S.gen)), (Chunk.row true (EC.u32) (S.rel)), (Chunk.row true (EC.i64) [])] [0, 1, 2, 3, 4, 5, 6])) ((brS (decide (pol > 4)) ((K (SV.tup [(TV.at (At.val (Value.int IntKind.u32 0))), (TV.at (At.slc 7)), (TV.at (At.val (Value.int IntKind.i64 1)))]) [(Chunk.box [(At.ptr 1 0), (At.slc 2), (At.slc 3), (At.val (Value.int IntKind.u64 (S.reads)))]), (Chunk.box [(At.slc 4), (At.slc 5), (At.slc 6), (At.val (Value.int IntKind.u32 (S.fresh)))]), (Chunk.row true (EC.node) (S.nodes)), (Chunk.row true (EC.int) (S.counts)), (Chunk.row true (EC.bool) (S.used)), (Chunk.row true (EC.u32) (S.gen)), (Chunk.row true (EC.u32) (S.rel)), (Chunk.row true (EC.i64) [])] [0, 1, 2, 3, 4, 5, 6])) ((((trivB b o t) → (∀ r : Int, (((r) = (trivI b o t)) → ((live S r) ∧ (exW S) ∧ (∀ S' : Arn, (((S') = (retL S r)) →
    (K (SV.tup [(TV.at (At.val (Value.int IntKind.u32 (r)))), (TV.at (At.slc 7)), (TV.at (At.val (Value.int IntKind.i64 0)))]) [(Chunk.box [(At.ptr 1 0), (At.slc 2), (At.slc 3), (At.val (Value.int IntKind.u64 (S'.reads)))]), (Chunk.box [(At.slc 4), (At.slc 5), (At.slc 6), (At.val (Value.int IntKind.u32 (S'.fresh)))]), (Chunk.row true (EC.node) (S'.nodes)), (Chunk.row true (EC.int) (S'.counts)), (Chunk.row true (EC.bool) (S'.used)), (Chunk.row true (EC.u32) (S'.gen)), (Chunk.row true (EC.u32) (S'.rel)), (Chunk.row true (EC.i64) [])] [0, 1, 2, 3, 4, 5, 6]))))))) ∧ ((¬trivB b o t) → ((inU b) ∧ (exW S) ∧ (S.reads < 4000000000000000000) ∧ (∀ S' : Arn, (((S') = (rdS S (S.us b).toNat)) → ((inU o) ∧ (exW S') ∧ (S'.reads < 4000000000000000000) ∧ (∀ S'1 : Arn, (((S'1) = (rdS S' (S'.us o).toNat)) → ((inU t) ∧ (exW S'1) ∧ (S'1.reads < 4000000000000000000) ∧ (∀ S'2 : Arn, (((S'2) = (rdS S'1 (S'1.us t).toNat)) → ((0 ≤ (S.nd b).size) ∧ ((S.nd b).size ≤ 30000) ∧ (0 ≤ (S'.nd o).size) ∧ ((S'.nd o).size ≤ 30000) ∧ (0 ≤ (S'1.nd t).size) ∧ ((S'1.nd t).size ≤ 30000) ∧ (∀ p : Int, (((p) = ((S.nd b).size + (S'.nd o).size + (S'1.nd t).size + 12 * (Hn ((S.nd b).size + (S'.nd o).size + (S'1.nd t).size) + 2))) → ((exW S'2) ∧ (∀ b1 : Bool, (((b1) = (decide (0 ≤ p) && decide (p ≤ S'2.free))) → (brS (!b1)
    ((K (SV.tup [(TV.at (At.val (Value.int IntKind.u32 0))), (TV.at (At.slc 7)), (TV.at (At.val (Value.int IntKind.i64 2)))]) [(Chunk.box [(At.ptr 1 0), (At.slc 2), (At.slc 3), (At.val (Value.int IntKind.u64 (S'2.reads)))]), (Chunk.box [(At.slc 4), (At.slc 5), (At.slc 6), (At.val (Value.int IntKind.u32 (S'2.fresh)))]), (Chunk.row true (EC.node) (S'2.nodes)), (Chunk.row true (EC.int) (S'2.counts)), (Chunk.row true (EC.bool) (S'2.used)), (Chunk.row true (EC.u32) (S'2.gen)), (Chunk.row true (EC.u32) (S'2.rel)), (Chunk.row true (EC.i64) [])] [0, 1, 2, 3, 4, 5, 6])) ((∃ hs : List Int, (∃ t1 : Tr, (∃ t2 : Tr, ((Wf S'2 hs) ∧ (Rep S'2 t1 b) ∧ (Rep S'2 t2 o) ∧ (t1.size + t2.size ≤ 300000) ∧ (S'2.reads + (2 + 6 * ((↑t1.size : Int) + (↑t2.size : Int))) ≤ 3000000000000000000) ∧ (Asc t1.list) ∧ (Asc t2.list) ∧ (Kin t1.list) ∧ (Kin t2.list) ∧ (∀ s' : List Chg, (∀ S'3 : Arn, (∀ m : Nat, (((s') = (btw t1.list t2.list)) → (((S'3) = (rdS S'2 m)) → ((m ≤ 2 + 6 * (t1.size + t2.size)) → ((((b) = (o)) → ((m) = 0)) → (∃ hs1 : List Int, (∃ t11 : Tr, (∃ t21 : Tr, ((Wf S'3 hs1) ∧ (Rep S'3 t11 b) ∧ (Rep S'3 t21 t) ∧ (t11.size + t21.size ≤ 300000) ∧ (S'3.reads + (2 + 6 * ((↑t11.size : Int) + (↑t21.size : Int))) ≤ 3000000000000000000) ∧ (Asc t11.list) ∧ (Asc t21.list) ∧ (Kin t11.list) ∧ (Kin t21.list) ∧ (∀ s'1 : List Chg, (∀ S'4 : Arn, (∀ m1 : Nat, (((s'1) = (btw t11.list t21.list)) → (((S'4) = (rdS S'3 m1)) → ((m1 ≤ 2 + 6 * (t11.size + t21.size)) → ((((b) = (t)) → ((m1) = 0)) → ((Srt Chg.key s') ∧
    (Srt Chg.key s'1) ∧ (s'.length ≤ 1000000) ∧ (s'1.length ≤ 1000000) ∧ (brS (pol == 3) ((brS (decide ((↑(planK s' s'1).length : Int) > 0)) ((K (SV.tup [(TV.at (At.val (Value.int IntKind.u32 0))), (TV.at (At.slc 7)), (TV.at (At.val (Value.int IntKind.i64 10)))]) [(Chunk.box [(At.ptr 1 0), (At.slc 2), (At.slc 3), (At.val (Value.int IntKind.u64 (S'4.reads)))]), (Chunk.box [(At.slc 4), (At.slc 5), (At.slc 6), (At.val (Value.int IntKind.u32 (S'4.fresh)))]), (Chunk.row true (EC.node) (S'4.nodes)), (Chunk.row true (EC.int) (S'4.counts)), (Chunk.row true (EC.bool) (S'4.used)), (Chunk.row true (EC.u32) (S'4.gen)), (Chunk.row true (EC.u32) (S'4.rel)), (Chunk.row true (EC.i64) (planK s' s'1))] [0, 1, 2, 3, 4, 5, 6])) (((live S'4 o) ∧ (exW S'4) ∧ (∀ S'5 : Arn, (((S'5) = (retL S'4 o)) → (∃ hs2 : List Int, (∃ l : List Ent, (∃ M : Nat, ((PfM S'5 hs2 o l M) ∧ (l.length + (planC s' s'1 pol).length ≤ M) ∧ (Srt Chg.key (planC s' s'1 pol)) ∧ (Del l (planC s' s'1 pol)) ∧ (S'5.reads ≤ 900000000000000000) ∧ (∀ S'6 : Arn, (∀ j : Int, ((TrR S'5 hs2 (perfE l (planC s' s'1 pol)) 65537 (2000 * (planC s' s'1 pol).length) S'6 j) →
    (K (SV.tup [(TV.at (At.val (Value.int IntKind.u32 (j)))), (TV.at (At.slc 7)), (TV.at (At.val (Value.int IntKind.i64 0)))]) [(Chunk.box [(At.ptr 1 0), (At.slc 2), (At.slc 3), (At.val (Value.int IntKind.u64 (S'6.reads)))]), (Chunk.box [(At.slc 4), (At.slc 5), (At.slc 6), (At.val (Value.int IntKind.u32 (S'6.fresh)))]), (Chunk.row true (EC.node) (S'6.nodes)), (Chunk.row true (EC.int) (S'6.counts)), (Chunk.row true (EC.bool) (S'6.used)), (Chunk.row true (EC.u32) (S'6.gen)), (Chunk.row true (EC.u32) (S'6.rel)), (Chunk.row true (EC.i64) (planK s' s'1))] [0, 1, 2, 3, 4, 5, 6])))))))))))))) (((live S'4 o) ∧ (exW S'4) ∧ (∀ S'5 : Arn, (((S'5) = (retL S'4 o)) → (∃ hs2 : List Int, (∃ l : List Ent, (∃ M : Nat, ((PfM S'5 hs2 o l M) ∧ (l.length + (planC s' s'1 pol).length ≤ M) ∧ (Srt Chg.key (planC s' s'1 pol)) ∧ (Del l (planC s' s'1 pol)) ∧ (S'5.reads ≤ 900000000000000000) ∧ (∀ S'6 : Arn, (∀ j : Int, ((TrR S'5 hs2 (perfE l (planC s' s'1 pol)) 65537 (2000 * (planC s' s'1 pol).length) S'6 j) →
    (K (SV.tup [(TV.at (At.val (Value.int IntKind.u32 (j)))), (TV.at (At.slc 7)), (TV.at (At.val (Value.int IntKind.i64 0)))]) [(Chunk.box [(At.ptr 1 0), (At.slc 2), (At.slc 3), (At.val (Value.int IntKind.u64 (S'6.reads)))]), (Chunk.box [(At.slc 4), (At.slc 5), (At.slc 6), (At.val (Value.int IntKind.u32 (S'6.fresh)))]), (Chunk.row true (EC.node) (S'6.nodes)), (Chunk.row true (EC.int) (S'6.counts)), (Chunk.row true (EC.bool) (S'6.used)), (Chunk.row true (EC.u32) (S'6.gen)), (Chunk.row true (EC.u32) (S'6.rel)), (Chunk.row true (EC.i64) (planK s' s'1))] [0, 1, 2, 3, 4, 5, 6]))))))))))))))))))))))))))))))))))))))))))))))))))))))))))) = _ by kernel_rfl) ?_
  have hr := hm.rd
  have sb := hm.sb
  have so := hm.so
  have st := hm.st
  refine brS_of (fun c => h S 0 [] 1 (.inl ⟨fun q => by have := of_decide_eq_true c; omega, rfl, rfl, rfl, rfl⟩)) fun c => brS_of (fun d => h S 0 [] 1 (.inl ⟨fun q => by have := of_decide_eq_true d; omega, rfl, rfl, rfl, rfl⟩)) fun d => ?_
  have c := of_decide_eq_false c
  have d := of_decide_eq_false d
  have pv : 1 ≤ pol ∧ pol ≤ 4 := by omega
  refine ⟨fun tv r er => ⟨by rw [er]; exact triv_live hm, ⟨_, hm.wf⟩, fun S' e => h S' r [] 0 (.inr (.inl ⟨pv, tv, rfl, er, rfl, e⟩))⟩, fun tv => ?_⟩
  have u1 := us_b1 (S.us b)
  have w1 : Wf (rdS S (S.us b).toNat) hs := hm.wf.rd (by omega)
  have r1 : (rdS S (S.us b).toNat).reads = S.reads + (S.us b).toNat := rfl
  refine ⟨inU_of hm.wf hm.rb.us, ⟨_, hm.wf⟩, by omega, fun S1 e1 => ?_⟩
  subst e1
  have u2 := us_b1 ((rdS S (S.us b).toNat).us o)
  have w2 : Wf (rdS (rdS S (S.us b).toNat) ((rdS S (S.us b).toNat).us o).toNat) hs := w1.rd (by omega)
  refine ⟨inU_of w1 hm.ro.rdn.us, ⟨_, w1⟩, by omega, fun S2 e2 => ?_⟩
  have r2 : S2.reads = S.reads + (S.us b).toNat + ((rdS S (S.us b).toNat).us o).toNat := by rw [e2]; rfl
  have f2 : S2.free = S.free := by rw [e2]; rfl
  have q2 : S2 = rdS S ((S.us b).toNat + ((rdS S (S.us b).toNat).us o).toNat) := by rw [e2, rdS_rdS]
  rw [← e2] at w2
  have rt2 : Rep S2 tt t := by rw [q2]; exact hm.rt.rdn
  have z1 := hm.rb.size hm.wf
  have z2 := (hm.ro.rdn (n := (S.us b).toNat)).size w1
  have z3 := rt2.size w2
  refine ⟨inU_of w2 rt2.us, ⟨_, w2⟩, by omega, fun S3 e3 => ?_⟩
  have u3 := us_b1 (S2.us t)
  have w3 : Wf S3 hs := by rw [e3]; exact w2.rd (by omega)
  have f3 : S3.free = S.free := by rw [e3]; exact f2
  have q3 : S3 = rdS S ((S.us b).toNat + ((rdS S (S.us b).toNat).us o).toNat + (S2.us t).toNat) := by rw [e3, q2, rdS_rdS]
  generalize hk : (S.us b).toNat + ((rdS S (S.us b).toNat).us o).toNat + (S2.us t).toNat = k at *
  have k3 : k ≤ 3 := by omega
  clear e3 e2 u1 u2 u3
  rw [z1, z2, z3]
  refine ⟨by omega, by omega, by omega, by omega, by omega, by omega, fun p ep => ⟨⟨_, w3⟩, fun b1 eb => ?_⟩⟩
  have ep : p = needM tb to tt := ep
  have hp0 : 0 ≤ p := by rw [ep]; unfold needM; have := Hn_rng ((tb.size : Int) + to.size + tt.size); omega
  have eb : b1 = decide (needM tb to tt ≤ S.free) := by rw [eb, decide_eq_true hp0, f3, ep]; rfl
  have rd3 : S3.reads = S.reads + k := by rw [q3]; rfl
  refine brS_of (fun q => h S3 0 [] 2 (.inr (.inr (.inl ⟨pv, tv, ?_, rfl, rfl, rfl, k, k3, q3⟩)))) fun q => ?_
  · have : ¬ needM tb to tt ≤ S.free := fun e => by rw [eb, decide_eq_true e] at q; cases q
    omega
  have hf : needM tb to tt ≤ S.free := by rw [eb] at q; simpa using q
  refine ⟨hs, tb, to, w3, by rw [q3]; exact hm.rb.rdn, by rw [q3]; exact hm.ro.rdn, by omega, by omega, hm.ab, hm.ao, hm.kb, hm.ko, fun p1 S4 m1 ep1 e4 b4 _ => ?_⟩
  have q4 : S4 = rdS S (k + m1) := by rw [e4, q3, rdS_rdS]
  have rd4 : S4.reads = S.reads + (k + m1 : Nat) := by rw [q4]; rfl
  have w4 : Wf S4 hs := by rw [q4]; exact hm.wf.rd (by omega)
  refine ⟨hs, tb, tt, w4, by rw [q4]; exact hm.rb.rdn, by rw [q4]; exact hm.rt.rdn, by omega, by omega, hm.ab, hm.at_, hm.kb, hm.kt, fun p2 S5 m2 ep2 e5 b5 _ => ?_⟩
  have q5 : S5 = rdS S (k + m1 + m2) := by rw [e5, q4, rdS_rdS]
  have l1 := btw_len hm.ab hm.ao
  have l2 := btw_len hm.ab hm.at_
  have lb := tb.list_len
  have lo := to.list_len
  have lt := tt.list_len
  subst ep1 ep2
  have cf := plan_conf hm.ab hm.ao hm.at_
  refine ⟨btw_srt hm.ab hm.ao, btw_srt hm.ab hm.at_, by omega, by omega, ?_⟩
  rw [cf]
  have fin : ¬ (pol = 3 ∧ confE tb.list to.list tt.list ≠ []) → live S5 o ∧ exW S5 ∧ ∀ S6, S6 = retL S5 o → ∃ hs2 l M, PfM S6 hs2 o l M ∧ l.length + (planC (btw tb.list to.list) (btw tb.list tt.list) pol).length ≤ M ∧ Srt Chg.key (planC (btw tb.list to.list) (btw tb.list tt.list) pol) ∧ Del l (planC (btw tb.list to.list) (btw tb.list tt.list) pol) ∧ S6.reads ≤ 900000000000000000 ∧
      ∀ S7 j, TrR S6 hs2 (perfE l (planC (btw tb.list to.list) (btw tb.list tt.list) pol)) 65537 (2000 * (planC (btw tb.list to.list) (btw tb.list tt.list) pol).length) S7 j → K (.tup [.at (vU j), .at (.slc 7), .at (vI 0)]) (chS S7 ++ [.row true EC.i64 (confE tb.list to.list tt.list)]) W7 := fun nc => by
    have g0 := mg_go (pol := pol) (S' := S5) (j := 0) hm hf q5 (by omega) rfl
    refine ⟨g0.2.1, ⟨_, g0.1⟩, fun S6 e6 => ?_⟩
    obtain ⟨_, _, g1, g2, g3, g4, g5, _⟩ := mg_go (pol := pol) (S' := S5) (j := 0) hm hf q5 (by omega) e6
    refine ⟨hs, _, _, g1, g2, g3, g4, g5, fun S7 j tr => ?_⟩
    obtain ⟨_, _, _, _, _, _, _, g6⟩ := mg_go (pol := pol) (S' := S7) (j := j) hm hf q5 (by omega) e6
    exact h S7 j _ 0 (.inr (.inr (.inr (.inr ⟨pv, tv, hf, nc, rfl, rfl, g6 tr⟩))))
  refine brS_of (fun e => brS_of (fun f => ?_) fun f => fin fun q => ?_) fun e => fin fun q => ?_
  · have e : pol = 3 := by simpa using e
    exact h S5 0 _ 10 (.inr (.inr (.inr (.inl ⟨pv, tv, hf, ⟨e, conf_pos.1 f⟩, rfl, rfl, rfl, _, by omega, q5⟩))))
  · rw [conf_pos.2 q.2] at f; cases f
  · have e : ¬ pol = 3 := by simpa using e
    exact e q.1
theorem s_mg : SoundT C0 11 tMg := by
  refine .ofW W7 Tryz.func11 (by decide) rfl fun args H K h hB => ?_
  unfold tMg at h
  split at h <;> try exact h.elim
  unfold arM at h
  split at h <;> try exact h.elim
  rename_i b o t pol _ rd fr nd ct us gn rl
  obtain ⟨hs, tb, to, tt, h1, h2⟩ := h
  exact ⟨aMg, ⟨frame C0.ok s_triv _, frame C0.ok s_hold _, frame C0.ok s_size _, frame C0.ok s_rMg _, frame C0.ok s_room _, frame C0.ok s_diff _, frame C0.ok s_plan _, frame C0.ok s_pf _, trivial⟩, vc_mg ⟨us, gn, rl, fr, nd, ct, rd⟩ b o t pol K hs tb to tt h1 h2⟩
theorem conf_triv {S : Arn} {hs : List Int} {tb to tt : Tr} {b o t : Int} (hm : MgM S hs tb to tt b o t) (tv : trivB b o t) : confE tb.list to.list tt.list = [] := by
  have h0 : S.us 0 = false := hm.wf.us0 (Int.le_refl 0)
  unfold confE
  refine List.filter_eq_nil_iff.2 fun k _ => ?_
  simp only [decide_eq_true_eq]
  rintro ⟨h1, h2, h3⟩
  rcases tv with e | e | e
  · have r := hm.ro; rw [← e] at r
    rw [r.inj h0 hm.rb] at h2
    exact h2 rfl
  · have r := hm.rt; rw [← e] at r
    rw [r.inj h0 hm.rb] at h3
    exact h3 rfl
  · have r := hm.rt; rw [← e] at r
    rw [r.inj h0 hm.ro] at h1
    exact h1 rfl
end Go.Proofs.YtbonbaccmlomhaaGreat.Sx
end
section
/- Leaves that are made one by one. No program in sight. -/
namespace Go.Proofs.YtbonbaccmlomhaaGreat
open Go

variable {S S' : Arn} {hs L : List Int}
theorem leaf_ok (w : Wf S hs) (hf : 0 < S.free) (hl : hs.length ≤ 900000000) : NodeR S hs 0 0 .nil .nil (makeS S 0 0 0 0) (nxt S) := by
  have w2 : Wf S (0 :: 0 :: hs) := (w.zero_cons (by omega)).zero_cons (by simp; omega)
  have n := node_ok (k := 0) (v := 0) (l := 0) (r := 0) (tl := .nil) (tr := .nil) w2 hf (by rw [mk_size (tl := .nil) (tr := .nil) w rfl rfl]; decide) (by omega) rfl rfl
  have u0 : (makeS S 0 0 0 0).us 0 = false := by
    cases e : (makeS S 0 0 0 0).us 0 with
    | false => rfl
    | true =>
      have h1 := (w.nxt_spec hf).1
      rcases (make_us w hf 0).1 e with c | c
      · omega
      · rw [w.us0 (Int.le_refl 0)] at c; cases c
  have e1 : relA (makeS S 0 0 0 0) 0 = makeS S 0 0 0 0 := by unfold relA; rw [u0]; rfl
  have e : nodeS S 0 0 0 0 = makeS S 0 0 0 0 := by unfold nodeS; rw [e1, e1]
  rw [e] at n
  exact n
/-- k leaves were made. -/
structure SqR (S : Arn) (hs : List Int) (k : Nat) (S' : Arn) (L : List Int) : Prop where
  len : L.length = k
  wf : Wf S' (L ++ hs)
  got : Got S hs k 0 S' (L ++ hs)
  free : S'.free = S.free - k
theorem SqR.zero (w : Wf S hs) : SqR S hs 0 S [] := ⟨rfl, w, Got.refl w, by omega⟩
theorem SqR.step {k : Nat} (h : SqR S hs k S' L) (hf : 0 < S'.free) (hl : hs.length + k ≤ 800000000) : SqR S hs (k + 1) (makeS S' 0 0 0 0) (L ++ [nxt S']) := by
  have n := leaf_ok h.wf hf (by rw [List.length_append, h.len]; omega)
  have p : (nxt S' :: (L ++ hs)).Perm ((L ++ [nxt S']) ++ hs) := by
    rw [List.append_assoc]
    exact (List.perm_middle).symm
  have w := n.wf.perm p
  have g := (h.got.seq (Got.node n) (h := hs) (fun _ h => h) (fun i hi => List.mem_append_right _ hi)).perm p
  refine ⟨by rw [List.length_append, h.len]; rfl, w, g.mono (Nat.le_refl _) (Nat.le_refl _), ?_⟩
  have a := h.wf.free_nonneg.2.2.2
  have b := w.free_nonneg.2.2.2
  have c : (makeS S' 0 0 0 0).cap = S'.cap := by unfold Arn.cap; rw [n.len]
  have d := n.nu
  have f := h.free
  omega
end Go.Proofs.YtbonbaccmlomhaaGreat
end
section
/- law20: squeeze, same; the reference's Merge. -/
namespace Go.Proofs.YtbonbaccmlomhaaGreat.Sx
open Go

/-KEEP Wf exW inU live Arn.cap Arn.free Rep rdS retL Hn trivB trivI mergedO keys3 getE makeS nxt mkNode maxSize-/
def mergeL (b o t : List Ent) (pol : Int) (ks : List Int) : List Ent := ks.flatMap fun k => (mergedO pol (getE b k) (getE o k) (getE t k)).toList.map fun v => (k, v)
structure XSq (P : Nat → Arn → List Int → Prop) where
  k : Nat
  S : Arn
  L : List Int
  h : P k S L
noncomputable def aSq (P : Nat → Arn → List Int → Prop) (lb lo lt : List Ent) (b o t : Int) : Ann C0 := { quiet := [30], Γ := [(30, frameT [] tFree), (31, frameT [] tMakeOk)], inv := fun n => match n with
  | 3 => some { X := XSq P, sl := [2, 7, 6], wr := W7, tf := fun x => [.one (.at (.ptr 10 0)), vi .i64 x.k, .one (.at (.slc 11))], hf := fun x => chS x.S ++ [.row false EC.ent lb, .row false EC.ent lo, .row false EC.ent lt, .box [.ptr 0 0, vU b, vU o, vU t, .slc 7, .slc 8, .slc 9], .row true EC.u32 x.L], μ := fun x => 10000 - x.k }
  | _ => none }
def tSq : Tfm C0 := fun args H K => match args with
  | [.agg [.ptr 0 0, .val (.int .u32 b), .val (.int .u32 o), .val (.int .u32 t), .slc 7, .slc 8, .slc 9], .at (.val (.int .i64 fr))] => arMr H fun S rest => match rest with
    | [.row false .ent lb, .row false .ent lo, .row false .ent lt] => ∃ hs, Wf S hs ∧ hs.length ≤ 1000 ∧ 0 ≤ fr ∧ ∀ S' k L, SqR S hs k S' L → k ≤ 10000 → K (.tup [.at (.slc 10), .at (vB true)]) (chS S' ++ [.row false EC.ent lb, .row false EC.ent lo, .row false EC.ent lt, .row true EC.u32 L]) W7
    | _ => False
  | _ => False
def tS3 : Tfm C0 := fun args H K => match args with
  | [.agg [.ptr 0 0, .val (.int .u32 b), .val (.int .u32 o), .val (.int .u32 t), .slc 7, .slc 8, .slc 9]] => arMr H fun S rest => match rest with
    | [.row false .ent lb, .row false .ent lo, .row false .ent lt] => ∀ r s, s = decide (trivB b o t) → (trivB b o t → r = trivI b o t) → K (.tup [.at (vU r), .at (vB s)]) (chS S ++ [.row false EC.ent lb, .row false EC.ent lo, .row false EC.ent lt]) []
    | _ => False
  | _ => False
structure XMr (P : Option Int → Option Int → Option Int → Bool → Prop) where
  u : Option Int
  v : Option Int
  w : Option Int
  z : Bool
  h : P u v w z
abbrev invMr (P : Option Int → Option Int → Option Int → Bool → Prop) (b o t : List Ent) (s : Nat) : Inv C0 := { X := XMr P, sl := [12, 13, 14, 15, 16, 17, s], tf := fun x => [vi .i64 (x.u.getD 0), vb x.u.isSome, vi .i64 (x.v.getD 0), vb x.v.isSome, vi .i64 (x.w.getD 0), vb x.w.isSome, vb x.z], hf := fun _ => [.row false EC.ent b, .row false EC.ent o, .row false EC.ent t] }
noncomputable def aMrd (P1 P2 P3 P4 P5 : Option Int → Option Int → Option Int → Bool → Prop) (b o t : List Ent) : Ann C0 := { Γ := [(45, frameT [] tGet)], inv := fun n => match n with
  | 2004 => some (invMr P1 b o t 36)
  | 1005 => some (invMr P1 b o t 36)
  | 1006 => some (invMr P2 b o t 36)
  | 1008 => some (invMr P3 b o t 55)
  | 1012 => some (invMr P4 b o t 71)
  | 1014 => some (invMr P5 b o t 85)
  | _ => none }
def tMrd : Tfm C0 := fun args H K => match args, H with
  | [.at (.slc 0), .at (.slc 1), .at (.slc 2), .at (.val (.int .i64 k)), .at (.val (.int .i64 p))], [.row false .ent b, .row false .ent o, .row false .ent t] => ∀ r, r = mergedO p (getE b k) (getE o k) (getE t k) → K (.tup [.at (vI (r.getD 0)), .at (vB r.isSome)]) [.row false EC.ent b, .row false EC.ent o, .row false EC.ent t] []
  | _, _ => False
structure XM9 (b o t : List Ent) where
  i : Nat
  h : i ≤ (keys3 b o t).length
noncomputable def aM9 (b o t : List Ent) (p : Int) : Ann C0 := { quiet := [52], Γ := [(44, frameT [] tKeys), (52, frameT [] tMrd)], inv := fun n => match n with
  | 4 => some { X := XM9 b o t, sl := [11, 10, 9], tf := fun x => [vi .i64 x.i, .one (.at (.slc 3)), .one (.at (.slc 4))], hf := fun x => [.row false EC.ent b, .row false EC.ent o, .row false EC.ent t, .row true EC.i64 (keys3 b o t), .row true EC.ent (mergeL b o t p ((keys3 b o t).take x.i))], μ := fun x => (keys3 b o t).length - x.i }
  | _ => none }
def tM9 : Tfm C0 := fun args H K => match args, H with
  | [.at (.slc 0), .at (.slc 1), .at (.slc 2), .at (.val (.int .i64 p))], [.row false .ent b, .row false .ent o, .row false .ent t] => b.length + o.length + t.length ≤ 1000000 ∧ K (.one (.at (.slc 3))) [.row false EC.ent b, .row false EC.ent o, .row false EC.ent t, .row true EC.ent (mergeE b o t p)] []
  | _, _ => False
theorem s_nMg : SoundT C0 6 tResM := by
  refine .of Tryz.func6 (by decide) rfl fun args H K h hB => ?_
  unfold tResM at h
  split at h <;> try exact h.elim
  rename_i a b c
  obtain ⟨h1, h2, h3, h4, h5, h6, h7⟩ := h
  refine ⟨aN8, ⟨frame C0.ok s_need _, trivial⟩, Eq.mp (show ((0 ≤ a) ∧
(a ≤ 65536) ∧
(0 ≤ b) ∧
(b ≤ 65536) ∧
(0 ≤ c) ∧
(c ≤ 65536) ∧
((0 : Int) ≤ 0) ∧
((0 : Int) ≤ 10) ∧
((0 : Int) ≤ 0) ∧
((0 : Int) ≤ 200000) ∧
((0 : Int) ≤ 0) ∧
((0 : Int) ≤ 100) ∧
(∀ p : Int, (((p) = (0 + 0 * (Hn (a + b + c + 0) + 2))) → (brS (decide (p < 0)) ((K (SV.one (TV.at (At.val (Value.int IntKind.i64 (-1))))) [] [])) (((0 ≤ a) ∧ (a ≤ 65536) ∧ (0 ≤ b) ∧ (b ≤ 65536) ∧ (0 ≤ c) ∧ (c ≤ 65536) ∧ ((0 : Int) ≤ 0) ∧ ((0 : Int) ≤ 10) ∧ (0 ≤ IntKind.i64.wrap (IntKind.i64.wrap (a + b) + c)) ∧ (IntKind.i64.wrap (IntKind.i64.wrap (a + b) + c) ≤ 200000) ∧ ((0 : Int) ≤ 12) ∧ ((12 : Int) ≤ 100) ∧ (∀ p1 : Int, (((p1) = (IntKind.i64.wrap (IntKind.i64.wrap (a + b) + c) + 12 * (Hn (a + b + c + 0) + 2))) → (K (SV.one (TV.at (At.val (Value.int IntKind.i64 (p1))))) [] []))))))))) = _ by kernel_rfl) ?_⟩
  rw [wrap_id (x := a + b) (by omega) (by omega), wrap_id (x := a + b + c) (by omega) (by omega)]
  refine ⟨h1, by omega, h3, by omega, h5, by omega, by decide, by decide, by decide, by decide, by decide, by decide, fun p e => brS_of (fun q => ?_) fun _ => ⟨h1, by omega, h3, by omega, h5, by omega, by decide, by decide, by omega, by omega, by decide, by decide, fun p1 e1 => h7 p1 (by rw [e1]; simp)⟩⟩
  have q : p < 0 := of_decide_eq_true q
  rw [Int.zero_mul] at e
  omega
theorem s_s3 : SoundT C0 13 tS3 := by
  refine .of Tryz.func13 (by decide) rfl fun args H K h hB => ?_
  unfold tS3 at h
  split at h <;> try exact h.elim
  unfold arMr at h
  split at h <;> try exact h.elim
  split at h <;> try exact h.elim
  rename_i b o t _ rd fr nd ct us gn rl _ lb lo lt
  refine ⟨A0, trivial, ?_⟩
  show vc C0 A0 _ _ (chS ⟨us, gn, rl, fr, nd, ct, rd⟩ ++ _) _
  generalize hS : (⟨us, gn, rl, fr, nd, ct, rd⟩ : Arn) = S at *
  clear hS
  refine Eq.mp (show (brS (b == o) ((K (SV.tup [(TV.at (At.val (Value.int IntKind.u32 (t)))), (TV.at (At.val (Value.bool true)))]) [(Chunk.box [(At.ptr 1 0), (At.slc 2), (At.slc 3), (At.val (Value.int IntKind.u64 (S.reads)))]), (Chunk.box [(At.slc 4), (At.slc 5), (At.slc 6), (At.val (Value.int IntKind.u32 (S.fresh)))]), (Chunk.row true (EC.node) (S.nodes)), (Chunk.row true (EC.int) (S.counts)), (Chunk.row true (EC.bool) (S.used)), (Chunk.row true (EC.u32) (S.gen)), (Chunk.row true (EC.u32) (S.rel)), (Chunk.row false (EC.ent) (lb)), (Chunk.row false (EC.ent) (lo)), (Chunk.row false (EC.ent) (lt))] [])) ((brS (b == t) ((K (SV.tup [(TV.at (At.val (Value.int IntKind.u32 (o)))), (TV.at (At.val (Value.bool true)))]) [(Chunk.box [(At.ptr 1 0), (At.slc 2), (At.slc 3), (At.val (Value.int IntKind.u64 (S.reads)))]), (Chunk.box [(At.slc 4), (At.slc 5), (At.slc 6), (At.val (Value.int IntKind.u32 (S.fresh)))]), (Chunk.row true (EC.node) (S.nodes)), (Chunk.row true (EC.int) (S.counts)), (Chunk.row true (EC.bool) (S.used)), (Chunk.row true (EC.u32) (S.gen)), (Chunk.row true (EC.u32) (S.rel)), (Chunk.row false (EC.ent) (lb)), (Chunk.row false (EC.ent) (lo)), (Chunk.row false (EC.ent) (lt))] [])) ((brS (o == t)
    ((K (SV.tup [(TV.at (At.val (Value.int IntKind.u32 (o)))), (TV.at (At.val (Value.bool true)))]) [(Chunk.box [(At.ptr 1 0), (At.slc 2), (At.slc 3), (At.val (Value.int IntKind.u64 (S.reads)))]), (Chunk.box [(At.slc 4), (At.slc 5), (At.slc 6), (At.val (Value.int IntKind.u32 (S.fresh)))]), (Chunk.row true (EC.node) (S.nodes)), (Chunk.row true (EC.int) (S.counts)), (Chunk.row true (EC.bool) (S.used)), (Chunk.row true (EC.u32) (S.gen)), (Chunk.row true (EC.u32) (S.rel)), (Chunk.row false (EC.ent) (lb)), (Chunk.row false (EC.ent) (lo)), (Chunk.row false (EC.ent) (lt))] [])) ((K (SV.tup [(TV.at (At.val (Value.int IntKind.u32 0))), (TV.at (At.val (Value.bool false)))]) [(Chunk.box [(At.ptr 1 0), (At.slc 2), (At.slc 3), (At.val (Value.int IntKind.u64 (S.reads)))]), (Chunk.box [(At.slc 4), (At.slc 5), (At.slc 6), (At.val (Value.int IntKind.u32 (S.fresh)))]), (Chunk.row true (EC.node) (S.nodes)), (Chunk.row true (EC.int) (S.counts)), (Chunk.row true (EC.bool) (S.used)), (Chunk.row true (EC.u32) (S.gen)), (Chunk.row true (EC.u32) (S.rel)), (Chunk.row false (EC.ent) (lb)), (Chunk.row false (EC.ent) (lo)), (Chunk.row false (EC.ent) (lt))] []))))))) = _ by kernel_rfl) ?_
  refine brS_of (fun c => ?_) fun c => brS_of (fun d => ?_) fun d => brS_of (fun e => ?_) fun e => ?_
  · have c : b = o := by simpa using c
    exact h t true (decide_eq_true (.inl c)).symm fun _ => by unfold trivI; rw [if_pos c]
  all_goals have c : ¬ b = o := by simpa using c
  · have d : b = t := by simpa using d
    exact h o true (decide_eq_true (.inr (.inl d))).symm fun _ => by unfold trivI; rw [if_neg c]
  all_goals have d : ¬ b = t := by simpa using d
  · have e : o = t := by simpa using e
    exact h o true (decide_eq_true (.inr (.inr e))).symm fun _ => by unfold trivI; rw [if_neg c]
  · have e : ¬ o = t := by simpa using e
    have n : ¬ trivB b o t := fun q => q.elim c fun q => q.elim d e
    exact h 0 false (decide_eq_false n).symm fun q => absurd q n
set_option maxRecDepth 100000 in
theorem vc_sq (S : Arn) (lb lo lt : List Ent) (b o t fr : Int) (K : KT) (hs : List Int) (w : Wf S hs) (hl : hs.length ≤ 1000) (hf : 0 ≤ fr)
    (h : ∀ S' k L, SqR S hs k S' L → k ≤ 10000 → K (.tup [.at (.slc 10), .at (vB true)]) (chS S' ++ [.row false EC.ent lb, .row false EC.ent lo, .row false EC.ent lt, .row true EC.u32 L]) W7) :
    vc C0 (aSq (fun k S' L => k ≤ 10000 ∧ SqR S hs k S' L) lb lo lt b o t) Tryz.f7 [.agg [.ptr 0 0, vU b, vU o, vU t, .slc 7, .slc 8, .slc 9], .at (vI fr)] (chS S ++ [.row false EC.ent lb, .row false EC.ent lo, .row false EC.ent lt]) (normK 10 (wideK W7 K)) := by
  generalize hP : (fun k S' L => k ≤ 10000 ∧ SqR S hs k S' L) = P
  refine Eq.mp (show ((∃ x : XSq P, (True ∧ (((Value.int IntKind.i64 (fr)) = (Value.int IntKind.i64 (fr))) ∧ True ∧ True ∧ ((Value.int IntKind.i64 0) = (Value.int IntKind.i64 ((↑x.k : Int)))) ∧ True) ∧ (True ∧ True ∧ True ∧ ((Value.int IntKind.u64 (S.reads)) = (Value.int IntKind.u64 (x.S.reads))) ∧ True) ∧ (True ∧ True ∧ True ∧ ((Value.int IntKind.u32 (S.fresh)) = (Value.int IntKind.u32 (x.S.fresh))) ∧ True) ∧ ((S.nodes) = (x.S.nodes)) ∧ ((S.counts) = (x.S.counts)) ∧ ((S.used) = (x.S.used)) ∧ ((S.gen) = (x.S.gen)) ∧ ((S.rel) = (x.S.rel)) ∧ ((lb) = (lb)) ∧ ((lo) = (lo)) ∧ ((lt) = (lt)) ∧ (True ∧ ((Value.int IntKind.u32 (b)) = (Value.int IntKind.u32 (b))) ∧ ((Value.int IntKind.u32 (o)) = (Value.int IntKind.u32 (o))) ∧ ((Value.int IntKind.u32 (t)) = (Value.int IntKind.u32 (t))) ∧ True ∧ True ∧ True ∧ True) ∧ ([] = (x.L)) ∧ True)) ∧
(∀ x : XSq P, (True → ((exW x.S) ∧ (brS (decide (x.S.free > fr)) ((brS (decide ((↑x.k : Int) < 10000)) (((exW x.S) ∧ (live x.S 0) ∧ (live x.S 0) ∧ ((mkNode x.S 0 0 0 0).size ≤ maxSize) ∧ (0 < x.S.free) ∧ (∀ S' : Arn, (∀ i : Int, (((S') = (makeS x.S 0 0 0 0)) → (((i) = (nxt x.S)) → (((x.L.length + [i].length) * bytesOf C0 EC.u32 ≤ 140737488355328) ∧ (∃ x' : XSq P, (True ∧ ((((Value.int IntKind.i64 (fr)) = (Value.int IntKind.i64 (fr))) ∧ True ∧ True ∧ ((Value.int IntKind.i64 (IntKind.i64.wrap ((↑x.k : Int) + 1))) = (Value.int IntKind.i64 ((↑x'.k : Int)))) ∧ True) ∧ (True ∧ True ∧ True ∧ ((Value.int IntKind.u64 (S'.reads)) = (Value.int IntKind.u64 (x'.S.reads))) ∧ True) ∧
    (True ∧ True ∧ True ∧ ((Value.int IntKind.u32 (S'.fresh)) = (Value.int IntKind.u32 (x'.S.fresh))) ∧ True) ∧ ((S'.nodes) = (x'.S.nodes)) ∧ ((S'.counts) = (x'.S.counts)) ∧ ((S'.used) = (x'.S.used)) ∧ ((S'.gen) = (x'.S.gen)) ∧ ((S'.rel) = (x'.S.rel)) ∧ ((lb) = (lb)) ∧ ((lo) = (lo)) ∧ ((lt) = (lt)) ∧ (True ∧ ((Value.int IntKind.u32 (b)) = (Value.int IntKind.u32 (b))) ∧ ((Value.int IntKind.u32 (o)) = (Value.int IntKind.u32 (o))) ∧ ((Value.int IntKind.u32 (t)) = (Value.int IntKind.u32 (t))) ∧ True ∧ True ∧ True ∧ True) ∧ ((x.L ++ [i]) = (x'.L)) ∧ True) ∧ (10000 - x'.k < 10000 - x.k)))))))))) ((K (SV.tup [(TV.at (At.slc 10)), (TV.at (At.val (Value.bool true)))]) [(Chunk.box [(At.ptr 1 0), (At.slc 2), (At.slc 3), (At.val (Value.int IntKind.u64 (x.S.reads)))]), (Chunk.box [(At.slc 4), (At.slc 5), (At.slc 6), (At.val (Value.int IntKind.u32 (x.S.fresh)))]), (Chunk.row true (EC.node) (x.S.nodes)), (Chunk.row true (EC.int) (x.S.counts)), (Chunk.row true (EC.bool) (x.S.used)), (Chunk.row true (EC.u32) (x.S.gen)), (Chunk.row true (EC.u32) (x.S.rel)), (Chunk.row false (EC.ent) (lb)), (Chunk.row false (EC.ent) (lo)), (Chunk.row false (EC.ent) (lt)), (Chunk.row true (EC.u32) (x.L))] [0, 1, 2, 3, 4, 5, 6]))))
    ((K (SV.tup [(TV.at (At.slc 10)), (TV.at (At.val (Value.bool true)))]) [(Chunk.box [(At.ptr 1 0), (At.slc 2), (At.slc 3), (At.val (Value.int IntKind.u64 (x.S.reads)))]), (Chunk.box [(At.slc 4), (At.slc 5), (At.slc 6), (At.val (Value.int IntKind.u32 (x.S.fresh)))]), (Chunk.row true (EC.node) (x.S.nodes)), (Chunk.row true (EC.int) (x.S.counts)), (Chunk.row true (EC.bool) (x.S.used)), (Chunk.row true (EC.u32) (x.S.gen)), (Chunk.row true (EC.u32) (x.S.rel)), (Chunk.row false (EC.ent) (lb)), (Chunk.row false (EC.ent) (lo)), (Chunk.row false (EC.ent) (lt)), (Chunk.row true (EC.u32) (x.L))] [0, 1, 2, 3, 4, 5, 6]))))))) = _ by kernel_rfl) ?_
  subst hP
  refine ⟨⟨⟨0, S, [], Nat.zero_le _, SqR.zero w⟩, ?_⟩, fun x _ => ?_⟩
  · (repeat' first | exact trivial | exact rfl | refine And.intro ?_ ?_)
  obtain ⟨k, S1, L, hk, sq⟩ := x
  dsimp only
  refine ⟨⟨_, sq.wf⟩, brS_of (fun c => brS_of (fun d => ?_) fun _ => h S1 k L sq hk) fun _ => h S1 k L sq hk⟩
  have c : S1.free > fr := of_decide_eq_true c
  have d : k < 10000 := by have := of_decide_eq_true d; omega
  have w0 : Wf S1 (L ++ hs) := sq.wf
  have e0 := sq.len
  refine ⟨⟨_, w0⟩, .inl rfl, .inl rfl, by rw [mk_size (tl := .nil) (tr := .nil) w0 rfl rfl]; decide, by omega, fun S2 i e2 ei => ⟨?_, ⟨k + 1, S2, L ++ [i], d, by rw [e2, ei]; exact sq.step (by omega) (by omega)⟩, trivial, ?_, by show 10000 - (k + 1) < 10000 - k; omega⟩⟩
  · rw [bytes_u32]; simp only [List.length_singleton]; omega
  · (repeat' first | exact trivial | exact rfl | exact congrArg (Value.int .i64) (wrap_next d (by omega)) | refine And.intro ?_ ?_)
theorem s_sq : SoundT C0 7 tSq := by
  refine .ofW W7 Tryz.func7 (by decide) rfl fun args H K h hB => ?_
  unfold tSq at h
  split at h <;> try exact h.elim
  unfold arMr at h
  split at h <;> try exact h.elim
  split at h <;> try exact h.elim
  rename_i b o t fr2 _ rd fr nd ct us gn rl _ lb lo lt
  obtain ⟨hs, h1, h2, h3, h4⟩ := h
  exact ⟨aSq (fun k S' L => k ≤ 10000 ∧ SqR ⟨us, gn, rl, fr, nd, ct, rd⟩ hs k S' L) lb lo lt b o t, ⟨frame C0.ok s_free _, frame C0.ok s_makeOk _, trivial⟩, vc_sq ⟨us, gn, rl, fr, nd, ct, rd⟩ lb lo lt b o t fr2 K hs h1 h2 h3 h4⟩
theorem dq1 {x y : Option Int} (h : (x.isSome == y.isSome) = true) : (x.getD 0 == y.getD 0) = decide (x = y) := by
  cases x <;> cases y <;> simp_all [Bool.beq_eq_decide_eq]
theorem dq0 {x y : Option Int} (h : (x.isSome == y.isSome) = false) : x ≠ y := fun e => by rw [e] at h; simp at h
set_option maxRecDepth 100000 in
theorem vc_mrd (b o t : List Ent) (k p : Int) (K : KT) (h : ∀ r, r = mergedO p (getE b k) (getE o k) (getE t k) → K (.tup [.at (vI (r.getD 0)), .at (vB r.isSome)]) [.row false EC.ent b, .row false EC.ent o, .row false EC.ent t] []) :
    vc C0 (aMrd (fun u v w z => (u = getE b k ∧ v = getE o k ∧ w = getE t k) ∧ z = decide (v = w)) (fun u v w z => (u = getE b k ∧ v = getE o k ∧ w = getE t k) ∧ z = decide (v = w ∨ u = w)) (fun u v w z => (u = getE b k ∧ v = getE o k ∧ w = getE t k) ∧ ¬ (v = w ∨ u = w) ∧ z = decide (u = v))
      (fun u v w z => (u = getE b k ∧ v = getE o k ∧ w = getE t k) ∧ ¬ (v = w ∨ u = w) ∧ u ≠ v ∧ p ≠ 2 ∧ z = decide (p = 4 ∧ v.isSome = true ∧ w.isSome = true)) (fun u v w z => (u = getE b k ∧ v = getE o k ∧ w = getE t k) ∧ ¬ (v = w ∨ u = w) ∧ u ≠ v ∧ p ≠ 2 ∧ ¬ (p = 4 ∧ v.isSome = true ∧ w.isSome = true) ∧ z = decide (p = 4 ∧ w.isSome = true)) b o t)
      Tryz.f52 [.at (.slc 0), .at (.slc 1), .at (.slc 2), .at (vI k), .at (vI p)] [.row false EC.ent b, .row false EC.ent o, .row false EC.ent t] (normK 3 K) := by
  generalize hP1 : (fun u v w z => (u = getE b k ∧ v = getE o k ∧ w = getE t k) ∧ z = decide (v = w)) = P1
  generalize hP2 : (fun u v w z => (u = getE b k ∧ v = getE o k ∧ w = getE t k) ∧ z = decide (v = w ∨ u = w)) = P2
  generalize hP3 : (fun u v w z => (u = getE b k ∧ v = getE o k ∧ w = getE t k) ∧ ¬ (v = w ∨ u = w) ∧ z = decide (u = v)) = P3
  generalize hP4 : (fun u v w z => (u = getE b k ∧ v = getE o k ∧ w = getE t k) ∧ ¬ (v = w ∨ u = w) ∧ u ≠ v ∧ p ≠ 2 ∧ z = decide (p = 4 ∧ v.isSome = true ∧ w.isSome = true)) = P4
  generalize hP5 : (fun u v w z => (u = getE b k ∧ v = getE o k ∧ w = getE t k) ∧ ¬ (v = w ∨ u = w) ∧ u ≠ v ∧ p ≠ 2 ∧ ¬ (p = 4 ∧ v.isSome = true ∧ w.isSome = true) ∧ z = decide (p = 4 ∧ w.isSome = true)) = P5
  refine Eq.mp (show (∀ x : Option Int, (((x) = (getE b k)) → (∀ x1 : Option Int, (((x1) = (getE o k)) → (∀ x2 : Option Int, (((x2) = (getE t k)) → (((brS (x1.isSome == x2.isSome) ((∃ x3 : XMr P1, (True ∧ (((Value.int IntKind.i64 (p)) = (Value.int IntKind.i64 (p))) ∧ ((Value.int IntKind.i64 (x.getD 0)) = (Value.int IntKind.i64 (x3.u.getD 0))) ∧ ((Value.bool (x.isSome)) = (Value.bool (x3.u.isSome))) ∧ ((Value.int IntKind.i64 (x1.getD 0)) = (Value.int IntKind.i64 (x3.v.getD 0))) ∧ ((Value.bool (x1.isSome)) = (Value.bool (x3.v.isSome))) ∧ ((Value.int IntKind.i64 (x2.getD 0)) = (Value.int IntKind.i64 (x3.w.getD 0))) ∧ ((Value.bool (x2.isSome)) = (Value.bool (x3.w.isSome))) ∧ ((Value.bool (x1.getD 0 == x2.getD 0)) = (Value.bool (x3.z))) ∧ True) ∧ ((b) = (b)) ∧ ((o) = (o)) ∧ ((t) = (t)) ∧ True))) ((∃ x3 : XMr P1, (True ∧ (((Value.int IntKind.i64 (p)) = (Value.int IntKind.i64 (p))) ∧ ((Value.int IntKind.i64 (x.getD 0)) = (Value.int IntKind.i64 (x3.u.getD 0))) ∧ ((Value.bool (x.isSome)) = (Value.bool (x3.u.isSome))) ∧ ((Value.int IntKind.i64 (x1.getD 0)) = (Value.int IntKind.i64 (x3.v.getD 0))) ∧ ((Value.bool (x1.isSome)) = (Value.bool (x3.v.isSome))) ∧ ((Value.int IntKind.i64 (x2.getD 0)) = (Value.int IntKind.i64 (x3.w.getD 0))) ∧ ((Value.bool (x2.isSome)) = (Value.bool (x3.w.isSome))) ∧ ((Value.bool false) = (Value.bool (x3.z))) ∧ True) ∧ ((b) = (b)) ∧ ((o) = (o)) ∧ ((t) = (t)) ∧ True)))) ∧ (∀ x3 : XMr P1, (True → (brS (x3.z) ((∃ x4 : XMr P2, (True ∧
    (((Value.int IntKind.i64 (p)) = (Value.int IntKind.i64 (p))) ∧ ((Value.int IntKind.i64 (x3.u.getD 0)) = (Value.int IntKind.i64 (x4.u.getD 0))) ∧ ((Value.bool (x3.u.isSome)) = (Value.bool (x4.u.isSome))) ∧ ((Value.int IntKind.i64 (x3.v.getD 0)) = (Value.int IntKind.i64 (x4.v.getD 0))) ∧ ((Value.bool (x3.v.isSome)) = (Value.bool (x4.v.isSome))) ∧ ((Value.int IntKind.i64 (x3.w.getD 0)) = (Value.int IntKind.i64 (x4.w.getD 0))) ∧ ((Value.bool (x3.w.isSome)) = (Value.bool (x4.w.isSome))) ∧ ((Value.bool true) = (Value.bool (x4.z))) ∧ True) ∧ ((b) = (b)) ∧ ((o) = (o)) ∧ ((t) = (t)) ∧ True))) ((brS (x3.u.isSome == x3.w.isSome) ((∃ x4 : XMr P2, (True ∧ (((Value.int IntKind.i64 (p)) = (Value.int IntKind.i64 (p))) ∧ ((Value.int IntKind.i64 (x3.u.getD 0)) = (Value.int IntKind.i64 (x4.u.getD 0))) ∧ ((Value.bool (x3.u.isSome)) = (Value.bool (x4.u.isSome))) ∧ ((Value.int IntKind.i64 (x3.v.getD 0)) = (Value.int IntKind.i64 (x4.v.getD 0))) ∧ ((Value.bool (x3.v.isSome)) = (Value.bool (x4.v.isSome))) ∧ ((Value.int IntKind.i64 (x3.w.getD 0)) = (Value.int IntKind.i64 (x4.w.getD 0))) ∧ ((Value.bool (x3.w.isSome)) = (Value.bool (x4.w.isSome))) ∧ ((Value.bool (x3.u.getD 0 == x3.w.getD 0)) = (Value.bool (x4.z))) ∧ True) ∧ ((b) = (b)) ∧ ((o) = (o)) ∧ ((t) = (t)) ∧ True))) ((∃ x4 : XMr P2, (True ∧ (((Value.int IntKind.i64 (p)) = (Value.int IntKind.i64 (p))) ∧ ((Value.int IntKind.i64 (x3.u.getD 0)) = (Value.int IntKind.i64 (x4.u.getD 0))) ∧ ((Value.bool (x3.u.isSome)) = (Value.bool (x4.u.isSome))) ∧
    ((Value.int IntKind.i64 (x3.v.getD 0)) = (Value.int IntKind.i64 (x4.v.getD 0))) ∧ ((Value.bool (x3.v.isSome)) = (Value.bool (x4.v.isSome))) ∧ ((Value.int IntKind.i64 (x3.w.getD 0)) = (Value.int IntKind.i64 (x4.w.getD 0))) ∧ ((Value.bool (x3.w.isSome)) = (Value.bool (x4.w.isSome))) ∧ ((Value.bool false) = (Value.bool (x4.z))) ∧ True) ∧ ((b) = (b)) ∧ ((o) = (o)) ∧ ((t) = (t)) ∧ True))))))))) ∧ (∀ x3 : XMr P2, (True → (brS (x3.z) ((K (SV.tup [(TV.at (At.val (Value.int IntKind.i64 (x3.v.getD 0)))), (TV.at (At.val (Value.bool (x3.v.isSome))))]) [(Chunk.row false (EC.ent) (b)), (Chunk.row false (EC.ent) (o)), (Chunk.row false (EC.ent) (t))] [])) (((brS (x3.u.isSome == x3.v.isSome) ((∃ x4 : XMr P3, (True ∧ (((Value.int IntKind.i64 (p)) = (Value.int IntKind.i64 (p))) ∧ ((Value.int IntKind.i64 (x3.u.getD 0)) = (Value.int IntKind.i64 (x4.u.getD 0))) ∧ ((Value.bool (x3.u.isSome)) = (Value.bool (x4.u.isSome))) ∧ ((Value.int IntKind.i64 (x3.v.getD 0)) = (Value.int IntKind.i64 (x4.v.getD 0))) ∧ ((Value.bool (x3.v.isSome)) = (Value.bool (x4.v.isSome))) ∧ ((Value.int IntKind.i64 (x3.w.getD 0)) = (Value.int IntKind.i64 (x4.w.getD 0))) ∧ ((Value.bool (x3.w.isSome)) = (Value.bool (x4.w.isSome))) ∧ ((Value.bool (x3.u.getD 0 == x3.v.getD 0)) = (Value.bool (x4.z))) ∧ True) ∧ ((b) = (b)) ∧ ((o) = (o)) ∧ ((t) = (t)) ∧ True))) ((∃ x4 : XMr P3, (True ∧ (((Value.int IntKind.i64 (p)) = (Value.int IntKind.i64 (p))) ∧ ((Value.int IntKind.i64 (x3.u.getD 0)) = (Value.int IntKind.i64 (x4.u.getD 0))) ∧
    ((Value.bool (x3.u.isSome)) = (Value.bool (x4.u.isSome))) ∧ ((Value.int IntKind.i64 (x3.v.getD 0)) = (Value.int IntKind.i64 (x4.v.getD 0))) ∧ ((Value.bool (x3.v.isSome)) = (Value.bool (x4.v.isSome))) ∧ ((Value.int IntKind.i64 (x3.w.getD 0)) = (Value.int IntKind.i64 (x4.w.getD 0))) ∧ ((Value.bool (x3.w.isSome)) = (Value.bool (x4.w.isSome))) ∧ ((Value.bool false) = (Value.bool (x4.z))) ∧ True) ∧ ((b) = (b)) ∧ ((o) = (o)) ∧ ((t) = (t)) ∧ True)))) ∧ (∀ x4 : XMr P3, (True → (brS (x4.z) ((K (SV.tup [(TV.at (At.val (Value.int IntKind.i64 (x4.w.getD 0)))), (TV.at (At.val (Value.bool (x4.w.isSome))))]) [(Chunk.row false (EC.ent) (b)), (Chunk.row false (EC.ent) (o)), (Chunk.row false (EC.ent) (t))] [])) ((brS (p == 2) ((K (SV.tup [(TV.at (At.val (Value.int IntKind.i64 (x4.w.getD 0)))), (TV.at (At.val (Value.bool (x4.w.isSome))))]) [(Chunk.row false (EC.ent) (b)), (Chunk.row false (EC.ent) (o)), (Chunk.row false (EC.ent) (t))] [])) (((brS (p == 4) ((brS (x4.v.isSome) ((∃ x5 : XMr P4, (True ∧ (((Value.int IntKind.i64 (p)) = (Value.int IntKind.i64 (p))) ∧ ((Value.int IntKind.i64 (x4.u.getD 0)) = (Value.int IntKind.i64 (x5.u.getD 0))) ∧ ((Value.bool (x4.u.isSome)) = (Value.bool (x5.u.isSome))) ∧ ((Value.int IntKind.i64 (x4.v.getD 0)) = (Value.int IntKind.i64 (x5.v.getD 0))) ∧ ((Value.bool (x4.v.isSome)) = (Value.bool (x5.v.isSome))) ∧ ((Value.int IntKind.i64 (x4.w.getD 0)) = (Value.int IntKind.i64 (x5.w.getD 0))) ∧ ((Value.bool (x4.w.isSome)) = (Value.bool (x5.w.isSome))) ∧
    ((Value.bool (x4.w.isSome)) = (Value.bool (x5.z))) ∧ True) ∧ ((b) = (b)) ∧ ((o) = (o)) ∧ ((t) = (t)) ∧ True))) ((∃ x5 : XMr P4, (True ∧ (((Value.int IntKind.i64 (p)) = (Value.int IntKind.i64 (p))) ∧ ((Value.int IntKind.i64 (x4.u.getD 0)) = (Value.int IntKind.i64 (x5.u.getD 0))) ∧ ((Value.bool (x4.u.isSome)) = (Value.bool (x5.u.isSome))) ∧ ((Value.int IntKind.i64 (x4.v.getD 0)) = (Value.int IntKind.i64 (x5.v.getD 0))) ∧ ((Value.bool (x4.v.isSome)) = (Value.bool (x5.v.isSome))) ∧ ((Value.int IntKind.i64 (x4.w.getD 0)) = (Value.int IntKind.i64 (x5.w.getD 0))) ∧ ((Value.bool (x4.w.isSome)) = (Value.bool (x5.w.isSome))) ∧ ((Value.bool false) = (Value.bool (x5.z))) ∧ True) ∧ ((b) = (b)) ∧ ((o) = (o)) ∧ ((t) = (t)) ∧ True))))) ((∃ x5 : XMr P4, (True ∧ (((Value.int IntKind.i64 (p)) = (Value.int IntKind.i64 (p))) ∧ ((Value.int IntKind.i64 (x4.u.getD 0)) = (Value.int IntKind.i64 (x5.u.getD 0))) ∧ ((Value.bool (x4.u.isSome)) = (Value.bool (x5.u.isSome))) ∧ ((Value.int IntKind.i64 (x4.v.getD 0)) = (Value.int IntKind.i64 (x5.v.getD 0))) ∧ ((Value.bool (x4.v.isSome)) = (Value.bool (x5.v.isSome))) ∧ ((Value.int IntKind.i64 (x4.w.getD 0)) = (Value.int IntKind.i64 (x5.w.getD 0))) ∧ ((Value.bool (x4.w.isSome)) = (Value.bool (x5.w.isSome))) ∧ ((Value.bool false) = (Value.bool (x5.z))) ∧ True) ∧ ((b) = (b)) ∧ ((o) = (o)) ∧ ((t) = (t)) ∧ True)))) ∧ (∀ x5 : XMr P4, (True → (brS (x5.z)
    ((K (SV.tup [(TV.at (At.val (Value.int IntKind.i64 (IntKind.i64.wrap (IntKind.i64.wrap (x5.v.getD 0 + x5.w.getD 0) - x5.u.getD 0))))), (TV.at (At.val (Value.bool true)))]) [(Chunk.row false (EC.ent) (b)), (Chunk.row false (EC.ent) (o)), (Chunk.row false (EC.ent) (t))] [])) (((brS (p == 4) ((∃ x6 : XMr P5, (True ∧ (((Value.int IntKind.i64 (x5.u.getD 0)) = (Value.int IntKind.i64 (x6.u.getD 0))) ∧ ((Value.bool (x5.u.isSome)) = (Value.bool (x6.u.isSome))) ∧ ((Value.int IntKind.i64 (x5.v.getD 0)) = (Value.int IntKind.i64 (x6.v.getD 0))) ∧ ((Value.bool (x5.v.isSome)) = (Value.bool (x6.v.isSome))) ∧ ((Value.int IntKind.i64 (x5.w.getD 0)) = (Value.int IntKind.i64 (x6.w.getD 0))) ∧ ((Value.bool (x5.w.isSome)) = (Value.bool (x6.w.isSome))) ∧ ((Value.bool (x5.w.isSome)) = (Value.bool (x6.z))) ∧ True) ∧ ((b) = (b)) ∧ ((o) = (o)) ∧ ((t) = (t)) ∧ True))) ((∃ x6 : XMr P5, (True ∧ (((Value.int IntKind.i64 (x5.u.getD 0)) = (Value.int IntKind.i64 (x6.u.getD 0))) ∧ ((Value.bool (x5.u.isSome)) = (Value.bool (x6.u.isSome))) ∧ ((Value.int IntKind.i64 (x5.v.getD 0)) = (Value.int IntKind.i64 (x6.v.getD 0))) ∧ ((Value.bool (x5.v.isSome)) = (Value.bool (x6.v.isSome))) ∧ ((Value.int IntKind.i64 (x5.w.getD 0)) = (Value.int IntKind.i64 (x6.w.getD 0))) ∧ ((Value.bool (x5.w.isSome)) = (Value.bool (x6.w.isSome))) ∧ ((Value.bool false) = (Value.bool (x6.z))) ∧ True) ∧ ((b) = (b)) ∧ ((o) = (o)) ∧ ((t) = (t)) ∧ True)))) ∧ (∀ x6 : XMr P5, (True → (brS (x6.z)
    ((K (SV.tup [(TV.at (At.val (Value.int IntKind.i64 (x6.w.getD 0)))), (TV.at (At.val (Value.bool true)))]) [(Chunk.row false (EC.ent) (b)), (Chunk.row false (EC.ent) (o)), (Chunk.row false (EC.ent) (t))] [])) ((K (SV.tup [(TV.at (At.val (Value.int IntKind.i64 (x6.v.getD 0)))), (TV.at (At.val (Value.bool (x6.v.isSome))))]) [(Chunk.row false (EC.ent) (b)), (Chunk.row false (EC.ent) (o)), (Chunk.row false (EC.ent) (t))] []))))))))))))))))))))))))))))) = _ by kernel_rfl) ?_
  subst hP1 hP2 hP3 hP4 hP5
  have fin : ∀ {u v w : Option Int}, (u = getE b k ∧ v = getE o k ∧ w = getE t k) → ∀ r, r = mergedO p u v w → K (.tup [.at (vI (r.getD 0)), .at (vB r.isSome)]) [.row false EC.ent b, .row false EC.ent o, .row false EC.ent t] [] := fun E r e => h r (by rw [e, E.1, E.2.1, E.2.2])
  refine fun u eu v ev w ew => ⟨⟨brS_of (fun c => ⟨⟨u, v, w, (v.getD 0 == w.getD 0), ⟨eu, ev, ew⟩, dq1 c⟩, by (repeat' first | exact trivial | exact rfl | refine And.intro ?_ ?_)⟩) fun c => ⟨⟨u, v, w, false, ⟨eu, ev, ew⟩, (decide_eq_false (dq0 c)).symm⟩, by (repeat' first | exact trivial | exact rfl | refine And.intro ?_ ?_)⟩, fun x _ => ?_⟩, fun x _ => ?_⟩
  · obtain ⟨u, v, w, z, E, hz⟩ := x
    dsimp only
    refine brS_of (fun c => ⟨⟨u, v, w, true, E, ?_⟩, by (repeat' first | exact trivial | exact rfl | refine And.intro ?_ ?_)⟩) fun c => brS_of (fun d => ⟨⟨u, v, w, (u.getD 0 == w.getD 0), E, ?_⟩, by (repeat' first | exact trivial | exact rfl | refine And.intro ?_ ?_)⟩) fun d => ⟨⟨u, v, w, false, E, ?_⟩, by (repeat' first | exact trivial | exact rfl | refine And.intro ?_ ?_)⟩
    · rw [c] at hz
      exact (decide_eq_true (.inl (of_decide_eq_true hz.symm))).symm
    · rw [c] at hz
      have n := of_decide_eq_false hz.symm
      rw [dq1 d]
      exact decide_eq_decide.2 ⟨.inr, fun q => q.resolve_left n⟩
    · rw [c] at hz
      have n := of_decide_eq_false hz.symm
      exact (decide_eq_false fun q => q.elim n (dq0 d)).symm
  obtain ⟨u, v, w, z, E, hz⟩ := x
  dsimp only
  refine brS_of (fun c => fin E v ?_) fun c => ⟨brS_of (fun d => ⟨⟨u, v, w, (u.getD 0 == v.getD 0), E, ?_, dq1 d⟩, by (repeat' first | exact trivial | exact rfl | refine And.intro ?_ ?_)⟩) fun d => ⟨⟨u, v, w, false, E, ?_, (decide_eq_false (dq0 d)).symm⟩, by (repeat' first | exact trivial | exact rfl | refine And.intro ?_ ?_)⟩, fun x _ => ?_⟩
  · rw [c] at hz
    unfold mergedO
    rw [if_pos (of_decide_eq_true hz.symm)]
  · rw [c] at hz; exact of_decide_eq_false hz.symm
  · rw [c] at hz; exact of_decide_eq_false hz.symm
  clear c hz E z w v u
  obtain ⟨u, v, w, z, E, n1, hz⟩ := x
  dsimp only
  refine brS_of (fun c => fin E w ?_) fun c => brS_of (fun d => fin E w ?_) fun d => ?_
  · rw [c] at hz
    unfold mergedO
    rw [if_neg n1, if_pos (of_decide_eq_true hz.symm)]
  · have d : p = 2 := by simpa using d
    rw [c] at hz
    unfold mergedO
    rw [if_neg n1, if_neg (of_decide_eq_false hz.symm), if_pos d]
  have d : p ≠ 2 := by simpa using d
  rw [c] at hz
  have n2 := of_decide_eq_false hz.symm
  refine ⟨brS_of (fun e => brS_of (fun f => ⟨⟨u, v, w, w.isSome, E, n1, n2, d, ?_⟩, by (repeat' first | exact trivial | exact rfl | refine And.intro ?_ ?_)⟩) fun f => ⟨⟨u, v, w, false, E, n1, n2, d, ?_⟩, by (repeat' first | exact trivial | exact rfl | refine And.intro ?_ ?_)⟩) fun e => ⟨⟨u, v, w, false, E, n1, n2, d, ?_⟩, by (repeat' first | exact trivial | exact rfl | refine And.intro ?_ ?_)⟩, fun x _ => ?_⟩
  · have e : p = 4 := by simpa using e
    cases g : w.isSome with
    | true => exact (decide_eq_true ⟨e, f, rfl⟩).symm
    | false => exact (decide_eq_false fun q => Bool.noConfusion q.2.2).symm
  · exact (decide_eq_false fun q => by rw [q.2.1] at f; cases f).symm
  · have e : p ≠ 4 := by simpa using e
    exact (decide_eq_false fun q => e q.1).symm
  clear n2 c hz n1 E z w v u
  obtain ⟨u, v, w, z, E, n1, n2, n3, hz⟩ := x
  dsimp only
  refine brS_of (fun c => ?_) fun c => ⟨brS_of (fun e => ⟨⟨u, v, w, w.isSome, E, n1, n2, n3, ?_, ?_⟩, by (repeat' first | exact trivial | exact rfl | refine And.intro ?_ ?_)⟩) fun e => ⟨⟨u, v, w, false, E, n1, n2, n3, ?_, ?_⟩, by (repeat' first | exact trivial | exact rfl | refine And.intro ?_ ?_)⟩, fun x _ => ?_⟩
  · rw [c] at hz
    obtain ⟨e, f, g⟩ := of_decide_eq_true hz.symm
    obtain ⟨v1, rfl⟩ : ∃ v1, v = some v1 := by cases v with | none => cases f | some v1 => exact ⟨v1, rfl⟩
    obtain ⟨w1, rfl⟩ : ∃ w1, w = some w1 := by cases w with | none => cases g | some w1 => exact ⟨w1, rfl⟩
    rw [wrap_64, wrap_64]
    exact fin E (some (RowKit.wrap64 (RowKit.wrap64 (v1 + w1) - u.getD 0))) (by unfold mergedO; rw [if_neg n1, if_neg n2, if_neg n3, if_pos e])
  · rw [c] at hz; exact of_decide_eq_false hz.symm
  · have e : p = 4 := by simpa using e
    cases g : w.isSome with
    | true => exact (decide_eq_true ⟨e, rfl⟩).symm
    | false => exact (decide_eq_false fun q => Bool.noConfusion q.2).symm
  · rw [c] at hz; exact of_decide_eq_false hz.symm
  · have e : p ≠ 4 := by simpa using e
    exact (decide_eq_false fun q => e q.1).symm
  clear c hz n3 n2 n1 E z w v u
  obtain ⟨u, v, w, z, E, n1, n2, n3, n4, hz⟩ := x
  dsimp only
  refine brS_of (fun c => ?_) fun c => ?_
  · rw [c] at hz
    obtain ⟨e, g⟩ := of_decide_eq_true hz.symm
    obtain ⟨w1, rfl⟩ : ∃ w1, w = some w1 := by cases w with | none => cases g | some w1 => exact ⟨w1, rfl⟩
    have vn : v = none := by cases v with | none => rfl | some v1 => exact absurd ⟨e, rfl, rfl⟩ n4
    exact fin E (some w1) (by unfold mergedO; rw [if_neg n1, if_neg n2, if_neg n3, if_pos e, vn])
  · rw [c] at hz
    have n5 := of_decide_eq_false hz.symm
    refine fin E v ?_
    unfold mergedO
    rw [if_neg n1, if_neg n2, if_neg n3]
    by_cases e : p = 4
    · have wn : w = none := by cases w with | none => rfl | some w1 => exact absurd ⟨e, rfl⟩ n5
      rw [if_pos e, wn]
    · rw [if_neg e]
theorem s_mrd : SoundT C0 52 tMrd := by
  refine .of Tryz.func52 (by decide) rfl fun args H K h hB => ?_
  unfold tMrd at h
  split at h <;> try exact h.elim
  rename_i k p b o t
  refine ⟨_, ?_, vc_mrd b o t k p K h⟩
  exact ⟨frame C0.ok s_get _, trivial⟩
theorem mergeL_snoc (b o t : List Ent) (p : Int) {ks : List Int} {i : Nat} (h : i < ks.length) : mergeL b o t p (ks.take (i + 1)) = mergeL b o t p (ks.take i) ++ ((mergedO p (getE b (iA ks i)) (getE o (iA ks i)) (getE t (iA ks i))).toList.map fun v => (iA ks i, v)) := by
  unfold mergeL
  rw [take_snoc (iA_get h), List.flatMap_append, List.flatMap_singleton]
theorem mergeL_len (b o t : List Ent) (p : Int) (ks : List Int) (i : Nat) : (mergeL b o t p (ks.take i)).length ≤ i := by
  refine Nat.le_trans (flatMap1_len (fun k => ?_) _) (List.length_take_le _ _)
  cases mergedO p (getE b k) (getE o k) (getE t k) <;> simp
theorem vc_m9 (b o t : List Ent) (p : Int) (K : KT) (hsm : b.length + o.length + t.length ≤ 1000000) (h : K (.one (.at (.slc 3))) [.row false EC.ent b, .row false EC.ent o, .row false EC.ent t, .row true EC.ent (mergeE b o t p)] []) :
    vc C0 (aM9 b o t p) Tryz.f19 [.at (.slc 0), .at (.slc 1), .at (.slc 2), .at (vI p)] [.row false EC.ent b, .row false EC.ent o, .row false EC.ent t] (normK 3 K) := by
  refine Eq.mp (show ((b.length + o.length + t.length ≤ 1000000) ∧
(∃ x : XM9 b o t, (True ∧ (True ∧ True ∧ True ∧ ((Value.int IntKind.i64 (p)) = (Value.int IntKind.i64 (p))) ∧ True ∧ True ∧ ((Value.int IntKind.i64 0) = (Value.int IntKind.i64 ((↑x.i : Int)))) ∧ True) ∧ ((b) = (b)) ∧ ((o) = (o)) ∧ ((t) = (t)) ∧ ((keys3 b o t) = (keys3 b o t)) ∧ ([] = (mergeL b o t p (List.take x.i (keys3 b o t)))) ∧ True)) ∧
(∀ x : XM9 b o t, (True → (brS (decide ((↑x.i : Int) < (↑(keys3 b o t).length : Int))) (((0 ≤ (↑x.i : Int)) ∧ ((↑x.i : Int) < (↑(keys3 b o t).length : Int)) ∧ (∀ r : Option Int, (((r) = (mergedO p (getE b (iA (keys3 b o t) x.i)) (getE o (iA (keys3 b o t) x.i)) (getE t (iA (keys3 b o t) x.i)))) → (brS (r.isSome) (((0 ≤ (↑x.i : Int)) ∧ ((↑x.i : Int) < (↑(keys3 b o t).length : Int)) ∧ (((mergeL b o t p (List.take x.i (keys3 b o t))).length + [(iA (keys3 b o t) x.i, r.getD 0)].length) * bytesOf C0 EC.ent ≤ 140737488355328) ∧ (∃ x' : XM9 b o t, (True ∧ ((True ∧ True ∧ True ∧ ((Value.int IntKind.i64 (p)) = (Value.int IntKind.i64 (p))) ∧ True ∧ True ∧ ((Value.int IntKind.i64 (IntKind.i64.wrap ((↑x.i : Int) + 1))) = (Value.int IntKind.i64 ((↑x'.i : Int)))) ∧ True) ∧ ((b) = (b)) ∧ ((o) = (o)) ∧ ((t) = (t)) ∧ ((keys3 b o t) = (keys3 b o t)) ∧ ((mergeL b o t p (List.take x.i (keys3 b o t)) ++ [(iA (keys3 b o t) x.i, r.getD 0)]) = (mergeL b o t p (List.take x'.i (keys3 b o t)))) ∧ True) ∧ ((keys3 b o t).length - x'.i < (keys3 b o t).length - x.i))))) ((∃ x' : XM9 b o t, (True ∧ ((True ∧ True ∧ True ∧
    ((Value.int IntKind.i64 (p)) = (Value.int IntKind.i64 (p))) ∧ True ∧ True ∧ ((Value.int IntKind.i64 (IntKind.i64.wrap ((↑x.i : Int) + 1))) = (Value.int IntKind.i64 ((↑x'.i : Int)))) ∧ True) ∧ ((b) = (b)) ∧ ((o) = (o)) ∧ ((t) = (t)) ∧ ((keys3 b o t) = (keys3 b o t)) ∧ ((mergeL b o t p (List.take x.i (keys3 b o t))) = (mergeL b o t p (List.take x'.i (keys3 b o t)))) ∧ True) ∧ ((keys3 b o t).length - x'.i < (keys3 b o t).length - x.i))))))))) ((K (SV.one (TV.at (At.slc 3))) [(Chunk.row false (EC.ent) (b)), (Chunk.row false (EC.ent) (o)), (Chunk.row false (EC.ent) (t)), (Chunk.row true (EC.ent) (mergeL b o t p (List.take x.i (keys3 b o t))))] [])))))) = _ by kernel_rfl) ?_
  have lk := keys3_len b o t
  refine ⟨hsm, ⟨⟨0, Nat.zero_le _⟩, ?_⟩, fun x _ => brS_of (fun c => ?_) fun c => ?_⟩
  · (repeat' first | exact trivial | exact rfl | refine And.intro ?_ ?_)
  · obtain ⟨i, hi⟩ := x
    dsimp only at c ⊢
    have c : i < (keys3 b o t).length := by have := of_decide_eq_true c; omega
    have sn := mergeL_snoc b o t p c
    have ln := mergeL_len b o t p (keys3 b o t) i
    have nx := wrap_next c (by omega)
    refine ⟨by omega, by omega, fun r er => ?_⟩
    rw [← er] at sn
    refine brS_of (fun q => ⟨by omega, by omega, ?_, ⟨i + 1, c⟩, trivial, ?_, by show _ - (i + 1) < _; omega⟩) fun q => ⟨⟨i + 1, c⟩, trivial, ?_, by show _ - (i + 1) < _; omega⟩
    · rw [bytes_ent]; simp only [List.length_singleton]; omega
    · obtain ⟨v, rfl⟩ : ∃ v, r = some v := by cases r with | none => cases q | some v => exact ⟨v, rfl⟩
      (repeat' first | exact trivial | exact rfl | exact congrArg (Value.int .i64) nx | exact sn.symm | refine And.intro ?_ ?_)
    · obtain rfl : r = none := by cases r with | none => rfl | some v => cases q
      have sn : mergeL b o t p ((keys3 b o t).take (i + 1)) = mergeL b o t p ((keys3 b o t).take i) := by rw [sn]; exact List.append_nil _
      (repeat' first | exact trivial | exact rfl | exact congrArg (Value.int .i64) nx | exact sn.symm | refine And.intro ?_ ?_)
  · have e : x.i = (keys3 b o t).length := by have := x.h; have := of_decide_eq_false c; omega
    rw [e, List.take_length]
    exact h
theorem s_m9 : SoundT C0 19 tM9 := by
  refine .of Tryz.func19 (by decide) rfl fun args H K h hB => ?_
  unfold tM9 at h
  split at h <;> try exact h.elim
  rename_i p b o t
  exact ⟨aM9 b o t p, ⟨frame C0.ok s_keys _, frame C0.ok s_mrd _, trivial⟩, vc_m9 b o t p K h.1 h.2⟩
end Go.Proofs.YtbonbaccmlomhaaGreat.Sx
end
section
/- Trees that are held, with their entries: what is free. No program in sight. -/
namespace Go.Proofs.YtbonbaccmlomhaaGreat.Sx
open Go

variable {S S' : Arn} {hs : List Int}
def sumL (E : List (Int × List Ent)) : Nat := (E.map fun p => p.2.length).sum
structure Hld (S : Arn) (E : List (Int × List Ent)) : Prop where
  wf : Wf S (E.map Prod.fst)
  rep : ∀ p ∈ E, ∃ t, Rep S t p.1 ∧ t.list = p.2 ∧ t.Bal
  asc : ∀ p ∈ E, Asc p.2
  kin : ∀ p ∈ E, Kin p.2
theorem nuR_sum (w : Wf S hs) : ∀ E : List (Int × List Ent), (∀ p ∈ E, ∃ t, Rep S t p.1 ∧ t.list = p.2 ∧ t.Bal) → nuR S (E.map Prod.fst) ≤ nuR S [] + sumL E
  | [], _ => by simp [sumL]
  | p :: E, h => by
    obtain ⟨t, rp, lt, _⟩ := h p (List.mem_cons_self ..)
    have a := nuR_cons (hs := E.map Prod.fst) w rp
    have b := nuR_sum w E fun q hq => h q (List.mem_cons_of_mem _ hq)
    have c : t.size = p.2.length := by rw [← t.list_len, lt]
    rw [List.map_cons]
    unfold sumL at *
    rw [List.map_cons, List.sum_cons]
    omega
open Classical in
theorem nuR_nil (w : Wf S hs) : nuR S [] = 0 := by
  unfold nuR
  refine List.countP_eq_zero.2 fun i _ hi => ?_
  have hr : Rch S [] (i : Int) := of_decide_eq_true hi
  clear hi
  generalize (i : Int) = j at hr
  induction hr with
  | root a _ => cases a
  | left _ _ ih => exact ih
  | right _ _ ih => exact ih
theorem Hld.room {E : List (Int × List Ent)} (h : Hld S E) : S.cap ≤ S.free + sumL E := by
  have a := h.wf.free_nonneg.2.2.2
  have b := h.wf.nuR
  have c := nuR_sum h.wf E h.rep
  have d := nuR_nil h.wf
  omega
theorem Hld.step {E : List (Int × List Ent)} {L : List Ent} {m r : Nat} {j : Int} (e : Hld S E) (tr : TrR S (E.map Prod.fst) L m r S' j) (ha : Asc L) (hk : Kin L) : Hld S' ((j, L) :: E) where
  wf := tr.got.wf
  rep p hp := by
    rcases List.mem_cons.1 hp with rfl | hp
    · exact tr.tree
    · obtain ⟨t, rp, lt, bt⟩ := e.rep p hp
      exact ⟨t, rp.held e.wf tr.got.stay (.inr (List.mem_map.2 ⟨p, hp, rfl⟩)), lt, bt⟩
  asc p hp := by
    rcases List.mem_cons.1 hp with rfl | hp
    · exact ha
    · exact e.asc p hp
  kin p hp := by
    rcases List.mem_cons.1 hp with rfl | hp
    · exact hk
    · exact e.kin p hp
theorem Hld.rd {E : List (Int × List Ent)} {n : Nat} (e : Hld S E) (h : S.reads + n ≤ 4000000000000000000) : Hld (rdS S n) E where
  wf := e.wf.rd h
  rep p hp := by
    obtain ⟨t, rp, lt, bt⟩ := e.rep p hp
    exact ⟨t, rp.rdn, lt, bt⟩
  asc := e.asc
  kin := e.kin
theorem Hld.ls {E : List (Int × List Ent)} {x : Int} {l : List Ent} (e : Hld S E) (hx : (x, l) ∈ E) (hl : l.length ≤ 60000) : ∃ t, Rep S t x ∧ Asc t.list ∧ Kin t.list ∧ t.size ≤ 60000 ∧ t.list = l := by
  obtain ⟨t, rp, lt, _⟩ := e.rep _ hx
  have lt : t.list = l := lt
  have sz : t.size = l.length := by rw [← t.list_len, lt]
  exact ⟨t, rp, by rw [lt]; exact e.asc _ hx, by rw [lt]; exact e.kin _ hx, by omega, lt⟩
theorem sumL_cons (j : Int) (L : List Ent) (E : List (Int × List Ent)) : sumL ((j, L) :: E) = L.length + sumL E := by
  unfold sumL; rw [List.map_cons, List.sum_cons]
theorem sumL_nil : sumL [] = 0 := rfl
theorem tr_cap {L : List Ent} {m r : Nat} {j : Int} (tr : TrR S hs L m r S' j) : S'.cap = S.cap := cap_len tr.got.len
end Go.Proofs.YtbonbaccmlomhaaGreat.Sx
end
