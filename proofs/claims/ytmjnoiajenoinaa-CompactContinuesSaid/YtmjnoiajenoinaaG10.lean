/- A part of the proof. -/
import Derived.Test.YtmjnoiajenoinaaG9
import Derived.Test.YtmjnoiajenoinaaG6
import Derived.Test.YtmjnoiajenoinaaG7
section
/- treework.Pairs with the visitor of diff's Range$1; this file is written by gen_pa.py. -/
namespace Go.Proofs.Ytmjnoiajenoinaa.Sx
open Go

/-KEEP Wf exW inU Arn.cap Arn.free Rep Tr.size Tr.list btw rdS pushL lastI expL inL popI wL stepV pairC goV fR fC fF-/
abbrev chR (lo hi : Int) (s : List Chg) (S : Arn) : List (Chunk C0) := [.box [.ptr 2 0, .slc 3, .slc 4, vU64 S.reads], .box [.fn 134 [5, 6, 7]], .box [.slc 8, .slc 9, .slc 10, vU S.fresh], .row true EC.node S.nodes, .row true EC.int S.counts, .box [vI lo], .box [vI hi], .box [.slc 11], .row true EC.bool S.used, .row true EC.u32 S.gen, .row true EC.u32 S.rel, .row true EC.chg s]
def mR (H : List (Chunk C0)) (k : Int → Int → List Chg → Arn → Prop) : Prop := match H with
  | [.box [.ptr 2 0, .slc 3, .slc 4, .val (.int .u64 rd)], .box [.fn 134 [5, 6, 7]], .box [.slc 8, .slc 9, .slc 10, .val (.int .u32 fr)], .row true .node nd, .row true .int ct, .box [.val (.int .i64 lo)], .box [.val (.int .i64 hi)], .box [.slc 11], .row true .bool us, .row true .u32 gn, .row true .u32 rl, .row true .chg s] => k lo hi s ⟨us, gn, rl, fr, nd, ct, rd⟩
  | _ => False
/-! ### The visitor -/
def tStepR : Tfm C0 := fun args H K => match args, H with
  | [.agg [.val (.int .i64 k), .val (.int .i64 y), .val (.int .i64 o), .val (.int .i64 n)], .at (.ptr 0 0), .at (.ptr 1 0), .at (.ptr 2 0)], [.box [.val (.int .i64 lo)], .box [.val (.int .i64 hi)], .box [.slc 3], .row true .chg s] => s.length ≤ 1000000 ∧
    ∀ s' b, (s', b) = fR lo hi ⟨k, y, o, n⟩ s → K (.one (.at (vB b))) [.box [vI lo], .box [vI hi], .box [.slc 3], .row true EC.chg s'] [2, 3]
  | _, _ => False
noncomputable def aVisR : Ann C0 := { Γ := [(134, frameT [] tStepR)] }
def tVisR : Tfm C0 := fun args H K => match args, H with
  | [.agg [.val (.int .i64 k), .val (.int .i64 x), .val (.int .i64 y), .val (.bool a), .val (.bool b), .val (.bool _), .val (.bool _)], .at (.ptr 0 0)], [.box [.fn 134 [1, 2, 3]], .box [.val (.int .i64 lo)], .box [.val (.int .i64 hi)], .box [.slc 4], .row true .chg s] => s.length ≤ 1000000 ∧ 
    ∀ s' q, (s', q) = stepV (fR lo hi) (pairC k x y a b) s → K (.one (.at (vB q))) [.box [.fn 134 [1, 2, 3]], .box [vI lo], .box [vI hi], .box [.slc 4], .row true EC.chg s'] [3, 4]
  | _, _ => False

/-! ### The walk -/
abbrev hpR (lo hi : Int) (s : List Chg) (S : Arn) (l r : List ItemT) : List (Chunk C0) := chR lo hi s S ++ [.box [.slc 14], .box [.slc 15], .row true EC.item l, .row true EC.item r]
noncomputable def aPaR (P0 P1 P2 P3 P4 P5 : List ItemT → List ItemT → List Chg → Nat → Bool → Prop) (lo hi : Int) (S : Arn) : Ann C0 := { Γ := [(158, frameT [] tPush), (159, frameT [] tTop), (160, frameT [] tPop), (161, frameT [] tExp), (151, frameT [] tCom), (153, frameT [] tVisR)], inv := fun n => match n with
  | 3 => some { X := XP P0, sl := [10, 11], tf := fun x => [.one (.at (.ptr 12 0)), .one (.at (.ptr 13 0))], hf := fun x => hpR lo hi x.s (rdS S x.m) x.l x.r, μ := fun x => wL x.l + wL x.r, wr := [0, 7, 11] }
  | 2015 => some { X := XP P1, sl := [10, 11, 12, 13, 14, 15, 90], tf := fun x => [.one (.at (.ptr 12 0)), .one (.at (.ptr 13 0)), .one (.at (.ptr 16 0)), vb (decide (x.l ≠ [])), .one (.at (.ptr 17 0)), vb (decide (x.r ≠ [])), vb x.c], hf := fun x => hpR lo hi x.s (rdS S x.m) x.l x.r ++ [bxI (lastI x.l), bxI (lastI x.r)], rel := fun _ H x => relP 14 15 H x.l x.r, wr := [0, 7, 11] }
  | 1017 => some { X := XP P2, sl := [10, 11, 12, 13, 14, 15, 97], tf := fun x => [.one (.at (.ptr 12 0)), .one (.at (.ptr 13 0)), .one (.at (.ptr 16 0)), vb (decide (x.l ≠ [])), .one (.at (.ptr 17 0)), vb (decide (x.r ≠ [])), vb x.c], hf := fun x => hpR lo hi x.s (rdS S x.m) x.l x.r ++ [bxI (lastI x.l), bxI (lastI x.r)], rel := fun _ H x => relP 14 15 H x.l x.r, wr := [0, 7, 11] }
  | 1021 => some { X := XP P3, sl := [10, 11, 12, 13, 14, 15, 124], tf := fun x => [.one (.at (.ptr 12 0)), .one (.at (.ptr 13 0)), .one (.at (.ptr 16 0)), vb (decide (x.l ≠ [])), .one (.at (.ptr 17 0)), vb (decide (x.r ≠ [])), vb x.c], hf := fun x => hpR lo hi x.s (rdS S x.m) x.l x.r ++ [bxI (lastI x.l), bxI (lastI x.r)], rel := fun _ H x => relP 14 15 H x.l x.r, wr := [0, 7, 11] }
  | 1023 => some { X := XP P4, sl := [10, 11, 12, 13, 14, 15, 148], tf := fun x => [.one (.at (.ptr 12 0)), .one (.at (.ptr 13 0)), .one (.at (.ptr 16 0)), vb (decide (x.l ≠ [])), .one (.at (.ptr 17 0)), vb (decide (x.r ≠ [])), vb x.c], hf := fun x => hpR lo hi x.s (rdS S x.m) x.l x.r ++ [bxI (lastI x.l), bxI (lastI x.r)], rel := fun _ H x => relP 14 15 H x.l x.r, wr := [0, 7, 11] }
  | 1007 => some { X := XP P5, sl := [10, 11, 12, 13, 14, 15, 16], tf := fun x => [.one (.at (.ptr 12 0)), .one (.at (.ptr 13 0)), .one (.at (.ptr 16 0)), vb (decide (x.l ≠ [])), .one (.at (.ptr 17 0)), vb (decide (x.r ≠ [])), .one (.at (.ptr 18 0))], hf := fun x => hpR lo hi x.s (rdS S x.m) x.l x.r ++ [bxI (lastI x.l), bxI (lastI x.r), .box [vI 0, vI 0, vI 0, vB (inL x.l x.r), vB false, vB (decide (x.l ≠ [])), vB (decide (x.r ≠ []))]], rel := fun _ H x => relP 14 15 H x.l x.r, wr := [0, 7, 11] }
  | 1008 => some { X := XP P5, sl := [10, 11, 12, 13, 14, 15, 16], tf := fun x => [.one (.at (.ptr 12 0)), .one (.at (.ptr 13 0)), .one (.at (.ptr 16 0)), vb (decide (x.l ≠ [])), .one (.at (.ptr 17 0)), vb (decide (x.r ≠ [])), .one (.at (.ptr 18 0))], hf := fun x => hpR lo hi x.s (rdS S x.m) x.l x.r ++ [bxI (lastI x.l), bxI (lastI x.r), .box [vI 0, vI 0, vI 0, vB (inL x.l x.r), vB (inL x.r x.l), vB (decide (x.l ≠ [])), vB (decide (x.r ≠ []))]], rel := fun _ H x => relP 14 15 H x.l x.r, wr := [0, 7, 11] }
  | 1011 => some { X := XP P5, sl := [10, 11, 12, 13, 14, 15, 16], tf := fun x => [.one (.at (.ptr 12 0)), .one (.at (.ptr 13 0)), .one (.at (.ptr 16 0)), vb (decide (x.l ≠ [])), .one (.at (.ptr 17 0)), vb (decide (x.r ≠ [])), .one (.at (.ptr 18 0))], hf := fun x => hpR lo hi x.s (rdS S x.m) (popI (inL x.l x.r) x.l) x.r ++ [bxI (lastI x.l), bxI (lastI x.r), .box [vI (ifI (inL x.l x.r) (lastI x.l).key), vI (ifI (inL x.l x.r) (lastI x.l).value), vI 0, vB (inL x.l x.r), vB (inL x.r x.l), vB (decide (x.l ≠ [])), vB (decide (x.r ≠ []))]], rel := fun _ H x => relP 14 15 H x.l x.r, wr := [0, 7, 11] }
  | _ => none }
def tPaR : Tfm C0 := fun args H K => match args with
  | [.at (.ptr 0 0), .at (.val (.int .u32 x)), .at (.val (.int .u32 y)), .at (.fn 151 []), .at (.fn 153 [1])] => mR H fun lo hi s S => ∃ hs t1 t2, Wf S hs ∧ Rep S t1 x ∧ Rep S t2 y ∧ List.length s + 2 * (t1.size + t2.size) ≤ 800000 ∧ S.reads + (2 + 6 * (t1.size + t2.size)) ≤ 3000000000000000000 ∧
    ∀ s' S' m, s' = goV (fR lo hi) s (btw t1.list t2.list) → S' = rdS S m → m ≤ 2 + 6 * (t1.size + t2.size) → K (.tup []) (chR lo hi s' S') [0, 7, 11]
  | _ => False
theorem vc_stepR (k y o n lo hi : Int) (s : List Chg) (K : KT) (h1 : s.length ≤ 1000000) (h2 : ∀ s' b, (s', b) = fR lo hi ⟨k, y, o, n⟩ s → K (.one (.at (vB b))) [.box [vI lo], .box [vI hi], .box [.slc 3], .row true EC.chg s'] [2, 3]) :
    vc C0 A0 Try.f134 [.agg [vI k, vI y, vI o, vI n], .at (.ptr 0 0), .at (.ptr 1 0), .at (.ptr 2 0)] [.box [vI lo], .box [vI hi], .box [.slc 3], .row true EC.chg s] (normK 4 (wideK [2, 3] K)) := by
  refine Eq.mp (show (brS (decide (y ≥ lo)) ((brS (decide (y ≤ hi)) ((((s.length + [{ kind := k, key := y, old := o, new := n : Chg }].length) * bytesOf C0 EC.chg ≤ 140737488355328) ∧ (K (SV.one (TV.at (At.val (Value.bool (decide (y < hi)))))) [(Chunk.box [(At.val (Value.int IntKind.i64 (lo)))]), (Chunk.box [(At.val (Value.int IntKind.i64 (hi)))]), (Chunk.box [(At.slc 3)]), (Chunk.row true (EC.chg) (s ++ [{ kind := k, key := y, old := o, new := n : Chg }]))] [2, 3]))) ((K (SV.one (TV.at (At.val (Value.bool (decide (y < hi)))))) [(Chunk.box [(At.val (Value.int IntKind.i64 (lo)))]), (Chunk.box [(At.val (Value.int IntKind.i64 (hi)))]), (Chunk.box [(At.slc 3)]), (Chunk.row true (EC.chg) (s))] [2, 3])))) ((K (SV.one (TV.at (At.val (Value.bool (decide (y < hi)))))) [(Chunk.box [(At.val (Value.int IntKind.i64 (lo)))]), (Chunk.box [(At.val (Value.int IntKind.i64 (hi)))]), (Chunk.box [(At.slc 3)]), (Chunk.row true (EC.chg) (s))] [2, 3]))) = _ by kernel_rfl) ?_
  have hb : (s.length + [({ kind := k, key := y, old := o, new := n } : Chg)].length) * bytesOf C0 EC.chg ≤ 140737488355328 := by
    rw [bytes_chg, List.length_singleton]; omega
  have no : ¬ (lo ≤ y ∧ y ≤ hi) → K (.one (.at (vB (decide (y < hi))))) [.box [vI lo], .box [vI hi], .box [.slc 3], .row true EC.chg s] [2, 3] := fun d => h2 s _ (by unfold fR; rw [if_neg d])
  refine brS_of (fun d => brS_of (fun e => ?_) fun e => ?_) fun d => ?_
  · have d : lo ≤ y := of_decide_eq_true d
    have e : y ≤ hi := of_decide_eq_true e
    exact ⟨hb, h2 (s ++ [⟨k, y, o, n⟩]) (decide (y < hi)) (by unfold fR; rw [if_pos ⟨d, e⟩])⟩
  · exact no fun q => of_decide_eq_false e q.2
  · exact no fun q => of_decide_eq_false d q.1
theorem s_stepR : SoundT C0 134 tStepR := by
  refine .ofW [2, 3] Try.func134 (by decide) rfl fun args H K h hB => ?_
  unfold tStepR at h
  split at h <;> try exact h.elim
  rename_i k y o n lo hi s
  exact ⟨A0, trivial, vc_stepR k y o n lo hi s K h.1 h.2⟩
theorem vc_visR (k x y : Int) (a b c d : Bool) (lo hi : Int) (s : List Chg) (K : KT) (h0 : s.length ≤ 1000000) 
    (h : ∀ s' q, (s', q) = stepV (fR lo hi) (pairC k x y a b) s → K (.one (.at (vB q))) [.box [.fn 134 [1, 2, 3]], .box [vI lo], .box [vI hi], .box [.slc 4], .row true EC.chg s'] [3, 4]) :
    vc C0 aVisR Try.f153 [.agg [vI k, vI x, vI y, vB a, vB b, vB c, vB d], .at (.ptr 0 0)] [.box [.fn 134 [1, 2, 3]], .box [vI lo], .box [vI hi], .box [.slc 4], .row true EC.chg s] (normK 5 (wideK [3, 4] K)) := by
  refine Eq.mp (show (brS (!a) (((s.length ≤ 1000000) ∧ (∀ s' : List Chg, (∀ b1 : Bool, (((Prod.mk (s') (b1)) = (fR lo hi { kind := 1, key := k, old := 0, new := y : Chg } s)) → (K (SV.one (TV.at (At.val (Value.bool (b1))))) [(Chunk.box [(At.fn 134 [1, 2, 3])]), (Chunk.box [(At.val (Value.int IntKind.i64 (lo)))]), (Chunk.box [(At.val (Value.int IntKind.i64 (hi)))]), (Chunk.box [(At.slc 4)]), (Chunk.row true (EC.chg) (s'))] [3, 4])))))) ((brS (!b) (((s.length ≤ 1000000) ∧ (∀ s' : List Chg, (∀ b1 : Bool, (((Prod.mk (s') (b1)) = (fR lo hi { kind := 2, key := k, old := x, new := 0 : Chg } s)) → (K (SV.one (TV.at (At.val (Value.bool (b1))))) [(Chunk.box [(At.fn 134 [1, 2, 3])]), (Chunk.box [(At.val (Value.int IntKind.i64 (lo)))]), (Chunk.box [(At.val (Value.int IntKind.i64 (hi)))]), (Chunk.box [(At.slc 4)]), (Chunk.row true (EC.chg) (s'))] [3, 4])))))) ((brS (x != y) (((s.length ≤ 1000000) ∧ (∀ s' : List Chg, (∀ b1 : Bool, (((Prod.mk (s') (b1)) = (fR lo hi { kind := 3, key := k, old := x, new := y : Chg } s)) → (K (SV.one (TV.at (At.val (Value.bool (b1))))) [(Chunk.box [(At.fn 134 [1, 2, 3])]), (Chunk.box [(At.val (Value.int IntKind.i64 (lo)))]), (Chunk.box [(At.val (Value.int IntKind.i64 (hi)))]), (Chunk.box [(At.slc 4)]), (Chunk.row true (EC.chg) (s'))] [3, 4]))))))
    ((K (SV.one (TV.at (At.val (Value.bool true)))) [(Chunk.box [(At.fn 134 [1, 2, 3])]), (Chunk.box [(At.val (Value.int IntKind.i64 (lo)))]), (Chunk.box [(At.val (Value.int IntKind.i64 (hi)))]), (Chunk.box [(At.slc 4)]), (Chunk.row true (EC.chg) (s))] [3, 4]))))))) = _ by kernel_rfl) ?_
  refine brS_of (fun e => ?_) fun e => brS_of (fun g => ?_) fun g => brS_of (fun j => ?_) fun j => ?_
  · have e : a = false := by simpa using e
    subst e
    exact ⟨h0, fun s' q e => h s' q e⟩
  all_goals
    have e : a = true := by simpa using e
    subst e
  · have g : b = false := by simpa using g
    subst g
    exact ⟨h0, fun s' q e => h s' q e⟩
  all_goals
    have g : b = true := by simpa using g
    subst g
  · have j : x ≠ y := by simpa using j
    exact ⟨h0, fun s' q e => h s' q (by rw [e]; unfold pairC; rw [if_pos rfl, if_pos rfl, if_neg j]; rfl)⟩
  · have j : x = y := by simpa using j
    exact h s true (by unfold pairC; rw [if_pos rfl, if_pos rfl, if_pos j]; rfl)
theorem s_visR : SoundT C0 153 tVisR := by
  refine .ofW [3, 4] Try.func153 (by decide) rfl fun args H K h hB => ?_
  unfold tVisR at h
  split at h <;> try exact h.elim
  rename_i k x y a b c d lo hi s
  exact ⟨aVisR, ⟨frame C0.ok s_stepR _, trivial⟩, vc_visR k x y a b c d lo hi s K h.1 h.2⟩

theorem fszR (lo hi : Int) (c : Chg) (s : List Chg) : List.length ((fR lo hi) c s).1 ≤ List.length s + 1 := by
  unfold fR; dsimp only; split
  · simp
  · exact Nat.le_succ _
theorem vc_paR (lo hi : Int) (s : List Chg) (S : Arn) (x y : Int) (K : KT) (hs : List Int) (t1 t2 : Tr) (hw : Wf S hs) (hx : Rep S t1 x) (hy : Rep S t2 y) (h1 : List.length s + 2 * (t1.size + t2.size) ≤ 800000) (h2 : S.reads + (2 + 6 * (t1.size + t2.size)) ≤ 3000000000000000000)
    (h : ∀ s' S' m, s' = goV (fR lo hi) s (btw t1.list t2.list) → S' = rdS S m → m ≤ 2 + 6 * (t1.size + t2.size) → K (.tup []) (chR lo hi s' S') [0, 7, 11]) :
    vc C0 (aPaR (PA0 S (fR lo hi) (goV (fR lo hi) s (btw t1.list t2.list)) List.length (2 * (t1.size + t2.size)) 800000) (PA1 S (fR lo hi) (goV (fR lo hi) s (btw t1.list t2.list)) List.length (2 * (t1.size + t2.size)) 800000) (PA2 S (fR lo hi) (goV (fR lo hi) s (btw t1.list t2.list)) List.length (2 * (t1.size + t2.size)) 800000) (PA3 S (fR lo hi) (goV (fR lo hi) s (btw t1.list t2.list)) List.length (2 * (t1.size + t2.size)) 800000)
      (PA4 S (fR lo hi) (goV (fR lo hi) s (btw t1.list t2.list)) List.length (2 * (t1.size + t2.size)) 800000) (PA5 S (fR lo hi) (goV (fR lo hi) s (btw t1.list t2.list)) List.length (2 * (t1.size + t2.size)) 800000) lo hi S)
      Try.f152 [.at (.ptr 0 0), .at (vU x), .at (vU y), .at (.fn 151 []), .at (.fn 153 [1])] (chR lo hi s S) (normK 12 (wideK [0, 7, 11] K)) := by
  have init : ∀ m, m ≤ 2 → PIn S (fR lo hi) (goV (fR lo hi) s (btw t1.list t2.list)) List.length (2 * (t1.size + t2.size)) 800000 (pushL S [] x) (pushL S [] y) s m := fun m hm => PIn.init hw hx hy hm h1
  generalize goV (fR lo hi) s (btw t1.list t2.list) = fin at *
  generalize hW : 2 * (t1.size + t2.size) = W at *
  have hWm : 2 + 3 * W = 2 + 6 * (t1.size + t2.size) := by omega
  generalize h0 : PA0 S (fR lo hi) fin List.length W 800000 = P0
  generalize h1' : PA1 S (fR lo hi) fin List.length W 800000 = P1
  generalize h2' : PA2 S (fR lo hi) fin List.length W 800000 = P2
  generalize h3' : PA3 S (fR lo hi) fin List.length W 800000 = P3
  generalize h4' : PA4 S (fR lo hi) fin List.length W 800000 = P4
  generalize h5' : PA5 S (fR lo hi) fin List.length W 800000 = P5
  refine Eq.mp (show ((inU x) ∧
(exW S) ∧
(x = 0 ∨ S.us x = true) ∧
(S.reads < 4000000000000000000) ∧
(([] : List Ent).length ≤ 1000000) ∧
(∀ l' : List ItemT, (∀ S' : Arn, (∀ m : Nat, (((l') = (pushL S [] x)) → (((S') = (rdS S m)) → ((m ≤ 1) → ((inU y) ∧ (exW S') ∧ (y = 0 ∨ S'.us y = true) ∧ (S'.reads < 4000000000000000000) ∧ (([] : List Ent).length ≤ 1000000) ∧ (∀ l'1 : List ItemT, (∀ S'1 : Arn, (∀ m1 : Nat, (((l'1) = (pushL S' [] y)) → (((S'1) = (rdS S' m1)) → ((m1 ≤ 1) → ((∃ x1 : XP P0, (True ∧ (True ∧ ((At.fn 151 []) = (At.fn 151 [])) ∧ ((At.fn 153 [1]) = (At.fn 153 [1])) ∧ True ∧ True ∧ True) ∧ (True ∧ True ∧ True ∧ ((Value.int IntKind.u64 (S'1.reads)) = (Value.int IntKind.u64 ((rdS S x1.m).reads))) ∧ True) ∧ (((At.fn 134 [5, 6, 7]) = (At.fn 134 [5, 6, 7])) ∧ True) ∧ (True ∧ True ∧ True ∧ ((Value.int IntKind.u32 (S'1.fresh)) = (Value.int IntKind.u32 ((rdS S x1.m).fresh))) ∧ True) ∧ ((S'1.nodes) = ((rdS S x1.m).nodes)) ∧ ((S'1.counts) = ((rdS S x1.m).counts)) ∧ (((Value.int IntKind.i64 (lo)) = (Value.int IntKind.i64 (lo))) ∧ True) ∧ (((Value.int IntKind.i64 (hi)) = (Value.int IntKind.i64 (hi))) ∧ True) ∧ (True ∧ True) ∧ ((S'1.used) = ((rdS S x1.m).used)) ∧ ((S'1.gen) = ((rdS S x1.m).gen)) ∧ ((S'1.rel) = ((rdS S x1.m).rel)) ∧ ((s) = (x1.s)) ∧ (True ∧ True) ∧ (True ∧ True) ∧ ((l') = (x1.l)) ∧ ((l'1) = (x1.r)) ∧ True)) ∧ (∀ x1 : XP P0, (True → ((x1.l.length ≤ 1000000) ∧ (∀ x2 : ItemT, (∀ b : Bool, (((x2) = (lastI x1.l)) → (((b) = (decide (x1.l ≠ []))) → ((x1.r.length ≤ 1000000) ∧ (∀ x3 : ItemT,
    (∀ b1 : Bool, (((x3) = (lastI x1.r)) → (((b1) = (decide (x1.r ≠ []))) → ((brS (!b) ((∃ x4 : XP P1, ((((x1.l) = (x4.l)) ∧ ((x1.r) = (x4.r))) ∧ (True ∧ ((At.fn 151 []) = (At.fn 151 [])) ∧ ((At.fn 153 [1]) = (At.fn 153 [1])) ∧ True ∧ True ∧ True ∧ ((Value.bool (b)) = (Value.bool (decide (x4.l ≠ [])))) ∧ True ∧ ((Value.bool (b1)) = (Value.bool (decide (x4.r ≠ [])))) ∧ ((Value.bool (!b1)) = (Value.bool (x4.c))) ∧ True) ∧ (True ∧ True ∧ True ∧ ((Value.int IntKind.u64 ((rdS S x1.m).reads)) = (Value.int IntKind.u64 ((rdS S x4.m).reads))) ∧ True) ∧ (((At.fn 134 [5, 6, 7]) = (At.fn 134 [5, 6, 7])) ∧ True) ∧ (True ∧ True ∧ True ∧ ((Value.int IntKind.u32 ((rdS S x1.m).fresh)) = (Value.int IntKind.u32 ((rdS S x4.m).fresh))) ∧ True) ∧ (((rdS S x1.m).nodes) = ((rdS S x4.m).nodes)) ∧ (((rdS S x1.m).counts) = ((rdS S x4.m).counts)) ∧ (((Value.int IntKind.i64 (lo)) = (Value.int IntKind.i64 (lo))) ∧ True) ∧ (((Value.int IntKind.i64 (hi)) = (Value.int IntKind.i64 (hi))) ∧ True) ∧ (True ∧ True) ∧ (((rdS S x1.m).used) = ((rdS S x4.m).used)) ∧ (((rdS S x1.m).gen) = ((rdS S x4.m).gen)) ∧ (((rdS S x1.m).rel) = ((rdS S x4.m).rel)) ∧ ((x1.s) = (x4.s)) ∧ (True ∧ True) ∧ (True ∧ True) ∧ ((x1.l) = (x4.l)) ∧ ((x1.r) = (x4.r)) ∧ (((Value.int IntKind.u32 (x2.index)) = (Value.int IntKind.u32 ((lastI x4.l).index))) ∧ ((Value.int IntKind.i64 (x2.size)) = (Value.int IntKind.i64 ((lastI x4.l).size))) ∧ ((Value.int IntKind.i64 (x2.key)) = (Value.int IntKind.i64 ((lastI x4.l).key))) ∧
    ((Value.int IntKind.i64 (x2.value)) = (Value.int IntKind.i64 ((lastI x4.l).value))) ∧ ((Value.bool (x2.single)) = (Value.bool ((lastI x4.l).single))) ∧ True) ∧ (((Value.int IntKind.u32 (x3.index)) = (Value.int IntKind.u32 ((lastI x4.r).index))) ∧ ((Value.int IntKind.i64 (x3.size)) = (Value.int IntKind.i64 ((lastI x4.r).size))) ∧ ((Value.int IntKind.i64 (x3.key)) = (Value.int IntKind.i64 ((lastI x4.r).key))) ∧ ((Value.int IntKind.i64 (x3.value)) = (Value.int IntKind.i64 ((lastI x4.r).value))) ∧ ((Value.bool (x3.single)) = (Value.bool ((lastI x4.r).single))) ∧ True) ∧ True))) ((∃ x4 : XP P1, ((((x1.l) = (x4.l)) ∧ ((x1.r) = (x4.r))) ∧ (True ∧ ((At.fn 151 []) = (At.fn 151 [])) ∧ ((At.fn 153 [1]) = (At.fn 153 [1])) ∧ True ∧ True ∧ True ∧ ((Value.bool (b)) = (Value.bool (decide (x4.l ≠ [])))) ∧ True ∧ ((Value.bool (b1)) = (Value.bool (decide (x4.r ≠ [])))) ∧ ((Value.bool false) = (Value.bool (x4.c))) ∧ True) ∧ (True ∧ True ∧ True ∧ ((Value.int IntKind.u64 ((rdS S x1.m).reads)) = (Value.int IntKind.u64 ((rdS S x4.m).reads))) ∧ True) ∧ (((At.fn 134 [5, 6, 7]) = (At.fn 134 [5, 6, 7])) ∧ True) ∧ (True ∧ True ∧ True ∧ ((Value.int IntKind.u32 ((rdS S x1.m).fresh)) = (Value.int IntKind.u32 ((rdS S x4.m).fresh))) ∧ True) ∧ (((rdS S x1.m).nodes) = ((rdS S x4.m).nodes)) ∧ (((rdS S x1.m).counts) = ((rdS S x4.m).counts)) ∧ (((Value.int IntKind.i64 (lo)) = (Value.int IntKind.i64 (lo))) ∧ True) ∧ (((Value.int IntKind.i64 (hi)) = (Value.int IntKind.i64 (hi))) ∧ True) ∧ (True ∧ True) ∧
    (((rdS S x1.m).used) = ((rdS S x4.m).used)) ∧ (((rdS S x1.m).gen) = ((rdS S x4.m).gen)) ∧ (((rdS S x1.m).rel) = ((rdS S x4.m).rel)) ∧ ((x1.s) = (x4.s)) ∧ (True ∧ True) ∧ (True ∧ True) ∧ ((x1.l) = (x4.l)) ∧ ((x1.r) = (x4.r)) ∧ (((Value.int IntKind.u32 (x2.index)) = (Value.int IntKind.u32 ((lastI x4.l).index))) ∧ ((Value.int IntKind.i64 (x2.size)) = (Value.int IntKind.i64 ((lastI x4.l).size))) ∧ ((Value.int IntKind.i64 (x2.key)) = (Value.int IntKind.i64 ((lastI x4.l).key))) ∧ ((Value.int IntKind.i64 (x2.value)) = (Value.int IntKind.i64 ((lastI x4.l).value))) ∧ ((Value.bool (x2.single)) = (Value.bool ((lastI x4.l).single))) ∧ True) ∧ (((Value.int IntKind.u32 (x3.index)) = (Value.int IntKind.u32 ((lastI x4.r).index))) ∧ ((Value.int IntKind.i64 (x3.size)) = (Value.int IntKind.i64 ((lastI x4.r).size))) ∧ ((Value.int IntKind.i64 (x3.key)) = (Value.int IntKind.i64 ((lastI x4.r).key))) ∧ ((Value.int IntKind.i64 (x3.value)) = (Value.int IntKind.i64 ((lastI x4.r).value))) ∧ ((Value.bool (x3.single)) = (Value.bool ((lastI x4.r).single))) ∧ True) ∧ True)))) ∧ (∀ x4 : XP P1, ((((x1.l) = (x4.l)) ∧ ((x1.r) = (x4.r))) → (brS (x4.c)
    ((K (SV.tup []) [(Chunk.box [(At.ptr 2 0), (At.slc 3), (At.slc 4), (At.val (Value.int IntKind.u64 ((rdS S x4.m).reads)))]), (Chunk.box [(At.fn 134 [5, 6, 7])]), (Chunk.box [(At.slc 8), (At.slc 9), (At.slc 10), (At.val (Value.int IntKind.u32 ((rdS S x4.m).fresh)))]), (Chunk.row true (EC.node) ((rdS S x4.m).nodes)), (Chunk.row true (EC.int) ((rdS S x4.m).counts)), (Chunk.box [(At.val (Value.int IntKind.i64 (lo)))]), (Chunk.box [(At.val (Value.int IntKind.i64 (hi)))]), (Chunk.box [(At.slc 11)]), (Chunk.row true (EC.bool) ((rdS S x4.m).used)), (Chunk.row true (EC.u32) ((rdS S x4.m).gen)), (Chunk.row true (EC.u32) ((rdS S x4.m).rel)), (Chunk.row true (EC.chg) (x4.s))] [0, 7, 11])) (((brS (decide (x4.l ≠ [])) ((brS (decide (x4.r ≠ [])) ((brS (!(lastI x4.l).single) ((brS (!(lastI x4.r).single) ((∃ x5 : XP P2, ((((x4.l) = (x5.l)) ∧ ((x4.r) = (x5.r))) ∧ (True ∧ ((At.fn 151 []) = (At.fn 151 [])) ∧ ((At.fn 153 [1]) = (At.fn 153 [1])) ∧ True ∧ True ∧ True ∧ ((Value.bool (decide (x4.l ≠ []))) = (Value.bool (decide (x5.l ≠ [])))) ∧ True ∧ ((Value.bool (decide (x4.r ≠ []))) = (Value.bool (decide (x5.r ≠ [])))) ∧ ((Value.bool ((lastI x4.l).index == (lastI x4.r).index)) = (Value.bool (x5.c))) ∧ True) ∧ (True ∧ True ∧ True ∧ ((Value.int IntKind.u64 ((rdS S x4.m).reads)) = (Value.int IntKind.u64 ((rdS S x5.m).reads))) ∧ True) ∧ (((At.fn 134 [5, 6, 7]) = (At.fn 134 [5, 6, 7])) ∧ True) ∧ (True ∧ True ∧ True ∧
    ((Value.int IntKind.u32 ((rdS S x4.m).fresh)) = (Value.int IntKind.u32 ((rdS S x5.m).fresh))) ∧ True) ∧ (((rdS S x4.m).nodes) = ((rdS S x5.m).nodes)) ∧ (((rdS S x4.m).counts) = ((rdS S x5.m).counts)) ∧ (((Value.int IntKind.i64 (lo)) = (Value.int IntKind.i64 (lo))) ∧ True) ∧ (((Value.int IntKind.i64 (hi)) = (Value.int IntKind.i64 (hi))) ∧ True) ∧ (True ∧ True) ∧ (((rdS S x4.m).used) = ((rdS S x5.m).used)) ∧ (((rdS S x4.m).gen) = ((rdS S x5.m).gen)) ∧ (((rdS S x4.m).rel) = ((rdS S x5.m).rel)) ∧ ((x4.s) = (x5.s)) ∧ (True ∧ True) ∧ (True ∧ True) ∧ ((x4.l) = (x5.l)) ∧ ((x4.r) = (x5.r)) ∧ (((Value.int IntKind.u32 ((lastI x4.l).index)) = (Value.int IntKind.u32 ((lastI x5.l).index))) ∧ ((Value.int IntKind.i64 ((lastI x4.l).size)) = (Value.int IntKind.i64 ((lastI x5.l).size))) ∧ ((Value.int IntKind.i64 ((lastI x4.l).key)) = (Value.int IntKind.i64 ((lastI x5.l).key))) ∧ ((Value.int IntKind.i64 ((lastI x4.l).value)) = (Value.int IntKind.i64 ((lastI x5.l).value))) ∧ ((Value.bool ((lastI x4.l).single)) = (Value.bool ((lastI x5.l).single))) ∧ True) ∧ (((Value.int IntKind.u32 ((lastI x4.r).index)) = (Value.int IntKind.u32 ((lastI x5.r).index))) ∧ ((Value.int IntKind.i64 ((lastI x4.r).size)) = (Value.int IntKind.i64 ((lastI x5.r).size))) ∧ ((Value.int IntKind.i64 ((lastI x4.r).key)) = (Value.int IntKind.i64 ((lastI x5.r).key))) ∧ ((Value.int IntKind.i64 ((lastI x4.r).value)) = (Value.int IntKind.i64 ((lastI x5.r).value))) ∧
    ((Value.bool ((lastI x4.r).single)) = (Value.bool ((lastI x5.r).single))) ∧ True) ∧ True))) ((∃ x5 : XP P2, ((((x4.l) = (x5.l)) ∧ ((x4.r) = (x5.r))) ∧ (True ∧ ((At.fn 151 []) = (At.fn 151 [])) ∧ ((At.fn 153 [1]) = (At.fn 153 [1])) ∧ True ∧ True ∧ True ∧ ((Value.bool (decide (x4.l ≠ []))) = (Value.bool (decide (x5.l ≠ [])))) ∧ True ∧ ((Value.bool (decide (x4.r ≠ []))) = (Value.bool (decide (x5.r ≠ [])))) ∧ ((Value.bool false) = (Value.bool (x5.c))) ∧ True) ∧ (True ∧ True ∧ True ∧ ((Value.int IntKind.u64 ((rdS S x4.m).reads)) = (Value.int IntKind.u64 ((rdS S x5.m).reads))) ∧ True) ∧ (((At.fn 134 [5, 6, 7]) = (At.fn 134 [5, 6, 7])) ∧ True) ∧ (True ∧ True ∧ True ∧ ((Value.int IntKind.u32 ((rdS S x4.m).fresh)) = (Value.int IntKind.u32 ((rdS S x5.m).fresh))) ∧ True) ∧ (((rdS S x4.m).nodes) = ((rdS S x5.m).nodes)) ∧ (((rdS S x4.m).counts) = ((rdS S x5.m).counts)) ∧ (((Value.int IntKind.i64 (lo)) = (Value.int IntKind.i64 (lo))) ∧ True) ∧ (((Value.int IntKind.i64 (hi)) = (Value.int IntKind.i64 (hi))) ∧ True) ∧ (True ∧ True) ∧ (((rdS S x4.m).used) = ((rdS S x5.m).used)) ∧ (((rdS S x4.m).gen) = ((rdS S x5.m).gen)) ∧ (((rdS S x4.m).rel) = ((rdS S x5.m).rel)) ∧ ((x4.s) = (x5.s)) ∧ (True ∧ True) ∧ (True ∧ True) ∧ ((x4.l) = (x5.l)) ∧ ((x4.r) = (x5.r)) ∧ (((Value.int IntKind.u32 ((lastI x4.l).index)) = (Value.int IntKind.u32 ((lastI x5.l).index))) ∧ ((Value.int IntKind.i64 ((lastI x4.l).size)) = (Value.int IntKind.i64 ((lastI x5.l).size))) ∧
    ((Value.int IntKind.i64 ((lastI x4.l).key)) = (Value.int IntKind.i64 ((lastI x5.l).key))) ∧ ((Value.int IntKind.i64 ((lastI x4.l).value)) = (Value.int IntKind.i64 ((lastI x5.l).value))) ∧ ((Value.bool ((lastI x4.l).single)) = (Value.bool ((lastI x5.l).single))) ∧ True) ∧ (((Value.int IntKind.u32 ((lastI x4.r).index)) = (Value.int IntKind.u32 ((lastI x5.r).index))) ∧ ((Value.int IntKind.i64 ((lastI x4.r).size)) = (Value.int IntKind.i64 ((lastI x5.r).size))) ∧ ((Value.int IntKind.i64 ((lastI x4.r).key)) = (Value.int IntKind.i64 ((lastI x5.r).key))) ∧ ((Value.int IntKind.i64 ((lastI x4.r).value)) = (Value.int IntKind.i64 ((lastI x5.r).value))) ∧ ((Value.bool ((lastI x4.r).single)) = (Value.bool ((lastI x5.r).single))) ∧ True) ∧ True))))) ((∃ x5 : XP P2, ((((x4.l) = (x5.l)) ∧ ((x4.r) = (x5.r))) ∧ (True ∧ ((At.fn 151 []) = (At.fn 151 [])) ∧ ((At.fn 153 [1]) = (At.fn 153 [1])) ∧ True ∧ True ∧ True ∧ ((Value.bool (decide (x4.l ≠ []))) = (Value.bool (decide (x5.l ≠ [])))) ∧ True ∧ ((Value.bool (decide (x4.r ≠ []))) = (Value.bool (decide (x5.r ≠ [])))) ∧ ((Value.bool false) = (Value.bool (x5.c))) ∧ True) ∧ (True ∧ True ∧ True ∧ ((Value.int IntKind.u64 ((rdS S x4.m).reads)) = (Value.int IntKind.u64 ((rdS S x5.m).reads))) ∧ True) ∧ (((At.fn 134 [5, 6, 7]) = (At.fn 134 [5, 6, 7])) ∧ True) ∧ (True ∧ True ∧ True ∧ ((Value.int IntKind.u32 ((rdS S x4.m).fresh)) = (Value.int IntKind.u32 ((rdS S x5.m).fresh))) ∧ True) ∧ (((rdS S x4.m).nodes) = ((rdS S x5.m).nodes)) ∧
    (((rdS S x4.m).counts) = ((rdS S x5.m).counts)) ∧ (((Value.int IntKind.i64 (lo)) = (Value.int IntKind.i64 (lo))) ∧ True) ∧ (((Value.int IntKind.i64 (hi)) = (Value.int IntKind.i64 (hi))) ∧ True) ∧ (True ∧ True) ∧ (((rdS S x4.m).used) = ((rdS S x5.m).used)) ∧ (((rdS S x4.m).gen) = ((rdS S x5.m).gen)) ∧ (((rdS S x4.m).rel) = ((rdS S x5.m).rel)) ∧ ((x4.s) = (x5.s)) ∧ (True ∧ True) ∧ (True ∧ True) ∧ ((x4.l) = (x5.l)) ∧ ((x4.r) = (x5.r)) ∧ (((Value.int IntKind.u32 ((lastI x4.l).index)) = (Value.int IntKind.u32 ((lastI x5.l).index))) ∧ ((Value.int IntKind.i64 ((lastI x4.l).size)) = (Value.int IntKind.i64 ((lastI x5.l).size))) ∧ ((Value.int IntKind.i64 ((lastI x4.l).key)) = (Value.int IntKind.i64 ((lastI x5.l).key))) ∧ ((Value.int IntKind.i64 ((lastI x4.l).value)) = (Value.int IntKind.i64 ((lastI x5.l).value))) ∧ ((Value.bool ((lastI x4.l).single)) = (Value.bool ((lastI x5.l).single))) ∧ True) ∧ (((Value.int IntKind.u32 ((lastI x4.r).index)) = (Value.int IntKind.u32 ((lastI x5.r).index))) ∧ ((Value.int IntKind.i64 ((lastI x4.r).size)) = (Value.int IntKind.i64 ((lastI x5.r).size))) ∧ ((Value.int IntKind.i64 ((lastI x4.r).key)) = (Value.int IntKind.i64 ((lastI x5.r).key))) ∧ ((Value.int IntKind.i64 ((lastI x4.r).value)) = (Value.int IntKind.i64 ((lastI x5.r).value))) ∧ ((Value.bool ((lastI x4.r).single)) = (Value.bool ((lastI x5.r).single))) ∧ True) ∧ True))))) ((∃ x5 : XP P2, ((((x4.l) = (x5.l)) ∧ ((x4.r) = (x5.r))) ∧ (True ∧ ((At.fn 151 []) = (At.fn 151 [])) ∧
    ((At.fn 153 [1]) = (At.fn 153 [1])) ∧ True ∧ True ∧ True ∧ ((Value.bool (decide (x4.l ≠ []))) = (Value.bool (decide (x5.l ≠ [])))) ∧ True ∧ ((Value.bool (decide (x4.r ≠ []))) = (Value.bool (decide (x5.r ≠ [])))) ∧ ((Value.bool false) = (Value.bool (x5.c))) ∧ True) ∧ (True ∧ True ∧ True ∧ ((Value.int IntKind.u64 ((rdS S x4.m).reads)) = (Value.int IntKind.u64 ((rdS S x5.m).reads))) ∧ True) ∧ (((At.fn 134 [5, 6, 7]) = (At.fn 134 [5, 6, 7])) ∧ True) ∧ (True ∧ True ∧ True ∧ ((Value.int IntKind.u32 ((rdS S x4.m).fresh)) = (Value.int IntKind.u32 ((rdS S x5.m).fresh))) ∧ True) ∧ (((rdS S x4.m).nodes) = ((rdS S x5.m).nodes)) ∧ (((rdS S x4.m).counts) = ((rdS S x5.m).counts)) ∧ (((Value.int IntKind.i64 (lo)) = (Value.int IntKind.i64 (lo))) ∧ True) ∧ (((Value.int IntKind.i64 (hi)) = (Value.int IntKind.i64 (hi))) ∧ True) ∧ (True ∧ True) ∧ (((rdS S x4.m).used) = ((rdS S x5.m).used)) ∧ (((rdS S x4.m).gen) = ((rdS S x5.m).gen)) ∧ (((rdS S x4.m).rel) = ((rdS S x5.m).rel)) ∧ ((x4.s) = (x5.s)) ∧ (True ∧ True) ∧ (True ∧ True) ∧ ((x4.l) = (x5.l)) ∧ ((x4.r) = (x5.r)) ∧ (((Value.int IntKind.u32 ((lastI x4.l).index)) = (Value.int IntKind.u32 ((lastI x5.l).index))) ∧ ((Value.int IntKind.i64 ((lastI x4.l).size)) = (Value.int IntKind.i64 ((lastI x5.l).size))) ∧ ((Value.int IntKind.i64 ((lastI x4.l).key)) = (Value.int IntKind.i64 ((lastI x5.l).key))) ∧ ((Value.int IntKind.i64 ((lastI x4.l).value)) = (Value.int IntKind.i64 ((lastI x5.l).value))) ∧
    ((Value.bool ((lastI x4.l).single)) = (Value.bool ((lastI x5.l).single))) ∧ True) ∧ (((Value.int IntKind.u32 ((lastI x4.r).index)) = (Value.int IntKind.u32 ((lastI x5.r).index))) ∧ ((Value.int IntKind.i64 ((lastI x4.r).size)) = (Value.int IntKind.i64 ((lastI x5.r).size))) ∧ ((Value.int IntKind.i64 ((lastI x4.r).key)) = (Value.int IntKind.i64 ((lastI x5.r).key))) ∧ ((Value.int IntKind.i64 ((lastI x4.r).value)) = (Value.int IntKind.i64 ((lastI x5.r).value))) ∧ ((Value.bool ((lastI x4.r).single)) = (Value.bool ((lastI x5.r).single))) ∧ True) ∧ True))))) ((∃ x5 : XP P2, ((((x4.l) = (x5.l)) ∧ ((x4.r) = (x5.r))) ∧ (True ∧ ((At.fn 151 []) = (At.fn 151 [])) ∧ ((At.fn 153 [1]) = (At.fn 153 [1])) ∧ True ∧ True ∧ True ∧ ((Value.bool (decide (x4.l ≠ []))) = (Value.bool (decide (x5.l ≠ [])))) ∧ True ∧ ((Value.bool (decide (x4.r ≠ []))) = (Value.bool (decide (x5.r ≠ [])))) ∧ ((Value.bool false) = (Value.bool (x5.c))) ∧ True) ∧ (True ∧ True ∧ True ∧ ((Value.int IntKind.u64 ((rdS S x4.m).reads)) = (Value.int IntKind.u64 ((rdS S x5.m).reads))) ∧ True) ∧ (((At.fn 134 [5, 6, 7]) = (At.fn 134 [5, 6, 7])) ∧ True) ∧ (True ∧ True ∧ True ∧ ((Value.int IntKind.u32 ((rdS S x4.m).fresh)) = (Value.int IntKind.u32 ((rdS S x5.m).fresh))) ∧ True) ∧ (((rdS S x4.m).nodes) = ((rdS S x5.m).nodes)) ∧ (((rdS S x4.m).counts) = ((rdS S x5.m).counts)) ∧ (((Value.int IntKind.i64 (lo)) = (Value.int IntKind.i64 (lo))) ∧ True) ∧ (((Value.int IntKind.i64 (hi)) = (Value.int IntKind.i64 (hi))) ∧ True) ∧ (True ∧ True) ∧
    (((rdS S x4.m).used) = ((rdS S x5.m).used)) ∧ (((rdS S x4.m).gen) = ((rdS S x5.m).gen)) ∧ (((rdS S x4.m).rel) = ((rdS S x5.m).rel)) ∧ ((x4.s) = (x5.s)) ∧ (True ∧ True) ∧ (True ∧ True) ∧ ((x4.l) = (x5.l)) ∧ ((x4.r) = (x5.r)) ∧ (((Value.int IntKind.u32 ((lastI x4.l).index)) = (Value.int IntKind.u32 ((lastI x5.l).index))) ∧ ((Value.int IntKind.i64 ((lastI x4.l).size)) = (Value.int IntKind.i64 ((lastI x5.l).size))) ∧ ((Value.int IntKind.i64 ((lastI x4.l).key)) = (Value.int IntKind.i64 ((lastI x5.l).key))) ∧ ((Value.int IntKind.i64 ((lastI x4.l).value)) = (Value.int IntKind.i64 ((lastI x5.l).value))) ∧ ((Value.bool ((lastI x4.l).single)) = (Value.bool ((lastI x5.l).single))) ∧ True) ∧ (((Value.int IntKind.u32 ((lastI x4.r).index)) = (Value.int IntKind.u32 ((lastI x5.r).index))) ∧ ((Value.int IntKind.i64 ((lastI x4.r).size)) = (Value.int IntKind.i64 ((lastI x5.r).size))) ∧ ((Value.int IntKind.i64 ((lastI x4.r).key)) = (Value.int IntKind.i64 ((lastI x5.r).key))) ∧ ((Value.int IntKind.i64 ((lastI x4.r).value)) = (Value.int IntKind.i64 ((lastI x5.r).value))) ∧ ((Value.bool ((lastI x4.r).single)) = (Value.bool ((lastI x5.r).single))) ∧ True) ∧ True)))) ∧ (∀ x5 : XP P2, ((((x4.l) = (x5.l)) ∧ ((x4.r) = (x5.r))) → (brS (x5.c) (((0 < x5.l.length) ∧ (x5.l.length ≤ 1000000) ∧ (∀ l'2 : List ItemT, (((l'2) = (x5.l.dropLast)) → ((0 < x5.r.length) ∧ (x5.r.length ≤ 1000000) ∧ (∀ l'3 : List ItemT, (((l'3) = (x5.r.dropLast)) → (∃ x' : XP P0, (True ∧ ((True ∧ ((At.fn 151 []) = (At.fn 151 [])) ∧
    ((At.fn 153 [1]) = (At.fn 153 [1])) ∧ True ∧ True ∧ True) ∧ (True ∧ True ∧ True ∧ ((Value.int IntKind.u64 ((rdS S x5.m).reads)) = (Value.int IntKind.u64 ((rdS S x'.m).reads))) ∧ True) ∧ (((At.fn 134 [5, 6, 7]) = (At.fn 134 [5, 6, 7])) ∧ True) ∧ (True ∧ True ∧ True ∧ ((Value.int IntKind.u32 ((rdS S x5.m).fresh)) = (Value.int IntKind.u32 ((rdS S x'.m).fresh))) ∧ True) ∧ (((rdS S x5.m).nodes) = ((rdS S x'.m).nodes)) ∧ (((rdS S x5.m).counts) = ((rdS S x'.m).counts)) ∧ (((Value.int IntKind.i64 (lo)) = (Value.int IntKind.i64 (lo))) ∧ True) ∧ (((Value.int IntKind.i64 (hi)) = (Value.int IntKind.i64 (hi))) ∧ True) ∧ (True ∧ True) ∧ (((rdS S x5.m).used) = ((rdS S x'.m).used)) ∧ (((rdS S x5.m).gen) = ((rdS S x'.m).gen)) ∧ (((rdS S x5.m).rel) = ((rdS S x'.m).rel)) ∧ ((x5.s) = (x'.s)) ∧ (True ∧ True) ∧ (True ∧ True) ∧ ((l'2) = (x'.l)) ∧ ((l'3) = (x'.r)) ∧ True) ∧ (wL x'.l + wL x'.r < wL x1.l + wL x1.r)))))))))) (((brS (decide (x5.l ≠ [])) ((brS (!(lastI x5.l).single) ((brS (!decide (x5.r ≠ [])) ((∃ x6 : XP P3, ((((x5.l) = (x6.l)) ∧ ((x5.r) = (x6.r))) ∧ (True ∧ ((At.fn 151 []) = (At.fn 151 [])) ∧ ((At.fn 153 [1]) = (At.fn 153 [1])) ∧ True ∧ True ∧ True ∧ ((Value.bool (decide (x5.l ≠ []))) = (Value.bool (decide (x6.l ≠ [])))) ∧ True ∧ ((Value.bool (decide (x5.r ≠ []))) = (Value.bool (decide (x6.r ≠ [])))) ∧ ((Value.bool true) = (Value.bool (x6.c))) ∧ True) ∧ (True ∧ True ∧ True ∧ ((Value.int IntKind.u64 ((rdS S x5.m).reads)) = (Value.int IntKind.u64 ((rdS S x6.m).reads))) ∧ True) ∧
    (((At.fn 134 [5, 6, 7]) = (At.fn 134 [5, 6, 7])) ∧ True) ∧ (True ∧ True ∧ True ∧ ((Value.int IntKind.u32 ((rdS S x5.m).fresh)) = (Value.int IntKind.u32 ((rdS S x6.m).fresh))) ∧ True) ∧ (((rdS S x5.m).nodes) = ((rdS S x6.m).nodes)) ∧ (((rdS S x5.m).counts) = ((rdS S x6.m).counts)) ∧ (((Value.int IntKind.i64 (lo)) = (Value.int IntKind.i64 (lo))) ∧ True) ∧ (((Value.int IntKind.i64 (hi)) = (Value.int IntKind.i64 (hi))) ∧ True) ∧ (True ∧ True) ∧ (((rdS S x5.m).used) = ((rdS S x6.m).used)) ∧ (((rdS S x5.m).gen) = ((rdS S x6.m).gen)) ∧ (((rdS S x5.m).rel) = ((rdS S x6.m).rel)) ∧ ((x5.s) = (x6.s)) ∧ (True ∧ True) ∧ (True ∧ True) ∧ ((x5.l) = (x6.l)) ∧ ((x5.r) = (x6.r)) ∧ (((Value.int IntKind.u32 ((lastI x5.l).index)) = (Value.int IntKind.u32 ((lastI x6.l).index))) ∧ ((Value.int IntKind.i64 ((lastI x5.l).size)) = (Value.int IntKind.i64 ((lastI x6.l).size))) ∧ ((Value.int IntKind.i64 ((lastI x5.l).key)) = (Value.int IntKind.i64 ((lastI x6.l).key))) ∧ ((Value.int IntKind.i64 ((lastI x5.l).value)) = (Value.int IntKind.i64 ((lastI x6.l).value))) ∧ ((Value.bool ((lastI x5.l).single)) = (Value.bool ((lastI x6.l).single))) ∧ True) ∧ (((Value.int IntKind.u32 ((lastI x5.r).index)) = (Value.int IntKind.u32 ((lastI x6.r).index))) ∧ ((Value.int IntKind.i64 ((lastI x5.r).size)) = (Value.int IntKind.i64 ((lastI x6.r).size))) ∧ ((Value.int IntKind.i64 ((lastI x5.r).key)) = (Value.int IntKind.i64 ((lastI x6.r).key))) ∧
    ((Value.int IntKind.i64 ((lastI x5.r).value)) = (Value.int IntKind.i64 ((lastI x6.r).value))) ∧ ((Value.bool ((lastI x5.r).single)) = (Value.bool ((lastI x6.r).single))) ∧ True) ∧ True))) ((brS ((lastI x5.r).single) ((∃ x6 : XP P3, ((((x5.l) = (x6.l)) ∧ ((x5.r) = (x6.r))) ∧ (True ∧ ((At.fn 151 []) = (At.fn 151 [])) ∧ ((At.fn 153 [1]) = (At.fn 153 [1])) ∧ True ∧ True ∧ True ∧ ((Value.bool (decide (x5.l ≠ []))) = (Value.bool (decide (x6.l ≠ [])))) ∧ True ∧ ((Value.bool (decide (x5.r ≠ []))) = (Value.bool (decide (x6.r ≠ [])))) ∧ ((Value.bool true) = (Value.bool (x6.c))) ∧ True) ∧ (True ∧ True ∧ True ∧ ((Value.int IntKind.u64 ((rdS S x5.m).reads)) = (Value.int IntKind.u64 ((rdS S x6.m).reads))) ∧ True) ∧ (((At.fn 134 [5, 6, 7]) = (At.fn 134 [5, 6, 7])) ∧ True) ∧ (True ∧ True ∧ True ∧ ((Value.int IntKind.u32 ((rdS S x5.m).fresh)) = (Value.int IntKind.u32 ((rdS S x6.m).fresh))) ∧ True) ∧ (((rdS S x5.m).nodes) = ((rdS S x6.m).nodes)) ∧ (((rdS S x5.m).counts) = ((rdS S x6.m).counts)) ∧ (((Value.int IntKind.i64 (lo)) = (Value.int IntKind.i64 (lo))) ∧ True) ∧ (((Value.int IntKind.i64 (hi)) = (Value.int IntKind.i64 (hi))) ∧ True) ∧ (True ∧ True) ∧ (((rdS S x5.m).used) = ((rdS S x6.m).used)) ∧ (((rdS S x5.m).gen) = ((rdS S x6.m).gen)) ∧ (((rdS S x5.m).rel) = ((rdS S x6.m).rel)) ∧ ((x5.s) = (x6.s)) ∧ (True ∧ True) ∧ (True ∧ True) ∧ ((x5.l) = (x6.l)) ∧ ((x5.r) = (x6.r)) ∧ (((Value.int IntKind.u32 ((lastI x5.l).index)) = (Value.int IntKind.u32 ((lastI x6.l).index))) ∧
    ((Value.int IntKind.i64 ((lastI x5.l).size)) = (Value.int IntKind.i64 ((lastI x6.l).size))) ∧ ((Value.int IntKind.i64 ((lastI x5.l).key)) = (Value.int IntKind.i64 ((lastI x6.l).key))) ∧ ((Value.int IntKind.i64 ((lastI x5.l).value)) = (Value.int IntKind.i64 ((lastI x6.l).value))) ∧ ((Value.bool ((lastI x5.l).single)) = (Value.bool ((lastI x6.l).single))) ∧ True) ∧ (((Value.int IntKind.u32 ((lastI x5.r).index)) = (Value.int IntKind.u32 ((lastI x6.r).index))) ∧ ((Value.int IntKind.i64 ((lastI x5.r).size)) = (Value.int IntKind.i64 ((lastI x6.r).size))) ∧ ((Value.int IntKind.i64 ((lastI x5.r).key)) = (Value.int IntKind.i64 ((lastI x6.r).key))) ∧ ((Value.int IntKind.i64 ((lastI x5.r).value)) = (Value.int IntKind.i64 ((lastI x6.r).value))) ∧ ((Value.bool ((lastI x5.r).single)) = (Value.bool ((lastI x6.r).single))) ∧ True) ∧ True))) ((∃ x6 : XP P3, ((((x5.l) = (x6.l)) ∧ ((x5.r) = (x6.r))) ∧ (True ∧ ((At.fn 151 []) = (At.fn 151 [])) ∧ ((At.fn 153 [1]) = (At.fn 153 [1])) ∧ True ∧ True ∧ True ∧ ((Value.bool (decide (x5.l ≠ []))) = (Value.bool (decide (x6.l ≠ [])))) ∧ True ∧ ((Value.bool (decide (x5.r ≠ []))) = (Value.bool (decide (x6.r ≠ [])))) ∧ ((Value.bool (decide ((lastI x5.l).size ≥ (lastI x5.r).size))) = (Value.bool (x6.c))) ∧ True) ∧ (True ∧ True ∧ True ∧ ((Value.int IntKind.u64 ((rdS S x5.m).reads)) = (Value.int IntKind.u64 ((rdS S x6.m).reads))) ∧ True) ∧ (((At.fn 134 [5, 6, 7]) = (At.fn 134 [5, 6, 7])) ∧ True) ∧ (True ∧ True ∧ True ∧
    ((Value.int IntKind.u32 ((rdS S x5.m).fresh)) = (Value.int IntKind.u32 ((rdS S x6.m).fresh))) ∧ True) ∧ (((rdS S x5.m).nodes) = ((rdS S x6.m).nodes)) ∧ (((rdS S x5.m).counts) = ((rdS S x6.m).counts)) ∧ (((Value.int IntKind.i64 (lo)) = (Value.int IntKind.i64 (lo))) ∧ True) ∧ (((Value.int IntKind.i64 (hi)) = (Value.int IntKind.i64 (hi))) ∧ True) ∧ (True ∧ True) ∧ (((rdS S x5.m).used) = ((rdS S x6.m).used)) ∧ (((rdS S x5.m).gen) = ((rdS S x6.m).gen)) ∧ (((rdS S x5.m).rel) = ((rdS S x6.m).rel)) ∧ ((x5.s) = (x6.s)) ∧ (True ∧ True) ∧ (True ∧ True) ∧ ((x5.l) = (x6.l)) ∧ ((x5.r) = (x6.r)) ∧ (((Value.int IntKind.u32 ((lastI x5.l).index)) = (Value.int IntKind.u32 ((lastI x6.l).index))) ∧ ((Value.int IntKind.i64 ((lastI x5.l).size)) = (Value.int IntKind.i64 ((lastI x6.l).size))) ∧ ((Value.int IntKind.i64 ((lastI x5.l).key)) = (Value.int IntKind.i64 ((lastI x6.l).key))) ∧ ((Value.int IntKind.i64 ((lastI x5.l).value)) = (Value.int IntKind.i64 ((lastI x6.l).value))) ∧ ((Value.bool ((lastI x5.l).single)) = (Value.bool ((lastI x6.l).single))) ∧ True) ∧ (((Value.int IntKind.u32 ((lastI x5.r).index)) = (Value.int IntKind.u32 ((lastI x6.r).index))) ∧ ((Value.int IntKind.i64 ((lastI x5.r).size)) = (Value.int IntKind.i64 ((lastI x6.r).size))) ∧ ((Value.int IntKind.i64 ((lastI x5.r).key)) = (Value.int IntKind.i64 ((lastI x6.r).key))) ∧ ((Value.int IntKind.i64 ((lastI x5.r).value)) = (Value.int IntKind.i64 ((lastI x6.r).value))) ∧
    ((Value.bool ((lastI x5.r).single)) = (Value.bool ((lastI x6.r).single))) ∧ True) ∧ True))))))) ((∃ x6 : XP P3, ((((x5.l) = (x6.l)) ∧ ((x5.r) = (x6.r))) ∧ (True ∧ ((At.fn 151 []) = (At.fn 151 [])) ∧ ((At.fn 153 [1]) = (At.fn 153 [1])) ∧ True ∧ True ∧ True ∧ ((Value.bool (decide (x5.l ≠ []))) = (Value.bool (decide (x6.l ≠ [])))) ∧ True ∧ ((Value.bool (decide (x5.r ≠ []))) = (Value.bool (decide (x6.r ≠ [])))) ∧ ((Value.bool false) = (Value.bool (x6.c))) ∧ True) ∧ (True ∧ True ∧ True ∧ ((Value.int IntKind.u64 ((rdS S x5.m).reads)) = (Value.int IntKind.u64 ((rdS S x6.m).reads))) ∧ True) ∧ (((At.fn 134 [5, 6, 7]) = (At.fn 134 [5, 6, 7])) ∧ True) ∧ (True ∧ True ∧ True ∧ ((Value.int IntKind.u32 ((rdS S x5.m).fresh)) = (Value.int IntKind.u32 ((rdS S x6.m).fresh))) ∧ True) ∧ (((rdS S x5.m).nodes) = ((rdS S x6.m).nodes)) ∧ (((rdS S x5.m).counts) = ((rdS S x6.m).counts)) ∧ (((Value.int IntKind.i64 (lo)) = (Value.int IntKind.i64 (lo))) ∧ True) ∧ (((Value.int IntKind.i64 (hi)) = (Value.int IntKind.i64 (hi))) ∧ True) ∧ (True ∧ True) ∧ (((rdS S x5.m).used) = ((rdS S x6.m).used)) ∧ (((rdS S x5.m).gen) = ((rdS S x6.m).gen)) ∧ (((rdS S x5.m).rel) = ((rdS S x6.m).rel)) ∧ ((x5.s) = (x6.s)) ∧ (True ∧ True) ∧ (True ∧ True) ∧ ((x5.l) = (x6.l)) ∧ ((x5.r) = (x6.r)) ∧ (((Value.int IntKind.u32 ((lastI x5.l).index)) = (Value.int IntKind.u32 ((lastI x6.l).index))) ∧ ((Value.int IntKind.i64 ((lastI x5.l).size)) = (Value.int IntKind.i64 ((lastI x6.l).size))) ∧
    ((Value.int IntKind.i64 ((lastI x5.l).key)) = (Value.int IntKind.i64 ((lastI x6.l).key))) ∧ ((Value.int IntKind.i64 ((lastI x5.l).value)) = (Value.int IntKind.i64 ((lastI x6.l).value))) ∧ ((Value.bool ((lastI x5.l).single)) = (Value.bool ((lastI x6.l).single))) ∧ True) ∧ (((Value.int IntKind.u32 ((lastI x5.r).index)) = (Value.int IntKind.u32 ((lastI x6.r).index))) ∧ ((Value.int IntKind.i64 ((lastI x5.r).size)) = (Value.int IntKind.i64 ((lastI x6.r).size))) ∧ ((Value.int IntKind.i64 ((lastI x5.r).key)) = (Value.int IntKind.i64 ((lastI x6.r).key))) ∧ ((Value.int IntKind.i64 ((lastI x5.r).value)) = (Value.int IntKind.i64 ((lastI x6.r).value))) ∧ ((Value.bool ((lastI x5.r).single)) = (Value.bool ((lastI x6.r).single))) ∧ True) ∧ True))))) ((∃ x6 : XP P3, ((((x5.l) = (x6.l)) ∧ ((x5.r) = (x6.r))) ∧ (True ∧ ((At.fn 151 []) = (At.fn 151 [])) ∧ ((At.fn 153 [1]) = (At.fn 153 [1])) ∧ True ∧ True ∧ True ∧ ((Value.bool (decide (x5.l ≠ []))) = (Value.bool (decide (x6.l ≠ [])))) ∧ True ∧ ((Value.bool (decide (x5.r ≠ []))) = (Value.bool (decide (x6.r ≠ [])))) ∧ ((Value.bool false) = (Value.bool (x6.c))) ∧ True) ∧ (True ∧ True ∧ True ∧ ((Value.int IntKind.u64 ((rdS S x5.m).reads)) = (Value.int IntKind.u64 ((rdS S x6.m).reads))) ∧ True) ∧ (((At.fn 134 [5, 6, 7]) = (At.fn 134 [5, 6, 7])) ∧ True) ∧ (True ∧ True ∧ True ∧ ((Value.int IntKind.u32 ((rdS S x5.m).fresh)) = (Value.int IntKind.u32 ((rdS S x6.m).fresh))) ∧ True) ∧ (((rdS S x5.m).nodes) = ((rdS S x6.m).nodes)) ∧
    (((rdS S x5.m).counts) = ((rdS S x6.m).counts)) ∧ (((Value.int IntKind.i64 (lo)) = (Value.int IntKind.i64 (lo))) ∧ True) ∧ (((Value.int IntKind.i64 (hi)) = (Value.int IntKind.i64 (hi))) ∧ True) ∧ (True ∧ True) ∧ (((rdS S x5.m).used) = ((rdS S x6.m).used)) ∧ (((rdS S x5.m).gen) = ((rdS S x6.m).gen)) ∧ (((rdS S x5.m).rel) = ((rdS S x6.m).rel)) ∧ ((x5.s) = (x6.s)) ∧ (True ∧ True) ∧ (True ∧ True) ∧ ((x5.l) = (x6.l)) ∧ ((x5.r) = (x6.r)) ∧ (((Value.int IntKind.u32 ((lastI x5.l).index)) = (Value.int IntKind.u32 ((lastI x6.l).index))) ∧ ((Value.int IntKind.i64 ((lastI x5.l).size)) = (Value.int IntKind.i64 ((lastI x6.l).size))) ∧ ((Value.int IntKind.i64 ((lastI x5.l).key)) = (Value.int IntKind.i64 ((lastI x6.l).key))) ∧ ((Value.int IntKind.i64 ((lastI x5.l).value)) = (Value.int IntKind.i64 ((lastI x6.l).value))) ∧ ((Value.bool ((lastI x5.l).single)) = (Value.bool ((lastI x6.l).single))) ∧ True) ∧ (((Value.int IntKind.u32 ((lastI x5.r).index)) = (Value.int IntKind.u32 ((lastI x6.r).index))) ∧ ((Value.int IntKind.i64 ((lastI x5.r).size)) = (Value.int IntKind.i64 ((lastI x6.r).size))) ∧ ((Value.int IntKind.i64 ((lastI x5.r).key)) = (Value.int IntKind.i64 ((lastI x6.r).key))) ∧ ((Value.int IntKind.i64 ((lastI x5.r).value)) = (Value.int IntKind.i64 ((lastI x6.r).value))) ∧ ((Value.bool ((lastI x5.r).single)) = (Value.bool ((lastI x6.r).single))) ∧ True) ∧ True)))) ∧ (∀ x6 : XP P3, ((((x5.l) = (x6.l)) ∧ ((x5.r) = (x6.r))) → (brS (x6.c) (((0 < x6.l.length) ∧ (exW (rdS S x6.m)) ∧
    (((rdS S x6.m).us (lastI x6.l).index) = true) ∧ ((rdS S x6.m).reads ≤ 3000000000000000000) ∧ (x6.l.length ≤ 900000) ∧ (∀ l'2 : List ItemT, (∀ S'2 : Arn, (∀ m2 : Nat, (((l'2) = (expL (rdS S x6.m) x6.l)) → (((S'2) = (rdS (rdS S x6.m) m2)) → ((m2 ≤ 3) → (∃ x' : XP P0, (True ∧ ((True ∧ ((At.fn 151 []) = (At.fn 151 [])) ∧ ((At.fn 153 [1]) = (At.fn 153 [1])) ∧ True ∧ True ∧ True) ∧ (True ∧ True ∧ True ∧ ((Value.int IntKind.u64 (S'2.reads)) = (Value.int IntKind.u64 ((rdS S x'.m).reads))) ∧ True) ∧ (((At.fn 134 [5, 6, 7]) = (At.fn 134 [5, 6, 7])) ∧ True) ∧ (True ∧ True ∧ True ∧ ((Value.int IntKind.u32 (S'2.fresh)) = (Value.int IntKind.u32 ((rdS S x'.m).fresh))) ∧ True) ∧ ((S'2.nodes) = ((rdS S x'.m).nodes)) ∧ ((S'2.counts) = ((rdS S x'.m).counts)) ∧ (((Value.int IntKind.i64 (lo)) = (Value.int IntKind.i64 (lo))) ∧ True) ∧ (((Value.int IntKind.i64 (hi)) = (Value.int IntKind.i64 (hi))) ∧ True) ∧ (True ∧ True) ∧ ((S'2.used) = ((rdS S x'.m).used)) ∧ ((S'2.gen) = ((rdS S x'.m).gen)) ∧ ((S'2.rel) = ((rdS S x'.m).rel)) ∧ ((x6.s) = (x'.s)) ∧ (True ∧ True) ∧ (True ∧ True) ∧ ((l'2) = (x'.l)) ∧ ((x6.r) = (x'.r)) ∧ True) ∧ (wL x'.l + wL x'.r < wL x1.l + wL x1.r))))))))))) (((brS (decide (x6.r ≠ [])) ((∃ x7 : XP P4, ((((x6.l) = (x7.l)) ∧ ((x6.r) = (x7.r))) ∧ (True ∧ ((At.fn 151 []) = (At.fn 151 [])) ∧ ((At.fn 153 [1]) = (At.fn 153 [1])) ∧ True ∧ True ∧ True ∧ ((Value.bool (decide (x6.l ≠ []))) = (Value.bool (decide (x7.l ≠ [])))) ∧ True ∧
    ((Value.bool (decide (x6.r ≠ []))) = (Value.bool (decide (x7.r ≠ [])))) ∧ ((Value.bool (!(lastI x6.r).single)) = (Value.bool (x7.c))) ∧ True) ∧ (True ∧ True ∧ True ∧ ((Value.int IntKind.u64 ((rdS S x6.m).reads)) = (Value.int IntKind.u64 ((rdS S x7.m).reads))) ∧ True) ∧ (((At.fn 134 [5, 6, 7]) = (At.fn 134 [5, 6, 7])) ∧ True) ∧ (True ∧ True ∧ True ∧ ((Value.int IntKind.u32 ((rdS S x6.m).fresh)) = (Value.int IntKind.u32 ((rdS S x7.m).fresh))) ∧ True) ∧ (((rdS S x6.m).nodes) = ((rdS S x7.m).nodes)) ∧ (((rdS S x6.m).counts) = ((rdS S x7.m).counts)) ∧ (((Value.int IntKind.i64 (lo)) = (Value.int IntKind.i64 (lo))) ∧ True) ∧ (((Value.int IntKind.i64 (hi)) = (Value.int IntKind.i64 (hi))) ∧ True) ∧ (True ∧ True) ∧ (((rdS S x6.m).used) = ((rdS S x7.m).used)) ∧ (((rdS S x6.m).gen) = ((rdS S x7.m).gen)) ∧ (((rdS S x6.m).rel) = ((rdS S x7.m).rel)) ∧ ((x6.s) = (x7.s)) ∧ (True ∧ True) ∧ (True ∧ True) ∧ ((x6.l) = (x7.l)) ∧ ((x6.r) = (x7.r)) ∧ (((Value.int IntKind.u32 ((lastI x6.l).index)) = (Value.int IntKind.u32 ((lastI x7.l).index))) ∧ ((Value.int IntKind.i64 ((lastI x6.l).size)) = (Value.int IntKind.i64 ((lastI x7.l).size))) ∧ ((Value.int IntKind.i64 ((lastI x6.l).key)) = (Value.int IntKind.i64 ((lastI x7.l).key))) ∧ ((Value.int IntKind.i64 ((lastI x6.l).value)) = (Value.int IntKind.i64 ((lastI x7.l).value))) ∧ ((Value.bool ((lastI x6.l).single)) = (Value.bool ((lastI x7.l).single))) ∧ True) ∧ (((Value.int IntKind.u32 ((lastI x6.r).index)) = (Value.int IntKind.u32 ((lastI x7.r).index))) ∧
    ((Value.int IntKind.i64 ((lastI x6.r).size)) = (Value.int IntKind.i64 ((lastI x7.r).size))) ∧ ((Value.int IntKind.i64 ((lastI x6.r).key)) = (Value.int IntKind.i64 ((lastI x7.r).key))) ∧ ((Value.int IntKind.i64 ((lastI x6.r).value)) = (Value.int IntKind.i64 ((lastI x7.r).value))) ∧ ((Value.bool ((lastI x6.r).single)) = (Value.bool ((lastI x7.r).single))) ∧ True) ∧ True))) ((∃ x7 : XP P4, ((((x6.l) = (x7.l)) ∧ ((x6.r) = (x7.r))) ∧ (True ∧ ((At.fn 151 []) = (At.fn 151 [])) ∧ ((At.fn 153 [1]) = (At.fn 153 [1])) ∧ True ∧ True ∧ True ∧ ((Value.bool (decide (x6.l ≠ []))) = (Value.bool (decide (x7.l ≠ [])))) ∧ True ∧ ((Value.bool (decide (x6.r ≠ []))) = (Value.bool (decide (x7.r ≠ [])))) ∧ ((Value.bool false) = (Value.bool (x7.c))) ∧ True) ∧ (True ∧ True ∧ True ∧ ((Value.int IntKind.u64 ((rdS S x6.m).reads)) = (Value.int IntKind.u64 ((rdS S x7.m).reads))) ∧ True) ∧ (((At.fn 134 [5, 6, 7]) = (At.fn 134 [5, 6, 7])) ∧ True) ∧ (True ∧ True ∧ True ∧ ((Value.int IntKind.u32 ((rdS S x6.m).fresh)) = (Value.int IntKind.u32 ((rdS S x7.m).fresh))) ∧ True) ∧ (((rdS S x6.m).nodes) = ((rdS S x7.m).nodes)) ∧ (((rdS S x6.m).counts) = ((rdS S x7.m).counts)) ∧ (((Value.int IntKind.i64 (lo)) = (Value.int IntKind.i64 (lo))) ∧ True) ∧ (((Value.int IntKind.i64 (hi)) = (Value.int IntKind.i64 (hi))) ∧ True) ∧ (True ∧ True) ∧ (((rdS S x6.m).used) = ((rdS S x7.m).used)) ∧ (((rdS S x6.m).gen) = ((rdS S x7.m).gen)) ∧ (((rdS S x6.m).rel) = ((rdS S x7.m).rel)) ∧ ((x6.s) = (x7.s)) ∧ (True ∧ True) ∧ (True ∧ True) ∧
    ((x6.l) = (x7.l)) ∧ ((x6.r) = (x7.r)) ∧ (((Value.int IntKind.u32 ((lastI x6.l).index)) = (Value.int IntKind.u32 ((lastI x7.l).index))) ∧ ((Value.int IntKind.i64 ((lastI x6.l).size)) = (Value.int IntKind.i64 ((lastI x7.l).size))) ∧ ((Value.int IntKind.i64 ((lastI x6.l).key)) = (Value.int IntKind.i64 ((lastI x7.l).key))) ∧ ((Value.int IntKind.i64 ((lastI x6.l).value)) = (Value.int IntKind.i64 ((lastI x7.l).value))) ∧ ((Value.bool ((lastI x6.l).single)) = (Value.bool ((lastI x7.l).single))) ∧ True) ∧ (((Value.int IntKind.u32 ((lastI x6.r).index)) = (Value.int IntKind.u32 ((lastI x7.r).index))) ∧ ((Value.int IntKind.i64 ((lastI x6.r).size)) = (Value.int IntKind.i64 ((lastI x7.r).size))) ∧ ((Value.int IntKind.i64 ((lastI x6.r).key)) = (Value.int IntKind.i64 ((lastI x7.r).key))) ∧ ((Value.int IntKind.i64 ((lastI x6.r).value)) = (Value.int IntKind.i64 ((lastI x7.r).value))) ∧ ((Value.bool ((lastI x6.r).single)) = (Value.bool ((lastI x7.r).single))) ∧ True) ∧ True)))) ∧ (∀ x7 : XP P4, ((((x6.l) = (x7.l)) ∧ ((x6.r) = (x7.r))) → (brS (x7.c) (((0 < x7.r.length) ∧ (exW (rdS S x7.m)) ∧ (((rdS S x7.m).us (lastI x7.r).index) = true) ∧ ((rdS S x7.m).reads ≤ 3000000000000000000) ∧ (x7.r.length ≤ 900000) ∧ (∀ l'2 : List ItemT, (∀ S'2 : Arn, (∀ m2 : Nat, (((l'2) = (expL (rdS S x7.m) x7.r)) → (((S'2) = (rdS (rdS S x7.m) m2)) → ((m2 ≤ 3) → (∃ x' : XP P0, (True ∧ ((True ∧ ((At.fn 151 []) = (At.fn 151 [])) ∧ ((At.fn 153 [1]) = (At.fn 153 [1])) ∧ True ∧ True ∧ True) ∧ (True ∧ True ∧ True ∧
    ((Value.int IntKind.u64 (S'2.reads)) = (Value.int IntKind.u64 ((rdS S x'.m).reads))) ∧ True) ∧ (((At.fn 134 [5, 6, 7]) = (At.fn 134 [5, 6, 7])) ∧ True) ∧ (True ∧ True ∧ True ∧ ((Value.int IntKind.u32 (S'2.fresh)) = (Value.int IntKind.u32 ((rdS S x'.m).fresh))) ∧ True) ∧ ((S'2.nodes) = ((rdS S x'.m).nodes)) ∧ ((S'2.counts) = ((rdS S x'.m).counts)) ∧ (((Value.int IntKind.i64 (lo)) = (Value.int IntKind.i64 (lo))) ∧ True) ∧ (((Value.int IntKind.i64 (hi)) = (Value.int IntKind.i64 (hi))) ∧ True) ∧ (True ∧ True) ∧ ((S'2.used) = ((rdS S x'.m).used)) ∧ ((S'2.gen) = ((rdS S x'.m).gen)) ∧ ((S'2.rel) = ((rdS S x'.m).rel)) ∧ ((x7.s) = (x'.s)) ∧ (True ∧ True) ∧ (True ∧ True) ∧ ((x7.l) = (x'.l)) ∧ ((l'2) = (x'.r)) ∧ True) ∧ (wL x'.l + wL x'.r < wL x1.l + wL x1.r))))))))))) (((brS (decide (x7.l ≠ [])) ((brS (!decide (x7.r ≠ [])) ((∃ x8 : XP P5, ((((x7.l) = (x8.l)) ∧ ((x7.r) = (x8.r))) ∧ (True ∧ ((At.fn 151 []) = (At.fn 151 [])) ∧ ((At.fn 153 [1]) = (At.fn 153 [1])) ∧ True ∧ True ∧ True ∧ ((Value.bool (decide (x7.l ≠ []))) = (Value.bool (decide (x8.l ≠ [])))) ∧ True ∧ ((Value.bool (decide (x7.r ≠ []))) = (Value.bool (decide (x8.r ≠ [])))) ∧ True ∧ True) ∧ (True ∧ True ∧ True ∧ ((Value.int IntKind.u64 ((rdS S x7.m).reads)) = (Value.int IntKind.u64 ((rdS S x8.m).reads))) ∧ True) ∧ (((At.fn 134 [5, 6, 7]) = (At.fn 134 [5, 6, 7])) ∧ True) ∧ (True ∧ True ∧ True ∧ ((Value.int IntKind.u32 ((rdS S x7.m).fresh)) = (Value.int IntKind.u32 ((rdS S x8.m).fresh))) ∧ True) ∧
    (((rdS S x7.m).nodes) = ((rdS S x8.m).nodes)) ∧ (((rdS S x7.m).counts) = ((rdS S x8.m).counts)) ∧ (((Value.int IntKind.i64 (lo)) = (Value.int IntKind.i64 (lo))) ∧ True) ∧ (((Value.int IntKind.i64 (hi)) = (Value.int IntKind.i64 (hi))) ∧ True) ∧ (True ∧ True) ∧ (((rdS S x7.m).used) = ((rdS S x8.m).used)) ∧ (((rdS S x7.m).gen) = ((rdS S x8.m).gen)) ∧ (((rdS S x7.m).rel) = ((rdS S x8.m).rel)) ∧ ((x7.s) = (x8.s)) ∧ (True ∧ True) ∧ (True ∧ True) ∧ ((x7.l) = (x8.l)) ∧ ((x7.r) = (x8.r)) ∧ (((Value.int IntKind.u32 ((lastI x7.l).index)) = (Value.int IntKind.u32 ((lastI x8.l).index))) ∧ ((Value.int IntKind.i64 ((lastI x7.l).size)) = (Value.int IntKind.i64 ((lastI x8.l).size))) ∧ ((Value.int IntKind.i64 ((lastI x7.l).key)) = (Value.int IntKind.i64 ((lastI x8.l).key))) ∧ ((Value.int IntKind.i64 ((lastI x7.l).value)) = (Value.int IntKind.i64 ((lastI x8.l).value))) ∧ ((Value.bool ((lastI x7.l).single)) = (Value.bool ((lastI x8.l).single))) ∧ True) ∧ (((Value.int IntKind.u32 ((lastI x7.r).index)) = (Value.int IntKind.u32 ((lastI x8.r).index))) ∧ ((Value.int IntKind.i64 ((lastI x7.r).size)) = (Value.int IntKind.i64 ((lastI x8.r).size))) ∧ ((Value.int IntKind.i64 ((lastI x7.r).key)) = (Value.int IntKind.i64 ((lastI x8.r).key))) ∧ ((Value.int IntKind.i64 ((lastI x7.r).value)) = (Value.int IntKind.i64 ((lastI x8.r).value))) ∧ ((Value.bool ((lastI x7.r).single)) = (Value.bool ((lastI x8.r).single))) ∧ True) ∧ (((Value.int IntKind.i64 0) = (Value.int IntKind.i64 0)) ∧
    ((Value.int IntKind.i64 0) = (Value.int IntKind.i64 0)) ∧ ((Value.int IntKind.i64 0) = (Value.int IntKind.i64 0)) ∧ ((Value.bool true) = (Value.bool (inL x8.l x8.r))) ∧ ((Value.bool false) = (Value.bool false)) ∧ ((Value.bool (decide (x7.l ≠ []))) = (Value.bool (decide (x8.l ≠ [])))) ∧ ((Value.bool (decide (x7.r ≠ []))) = (Value.bool (decide (x8.r ≠ [])))) ∧ True) ∧ True))) ((∃ x8 : XP P5, ((((x7.l) = (x8.l)) ∧ ((x7.r) = (x8.r))) ∧ (True ∧ ((At.fn 151 []) = (At.fn 151 [])) ∧ ((At.fn 153 [1]) = (At.fn 153 [1])) ∧ True ∧ True ∧ True ∧ ((Value.bool (decide (x7.l ≠ []))) = (Value.bool (decide (x8.l ≠ [])))) ∧ True ∧ ((Value.bool (decide (x7.r ≠ []))) = (Value.bool (decide (x8.r ≠ [])))) ∧ True ∧ True) ∧ (True ∧ True ∧ True ∧ ((Value.int IntKind.u64 ((rdS S x7.m).reads)) = (Value.int IntKind.u64 ((rdS S x8.m).reads))) ∧ True) ∧ (((At.fn 134 [5, 6, 7]) = (At.fn 134 [5, 6, 7])) ∧ True) ∧ (True ∧ True ∧ True ∧ ((Value.int IntKind.u32 ((rdS S x7.m).fresh)) = (Value.int IntKind.u32 ((rdS S x8.m).fresh))) ∧ True) ∧ (((rdS S x7.m).nodes) = ((rdS S x8.m).nodes)) ∧ (((rdS S x7.m).counts) = ((rdS S x8.m).counts)) ∧ (((Value.int IntKind.i64 (lo)) = (Value.int IntKind.i64 (lo))) ∧ True) ∧ (((Value.int IntKind.i64 (hi)) = (Value.int IntKind.i64 (hi))) ∧ True) ∧ (True ∧ True) ∧ (((rdS S x7.m).used) = ((rdS S x8.m).used)) ∧ (((rdS S x7.m).gen) = ((rdS S x8.m).gen)) ∧ (((rdS S x7.m).rel) = ((rdS S x8.m).rel)) ∧ ((x7.s) = (x8.s)) ∧ (True ∧ True) ∧ (True ∧ True) ∧ ((x7.l) = (x8.l)) ∧
    ((x7.r) = (x8.r)) ∧ (((Value.int IntKind.u32 ((lastI x7.l).index)) = (Value.int IntKind.u32 ((lastI x8.l).index))) ∧ ((Value.int IntKind.i64 ((lastI x7.l).size)) = (Value.int IntKind.i64 ((lastI x8.l).size))) ∧ ((Value.int IntKind.i64 ((lastI x7.l).key)) = (Value.int IntKind.i64 ((lastI x8.l).key))) ∧ ((Value.int IntKind.i64 ((lastI x7.l).value)) = (Value.int IntKind.i64 ((lastI x8.l).value))) ∧ ((Value.bool ((lastI x7.l).single)) = (Value.bool ((lastI x8.l).single))) ∧ True) ∧ (((Value.int IntKind.u32 ((lastI x7.r).index)) = (Value.int IntKind.u32 ((lastI x8.r).index))) ∧ ((Value.int IntKind.i64 ((lastI x7.r).size)) = (Value.int IntKind.i64 ((lastI x8.r).size))) ∧ ((Value.int IntKind.i64 ((lastI x7.r).key)) = (Value.int IntKind.i64 ((lastI x8.r).key))) ∧ ((Value.int IntKind.i64 ((lastI x7.r).value)) = (Value.int IntKind.i64 ((lastI x8.r).value))) ∧ ((Value.bool ((lastI x7.r).single)) = (Value.bool ((lastI x8.r).single))) ∧ True) ∧ (((Value.int IntKind.i64 0) = (Value.int IntKind.i64 0)) ∧ ((Value.int IntKind.i64 0) = (Value.int IntKind.i64 0)) ∧ ((Value.int IntKind.i64 0) = (Value.int IntKind.i64 0)) ∧ ((Value.bool (decide ((lastI x7.l).key ≤ (lastI x7.r).key))) = (Value.bool (inL x8.l x8.r))) ∧ ((Value.bool false) = (Value.bool false)) ∧ ((Value.bool (decide (x7.l ≠ []))) = (Value.bool (decide (x8.l ≠ [])))) ∧ ((Value.bool (decide (x7.r ≠ []))) = (Value.bool (decide (x8.r ≠ [])))) ∧ True) ∧ True))))) ((∃ x8 : XP P5, ((((x7.l) = (x8.l)) ∧ ((x7.r) = (x8.r))) ∧ (True ∧
    ((At.fn 151 []) = (At.fn 151 [])) ∧ ((At.fn 153 [1]) = (At.fn 153 [1])) ∧ True ∧ True ∧ True ∧ ((Value.bool (decide (x7.l ≠ []))) = (Value.bool (decide (x8.l ≠ [])))) ∧ True ∧ ((Value.bool (decide (x7.r ≠ []))) = (Value.bool (decide (x8.r ≠ [])))) ∧ True ∧ True) ∧ (True ∧ True ∧ True ∧ ((Value.int IntKind.u64 ((rdS S x7.m).reads)) = (Value.int IntKind.u64 ((rdS S x8.m).reads))) ∧ True) ∧ (((At.fn 134 [5, 6, 7]) = (At.fn 134 [5, 6, 7])) ∧ True) ∧ (True ∧ True ∧ True ∧ ((Value.int IntKind.u32 ((rdS S x7.m).fresh)) = (Value.int IntKind.u32 ((rdS S x8.m).fresh))) ∧ True) ∧ (((rdS S x7.m).nodes) = ((rdS S x8.m).nodes)) ∧ (((rdS S x7.m).counts) = ((rdS S x8.m).counts)) ∧ (((Value.int IntKind.i64 (lo)) = (Value.int IntKind.i64 (lo))) ∧ True) ∧ (((Value.int IntKind.i64 (hi)) = (Value.int IntKind.i64 (hi))) ∧ True) ∧ (True ∧ True) ∧ (((rdS S x7.m).used) = ((rdS S x8.m).used)) ∧ (((rdS S x7.m).gen) = ((rdS S x8.m).gen)) ∧ (((rdS S x7.m).rel) = ((rdS S x8.m).rel)) ∧ ((x7.s) = (x8.s)) ∧ (True ∧ True) ∧ (True ∧ True) ∧ ((x7.l) = (x8.l)) ∧ ((x7.r) = (x8.r)) ∧ (((Value.int IntKind.u32 ((lastI x7.l).index)) = (Value.int IntKind.u32 ((lastI x8.l).index))) ∧ ((Value.int IntKind.i64 ((lastI x7.l).size)) = (Value.int IntKind.i64 ((lastI x8.l).size))) ∧ ((Value.int IntKind.i64 ((lastI x7.l).key)) = (Value.int IntKind.i64 ((lastI x8.l).key))) ∧ ((Value.int IntKind.i64 ((lastI x7.l).value)) = (Value.int IntKind.i64 ((lastI x8.l).value))) ∧
    ((Value.bool ((lastI x7.l).single)) = (Value.bool ((lastI x8.l).single))) ∧ True) ∧ (((Value.int IntKind.u32 ((lastI x7.r).index)) = (Value.int IntKind.u32 ((lastI x8.r).index))) ∧ ((Value.int IntKind.i64 ((lastI x7.r).size)) = (Value.int IntKind.i64 ((lastI x8.r).size))) ∧ ((Value.int IntKind.i64 ((lastI x7.r).key)) = (Value.int IntKind.i64 ((lastI x8.r).key))) ∧ ((Value.int IntKind.i64 ((lastI x7.r).value)) = (Value.int IntKind.i64 ((lastI x8.r).value))) ∧ ((Value.bool ((lastI x7.r).single)) = (Value.bool ((lastI x8.r).single))) ∧ True) ∧ (((Value.int IntKind.i64 0) = (Value.int IntKind.i64 0)) ∧ ((Value.int IntKind.i64 0) = (Value.int IntKind.i64 0)) ∧ ((Value.int IntKind.i64 0) = (Value.int IntKind.i64 0)) ∧ ((Value.bool false) = (Value.bool (inL x8.l x8.r))) ∧ ((Value.bool false) = (Value.bool false)) ∧ ((Value.bool (decide (x7.l ≠ []))) = (Value.bool (decide (x8.l ≠ [])))) ∧ ((Value.bool (decide (x7.r ≠ []))) = (Value.bool (decide (x8.r ≠ [])))) ∧ True) ∧ True)))) ∧ (∀ x8 : XP P5, ((((x7.l) = (x8.l)) ∧ ((x7.r) = (x8.r))) → ((brS (decide (x8.r ≠ [])) ((brS (!decide (x8.l ≠ [])) ((∃ x9 : XP P5, ((((x8.l) = (x9.l)) ∧ ((x8.r) = (x9.r))) ∧ (True ∧ ((At.fn 151 []) = (At.fn 151 [])) ∧ ((At.fn 153 [1]) = (At.fn 153 [1])) ∧ True ∧ True ∧ True ∧ ((Value.bool (decide (x8.l ≠ []))) = (Value.bool (decide (x9.l ≠ [])))) ∧ True ∧ ((Value.bool (decide (x8.r ≠ []))) = (Value.bool (decide (x9.r ≠ [])))) ∧ True ∧ True) ∧ (True ∧ True ∧ True ∧
    ((Value.int IntKind.u64 ((rdS S x8.m).reads)) = (Value.int IntKind.u64 ((rdS S x9.m).reads))) ∧ True) ∧ (((At.fn 134 [5, 6, 7]) = (At.fn 134 [5, 6, 7])) ∧ True) ∧ (True ∧ True ∧ True ∧ ((Value.int IntKind.u32 ((rdS S x8.m).fresh)) = (Value.int IntKind.u32 ((rdS S x9.m).fresh))) ∧ True) ∧ (((rdS S x8.m).nodes) = ((rdS S x9.m).nodes)) ∧ (((rdS S x8.m).counts) = ((rdS S x9.m).counts)) ∧ (((Value.int IntKind.i64 (lo)) = (Value.int IntKind.i64 (lo))) ∧ True) ∧ (((Value.int IntKind.i64 (hi)) = (Value.int IntKind.i64 (hi))) ∧ True) ∧ (True ∧ True) ∧ (((rdS S x8.m).used) = ((rdS S x9.m).used)) ∧ (((rdS S x8.m).gen) = ((rdS S x9.m).gen)) ∧ (((rdS S x8.m).rel) = ((rdS S x9.m).rel)) ∧ ((x8.s) = (x9.s)) ∧ (True ∧ True) ∧ (True ∧ True) ∧ ((x8.l) = (x9.l)) ∧ ((x8.r) = (x9.r)) ∧ (((Value.int IntKind.u32 ((lastI x8.l).index)) = (Value.int IntKind.u32 ((lastI x9.l).index))) ∧ ((Value.int IntKind.i64 ((lastI x8.l).size)) = (Value.int IntKind.i64 ((lastI x9.l).size))) ∧ ((Value.int IntKind.i64 ((lastI x8.l).key)) = (Value.int IntKind.i64 ((lastI x9.l).key))) ∧ ((Value.int IntKind.i64 ((lastI x8.l).value)) = (Value.int IntKind.i64 ((lastI x9.l).value))) ∧ ((Value.bool ((lastI x8.l).single)) = (Value.bool ((lastI x9.l).single))) ∧ True) ∧ (((Value.int IntKind.u32 ((lastI x8.r).index)) = (Value.int IntKind.u32 ((lastI x9.r).index))) ∧ ((Value.int IntKind.i64 ((lastI x8.r).size)) = (Value.int IntKind.i64 ((lastI x9.r).size))) ∧
    ((Value.int IntKind.i64 ((lastI x8.r).key)) = (Value.int IntKind.i64 ((lastI x9.r).key))) ∧ ((Value.int IntKind.i64 ((lastI x8.r).value)) = (Value.int IntKind.i64 ((lastI x9.r).value))) ∧ ((Value.bool ((lastI x8.r).single)) = (Value.bool ((lastI x9.r).single))) ∧ True) ∧ (((Value.int IntKind.i64 0) = (Value.int IntKind.i64 0)) ∧ ((Value.int IntKind.i64 0) = (Value.int IntKind.i64 0)) ∧ ((Value.int IntKind.i64 0) = (Value.int IntKind.i64 0)) ∧ ((Value.bool (inL x8.l x8.r)) = (Value.bool (inL x9.l x9.r))) ∧ ((Value.bool true) = (Value.bool (inL x9.r x9.l))) ∧ ((Value.bool (decide (x8.l ≠ []))) = (Value.bool (decide (x9.l ≠ [])))) ∧ ((Value.bool (decide (x8.r ≠ []))) = (Value.bool (decide (x9.r ≠ [])))) ∧ True) ∧ True))) ((∃ x9 : XP P5, ((((x8.l) = (x9.l)) ∧ ((x8.r) = (x9.r))) ∧ (True ∧ ((At.fn 151 []) = (At.fn 151 [])) ∧ ((At.fn 153 [1]) = (At.fn 153 [1])) ∧ True ∧ True ∧ True ∧ ((Value.bool (decide (x8.l ≠ []))) = (Value.bool (decide (x9.l ≠ [])))) ∧ True ∧ ((Value.bool (decide (x8.r ≠ []))) = (Value.bool (decide (x9.r ≠ [])))) ∧ True ∧ True) ∧ (True ∧ True ∧ True ∧ ((Value.int IntKind.u64 ((rdS S x8.m).reads)) = (Value.int IntKind.u64 ((rdS S x9.m).reads))) ∧ True) ∧ (((At.fn 134 [5, 6, 7]) = (At.fn 134 [5, 6, 7])) ∧ True) ∧ (True ∧ True ∧ True ∧ ((Value.int IntKind.u32 ((rdS S x8.m).fresh)) = (Value.int IntKind.u32 ((rdS S x9.m).fresh))) ∧ True) ∧ (((rdS S x8.m).nodes) = ((rdS S x9.m).nodes)) ∧ (((rdS S x8.m).counts) = ((rdS S x9.m).counts)) ∧
    (((Value.int IntKind.i64 (lo)) = (Value.int IntKind.i64 (lo))) ∧ True) ∧ (((Value.int IntKind.i64 (hi)) = (Value.int IntKind.i64 (hi))) ∧ True) ∧ (True ∧ True) ∧ (((rdS S x8.m).used) = ((rdS S x9.m).used)) ∧ (((rdS S x8.m).gen) = ((rdS S x9.m).gen)) ∧ (((rdS S x8.m).rel) = ((rdS S x9.m).rel)) ∧ ((x8.s) = (x9.s)) ∧ (True ∧ True) ∧ (True ∧ True) ∧ ((x8.l) = (x9.l)) ∧ ((x8.r) = (x9.r)) ∧ (((Value.int IntKind.u32 ((lastI x8.l).index)) = (Value.int IntKind.u32 ((lastI x9.l).index))) ∧ ((Value.int IntKind.i64 ((lastI x8.l).size)) = (Value.int IntKind.i64 ((lastI x9.l).size))) ∧ ((Value.int IntKind.i64 ((lastI x8.l).key)) = (Value.int IntKind.i64 ((lastI x9.l).key))) ∧ ((Value.int IntKind.i64 ((lastI x8.l).value)) = (Value.int IntKind.i64 ((lastI x9.l).value))) ∧ ((Value.bool ((lastI x8.l).single)) = (Value.bool ((lastI x9.l).single))) ∧ True) ∧ (((Value.int IntKind.u32 ((lastI x8.r).index)) = (Value.int IntKind.u32 ((lastI x9.r).index))) ∧ ((Value.int IntKind.i64 ((lastI x8.r).size)) = (Value.int IntKind.i64 ((lastI x9.r).size))) ∧ ((Value.int IntKind.i64 ((lastI x8.r).key)) = (Value.int IntKind.i64 ((lastI x9.r).key))) ∧ ((Value.int IntKind.i64 ((lastI x8.r).value)) = (Value.int IntKind.i64 ((lastI x9.r).value))) ∧ ((Value.bool ((lastI x8.r).single)) = (Value.bool ((lastI x9.r).single))) ∧ True) ∧ (((Value.int IntKind.i64 0) = (Value.int IntKind.i64 0)) ∧ ((Value.int IntKind.i64 0) = (Value.int IntKind.i64 0)) ∧ ((Value.int IntKind.i64 0) = (Value.int IntKind.i64 0)) ∧
    ((Value.bool (inL x8.l x8.r)) = (Value.bool (inL x9.l x9.r))) ∧ ((Value.bool (decide ((lastI x8.r).key ≤ (lastI x8.l).key))) = (Value.bool (inL x9.r x9.l))) ∧ ((Value.bool (decide (x8.l ≠ []))) = (Value.bool (decide (x9.l ≠ [])))) ∧ ((Value.bool (decide (x8.r ≠ []))) = (Value.bool (decide (x9.r ≠ [])))) ∧ True) ∧ True))))) ((∃ x9 : XP P5, ((((x8.l) = (x9.l)) ∧ ((x8.r) = (x9.r))) ∧ (True ∧ ((At.fn 151 []) = (At.fn 151 [])) ∧ ((At.fn 153 [1]) = (At.fn 153 [1])) ∧ True ∧ True ∧ True ∧ ((Value.bool (decide (x8.l ≠ []))) = (Value.bool (decide (x9.l ≠ [])))) ∧ True ∧ ((Value.bool (decide (x8.r ≠ []))) = (Value.bool (decide (x9.r ≠ [])))) ∧ True ∧ True) ∧ (True ∧ True ∧ True ∧ ((Value.int IntKind.u64 ((rdS S x8.m).reads)) = (Value.int IntKind.u64 ((rdS S x9.m).reads))) ∧ True) ∧ (((At.fn 134 [5, 6, 7]) = (At.fn 134 [5, 6, 7])) ∧ True) ∧ (True ∧ True ∧ True ∧ ((Value.int IntKind.u32 ((rdS S x8.m).fresh)) = (Value.int IntKind.u32 ((rdS S x9.m).fresh))) ∧ True) ∧ (((rdS S x8.m).nodes) = ((rdS S x9.m).nodes)) ∧ (((rdS S x8.m).counts) = ((rdS S x9.m).counts)) ∧ (((Value.int IntKind.i64 (lo)) = (Value.int IntKind.i64 (lo))) ∧ True) ∧ (((Value.int IntKind.i64 (hi)) = (Value.int IntKind.i64 (hi))) ∧ True) ∧ (True ∧ True) ∧ (((rdS S x8.m).used) = ((rdS S x9.m).used)) ∧ (((rdS S x8.m).gen) = ((rdS S x9.m).gen)) ∧ (((rdS S x8.m).rel) = ((rdS S x9.m).rel)) ∧ ((x8.s) = (x9.s)) ∧ (True ∧ True) ∧ (True ∧ True) ∧ ((x8.l) = (x9.l)) ∧ ((x8.r) = (x9.r)) ∧
    (((Value.int IntKind.u32 ((lastI x8.l).index)) = (Value.int IntKind.u32 ((lastI x9.l).index))) ∧ ((Value.int IntKind.i64 ((lastI x8.l).size)) = (Value.int IntKind.i64 ((lastI x9.l).size))) ∧ ((Value.int IntKind.i64 ((lastI x8.l).key)) = (Value.int IntKind.i64 ((lastI x9.l).key))) ∧ ((Value.int IntKind.i64 ((lastI x8.l).value)) = (Value.int IntKind.i64 ((lastI x9.l).value))) ∧ ((Value.bool ((lastI x8.l).single)) = (Value.bool ((lastI x9.l).single))) ∧ True) ∧ (((Value.int IntKind.u32 ((lastI x8.r).index)) = (Value.int IntKind.u32 ((lastI x9.r).index))) ∧ ((Value.int IntKind.i64 ((lastI x8.r).size)) = (Value.int IntKind.i64 ((lastI x9.r).size))) ∧ ((Value.int IntKind.i64 ((lastI x8.r).key)) = (Value.int IntKind.i64 ((lastI x9.r).key))) ∧ ((Value.int IntKind.i64 ((lastI x8.r).value)) = (Value.int IntKind.i64 ((lastI x9.r).value))) ∧ ((Value.bool ((lastI x8.r).single)) = (Value.bool ((lastI x9.r).single))) ∧ True) ∧ (((Value.int IntKind.i64 0) = (Value.int IntKind.i64 0)) ∧ ((Value.int IntKind.i64 0) = (Value.int IntKind.i64 0)) ∧ ((Value.int IntKind.i64 0) = (Value.int IntKind.i64 0)) ∧ ((Value.bool (inL x8.l x8.r)) = (Value.bool (inL x9.l x9.r))) ∧ ((Value.bool false) = (Value.bool (inL x9.r x9.l))) ∧ ((Value.bool (decide (x8.l ≠ []))) = (Value.bool (decide (x9.l ≠ [])))) ∧ ((Value.bool (decide (x8.r ≠ []))) = (Value.bool (decide (x9.r ≠ [])))) ∧ True) ∧ True)))) ∧ (∀ x9 : XP P5, ((((x8.l) = (x9.l)) ∧ ((x8.r) = (x9.r))) → ((brS (inL x9.l x9.r) (((0 < x9.l.length) ∧
    (x9.l.length ≤ 1000000) ∧ (∀ l'2 : List ItemT, (((l'2) = (x9.l.dropLast)) → (∃ x10 : XP P5, ((((x9.l) = (x10.l)) ∧ ((x9.r) = (x10.r))) ∧ (True ∧ ((At.fn 151 []) = (At.fn 151 [])) ∧ ((At.fn 153 [1]) = (At.fn 153 [1])) ∧ True ∧ True ∧ True ∧ ((Value.bool (decide (x9.l ≠ []))) = (Value.bool (decide (x10.l ≠ [])))) ∧ True ∧ ((Value.bool (decide (x9.r ≠ []))) = (Value.bool (decide (x10.r ≠ [])))) ∧ True ∧ True) ∧ (True ∧ True ∧ True ∧ ((Value.int IntKind.u64 ((rdS S x9.m).reads)) = (Value.int IntKind.u64 ((rdS S x10.m).reads))) ∧ True) ∧ (((At.fn 134 [5, 6, 7]) = (At.fn 134 [5, 6, 7])) ∧ True) ∧ (True ∧ True ∧ True ∧ ((Value.int IntKind.u32 ((rdS S x9.m).fresh)) = (Value.int IntKind.u32 ((rdS S x10.m).fresh))) ∧ True) ∧ (((rdS S x9.m).nodes) = ((rdS S x10.m).nodes)) ∧ (((rdS S x9.m).counts) = ((rdS S x10.m).counts)) ∧ (((Value.int IntKind.i64 (lo)) = (Value.int IntKind.i64 (lo))) ∧ True) ∧ (((Value.int IntKind.i64 (hi)) = (Value.int IntKind.i64 (hi))) ∧ True) ∧ (True ∧ True) ∧ (((rdS S x9.m).used) = ((rdS S x10.m).used)) ∧ (((rdS S x9.m).gen) = ((rdS S x10.m).gen)) ∧ (((rdS S x9.m).rel) = ((rdS S x10.m).rel)) ∧ ((x9.s) = (x10.s)) ∧ (True ∧ True) ∧ (True ∧ True) ∧ ((l'2) = (popI (inL x10.l x10.r) x10.l)) ∧ ((x9.r) = (x10.r)) ∧ (((Value.int IntKind.u32 ((lastI x9.l).index)) = (Value.int IntKind.u32 ((lastI x10.l).index))) ∧ ((Value.int IntKind.i64 ((lastI x9.l).size)) = (Value.int IntKind.i64 ((lastI x10.l).size))) ∧
    ((Value.int IntKind.i64 ((lastI x9.l).key)) = (Value.int IntKind.i64 ((lastI x10.l).key))) ∧ ((Value.int IntKind.i64 ((lastI x9.l).value)) = (Value.int IntKind.i64 ((lastI x10.l).value))) ∧ ((Value.bool ((lastI x9.l).single)) = (Value.bool ((lastI x10.l).single))) ∧ True) ∧ (((Value.int IntKind.u32 ((lastI x9.r).index)) = (Value.int IntKind.u32 ((lastI x10.r).index))) ∧ ((Value.int IntKind.i64 ((lastI x9.r).size)) = (Value.int IntKind.i64 ((lastI x10.r).size))) ∧ ((Value.int IntKind.i64 ((lastI x9.r).key)) = (Value.int IntKind.i64 ((lastI x10.r).key))) ∧ ((Value.int IntKind.i64 ((lastI x9.r).value)) = (Value.int IntKind.i64 ((lastI x10.r).value))) ∧ ((Value.bool ((lastI x9.r).single)) = (Value.bool ((lastI x10.r).single))) ∧ True) ∧ (((Value.int IntKind.i64 ((lastI x9.l).key)) = (Value.int IntKind.i64 (ifI (inL x10.l x10.r) (lastI x10.l).key))) ∧ ((Value.int IntKind.i64 ((lastI x9.l).value)) = (Value.int IntKind.i64 (ifI (inL x10.l x10.r) (lastI x10.l).value))) ∧ ((Value.int IntKind.i64 0) = (Value.int IntKind.i64 0)) ∧ ((Value.bool (inL x9.l x9.r)) = (Value.bool (inL x10.l x10.r))) ∧ ((Value.bool (inL x9.r x9.l)) = (Value.bool (inL x10.r x10.l))) ∧ ((Value.bool (decide (x9.l ≠ []))) = (Value.bool (decide (x10.l ≠ [])))) ∧ ((Value.bool (decide (x9.r ≠ []))) = (Value.bool (decide (x10.r ≠ [])))) ∧ True) ∧ True)))))) ((∃ x10 : XP P5, ((((x9.l) = (x10.l)) ∧ ((x9.r) = (x10.r))) ∧ (True ∧ ((At.fn 151 []) = (At.fn 151 [])) ∧ ((At.fn 153 [1]) = (At.fn 153 [1])) ∧ True ∧ True ∧ True ∧
    ((Value.bool (decide (x9.l ≠ []))) = (Value.bool (decide (x10.l ≠ [])))) ∧ True ∧ ((Value.bool (decide (x9.r ≠ []))) = (Value.bool (decide (x10.r ≠ [])))) ∧ True ∧ True) ∧ (True ∧ True ∧ True ∧ ((Value.int IntKind.u64 ((rdS S x9.m).reads)) = (Value.int IntKind.u64 ((rdS S x10.m).reads))) ∧ True) ∧ (((At.fn 134 [5, 6, 7]) = (At.fn 134 [5, 6, 7])) ∧ True) ∧ (True ∧ True ∧ True ∧ ((Value.int IntKind.u32 ((rdS S x9.m).fresh)) = (Value.int IntKind.u32 ((rdS S x10.m).fresh))) ∧ True) ∧ (((rdS S x9.m).nodes) = ((rdS S x10.m).nodes)) ∧ (((rdS S x9.m).counts) = ((rdS S x10.m).counts)) ∧ (((Value.int IntKind.i64 (lo)) = (Value.int IntKind.i64 (lo))) ∧ True) ∧ (((Value.int IntKind.i64 (hi)) = (Value.int IntKind.i64 (hi))) ∧ True) ∧ (True ∧ True) ∧ (((rdS S x9.m).used) = ((rdS S x10.m).used)) ∧ (((rdS S x9.m).gen) = ((rdS S x10.m).gen)) ∧ (((rdS S x9.m).rel) = ((rdS S x10.m).rel)) ∧ ((x9.s) = (x10.s)) ∧ (True ∧ True) ∧ (True ∧ True) ∧ ((x9.l) = (popI (inL x10.l x10.r) x10.l)) ∧ ((x9.r) = (x10.r)) ∧ (((Value.int IntKind.u32 ((lastI x9.l).index)) = (Value.int IntKind.u32 ((lastI x10.l).index))) ∧ ((Value.int IntKind.i64 ((lastI x9.l).size)) = (Value.int IntKind.i64 ((lastI x10.l).size))) ∧ ((Value.int IntKind.i64 ((lastI x9.l).key)) = (Value.int IntKind.i64 ((lastI x10.l).key))) ∧ ((Value.int IntKind.i64 ((lastI x9.l).value)) = (Value.int IntKind.i64 ((lastI x10.l).value))) ∧ ((Value.bool ((lastI x9.l).single)) = (Value.bool ((lastI x10.l).single))) ∧ True) ∧
    (((Value.int IntKind.u32 ((lastI x9.r).index)) = (Value.int IntKind.u32 ((lastI x10.r).index))) ∧ ((Value.int IntKind.i64 ((lastI x9.r).size)) = (Value.int IntKind.i64 ((lastI x10.r).size))) ∧ ((Value.int IntKind.i64 ((lastI x9.r).key)) = (Value.int IntKind.i64 ((lastI x10.r).key))) ∧ ((Value.int IntKind.i64 ((lastI x9.r).value)) = (Value.int IntKind.i64 ((lastI x10.r).value))) ∧ ((Value.bool ((lastI x9.r).single)) = (Value.bool ((lastI x10.r).single))) ∧ True) ∧ (((Value.int IntKind.i64 0) = (Value.int IntKind.i64 (ifI (inL x10.l x10.r) (lastI x10.l).key))) ∧ ((Value.int IntKind.i64 0) = (Value.int IntKind.i64 (ifI (inL x10.l x10.r) (lastI x10.l).value))) ∧ ((Value.int IntKind.i64 0) = (Value.int IntKind.i64 0)) ∧ ((Value.bool (inL x9.l x9.r)) = (Value.bool (inL x10.l x10.r))) ∧ ((Value.bool (inL x9.r x9.l)) = (Value.bool (inL x10.r x10.l))) ∧ ((Value.bool (decide (x9.l ≠ []))) = (Value.bool (decide (x10.l ≠ [])))) ∧ ((Value.bool (decide (x9.r ≠ []))) = (Value.bool (decide (x10.r ≠ [])))) ∧ True) ∧ True)))) ∧ (∀ x10 : XP P5, ((((x9.l) = (x10.l)) ∧ ((x9.r) = (x10.r))) → (brS (inL x10.r x10.l) (((0 < x10.r.length) ∧ (x10.r.length ≤ 1000000) ∧ (∀ l'2 : List ItemT, (((l'2) = (x10.r.dropLast)) → ((x10.s.length ≤ 1000000) ∧ (∀ s' : List Chg, (∀ q : Bool, (((Prod.mk (s') (q)) = (stepV (fR lo hi) (pairC (lastI x10.r).key (ifI (inL x10.l x10.r) (lastI x10.l).value) (lastI x10.r).value (inL x10.l x10.r) (inL x10.r x10.l)) x10.s)) → (brS (!q)
    ((K (SV.tup []) [(Chunk.box [(At.ptr 2 0), (At.slc 3), (At.slc 4), (At.val (Value.int IntKind.u64 ((rdS S x10.m).reads)))]), (Chunk.box [(At.fn 134 [5, 6, 7])]), (Chunk.box [(At.slc 8), (At.slc 9), (At.slc 10), (At.val (Value.int IntKind.u32 ((rdS S x10.m).fresh)))]), (Chunk.row true (EC.node) ((rdS S x10.m).nodes)), (Chunk.row true (EC.int) ((rdS S x10.m).counts)), (Chunk.box [(At.val (Value.int IntKind.i64 (lo)))]), (Chunk.box [(At.val (Value.int IntKind.i64 (hi)))]), (Chunk.box [(At.slc 11)]), (Chunk.row true (EC.bool) ((rdS S x10.m).used)), (Chunk.row true (EC.u32) ((rdS S x10.m).gen)), (Chunk.row true (EC.u32) ((rdS S x10.m).rel)), (Chunk.row true (EC.chg) (s'))] [0, 7, 11])) ((∃ x' : XP P0, (True ∧ ((True ∧ ((At.fn 151 []) = (At.fn 151 [])) ∧ ((At.fn 153 [1]) = (At.fn 153 [1])) ∧ True ∧ True ∧ True) ∧ (True ∧ True ∧ True ∧ ((Value.int IntKind.u64 ((rdS S x10.m).reads)) = (Value.int IntKind.u64 ((rdS S x'.m).reads))) ∧ True) ∧ (((At.fn 134 [5, 6, 7]) = (At.fn 134 [5, 6, 7])) ∧ True) ∧ (True ∧ True ∧ True ∧ ((Value.int IntKind.u32 ((rdS S x10.m).fresh)) = (Value.int IntKind.u32 ((rdS S x'.m).fresh))) ∧ True) ∧ (((rdS S x10.m).nodes) = ((rdS S x'.m).nodes)) ∧ (((rdS S x10.m).counts) = ((rdS S x'.m).counts)) ∧ (((Value.int IntKind.i64 (lo)) = (Value.int IntKind.i64 (lo))) ∧ True) ∧ (((Value.int IntKind.i64 (hi)) = (Value.int IntKind.i64 (hi))) ∧ True) ∧ (True ∧ True) ∧ (((rdS S x10.m).used) = ((rdS S x'.m).used)) ∧ (((rdS S x10.m).gen) = ((rdS S x'.m).gen)) ∧
    (((rdS S x10.m).rel) = ((rdS S x'.m).rel)) ∧ ((s') = (x'.s)) ∧ (True ∧ True) ∧ (True ∧ True) ∧ ((popI (inL x10.l x10.r) x10.l) = (x'.l)) ∧ ((l'2) = (x'.r)) ∧ True) ∧ (wL x'.l + wL x'.r < wL x1.l + wL x1.r))))))))))))) (((x10.s.length ≤ 1000000) ∧ (∀ s' : List Chg, (∀ q : Bool, (((Prod.mk (s') (q)) = (stepV (fR lo hi) (pairC (ifI (inL x10.l x10.r) (lastI x10.l).key) (ifI (inL x10.l x10.r) (lastI x10.l).value) 0 (inL x10.l x10.r) (inL x10.r x10.l)) x10.s)) → (brS (!q) ((K (SV.tup []) [(Chunk.box [(At.ptr 2 0), (At.slc 3), (At.slc 4), (At.val (Value.int IntKind.u64 ((rdS S x10.m).reads)))]), (Chunk.box [(At.fn 134 [5, 6, 7])]), (Chunk.box [(At.slc 8), (At.slc 9), (At.slc 10), (At.val (Value.int IntKind.u32 ((rdS S x10.m).fresh)))]), (Chunk.row true (EC.node) ((rdS S x10.m).nodes)), (Chunk.row true (EC.int) ((rdS S x10.m).counts)), (Chunk.box [(At.val (Value.int IntKind.i64 (lo)))]), (Chunk.box [(At.val (Value.int IntKind.i64 (hi)))]), (Chunk.box [(At.slc 11)]), (Chunk.row true (EC.bool) ((rdS S x10.m).used)), (Chunk.row true (EC.u32) ((rdS S x10.m).gen)), (Chunk.row true (EC.u32) ((rdS S x10.m).rel)), (Chunk.row true (EC.chg) (s'))] [0, 7, 11])) ((∃ x' : XP P0, (True ∧ ((True ∧ ((At.fn 151 []) = (At.fn 151 [])) ∧ ((At.fn 153 [1]) = (At.fn 153 [1])) ∧ True ∧ True ∧ True) ∧ (True ∧ True ∧ True ∧ ((Value.int IntKind.u64 ((rdS S x10.m).reads)) = (Value.int IntKind.u64 ((rdS S x'.m).reads))) ∧ True) ∧ (((At.fn 134 [5, 6, 7]) = (At.fn 134 [5, 6, 7])) ∧ True) ∧ (True ∧ True ∧ True ∧
    ((Value.int IntKind.u32 ((rdS S x10.m).fresh)) = (Value.int IntKind.u32 ((rdS S x'.m).fresh))) ∧ True) ∧ (((rdS S x10.m).nodes) = ((rdS S x'.m).nodes)) ∧ (((rdS S x10.m).counts) = ((rdS S x'.m).counts)) ∧ (((Value.int IntKind.i64 (lo)) = (Value.int IntKind.i64 (lo))) ∧ True) ∧ (((Value.int IntKind.i64 (hi)) = (Value.int IntKind.i64 (hi))) ∧ True) ∧ (True ∧ True) ∧ (((rdS S x10.m).used) = ((rdS S x'.m).used)) ∧ (((rdS S x10.m).gen) = ((rdS S x'.m).gen)) ∧ (((rdS S x10.m).rel) = ((rdS S x'.m).rel)) ∧ ((s') = (x'.s)) ∧ (True ∧ True) ∧ (True ∧ True) ∧ ((popI (inL x10.l x10.r) x10.l) = (x'.l)) ∧ ((x10.r) = (x'.r)) ∧ True) ∧ (wL x'.l + wL x'.r < wL x1.l + wL x1.r))))))))))))))))))))))))))))))))))))))))))))))))))))))))))))))))))) = _ by kernel_rfl) ?_
  subst h0 h1' h2' h3' h4' h5'
  have lx := hx.us
  have ly := hy.us
  have rd : ∀ n : Nat, n ≤ 2 + 3 * W → Wf (rdS S n) hs := fun n hn => hw.rd (by omega)
  have fini : ∀ s' m, PIn S (fR lo hi) fin List.length W 800000 [] [] s' m → m ≤ 2 + 3 * W → K (.tup []) (chR lo hi s' (rdS S m)) [0, 7, 11] := fun s' m hp hm => h s' _ m hp.done rfl (by omega)
  refine ⟨inU_of hw lx, ⟨hs, hw⟩, lx, by omega, by simp, fun l0 S0 m0 a1 a2 a3 => ?_⟩
  subst a2
  refine ⟨inU_of hw ly, ⟨hs, rd m0 (by omega)⟩, ly, by show S.reads + (m0 : Int) < _; omega, by simp, fun r0 S1 m1 b1 b2 b3 => ?_⟩
  have b2 : S1 = rdS S (m0 + m1) := by rw [b2, rdS_rdS]
  subst b2
  have b1 : r0 = pushL S [] y := b1
  subst a1 b1
  refine ⟨⟨⟨_, _, s, m0 + m1, false, init _ (by omega)⟩, ?_⟩, fun x1 _ => ?_⟩
  · (repeat' first | exact trivial | exact rfl | refine And.intro ?_ ?_)
  obtain ⟨l, r, s, m, _, hP⟩ := x1
  have hP : PIn S (fR lo hi) fin List.length W 800000 l r s m := hP
  obtain ⟨n1, n2, n3, n4⟩ := hP.len hw
  dsimp only
  refine ⟨by omega, fun t b et eb => ⟨by omega, fun u b1 eu eb1 => ?_⟩⟩
  subst et eb eu eb1
  refine ⟨brS_of (fun d => ?_) fun d => ?_, fun x4 q => ?_⟩
  · have d : l = [] := by simpa using d
    refine ⟨⟨l, r, s, m, !decide (r ≠ []), hP, by by_cases cr : r = [] <;> simp [d, cr]⟩, ?_⟩
    (repeat' first | exact trivial | exact rfl | refine And.intro ?_ ?_)
  · have d : l ≠ [] := by simpa using d
    refine ⟨⟨l, r, s, m, false, hP, by simp [d]⟩, ?_⟩
    (repeat' first | exact trivial | exact rfl | refine And.intro ?_ ?_)
  obtain ⟨l1, r1, s, m, c, hP⟩ := x4
  obtain ⟨q1, q2⟩ := q
  replace q1 : l = l1 := q1
  replace q2 : r = r1 := q2
  subst q1 q2
  obtain ⟨hP, hc⟩ := hP
  obtain ⟨n1, n2, n3, n4⟩ := hP.len hw
  dsimp only
  refine brS_of (fun d => ?_) fun d => ?_
  · obtain ⟨e1, e2⟩ := hc.1 d
    rw [e1, e2] at hP
    exact fini s m hP n4
  have ne : ¬ (l = [] ∧ r = []) := fun e => by rw [hc.2 e] at d; cases d
  refine ⟨?_, fun x5 q => ?_⟩
  · refine brS_of (fun d1 => brS_of (fun d2 => brS_of (fun d3 => brS_of (fun d4 => ?_) fun d4 => ?_) fun d3 => ?_) fun d2 => ?_) fun d1 => ?_
    all_goals
      refine ⟨⟨l, r, s, m, ?_, hP, ne, ?_⟩, ?_⟩
      rotate_left 2
      · (repeat' first | exact trivial | exact rfl | refine And.intro ?_ ?_)
      · intro e
        first | (cases e; done) | exact ⟨of_decide_eq_true d1, of_decide_eq_true d2, by simpa using d3, by simpa using d4, by simpa using e⟩
  obtain ⟨l1, r1, s, m, c, hP⟩ := x5
  obtain ⟨q1, q2⟩ := q
  replace q1 : l = l1 := q1
  replace q2 : r = r1 := q2
  subst q1 q2
  obtain ⟨hP, _, hc⟩ := hP
  obtain ⟨n1, n2, n3, n4⟩ := hP.len hw
  dsimp only
  refine brS_of (fun d => ?_) fun d => ?_
  · obtain ⟨e1, e2, e3, e4, e5⟩ := hc d
    obtain ⟨e6, e7⟩ := hP.common hw e1 e2 e3 e4 e5
    refine ⟨List.length_pos_iff.2 e1, by omega, fun l' f1 => ⟨List.length_pos_iff.2 e2, by omega, fun r' f2 => ?_⟩⟩
    subst f1 f2
    refine ⟨⟨_, _, s, m, false, e6⟩, ?_⟩
    (repeat' first | exact trivial | exact rfl | exact e7 | refine And.intro ?_ ?_)
  refine ⟨?_, fun x6 q => ?_⟩
  · refine brS_of (fun d1 => brS_of (fun d2 => brS_of (fun d3 => ?_) fun d3 => brS_of (fun d4 => ?_) fun d4 => ?_) fun d2 => ?_) fun d1 => ?_
    all_goals
      refine ⟨⟨l, r, s, m, ?_, hP, ne, ?_⟩, ?_⟩
      rotate_left 2
      · (repeat' first | exact trivial | exact rfl | refine And.intro ?_ ?_)
      · refine ⟨fun e => ?_, fun e e1 e2 => ?_⟩
        · first | (cases e; done) | exact ⟨of_decide_eq_true d1, by simpa using d2⟩
        · first | (cases e; done) | exact ⟨by simpa using d3, d4⟩ | (exact absurd e1 (of_decide_eq_false d1)) | (rw [e2] at d2; cases d2)
  obtain ⟨l1, r1, s, m, c, hP⟩ := x6
  obtain ⟨q1, q2⟩ := q
  replace q1 : l = l1 := q1
  replace q2 : r = r1 := q2
  subst q1 q2
  obtain ⟨hP, _, hc, hc2⟩ := hP
  obtain ⟨n1, n2, n3, n4⟩ := hP.len hw
  dsimp only
  refine brS_of (fun d => ?_) fun d => ?_
  · obtain ⟨e1, e2⟩ := hc d
    obtain ⟨e6, e7⟩ := hP.left hw e1 e2
    refine ⟨List.length_pos_iff.2 e1, ⟨hs, rd m n4⟩, e6, by show S.reads + (m : Int) ≤ _; omega, by omega, fun l' S' k f1 f2 f3 => ?_⟩
    have f2 : S' = rdS S (m + k) := by rw [f2, rdS_rdS]
    have f1 : l' = expL S l := f1
    subst f1 f2
    refine ⟨⟨_, _, s, m + k, false, (e7 k f3).1⟩, ?_⟩
    (repeat' first | exact trivial | exact rfl | exact (e7 k f3).2 | refine And.intro ?_ ?_)
  have hc2 := hc2 d
  refine ⟨?_, fun x7 q => ?_⟩
  · refine brS_of (fun d1 => ?_) fun d1 => ?_
    · refine ⟨⟨l, r, s, m, !(lastI r).single, hP, ne, fun e => ⟨of_decide_eq_true d1, by simpa using e⟩, fun e => ?_⟩, ?_⟩
      rotate_left
      · (repeat' first | exact trivial | exact rfl | refine And.intro ?_ ?_)
      · have e : (lastI r).single = true := by simpa using e
        refine ⟨fun h3 => ?_, fun _ => e⟩
        cases h4 : (lastI l).single with
        | true => rfl
        | false => have := (hc2 h3 h4).2; rw [e] at this; cases this
    · have d1 : r = [] := by simpa using d1
      refine ⟨⟨l, r, s, m, false, hP, ne, (fun e => by cases e), fun _ => ⟨fun h3 => ?_, fun h3 => absurd d1 h3⟩⟩, ?_⟩
      rotate_left
      · (repeat' first | exact trivial | exact rfl | refine And.intro ?_ ?_)
      · cases h4 : (lastI l).single with
        | true => rfl
        | false => exact absurd d1 (hc2 h3 h4).1
  obtain ⟨l1, r1, s, m, c, hP⟩ := x7
  obtain ⟨q1, q2⟩ := q
  replace q1 : l = l1 := q1
  replace q2 : r = r1 := q2
  subst q1 q2
  obtain ⟨hP, _, hc, hc2⟩ := hP
  obtain ⟨n1, n2, n3, n4⟩ := hP.len hw
  dsimp only
  refine brS_of (fun d => ?_) fun d => ?_
  · obtain ⟨e1, e2⟩ := hc d
    obtain ⟨e6, e7⟩ := hP.right hw e1 e2
    refine ⟨List.length_pos_iff.2 e1, ⟨hs, rd m n4⟩, e6, by show S.reads + (m : Int) ≤ _; omega, by omega, fun l' S' k f1 f2 f3 => ?_⟩
    have f2 : S' = rdS S (m + k) := by rw [f2, rdS_rdS]
    have f1 : l' = expL S r := f1
    subst f1 f2
    refine ⟨⟨_, _, s, m + k, false, (e7 k f3).1⟩, ?_⟩
    (repeat' first | exact trivial | exact rfl | exact (e7 k f3).2 | refine And.intro ?_ ?_)
  obtain ⟨g1, g2⟩ := hc2 d
  refine ⟨?_, fun x8 q => ?_⟩
  · refine brS_of (fun d1 => brS_of (fun d2 => ?_) fun d2 => ?_) fun d1 => ?_
    all_goals
      refine ⟨⟨l, r, s, m, false, hP, ne, g1, g2⟩, ?_⟩
      (repeat' first | exact trivial | exact rfl | refine And.intro ?_ ?_)
    · refine congrArg Value.bool ?_
      have d1 : l ≠ [] := of_decide_eq_true d1
      have d2 : r = [] := by simpa using d2
      simp [inL, d1, d2]
    · refine congrArg Value.bool ?_
      have d1 : l ≠ [] := of_decide_eq_true d1
      have d2 : r ≠ [] := by simpa using d2
      simp [inL, d1, d2]
    · refine congrArg Value.bool ?_
      have d1 : l = [] := by simpa using d1
      simp [inL, d1]
  obtain ⟨l1, r1, s, m, c, hP⟩ := x8
  obtain ⟨q1, q2⟩ := q
  replace q1 : l = l1 := q1
  replace q2 : r = r1 := q2
  subst q1 q2
  obtain ⟨hP, _, _, _⟩ := hP
  dsimp only
  refine ⟨?_, fun x9 q => ?_⟩
  · refine brS_of (fun d1 => brS_of (fun d2 => ?_) fun d2 => ?_) fun d1 => ?_
    all_goals
      refine ⟨⟨l, r, s, m, false, hP, ne, g1, g2⟩, ?_⟩
      (repeat' first | exact trivial | exact rfl | refine And.intro ?_ ?_)
    · refine congrArg Value.bool ?_
      have d1 : r ≠ [] := of_decide_eq_true d1
      have d2 : l = [] := by simpa using d2
      simp [inL, d1, d2]
    · refine congrArg Value.bool ?_
      have d1 : r ≠ [] := of_decide_eq_true d1
      have d2 : l ≠ [] := by simpa using d2
      simp [inL, d1, d2]
    · refine congrArg Value.bool ?_
      have d1 : r = [] := by simpa using d1
      simp [inL, d1]
  obtain ⟨l1, r1, s, m, c, hP⟩ := x9
  obtain ⟨q1, q2⟩ := q
  replace q1 : l = l1 := q1
  replace q2 : r = r1 := q2
  subst q1 q2
  obtain ⟨hP, _, _, _⟩ := hP
  obtain ⟨n1, n2, n3, n4⟩ := hP.len hw
  dsimp only
  refine ⟨?_, fun x10 q => ?_⟩
  · refine brS_of (fun d1 => ?_) fun d1 => ?_
    · have cl : l ≠ [] := by intro e; rw [e] at d1; simp [inL] at d1
      refine ⟨List.length_pos_iff.2 cl, by omega, fun l' f1 => ⟨⟨l, r, s, m, false, hP, ne, g1, g2⟩, ?_⟩⟩
      subst f1
      (repeat' first | exact trivial | exact rfl | refine And.intro ?_ ?_)
      all_goals first | exact d1.symm | (show _ = popI (inL l r) l; rw [d1]; rfl) | (show _ = Value.int _ (ifI (inL l r) _); rw [d1]; rfl) | (show _ = Value.bool (inL l r); rw [d1])
    · refine ⟨⟨l, r, s, m, false, hP, ne, g1, g2⟩, ?_⟩
      (repeat' first | exact trivial | exact rfl | refine And.intro ?_ ?_)
      all_goals first | exact d1.symm | (show _ = popI (inL l r) l; rw [d1]; rfl) | (show _ = Value.int _ (ifI (inL l r) _); rw [d1]; rfl) | (show _ = Value.bool (inL l r); rw [d1])
  obtain ⟨l1, r1, s, m, c, hP⟩ := x10
  obtain ⟨q1, q2⟩ := q
  replace q1 : l = l1 := q1
  replace q2 : r = r1 := q2
  subst q1 q2
  obtain ⟨hP, _, _, _⟩ := hP
  obtain ⟨n1, n2, n3, n4⟩ := hP.len hw
  have n3 : List.length s ≤ 800000 := n3
  dsimp only
  have vis := hP.visit (fszR lo hi) ne g1 g2
  refine brS_of (fun d1 => ?_) fun d1 => ?_
  · have cr : r ≠ [] := by intro e; rw [e] at d1; simp [inL] at d1
    refine ⟨List.length_pos_iff.2 cr, by omega, fun r' f1 => ?_⟩
    subst f1
    refine ⟨by have n3 : s.length ≤ 800000 := n3; omega, fun s' b e => ?_⟩
    obtain ⟨v1, v2, v3⟩ := vis s' b (by rw [d1] at e ⊢; exact e)
    rw [d1] at v2 v3
    refine brS_of (fun d2 => ?_) fun d2 => ?_
    · have d2 : b = false := by simpa using d2
      rw [v1 d2]
      exact h fin _ m rfl rfl (by omega)
    · have d2 : b = true := by simpa using d2
      refine ⟨⟨_, _, s', m, false, v2 d2⟩, ?_⟩
      (repeat' first | exact trivial | exact rfl | exact v3 | refine And.intro ?_ ?_)
  · have i1 := inL_or ne d1
    refine ⟨by have n3 : s.length ≤ 800000 := n3; omega, fun s' b e => ?_⟩
    obtain ⟨v1, v2, v3⟩ := vis s' b (by rw [d1, i1] at e ⊢; exact e)
    rw [d1] at v2 v3
    refine brS_of (fun d2 => ?_) fun d2 => ?_
    · have d2 : b = false := by simpa using d2
      rw [v1 d2]
      exact h fin _ m rfl rfl (by omega)
    · have d2 : b = true := by simpa using d2
      refine ⟨⟨_, _, s', m, false, v2 d2⟩, ?_⟩
      (repeat' first | exact trivial | exact rfl | exact v3 | refine And.intro ?_ ?_)
theorem s_paR : SoundT C0 152 tPaR := by
  refine .ofW [0, 7, 11] Try.func152 (by decide) rfl fun args H K h hB => ?_
  unfold tPaR at h
  split at h <;> try exact h.elim
  unfold mR at h
  split at h <;> try exact h.elim
  rename_i x y _ rd fr nd ct lo hi us gn rl s
  obtain ⟨hs, t1, t2, h1, h2, h3, h4, h5, h6⟩ := h
  refine ⟨_, ?_, vc_paR lo hi s ⟨us, gn, rl, fr, nd, ct, rd⟩ x y K hs t1 t2 h1 h2 h3 h4 h5 h6⟩
  exact ⟨frame C0.ok s_push _, frame C0.ok s_top _, frame C0.ok s_pop _, frame C0.ok s_exp _, frame C0.ok s_com _, frame C0.ok s_visR _, trivial⟩

/-! ### each, and the function itself -/
abbrev ceR (lo hi : Int) (s : List Chg) (S : Arn) : List (Chunk C0) := [.box [.ptr 4 0, .slc 5, .slc 6, vU64 S.reads], .box [vI lo], .box [vI hi], .box [.slc 7], .box [.slc 8, .slc 9, .slc 10, vU S.fresh], .row true EC.node S.nodes, .row true EC.int S.counts, .row true EC.chg s, .row true EC.bool S.used, .row true EC.u32 S.gen, .row true EC.u32 S.rel]
def meR (H : List (Chunk C0)) (k : Int → Int → List Chg → Arn → Prop) : Prop := match H with
  | [.box [.ptr 4 0, .slc 5, .slc 6, .val (.int .u64 rd)], .box [.val (.int .i64 lo)], .box [.val (.int .i64 hi)], .box [.slc 7], .box [.slc 8, .slc 9, .slc 10, .val (.int .u32 fr)], .row true .node nd, .row true .int ct, .row true .chg s, .row true .bool us, .row true .u32 gn, .row true .u32 rl] => k lo hi s ⟨us, gn, rl, fr, nd, ct, rd⟩
  | _ => False
noncomputable def aEaR : Ann C0 := { Γ := [(152, frameT [] tPaR)] }
def tEaR : Tfm C0 := fun args H K => match args with
  | [.at (.ptr 0 0), .at (.val (.int .u32 x)), .at (.val (.int .u32 y)), .at (.fn 134 [1, 2, 3])] => meR H fun lo hi s S => ∃ hs t1 t2, Wf S hs ∧ Rep S t1 x ∧ Rep S t2 y ∧ List.length s + 2 * (t1.size + t2.size) ≤ 800000 ∧ S.reads + (2 + 6 * (t1.size + t2.size)) ≤ 3000000000000000000 ∧
    ∀ s' S' m, s' = goV (fR lo hi) s (btw t1.list t2.list) → S' = rdS S m → m ≤ 2 + 6 * (t1.size + t2.size) → (x = y → m = 0) → K (.tup []) (ceR lo hi s' S') [0, 3, 7]
  | _ => False
noncomputable def aFnR : Ann C0 := { Γ := [(133, frameT [] tEaR)] }
def tFnR : Tfm C0 := fun args H K => match args with
  | [.at (.ptr 0 0), .at (.val (.int .u32 x)), .at (.val (.int .u32 y)), .at (.val (.int .i64 lo)), .at (.val (.int .i64 hi))] => arM H fun S => ∃ hs t1 t2, Wf S hs ∧ Rep S t1 x ∧ Rep S t2 y ∧ t1.size + t2.size ≤ 300000 ∧ S.reads + (2 + 6 * (t1.size + t2.size)) ≤ 3000000000000000000 ∧
    ∀ s' S' m, s' = goV (fR lo hi) [] (btw t1.list t2.list) → S' = rdS S m → m ≤ 2 + 6 * (t1.size + t2.size) → (x = y → m = 0) → K (.one (.at (.slc 7))) (chS S' ++ [.row true EC.chg s']) [0]
  | _ => False
theorem vc_eaR (lo hi : Int) (s : List Chg) (S : Arn) (x y : Int) (K : KT) (hs : List Int) (t1 t2 : Tr) (hw : Wf S hs) (hx : Rep S t1 x) (hy : Rep S t2 y) (h1 : List.length s + 2 * (t1.size + t2.size) ≤ 800000) (h2 : S.reads + (2 + 6 * (t1.size + t2.size)) ≤ 3000000000000000000)
    (h : ∀ s' S' m, s' = goV (fR lo hi) s (btw t1.list t2.list) → S' = rdS S m → m ≤ 2 + 6 * (t1.size + t2.size) → (x = y → m = 0) → K (.tup []) (ceR lo hi s' S') [0, 3, 7]) :
    vc C0 aEaR Try.f133 [.at (.ptr 0 0), .at (vU x), .at (vU y), .at (.fn 134 [1, 2, 3])] (ceR lo hi s S) (normK 11 (wideK [0, 3, 7] K)) := by
  refine Eq.mp (show (brS (x == y) ((K (SV.tup []) [(Chunk.box [(At.ptr 4 0), (At.slc 5), (At.slc 6), (At.val (Value.int IntKind.u64 (S.reads)))]), (Chunk.box [(At.val (Value.int IntKind.i64 (lo)))]), (Chunk.box [(At.val (Value.int IntKind.i64 (hi)))]), (Chunk.box [(At.slc 7)]), (Chunk.box [(At.slc 8), (At.slc 9), (At.slc 10), (At.val (Value.int IntKind.u32 (S.fresh)))]), (Chunk.row true (EC.node) (S.nodes)), (Chunk.row true (EC.int) (S.counts)), (Chunk.row true (EC.chg) (s)), (Chunk.row true (EC.bool) (S.used)), (Chunk.row true (EC.u32) (S.gen)), (Chunk.row true (EC.u32) (S.rel))] [0, 3, 7])) ((∃ hs : List Int, (∃ t1 : Tr, (∃ t2 : Tr, ((Wf S hs) ∧ (Rep S t1 x) ∧ (Rep S t2 y) ∧ (s.length + 2 * (t1.size + t2.size) ≤ 800000) ∧ (S.reads + (2 + 6 * ((↑t1.size : Int) + (↑t2.size : Int))) ≤ 3000000000000000000) ∧ (∀ s' : List Chg, (∀ S' : Arn, (∀ m : Nat, (((s') = (goV (fR lo hi) s (btw t1.list t2.list))) → (((S') = (rdS S m)) → ((m ≤ 2 + 6 * (t1.size + t2.size)) →
    (K (SV.tup []) [(Chunk.box [(At.ptr 4 0), (At.slc 5), (At.slc 6), (At.val (Value.int IntKind.u64 (S'.reads)))]), (Chunk.box [(At.val (Value.int IntKind.i64 (lo)))]), (Chunk.box [(At.val (Value.int IntKind.i64 (hi)))]), (Chunk.box [(At.slc 7)]), (Chunk.box [(At.slc 8), (At.slc 9), (At.slc 10), (At.val (Value.int IntKind.u32 (S'.fresh)))]), (Chunk.row true (EC.node) (S'.nodes)), (Chunk.row true (EC.int) (S'.counts)), (Chunk.row true (EC.chg) (s')), (Chunk.row true (EC.bool) (S'.used)), (Chunk.row true (EC.u32) (S'.gen)), (Chunk.row true (EC.u32) (S'.rel))] [0, 3, 7]))))))))))))) = _ by kernel_rfl) ?_
  refine brS_of (fun d => ?_) fun d => ?_
  · have d : x = y := by simpa using d
    subst d
    have e := hx.inj (hw.us0 (Int.le_refl 0)) hy
    subst e
    exact h s S 0 (by rw [btw_self]; rfl) (rdS_zero S).symm (Nat.zero_le _) fun _ => rfl
  · have d : x ≠ y := by simpa using d
    exact ⟨hs, t1, t2, hw, hx, hy, h1, h2, fun s' S' m a1 a2 a3 => h s' S' m a1 a2 a3 fun e => absurd e d⟩
theorem s_eaR : SoundT C0 133 tEaR := by
  refine .ofW [0, 3, 7] Try.func133 (by decide) rfl fun args H K h hB => ?_
  unfold tEaR at h
  split at h <;> try exact h.elim
  unfold meR at h
  split at h <;> try exact h.elim
  rename_i x y _ rd lo hi fr nd ct s us gn rl
  obtain ⟨hs, t1, t2, h1, h2, h3, h4, h5, h6⟩ := h
  refine ⟨_, ?_, vc_eaR lo hi s ⟨us, gn, rl, fr, nd, ct, rd⟩ x y K hs t1 t2 h1 h2 h3 h4 h5 h6⟩
  exact ⟨frame C0.ok s_paR _, trivial⟩
theorem vc_fnR (lo hi : Int) (S : Arn) (x y : Int) (K : KT) (hs : List Int) (t1 t2 : Tr) (hw : Wf S hs) (hx : Rep S t1 x) (hy : Rep S t2 y) (h1 : t1.size + t2.size ≤ 300000) (h2 : S.reads + (2 + 6 * (t1.size + t2.size)) ≤ 3000000000000000000)
    (h : ∀ s' S' m, s' = goV (fR lo hi) [] (btw t1.list t2.list) → S' = rdS S m → m ≤ 2 + 6 * (t1.size + t2.size) → (x = y → m = 0) → K (.one (.at (.slc 7))) (chS S' ++ [.row true EC.chg s']) [0]) :
    vc C0 aFnR Try.f102 [.at (.ptr 0 0), .at (vU x), .at (vU y), .at (vI lo), .at (vI hi)] (chS S) (normK 7 (wideK [0] K)) := by
  refine Eq.mp (show (∃ hs : List Int, (∃ t1 : Tr, (∃ t2 : Tr, ((Wf S hs) ∧ (Rep S t1 x) ∧ (Rep S t2 y) ∧ (([] : List Ent).length + 2 * (t1.size + t2.size) ≤ 800000) ∧ (S.reads + (2 + 6 * ((↑t1.size : Int) + (↑t2.size : Int))) ≤ 3000000000000000000) ∧ (∀ s' : List Chg, (∀ S' : Arn, (∀ m : Nat, (((s') = (goV (fR lo hi) [] (btw t1.list t2.list))) → (((S') = (rdS S m)) → ((m ≤ 2 + 6 * (t1.size + t2.size)) → ((((x) = (y)) → ((m) = 0)) → (K (SV.one (TV.at (At.slc 7))) [(Chunk.box [(At.ptr 1 0), (At.slc 2), (At.slc 3), (At.val (Value.int IntKind.u64 (S'.reads)))]), (Chunk.box [(At.slc 4), (At.slc 5), (At.slc 6), (At.val (Value.int IntKind.u32 (S'.fresh)))]), (Chunk.row true (EC.node) (S'.nodes)), (Chunk.row true (EC.int) (S'.counts)), (Chunk.row true (EC.bool) (S'.used)), (Chunk.row true (EC.u32) (S'.gen)), (Chunk.row true (EC.u32) (S'.rel)), (Chunk.row true (EC.chg) (s'))] [0])))))))))))) = _ by kernel_rfl) ?_
  exact ⟨hs, t1, t2, hw, hx, hy, by simp; omega, h2, h⟩
theorem s_fnR : SoundT C0 102 tFnR := by
  refine .ofW [0] Try.func102 (by decide) rfl fun args H K h hB => ?_
  unfold tFnR at h
  split at h <;> try exact h.elim
  unfold arM at h
  split at h <;> try exact h.elim
  rename_i x y lo hi _ rd fr nd ct us gn rl
  obtain ⟨hs, t1, t2, h1, h2, h3, h4, h5, h6⟩ := h
  refine ⟨_, ?_, vc_fnR lo hi ⟨us, gn, rl, fr, nd, ct, rd⟩ x y K hs t1 t2 h1 h2 h3 h4 h5 h6⟩
  exact ⟨frame C0.ok s_eaR _, trivial⟩

end Go.Proofs.Ytmjnoiajenoinaa.Sx
end
section
/- treework.Pairs with the visitor of diff's Count$1; this file is written by gen_pa.py. -/
namespace Go.Proofs.Ytmjnoiajenoinaa.Sx
open Go

/-KEEP Wf exW inU Arn.cap Arn.free Rep Tr.size Tr.list btw rdS pushL lastI expL inL popI wL stepV pairC goV fR fC fF-/
/-! ### The visitor -/
/-! ### The walk -/
/-! ### each, and the function itself -/
end Go.Proofs.Ytmjnoiajenoinaa.Sx
end
section
/- treework.Pairs with the visitor of diff's First$1; this file is written by gen_pa.py. -/
namespace Go.Proofs.Ytmjnoiajenoinaa.Sx
open Go

/-KEEP Wf exW inU Arn.cap Arn.free Rep Tr.size Tr.list btw rdS pushL lastI expL inL popI wL stepV pairC goV fR fC fF-/
/-! ### The visitor -/
/-! ### The walk -/
/-! ### each, and the function itself -/
end Go.Proofs.Ytmjnoiajenoinaa.Sx
end
section
/- diff's functions as they are used, and the law DiffOfSelf. -/
namespace Go.Proofs.Ytmjnoiajenoinaa.Sx
open Go

/-! ### Plain -/
def rngC (lo hi : Int) (cs : List Chg) : List Chg := cs.filter fun c => decide (lo ≤ c.key ∧ c.key ≤ hi)
theorem goV_fR (lo hi : Int) : ∀ (cs out : List Chg), Srt Chg.key cs → goV (fR lo hi) out cs = out ++ rngC lo hi cs
  | [], out, _ => by simp [goV, rngC]
  | c :: cs, out, h => by
    have hd : (fR lo hi c out).1 = out ++ (if lo ≤ c.key ∧ c.key ≤ hi then [c] else []) := by
      unfold fR; dsimp only; split <;> simp
    have hc : rngC lo hi (c :: cs) = (if lo ≤ c.key ∧ c.key ≤ hi then [c] else []) ++ rngC lo hi cs := by
      unfold rngC
      rw [List.filter_cons]
      by_cases d : lo ≤ c.key ∧ c.key ≤ hi <;> simp [d]
    have h2 : (fR lo hi c out).2 = decide (c.key < hi) := rfl
    rw [goV, h2, hd, hc, ← List.append_assoc]
    split
    · exact goV_fR lo hi cs _ h.tail
    · rename_i d
      have d : ¬ c.key < hi := by simpa using d
      have e : rngC lo hi cs = [] := by
        unfold rngC
        rw [List.filter_eq_nil_iff]
        intro x hx
        have := h.head x hx
        simp; omega
      rw [e, List.append_nil]
theorem btw_keys {l m : List Ent} (hl : Asc l) (hm : Asc m) (P : Int → Prop) (h1 : ∀ x ∈ l, P x.1) (h2 : ∀ x ∈ m, P x.1) : ∀ c ∈ btw l m, P c.key := by
  intro c hc
  have e := (btw_srt hl hm).fnd_self hc
  rw [btw_fnd hl hm, getE_fnd, getE_fnd] at e
  cases a : fnd Prod.fst l c.key with
  | some x => have := h1 x (fnd_mem a); rw [← fnd_key a]; exact this
  | none =>
    cases b : fnd Prod.fst m c.key with
    | some x => have := h2 x (fnd_mem b); rw [← fnd_key b]; exact this
    | none => rw [a, b] at e; simp [mkChg] at e
def Kin (l : List Ent) : Prop := ∀ x ∈ l, -9223372036854775808 ≤ x.1 ∧ x.1 ≤ 9223372036854775807
theorem rngC_all {l m : List Ent} (hl : Asc l) (hm : Asc m) (h1 : Kin l) (h2 : Kin m) : rngC (-9223372036854775808) 9223372036854775807 (btw l m) = btw l m := by
  have h := btw_keys hl hm (fun k => -9223372036854775808 ≤ k ∧ k ≤ 9223372036854775807) h1 h2
  unfold rngC
  rw [List.filter_eq_self]
  intro c hc
  simpa using h c hc

/-! ### The contracts -/
/-KEEP Wf exW inU live Arn.cap Arn.free Rep rdS Tr.size Tr.list btw rngC goV fR Asc Kin PlantR listE newS sameB-/
def tRangeB : Tfm C0 := fun args H K => match args with
  | [.at (.ptr 0 0), .at (.val (.int .u32 x)), .at (.val (.int .u32 y)), .at (.val (.int .i64 lo)), .at (.val (.int .i64 hi))] => arM H fun S => ∃ hs t1 t2, Wf S hs ∧ Rep S t1 x ∧ Rep S t2 y ∧ t1.size + t2.size ≤ 300000 ∧ S.reads + (2 + 6 * (t1.size + t2.size)) ≤ 3000000000000000000 ∧ Asc t1.list ∧ Asc t2.list ∧
    ∀ s' S' m, s' = rngC lo hi (btw t1.list t2.list) → S' = rdS S m → m ≤ 2 + 6 * (t1.size + t2.size) → (x = y → m = 0) → K (.one (.at (.slc 7))) (chS S' ++ [.row true EC.chg s']) [0]
  | _ => False
theorem s_rangeB : SoundT C0 102 tRangeB := s_fnR.weak fun args H K h => by
  unfold tRangeB at h
  split at h <;> try exact h.elim
  unfold arM at h
  split at h <;> try exact h.elim
  obtain ⟨hs, t1, t2, h1, h2, h3, h4, h5, h6, h7, h8⟩ := h
  exact ⟨hs, t1, t2, h1, h2, h3, h4, h5, fun s' S' m a1 a2 a3 a4 => h8 s' S' m (by rw [a1, goV_fR _ _ _ _ (btw_srt h6 h7)]; rfl) a2 a3 a4⟩
noncomputable def aDiff : Ann C0 := { Γ := [(102, frameT [] tRangeB)] }
def tDiff : Tfm C0 := fun args H K => match args with
  | [.at (.ptr 0 0), .at (.val (.int .u32 x)), .at (.val (.int .u32 y))] => arM H fun S => ∃ hs t1 t2, Wf S hs ∧ Rep S t1 x ∧ Rep S t2 y ∧ t1.size + t2.size ≤ 300000 ∧ S.reads + (2 + 6 * (t1.size + t2.size)) ≤ 3000000000000000000 ∧ Asc t1.list ∧ Asc t2.list ∧ Kin t1.list ∧ Kin t2.list ∧
    ∀ s' S' m, s' = btw t1.list t2.list → S' = rdS S m → m ≤ 2 + 6 * (t1.size + t2.size) → (x = y → m = 0) → K (.one (.at (.slc 7))) (chS S' ++ [.row true EC.chg s']) [0]
  | _ => False
theorem vc_diff (S : Arn) (x y : Int) (K : KT) (hs : List Int) (t1 t2 : Tr) (h1 : Wf S hs) (h2 : Rep S t1 x) (h3 : Rep S t2 y) (h4 : t1.size + t2.size ≤ 300000) (h5 : S.reads + (2 + 6 * (t1.size + t2.size)) ≤ 3000000000000000000)
    (h6 : Asc t1.list) (h7 : Asc t2.list) (h8 : Kin t1.list) (h9 : Kin t2.list) (h : ∀ s' S' m, s' = btw t1.list t2.list → S' = rdS S m → m ≤ 2 + 6 * (t1.size + t2.size) → (x = y → m = 0) → K (.one (.at (.slc 7))) (chS S' ++ [.row true EC.chg s']) [0]) :
    vc C0 aDiff Try.f51 [.at (.ptr 0 0), .at (vU x), .at (vU y)] (chS S) (normK 7 (wideK [0] K)) := by
  refine Eq.mp (show (∃ hs : List Int, (∃ t1 : Tr, (∃ t2 : Tr, ((Wf S hs) ∧ (Rep S t1 x) ∧ (Rep S t2 y) ∧ (t1.size + t2.size ≤ 300000) ∧ (S.reads + (2 + 6 * ((↑t1.size : Int) + (↑t2.size : Int))) ≤ 3000000000000000000) ∧ (Asc t1.list) ∧ (Asc t2.list) ∧ (∀ s' : List Chg, (∀ S' : Arn, (∀ m : Nat, (((s') = (rngC (-9223372036854775808) 9223372036854775807 (btw t1.list t2.list))) → (((S') = (rdS S m)) → ((m ≤ 2 + 6 * (t1.size + t2.size)) → ((((x) = (y)) → ((m) = 0)) → (K (SV.one (TV.at (At.slc 7))) [(Chunk.box [(At.ptr 1 0), (At.slc 2), (At.slc 3), (At.val (Value.int IntKind.u64 (S'.reads)))]), (Chunk.box [(At.slc 4), (At.slc 5), (At.slc 6), (At.val (Value.int IntKind.u32 (S'.fresh)))]), (Chunk.row true (EC.node) (S'.nodes)), (Chunk.row true (EC.int) (S'.counts)), (Chunk.row true (EC.bool) (S'.used)), (Chunk.row true (EC.u32) (S'.gen)), (Chunk.row true (EC.u32) (S'.rel)), (Chunk.row true (EC.chg) (s'))] [0])))))))))))) = _ by kernel_rfl) ?_
  exact ⟨hs, t1, t2, h1, h2, h3, h4, h5, h6, h7, fun s' S' m a1 a2 a3 a4 => h s' S' m (by rw [a1, rngC_all h6 h7 h8 h9]) a2 a3 a4⟩
theorem s_diff : SoundT C0 51 tDiff := by
  refine .ofW [0] Try.func51 (by decide) rfl fun args H K h hB => ?_
  unfold tDiff at h
  split at h <;> try exact h.elim
  unfold arM at h
  split at h <;> try exact h.elim
  rename_i x y _ rd fr nd ct us gn rl
  obtain ⟨hs, t1, t2, h1, h2, h3, h4, h5, h6, h7, h8, h9, h10⟩ := h
  exact ⟨aDiff, ⟨frame C0.ok s_rangeB _, trivial⟩, vc_diff ⟨us, gn, rl, fr, nd, ct, rd⟩ x y K hs t1 t2 h1 h2 h3 h4 h5 h6 h7 h8 h9 h10⟩
/-! A tree and itself. -/
def selfM (x y : Int) (S : Arn) : Prop := x = y ∧ ∃ hs t, Wf S hs ∧ Rep S t x ∧ t.size ≤ 100000 ∧ S.reads ≤ 1000000000000000000 ∧ Asc t.list ∧ Kin t.list
theorem selfM.go {x y : Int} {S : Arn} (h : selfM x y S) : ∃ hs t, Wf S hs ∧ Rep S t x ∧ Rep S t y ∧ t.size + t.size ≤ 300000 ∧ S.reads + (2 + 6 * ((t.size : Int) + t.size)) ≤ 3000000000000000000 ∧ Asc t.list ∧ Kin t.list ∧ btw t.list t.list = [] ∧ (∀ m, (x = y → m = 0) → rdS S m = S) := by
  obtain ⟨rfl, hs, t, h1, h2, h3, h4, h5, h6⟩ := h
  exact ⟨hs, t, h1, h2, h2, by omega, by omega, h5, h6, btw_self _, fun m hm => by rw [hm rfl, rdS_zero]⟩
/-! ### The example of the chapter -/
/-! ### The law -/
theorem listE_sub (raw : List Ent) (n : Nat) : ∀ x ∈ listE raw n, x ∈ raw := by
  have key : ∀ (l acc : List Ent), Asc acc → ∀ x ∈ l.foldl insE acc, x ∈ acc ∨ x ∈ l := by
    intro l
    induction l with
    | nil => intro acc _ x hx; exact .inl hx
    | cons a l ih =>
      intro acc ha x hx
      rcases ih (insE acc a) (insE_asc a ha) x hx with h | h
      · rcases insE_mem ha h with h | h
        · exact .inr (by simp [h])
        · exact .inl h
      · exact .inr (by simp [h])
  intro x hx
  unfold listE at hx
  rcases key (raw.take n) [] (by simp [Srt]) x hx with h | h
  · simp at h
  · exact List.mem_of_mem_take h
end Go.Proofs.Ytmjnoiajenoinaa.Sx
end
