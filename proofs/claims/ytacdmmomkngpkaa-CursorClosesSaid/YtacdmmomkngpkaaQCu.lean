/- Cursors. -/
import Derived.Test.YtacdmmomkngpkaaQLk
import Derived.Test.YtacdmmomkngpkaaQGr
namespace Go.Proofs.Ytacdmmomkngpkaa.Sx
open Go

/-KEEP Wf exW inU live Arn.cap Arn.free Rep rdS retA Tr.size lsT gtT entO-/
structure Cur where
  root : Int
  lo : Int
  hi : Int
  place : Int
  ek : Int
  ev : Int
  closed : Bool
abbrev bxC (k : Nat) (c : Cur) : Chunk C0 := .box [.ptr k 0, vU c.root, vI c.lo, vI c.hi, vI c.place, vI c.ek, vI c.ev, vB c.closed]
abbrev chC (c : Cur) (S : Arn) : List (Chunk C0) := bxC 1 c :: chSk 1 S
def cuM (H : List (Chunk C0)) (k : Cur → Arn → Prop) : Prop := match H with
  | [.box [.ptr 1 0, .val (.int .u32 root), .val (.int .i64 lo), .val (.int .i64 hi), .val (.int .i64 place), .val (.int .i64 ek), .val (.int .i64 ev), .val (.bool closed)], .box [.ptr 2 0, .slc 3, .slc 4, .val (.int .u64 rd)], .box [.slc 5, .slc 6, .slc 7, .val (.int .u32 fr)], .row true .node nd, .row true .int ct, .row true .bool us, .row true .u32 gn, .row true .u32 rl] => k ⟨root, lo, hi, place, ek, ev, closed⟩ ⟨us, gn, rl, fr, nd, ct, rd⟩
  | _ => False
noncomputable def aOpen : Ann C0 := { Γ := [(76, frameT [] tRetain)] }
def tOpen : Tfm C0 := fun args H K => match args with
  | [.at (.ptr 0 0), .at (.val (.int .u32 i)), .at (.val (.int .i64 lo)), .at (.val (.int .i64 hi))] => arM H fun S => inU i ∧ exW S ∧ (i = 0 → K (.tup [.at (.ptr 7 0), .at (vI 0)]) (chS S ++ [bxC 0 ⟨i, lo, hi, 0, 0, 0, false⟩]) [3]) ∧
    (i ≠ 0 → S.us i = false → K (.tup [.at (.val (.pointer none)), .at (vI 1)]) (chS S) [3]) ∧ (S.us i = true → ∀ S', S' = retA S i → K (.tup [.at (.ptr 7 0), .at (vI 0)]) (chS S' ++ [bxC 0 ⟨i, lo, hi, 0, 0, 0, false⟩]) [3])
  | _ => False
def moveC (c : Cur) (o : Option Ent) (other : Int) : Cur × Option Ent := match o with
  | some e => if e.1 < c.lo ∨ c.hi < e.1 then ({ c with place := other, ek := 0, ev := 0 }, none) else ({ c with place := 1, ek := e.1, ev := e.2 }, some e)
  | none => ({ c with place := other, ek := 0, ev := 0 }, none)
def errE (o : Option Ent) : Int := if o.isSome then 0 else 4
def tMove : Tfm C0 := fun args H K => match args with
  | [.at (.ptr 0 0), .agg [.val (.int .i64 k), .val (.int .i64 v)], .at (.val (.bool ok)), .at (.val (.int .i64 other))] => cuM H fun c S => ∃ o : Option Ent, ok = o.isSome ∧ k = (o.getD (0, 0)).1 ∧ v = (o.getD (0, 0)).2 ∧ ∀ c' r, (c', r) = moveC c o other → K (.tup [entO r, .at (vI (errE r))]) (chC c' S) [0]
  | _ => False
structure XCu (P : Arn → Option Ent → Prop) where
  S : Arn
  o : Option Ent
  h : P S o
noncomputable def aCu_next (P1 P2 : Arn → Option Ent → Prop) (c : Cur) : Ann C0 := { quiet := [87, 89], Γ := [(87, frameT [] tLu_ceil), (89, frameT [] tLu_above), (88, frameT [] tMove)], inv := fun k => match k with
  | 1006 => some { X := XCu P1, sl := [2, 4, 5], tf := fun x => [.one (.at (.ptr 8 0)), .one (.at (.ptr 9 0)), vb x.o.isSome], hf := fun x => chC c x.S ++ [.box [vI 0, vI 0], .box [vI (x.o.getD (0, 0)).1, vI (x.o.getD (0, 0)).2]], wr := [1] }
  | 1009 => some { X := XCu P2, sl := [2, 6, 7], tf := fun x => [.one (.at (.ptr 8 0)), .one (.at (.ptr 9 0)), vb x.o.isSome], hf := fun x => chC c x.S ++ [.box [vI 0, vI 0], .box [vI (x.o.getD (0, 0)).1, vI (x.o.getD (0, 0)).2]], wr := [1] }
  | _ => none }
noncomputable def aCu_prev (P1 P2 : Arn → Option Ent → Prop) (c : Cur) : Ann C0 := { quiet := [90, 91], Γ := [(90, frameT [] tLu_floor), (91, frameT [] tLu_below), (88, frameT [] tMove)], inv := fun k => match k with
  | 1006 => some { X := XCu P1, sl := [2, 4, 5], tf := fun x => [.one (.at (.ptr 8 0)), .one (.at (.ptr 9 0)), vb x.o.isSome], hf := fun x => chC c x.S ++ [.box [vI 0, vI 0], .box [vI (x.o.getD (0, 0)).1, vI (x.o.getD (0, 0)).2]], wr := [1] }
  | 1009 => some { X := XCu P2, sl := [2, 6, 7], tf := fun x => [.one (.at (.ptr 8 0)), .one (.at (.ptr 9 0)), vb x.o.isSome], hf := fun x => chC c x.S ++ [.box [vI 0, vI 0], .box [vI (x.o.getD (0, 0)).1, vI (x.o.getD (0, 0)).2]], wr := [1] }
  | _ => none }
theorem vc_open (S : Arn) (i lo hi : Int) (K : KT) (hi1 : inU i) (hw : exW S) (ha : i = 0 → K (.tup [.at (.ptr 7 0), .at (vI 0)]) (chS S ++ [bxC 0 ⟨i, lo, hi, 0, 0, 0, false⟩]) [3])
    (hb : i ≠ 0 → S.us i = false → K (.tup [.at (.val (.pointer none)), .at (vI 1)]) (chS S) [3]) (hc : S.us i = true → ∀ S', S' = retA S i → K (.tup [.at (.ptr 7 0), .at (vI 0)]) (chS S' ++ [bxC 0 ⟨i, lo, hi, 0, 0, 0, false⟩]) [3]) :
    vc C0 aOpen Try.f36 [.at (.ptr 0 0), .at (vU i), .at (vI lo), .at (vI hi)] (chS S) (normK 7 (wideK [3] K)) := by
  refine Eq.mp (show ((inU i) ∧
(exW S) ∧
(((i) = 0) →
(K (SV.tup [(TV.at (At.ptr 7 0)), (TV.at (At.val (Value.int IntKind.i64 0)))]) [(Chunk.box [(At.ptr 1 0), (At.slc 2), (At.slc 3), (At.val (Value.int IntKind.u64 (S.reads)))]), (Chunk.box [(At.slc 4), (At.slc 5), (At.slc 6), (At.val (Value.int IntKind.u32 (S.fresh)))]), (Chunk.row true (EC.node) (S.nodes)), (Chunk.row true (EC.int) (S.counts)), (Chunk.row true (EC.bool) (S.used)), (Chunk.row true (EC.u32) (S.gen)), (Chunk.row true (EC.u32) (S.rel)), (Chunk.box [(At.ptr 0 0), (At.val (Value.int IntKind.u32 (i))), (At.val (Value.int IntKind.i64 (lo))), (At.val (Value.int IntKind.i64 (hi))), (At.val (Value.int IntKind.i64 0)), (At.val (Value.int IntKind.i64 0)), (At.val (Value.int IntKind.i64 0)), (At.val (Value.bool false))])] [3])) ∧
((i ≠ 0) →
(((S.us i) = false) →
(K (SV.tup [(TV.at (At.val (Value.pointer none))), (TV.at (At.val (Value.int IntKind.i64 1)))]) [(Chunk.box [(At.ptr 1 0), (At.slc 2), (At.slc 3), (At.val (Value.int IntKind.u64 (S.reads)))]), (Chunk.box [(At.slc 4), (At.slc 5), (At.slc 6), (At.val (Value.int IntKind.u32 (S.fresh)))]), (Chunk.row true (EC.node) (S.nodes)), (Chunk.row true (EC.int) (S.counts)), (Chunk.row true (EC.bool) (S.used)), (Chunk.row true (EC.u32) (S.gen)), (Chunk.row true (EC.u32) (S.rel))] [3]))) ∧
(((S.us i) = true) →
(∀ S' : Arn,
  (((S') = (retA S i)) →
  (K (SV.tup [(TV.at (At.ptr 7 0)), (TV.at (At.val (Value.int IntKind.i64 0)))]) [(Chunk.box [(At.ptr 1 0), (At.slc 2), (At.slc 3), (At.val (Value.int IntKind.u64 (S'.reads)))]), (Chunk.box [(At.slc 4), (At.slc 5), (At.slc 6), (At.val (Value.int IntKind.u32 (S'.fresh)))]), (Chunk.row true (EC.node) (S'.nodes)), (Chunk.row true (EC.int) (S'.counts)), (Chunk.row true (EC.bool) (S'.used)), (Chunk.row true (EC.u32) (S'.gen)), (Chunk.row true (EC.u32) (S'.rel)), (Chunk.box [(At.ptr 0 0), (At.val (Value.int IntKind.u32 (i))), (At.val (Value.int IntKind.i64 (lo))), (At.val (Value.int IntKind.i64 (hi))), (At.val (Value.int IntKind.i64 0)), (At.val (Value.int IntKind.i64 0)), (At.val (Value.int IntKind.i64 0)), (At.val (Value.bool false))])] [3]))))) = _ by kernel_rfl) ?_
  exact ⟨hi1, hw, ha, hb, hc⟩
theorem s_open : SoundT C0 36 tOpen := by
  refine .ofW [3] Try.func36 (by decide) rfl fun args H K h hB => ?_
  unfold tOpen at h
  split at h <;> try exact h.elim
  unfold arM at h
  split at h <;> try exact h.elim
  rename_i i lo hi _ rd fr nd ct us gn rl
  obtain ⟨h1, h2, h3, h4, h5⟩ := h
  exact ⟨aOpen, ⟨frame C0.ok s_retain _, trivial⟩, vc_open ⟨us, gn, rl, fr, nd, ct, rd⟩ i lo hi K h1 h2 h3 h4 h5⟩
theorem opt_ext {a b : Option Ent} (h1 : a.isSome = b.isSome) (h2 : (a.getD (0, 0)).1 = (b.getD (0, 0)).1) (h3 : (a.getD (0, 0)).2 = (b.getD (0, 0)).2) : a = b := by
  cases a <;> cases b <;> simp_all
  exact Prod.ext h2 h3
theorem vc_move (c : Cur) (S : Arn) (k v other : Int) (ok : Bool) (K : KT) (o : Option Ent) (h1 : ok = o.isSome) (h2 : k = (o.getD (0, 0)).1) (h3 : v = (o.getD (0, 0)).2) (h : ∀ c' r, (c', r) = moveC c o other → K (.tup [entO r, .at (vI (errE r))]) (chC c' S) [0]) :
    vc C0 A0 Try.f88 [.at (.ptr 0 0), .agg [vI k, vI v], .at (vB ok), .at (vI other)] (chC c S) (normK 8 (wideK [0] K)) := by
  refine Eq.mp (show (brS (!ok)
  ((K (SV.tup [(TV.agg [(At.val (Value.int IntKind.i64 0)), (At.val (Value.int IntKind.i64 0))]), (TV.at (At.val (Value.int IntKind.i64 4)))]) [(Chunk.box [(At.ptr 1 0), (At.val (Value.int IntKind.u32 (c.root))), (At.val (Value.int IntKind.i64 (c.lo))), (At.val (Value.int IntKind.i64 (c.hi))), (At.val (Value.int IntKind.i64 (other))), (At.val (Value.int IntKind.i64 0)), (At.val (Value.int IntKind.i64 0)), (At.val (Value.bool (c.closed)))]), (Chunk.box [(At.ptr 2 0), (At.slc 3), (At.slc 4), (At.val (Value.int IntKind.u64 (S.reads)))]), (Chunk.box [(At.slc 5), (At.slc 6), (At.slc 7), (At.val (Value.int IntKind.u32 (S.fresh)))]), (Chunk.row true (EC.node) (S.nodes)), (Chunk.row true (EC.int) (S.counts)), (Chunk.row true (EC.bool) (S.used)), (Chunk.row true (EC.u32) (S.gen)), (Chunk.row true (EC.u32) (S.rel))] [0]))
  ((brS (decide (k < c.lo))
    ((K (SV.tup [(TV.agg [(At.val (Value.int IntKind.i64 0)), (At.val (Value.int IntKind.i64 0))]), (TV.at (At.val (Value.int IntKind.i64 4)))]) [(Chunk.box [(At.ptr 1 0), (At.val (Value.int IntKind.u32 (c.root))), (At.val (Value.int IntKind.i64 (c.lo))), (At.val (Value.int IntKind.i64 (c.hi))), (At.val (Value.int IntKind.i64 (other))), (At.val (Value.int IntKind.i64 0)), (At.val (Value.int IntKind.i64 0)), (At.val (Value.bool (c.closed)))]), (Chunk.box [(At.ptr 2 0), (At.slc 3), (At.slc 4), (At.val (Value.int IntKind.u64 (S.reads)))]), (Chunk.box [(At.slc 5), (At.slc 6), (At.slc 7), (At.val (Value.int IntKind.u32 (S.fresh)))]), (Chunk.row true (EC.node) (S.nodes)), (Chunk.row true (EC.int) (S.counts)), (Chunk.row true (EC.bool) (S.used)), (Chunk.row true (EC.u32) (S.gen)), (Chunk.row true (EC.u32) (S.rel))] [0]))
    ((brS (decide (k > c.hi))
      ((K (SV.tup [(TV.agg [(At.val (Value.int IntKind.i64 0)), (At.val (Value.int IntKind.i64 0))]), (TV.at (At.val (Value.int IntKind.i64 4)))]) [(Chunk.box [(At.ptr 1 0), (At.val (Value.int IntKind.u32 (c.root))), (At.val (Value.int IntKind.i64 (c.lo))), (At.val (Value.int IntKind.i64 (c.hi))), (At.val (Value.int IntKind.i64 (other))), (At.val (Value.int IntKind.i64 0)), (At.val (Value.int IntKind.i64 0)), (At.val (Value.bool (c.closed)))]), (Chunk.box [(At.ptr 2 0), (At.slc 3), (At.slc 4), (At.val (Value.int IntKind.u64 (S.reads)))]), (Chunk.box [(At.slc 5), (At.slc 6), (At.slc 7), (At.val (Value.int IntKind.u32 (S.fresh)))]), (Chunk.row true (EC.node) (S.nodes)), (Chunk.row true (EC.int) (S.counts)), (Chunk.row true (EC.bool) (S.used)), (Chunk.row true (EC.u32) (S.gen)), (Chunk.row true (EC.u32) (S.rel))] [0]))
      ((K (SV.tup [(TV.agg [(At.val (Value.int IntKind.i64 (k))), (At.val (Value.int IntKind.i64 (v)))]), (TV.at (At.val (Value.int IntKind.i64 0)))]) [(Chunk.box [(At.ptr 1 0), (At.val (Value.int IntKind.u32 (c.root))), (At.val (Value.int IntKind.i64 (c.lo))), (At.val (Value.int IntKind.i64 (c.hi))), (At.val (Value.int IntKind.i64 1)), (At.val (Value.int IntKind.i64 (k))), (At.val (Value.int IntKind.i64 (v))), (At.val (Value.bool (c.closed)))]), (Chunk.box [(At.ptr 2 0), (At.slc 3), (At.slc 4), (At.val (Value.int IntKind.u64 (S.reads)))]), (Chunk.box [(At.slc 5), (At.slc 6), (At.slc 7), (At.val (Value.int IntKind.u32 (S.fresh)))]), (Chunk.row true (EC.node) (S.nodes)), (Chunk.row true (EC.int) (S.counts)), (Chunk.row true (EC.bool) (S.used)), (Chunk.row true (EC.u32) (S.gen)), (Chunk.row true (EC.u32) (S.rel))] [0]))))))) = _ by kernel_rfl) ?_
  cases o with
  | none =>
    have h1 : ok = false := h1
    subst h1
    exact brS_of (fun _ => h _ none rfl) fun d => by cases d
  | some e =>
    have h1 : ok = true := h1
    have h2 : k = e.1 := h2
    have h3 : v = e.2 := h3
    obtain ⟨k', v'⟩ := e
    subst h1 h2 h3
    refine brS_of (fun d => by cases d) fun _ => brS_of (fun d => ?_) fun d => brS_of (fun e => ?_) fun e => ?_
    · exact h _ none (by simp only [moveC]; rw [if_pos (.inl (of_decide_eq_true d))])
    · exact h _ none (by simp only [moveC]; rw [if_pos (.inr (of_decide_eq_true e))])
    · exact h _ (some _) (by simp only [moveC]; rw [if_neg (fun q => q.elim (of_decide_eq_false d) (of_decide_eq_false e))])
theorem s_move : SoundT C0 88 tMove := by
  refine .ofW [0] Try.func88 (by decide) rfl fun args H K h hB => ?_
  unfold tMove at h
  split at h <;> try exact h.elim
  unfold cuM at h
  split at h <;> try exact h.elim
  rename_i k v ok other _ root lo hi place ek ev closed rd fr nd ct us gn rl
  obtain ⟨o, h1, h2, h3, h4⟩ := h
  exact ⟨A0, trivial, vc_move ⟨root, lo, hi, place, ek, ev, closed⟩ ⟨us, gn, rl, fr, nd, ct, rd⟩ k v other ok K o h1 h2 h3 h4⟩
def nextC (t : Tr) (c : Cur) : Cur × Option Ent × Int := if c.closed then (c, none, 6) else if c.place = 0 then ((moveC c (lsT t (fun k => decide (k ≥ c.lo)) none).1 2).1, (moveC c (lsT t (fun k => decide (k ≥ c.lo)) none).1 2).2, errE (moveC c (lsT t (fun k => decide (k ≥ c.lo)) none).1 2).2)
  else if c.place = 1 then ((moveC c (lsT t (fun k => decide (k > c.ek)) none).1 2).1, (moveC c (lsT t (fun k => decide (k > c.ek)) none).1 2).2, errE (moveC c (lsT t (fun k => decide (k > c.ek)) none).1 2).2) else (c, none, 4)
def tCu_next : Tfm C0 := fun args H K => match args with
  | [.at (.ptr 0 0)] => cuM H fun c S => ∃ hs t, Wf S hs ∧ Rep S t c.root ∧ t.size ≤ 1000000 ∧ S.reads + t.size ≤ 3000000000000000000 ∧ ∀ S' m c' r e, S' = rdS S m → m ≤ t.size → (c', r, e) = nextC t c → K (.tup [entO r, .at (vI e)]) (chC c' S') [0, 1]
  | _ => False
theorem vc_cu_next (c : Cur) (S : Arn) (K : KT) (hs : List Int) (t : Tr) (hw : Wf S hs) (hr : Rep S t c.root) (h1 : t.size ≤ 1000000) (h2 : S.reads + t.size ≤ 3000000000000000000)
    (h : ∀ S' m c' r e, S' = rdS S m → m ≤ t.size → (c', r, e) = nextC t c → K (.tup [entO r, .at (vI e)]) (chC c' S') [0, 1]) :
    vc C0 (aCu_next (fun S1 o => S1 = rdS S (lsT t (fun k => decide (k ≥ c.lo)) none).2 ∧ o = (lsT t (fun k => decide (k ≥ c.lo)) none).1) (fun S1 o => S1 = rdS S (lsT t (fun k => decide (k > c.ek)) none).2 ∧ o = (lsT t (fun k => decide (k > c.ek)) none).1) c)
      Try.f38 [.at (.ptr 0 0)] (chC c S) (normK 8 (wideK [0, 1] K)) := by
  generalize hP1 : (fun S1 o => S1 = rdS S (lsT t (fun k => decide (k ≥ c.lo)) none).2 ∧ o = (lsT t (fun k => decide (k ≥ c.lo)) none).1) = P1
  generalize hP2 : (fun S1 o => S1 = rdS S (lsT t (fun k => decide (k > c.ek)) none).2 ∧ o = (lsT t (fun k => decide (k > c.ek)) none).1) = P2
  refine Eq.mp (show (brS (c.closed)
  ((K (SV.tup [(TV.agg [(At.val (Value.int IntKind.i64 0)), (At.val (Value.int IntKind.i64 0))]), (TV.at (At.val (Value.int IntKind.i64 6)))]) [(Chunk.box [(At.ptr 1 0), (At.val (Value.int IntKind.u32 (c.root))), (At.val (Value.int IntKind.i64 (c.lo))), (At.val (Value.int IntKind.i64 (c.hi))), (At.val (Value.int IntKind.i64 (c.place))), (At.val (Value.int IntKind.i64 (c.ek))), (At.val (Value.int IntKind.i64 (c.ev))), (At.val (Value.bool (c.closed)))]), (Chunk.box [(At.ptr 2 0), (At.slc 3), (At.slc 4), (At.val (Value.int IntKind.u64 (S.reads)))]), (Chunk.box [(At.slc 5), (At.slc 6), (At.slc 7), (At.val (Value.int IntKind.u32 (S.fresh)))]), (Chunk.row true (EC.node) (S.nodes)), (Chunk.row true (EC.int) (S.counts)), (Chunk.row true (EC.bool) (S.used)), (Chunk.row true (EC.u32) (S.gen)), (Chunk.row true (EC.u32) (S.rel))] [0, 1]))
  ((brS (c.place == 0)
    ((((∃ hs : List Int,
      (∃ t : Tr,
        ((Wf S hs) ∧
        (Rep S t c.root) ∧
        (t.size ≤ 1000000) ∧
        (S.reads + (↑t.size : Int) ≤ 3000000000000000000) ∧
        (∀ S' : Arn,
          (∀ o : Option Ent,
            (((S') = (rdS S (lsT t (fun k => decide (k ≥ c.lo)) none).snd)) →
            (((o) = ((lsT t (fun k => decide (k ≥ c.lo)) none).fst)) →
            (∃ x : XCu P1,
              (True ∧
              (True ∧
              True ∧
              True ∧
              ((Value.bool (o.isSome)) = (Value.bool (x.o.isSome))) ∧
              True) ∧
              (True ∧
              ((Value.int IntKind.u32 (c.root)) = (Value.int IntKind.u32 (c.root))) ∧
              ((Value.int IntKind.i64 (c.lo)) = (Value.int IntKind.i64 (c.lo))) ∧
              ((Value.int IntKind.i64 (c.hi)) = (Value.int IntKind.i64 (c.hi))) ∧
              ((Value.int IntKind.i64 (c.place)) = (Value.int IntKind.i64 (c.place))) ∧
              ((Value.int IntKind.i64 (c.ek)) = (Value.int IntKind.i64 (c.ek))) ∧
              ((Value.int IntKind.i64 (c.ev)) = (Value.int IntKind.i64 (c.ev))) ∧
              ((Value.bool (c.closed)) = (Value.bool (c.closed))) ∧
              True) ∧
              (True ∧
              True ∧
              True ∧
              ((Value.int IntKind.u64 (S'.reads)) = (Value.int IntKind.u64 (x.S.reads))) ∧
              True) ∧
              (True ∧
              True ∧
              True ∧
              ((Value.int IntKind.u32 (S'.fresh)) = (Value.int IntKind.u32 (x.S.fresh))) ∧
              True) ∧
              ((S'.nodes) = (x.S.nodes)) ∧
              ((S'.counts) = (x.S.counts)) ∧
              ((S'.used) = (x.S.used)) ∧
              ((S'.gen) = (x.S.gen)) ∧
              ((S'.rel) = (x.S.rel)) ∧
              (((Value.int IntKind.i64 0) = (Value.int IntKind.i64 0)) ∧
              ((Value.int IntKind.i64 0) = (Value.int IntKind.i64 0)) ∧
              True) ∧
              (((Value.int IntKind.i64 ((o.getD (0, 0)).fst)) = (Value.int IntKind.i64 ((x.o.getD (0, 0)).fst))) ∧
              ((Value.int IntKind.i64 ((o.getD (0, 0)).snd)) = (Value.int IntKind.i64 ((x.o.getD (0, 0)).snd))) ∧
              True) ∧
              True))))))))) ∧
    (∃ hs : List Int,
      (∃ t : Tr,
        ((Wf S hs) ∧
        (Rep S t c.root) ∧
        (t.size ≤ 1000000) ∧
        (S.reads + (↑t.size : Int) ≤ 3000000000000000000) ∧
        (∀ S' : Arn,
          (∀ o : Option Ent,
            (((S') = (rdS S (lsT t (fun k => decide (k ≥ c.lo)) none).snd)) →
            (((o) = ((lsT t (fun k => decide (k ≥ c.lo)) none).fst)) →
            (∃ x : XCu P1,
              (True ∧
              (True ∧
              True ∧
              True ∧
              ((Value.bool (o.isSome)) = (Value.bool (x.o.isSome))) ∧
              True) ∧
              (True ∧
              ((Value.int IntKind.u32 (c.root)) = (Value.int IntKind.u32 (c.root))) ∧
              ((Value.int IntKind.i64 (c.lo)) = (Value.int IntKind.i64 (c.lo))) ∧
              ((Value.int IntKind.i64 (c.hi)) = (Value.int IntKind.i64 (c.hi))) ∧
              ((Value.int IntKind.i64 (c.place)) = (Value.int IntKind.i64 (c.place))) ∧
              ((Value.int IntKind.i64 (c.ek)) = (Value.int IntKind.i64 (c.ek))) ∧
              ((Value.int IntKind.i64 (c.ev)) = (Value.int IntKind.i64 (c.ev))) ∧
              ((Value.bool (c.closed)) = (Value.bool (c.closed))) ∧
              True) ∧
              (True ∧
              True ∧
              True ∧
              ((Value.int IntKind.u64 (S'.reads)) = (Value.int IntKind.u64 (x.S.reads))) ∧
              True) ∧
              (True ∧
              True ∧
              True ∧
              ((Value.int IntKind.u32 (S'.fresh)) = (Value.int IntKind.u32 (x.S.fresh))) ∧
              True) ∧
              ((S'.nodes) = (x.S.nodes)) ∧
              ((S'.counts) = (x.S.counts)) ∧
              ((S'.used) = (x.S.used)) ∧
              ((S'.gen) = (x.S.gen)) ∧
              ((S'.rel) = (x.S.rel)) ∧
              (((Value.int IntKind.i64 0) = (Value.int IntKind.i64 0)) ∧
              ((Value.int IntKind.i64 0) = (Value.int IntKind.i64 0)) ∧
              True) ∧
              (((Value.int IntKind.i64 ((o.getD (0, 0)).fst)) = (Value.int IntKind.i64 ((x.o.getD (0, 0)).fst))) ∧
              ((Value.int IntKind.i64 ((o.getD (0, 0)).snd)) = (Value.int IntKind.i64 ((x.o.getD (0, 0)).snd))) ∧
              True) ∧
              True)))))))))) ∧
    (∀ x : XCu P1,
      (True →
      (∃ o : Option Ent,
        (((x.o.isSome) = (o.isSome)) ∧
        (((x.o.getD (0, 0)).fst) = ((o.getD (0, 0)).fst)) ∧
        (((x.o.getD (0, 0)).snd) = ((o.getD (0, 0)).snd)) ∧
        (∀ c' : Cur,
          (∀ r : Option Ent,
            (((Prod.mk (c') (r)) = (moveC c o 2)) →
            (K (SV.tup [(TV.agg [(At.val (Value.int IntKind.i64 ((r.getD (0, 0)).fst))), (At.val (Value.int IntKind.i64 ((r.getD (0, 0)).snd)))]), (TV.at (At.val (Value.int IntKind.i64 (errE r))))]) [(Chunk.box [(At.ptr 1 0), (At.val (Value.int IntKind.u32 (c'.root))), (At.val (Value.int IntKind.i64 (c'.lo))), (At.val (Value.int IntKind.i64 (c'.hi))), (At.val (Value.int IntKind.i64 (c'.place))), (At.val (Value.int IntKind.i64 (c'.ek))), (At.val (Value.int IntKind.i64 (c'.ev))), (At.val (Value.bool (c'.closed)))]), (Chunk.box [(At.ptr 2 0), (At.slc 3), (At.slc 4), (At.val (Value.int IntKind.u64 (x.S.reads)))]), (Chunk.box [(At.slc 5), (At.slc 6), (At.slc 7), (At.val (Value.int IntKind.u32 (x.S.fresh)))]), (Chunk.row true (EC.node) (x.S.nodes)), (Chunk.row true (EC.int) (x.S.counts)), (Chunk.row true (EC.bool) (x.S.used)), (Chunk.row true (EC.u32) (x.S.gen)), (Chunk.row true (EC.u32) (x.S.rel))] [0, 1]))))))))))
    ((brS (c.place == 1)
      ((((∃ hs : List Int,
        (∃ t : Tr,
          ((Wf S hs) ∧
          (Rep S t c.root) ∧
          (t.size ≤ 1000000) ∧
          (S.reads + (↑t.size : Int) ≤ 3000000000000000000) ∧
          (∀ S' : Arn,
            (∀ o : Option Ent,
              (((S') = (rdS S (lsT t (fun k => decide (k > c.ek)) none).snd)) →
              (((o) = ((lsT t (fun k => decide (k > c.ek)) none).fst)) →
              (∃ x : XCu P2,
                (True ∧
                (True ∧
                True ∧
                True ∧
                ((Value.bool (o.isSome)) = (Value.bool (x.o.isSome))) ∧
                True) ∧
                (True ∧
                ((Value.int IntKind.u32 (c.root)) = (Value.int IntKind.u32 (c.root))) ∧
                ((Value.int IntKind.i64 (c.lo)) = (Value.int IntKind.i64 (c.lo))) ∧
                ((Value.int IntKind.i64 (c.hi)) = (Value.int IntKind.i64 (c.hi))) ∧
                ((Value.int IntKind.i64 (c.place)) = (Value.int IntKind.i64 (c.place))) ∧
                ((Value.int IntKind.i64 (c.ek)) = (Value.int IntKind.i64 (c.ek))) ∧
                ((Value.int IntKind.i64 (c.ev)) = (Value.int IntKind.i64 (c.ev))) ∧
                ((Value.bool (c.closed)) = (Value.bool (c.closed))) ∧
                True) ∧
                (True ∧
                True ∧
                True ∧
                ((Value.int IntKind.u64 (S'.reads)) = (Value.int IntKind.u64 (x.S.reads))) ∧
                True) ∧
                (True ∧
                True ∧
                True ∧
                ((Value.int IntKind.u32 (S'.fresh)) = (Value.int IntKind.u32 (x.S.fresh))) ∧
                True) ∧
                ((S'.nodes) = (x.S.nodes)) ∧
                ((S'.counts) = (x.S.counts)) ∧
                ((S'.used) = (x.S.used)) ∧
                ((S'.gen) = (x.S.gen)) ∧
                ((S'.rel) = (x.S.rel)) ∧
                (((Value.int IntKind.i64 0) = (Value.int IntKind.i64 0)) ∧
                ((Value.int IntKind.i64 0) = (Value.int IntKind.i64 0)) ∧
                True) ∧
                (((Value.int IntKind.i64 ((o.getD (0, 0)).fst)) = (Value.int IntKind.i64 ((x.o.getD (0, 0)).fst))) ∧
                ((Value.int IntKind.i64 ((o.getD (0, 0)).snd)) = (Value.int IntKind.i64 ((x.o.getD (0, 0)).snd))) ∧
                True) ∧
                True))))))))) ∧
      (∃ hs : List Int,
        (∃ t : Tr,
          ((Wf S hs) ∧
          (Rep S t c.root) ∧
          (t.size ≤ 1000000) ∧
          (S.reads + (↑t.size : Int) ≤ 3000000000000000000) ∧
          (∀ S' : Arn,
            (∀ o : Option Ent,
              (((S') = (rdS S (lsT t (fun k => decide (k > c.ek)) none).snd)) →
              (((o) = ((lsT t (fun k => decide (k > c.ek)) none).fst)) →
              (∃ x : XCu P2,
                (True ∧
                (True ∧
                True ∧
                True ∧
                ((Value.bool (o.isSome)) = (Value.bool (x.o.isSome))) ∧
                True) ∧
                (True ∧
                ((Value.int IntKind.u32 (c.root)) = (Value.int IntKind.u32 (c.root))) ∧
                ((Value.int IntKind.i64 (c.lo)) = (Value.int IntKind.i64 (c.lo))) ∧
                ((Value.int IntKind.i64 (c.hi)) = (Value.int IntKind.i64 (c.hi))) ∧
                ((Value.int IntKind.i64 (c.place)) = (Value.int IntKind.i64 (c.place))) ∧
                ((Value.int IntKind.i64 (c.ek)) = (Value.int IntKind.i64 (c.ek))) ∧
                ((Value.int IntKind.i64 (c.ev)) = (Value.int IntKind.i64 (c.ev))) ∧
                ((Value.bool (c.closed)) = (Value.bool (c.closed))) ∧
                True) ∧
                (True ∧
                True ∧
                True ∧
                ((Value.int IntKind.u64 (S'.reads)) = (Value.int IntKind.u64 (x.S.reads))) ∧
                True) ∧
                (True ∧
                True ∧
                True ∧
                ((Value.int IntKind.u32 (S'.fresh)) = (Value.int IntKind.u32 (x.S.fresh))) ∧
                True) ∧
                ((S'.nodes) = (x.S.nodes)) ∧
                ((S'.counts) = (x.S.counts)) ∧
                ((S'.used) = (x.S.used)) ∧
                ((S'.gen) = (x.S.gen)) ∧
                ((S'.rel) = (x.S.rel)) ∧
                (((Value.int IntKind.i64 0) = (Value.int IntKind.i64 0)) ∧
                ((Value.int IntKind.i64 0) = (Value.int IntKind.i64 0)) ∧
                True) ∧
                (((Value.int IntKind.i64 ((o.getD (0, 0)).fst)) = (Value.int IntKind.i64 ((x.o.getD (0, 0)).fst))) ∧
                ((Value.int IntKind.i64 ((o.getD (0, 0)).snd)) = (Value.int IntKind.i64 ((x.o.getD (0, 0)).snd))) ∧
                True) ∧
                True)))))))))) ∧
      (∀ x : XCu P2,
        (True →
        (∃ o : Option Ent,
          (((x.o.isSome) = (o.isSome)) ∧
          (((x.o.getD (0, 0)).fst) = ((o.getD (0, 0)).fst)) ∧
          (((x.o.getD (0, 0)).snd) = ((o.getD (0, 0)).snd)) ∧
          (∀ c' : Cur,
            (∀ r : Option Ent,
              (((Prod.mk (c') (r)) = (moveC c o 2)) →
              (K (SV.tup [(TV.agg [(At.val (Value.int IntKind.i64 ((r.getD (0, 0)).fst))), (At.val (Value.int IntKind.i64 ((r.getD (0, 0)).snd)))]), (TV.at (At.val (Value.int IntKind.i64 (errE r))))]) [(Chunk.box [(At.ptr 1 0), (At.val (Value.int IntKind.u32 (c'.root))), (At.val (Value.int IntKind.i64 (c'.lo))), (At.val (Value.int IntKind.i64 (c'.hi))), (At.val (Value.int IntKind.i64 (c'.place))), (At.val (Value.int IntKind.i64 (c'.ek))), (At.val (Value.int IntKind.i64 (c'.ev))), (At.val (Value.bool (c'.closed)))]), (Chunk.box [(At.ptr 2 0), (At.slc 3), (At.slc 4), (At.val (Value.int IntKind.u64 (x.S.reads)))]), (Chunk.box [(At.slc 5), (At.slc 6), (At.slc 7), (At.val (Value.int IntKind.u32 (x.S.fresh)))]), (Chunk.row true (EC.node) (x.S.nodes)), (Chunk.row true (EC.int) (x.S.counts)), (Chunk.row true (EC.bool) (x.S.used)), (Chunk.row true (EC.u32) (x.S.gen)), (Chunk.row true (EC.u32) (x.S.rel))] [0, 1]))))))))))
      ((K (SV.tup [(TV.agg [(At.val (Value.int IntKind.i64 0)), (At.val (Value.int IntKind.i64 0))]), (TV.at (At.val (Value.int IntKind.i64 4)))]) [(Chunk.box [(At.ptr 1 0), (At.val (Value.int IntKind.u32 (c.root))), (At.val (Value.int IntKind.i64 (c.lo))), (At.val (Value.int IntKind.i64 (c.hi))), (At.val (Value.int IntKind.i64 (c.place))), (At.val (Value.int IntKind.i64 (c.ek))), (At.val (Value.int IntKind.i64 (c.ev))), (At.val (Value.bool (c.closed)))]), (Chunk.box [(At.ptr 2 0), (At.slc 3), (At.slc 4), (At.val (Value.int IntKind.u64 (S.reads)))]), (Chunk.box [(At.slc 5), (At.slc 6), (At.slc 7), (At.val (Value.int IntKind.u32 (S.fresh)))]), (Chunk.row true (EC.node) (S.nodes)), (Chunk.row true (EC.int) (S.counts)), (Chunk.row true (EC.bool) (S.used)), (Chunk.row true (EC.u32) (S.gen)), (Chunk.row true (EC.u32) (S.rel))] [0, 1]))))))) = _ by kernel_rfl) ?_
  subst hP1 hP2
  refine brS_of (fun d => ?_) fun d => brS_of (fun e => ?_) fun e => ?_
  · exact h S 0 c none 6 (rdS_zero S).symm (Nat.zero_le _) (by rw [nextC, if_pos d])
  all_goals have d : ¬ c.closed = true := by rw [d]; decide
  · have e : c.place = 0 := by simpa using e
    refine ⟨⟨⟨hs, t, hw, hr, h1, h2, fun S1 o a1 a2 => ⟨⟨S1, o, a1, a2⟩, ?_⟩⟩, hs, t, hw, hr, h1, h2, fun S1 o a1 a2 => ⟨⟨S1, o, a1, a2⟩, ?_⟩⟩, fun x _ => ⟨x.o, rfl, rfl, rfl, fun c' r b4 => ?_⟩⟩
    · (repeat' first | exact trivial | exact rfl | refine And.intro ?_ ?_)
    · (repeat' first | exact trivial | exact rfl | refine And.intro ?_ ?_)
    · obtain ⟨x1, x2⟩ := x.h
      rw [x2] at b4
      refine h x.S _ c' r _ x1 (lsT_le _ _ _) ?_
      rw [nextC, if_neg d, if_pos e, ← b4]
  · have e : ¬ c.place = 0 := by simpa using e
    refine brS_of (fun f => ?_) fun f => ?_
    · have f : c.place = 1 := by simpa using f
      refine ⟨⟨⟨hs, t, hw, hr, h1, h2, fun S1 o a1 a2 => ⟨⟨S1, o, a1, a2⟩, ?_⟩⟩, hs, t, hw, hr, h1, h2, fun S1 o a1 a2 => ⟨⟨S1, o, a1, a2⟩, ?_⟩⟩, fun x _ => ⟨x.o, rfl, rfl, rfl, fun c' r b4 => ?_⟩⟩
      · (repeat' first | exact trivial | exact rfl | refine And.intro ?_ ?_)
      · (repeat' first | exact trivial | exact rfl | refine And.intro ?_ ?_)
      · obtain ⟨x1, x2⟩ := x.h
        rw [x2] at b4
        refine h x.S _ c' r _ x1 (lsT_le _ _ _) ?_
        rw [nextC, if_neg d, if_neg e, if_pos f, ← b4]
    · have f : ¬ c.place = 1 := by simpa using f
      exact h S 0 c none 4 (rdS_zero S).symm (Nat.zero_le _) (by rw [nextC, if_neg d, if_neg e, if_neg f])
theorem s_cu_next : SoundT C0 38 tCu_next := by
  refine .ofW [0, 1] Try.func38 (by decide) rfl fun args H K h hB => ?_
  unfold tCu_next at h
  split at h <;> try exact h.elim
  unfold cuM at h
  split at h <;> try exact h.elim
  rename_i root lo hi place ek ev closed rd fr nd ct us gn rl
  obtain ⟨hs, t, h1, h2, h3, h4, h5⟩ := h
  refine ⟨_, ?_, vc_cu_next ⟨root, lo, hi, place, ek, ev, closed⟩ ⟨us, gn, rl, fr, nd, ct, rd⟩ K hs t h1 h2 h3 h4 h5⟩
  exact ⟨frame C0.ok s_lu_ceil _, frame C0.ok s_lu_above _, frame C0.ok s_move _, trivial⟩
def prevC (t : Tr) (c : Cur) : Cur × Option Ent × Int := if c.closed then (c, none, 6) else if c.place = 2 then ((moveC c (gtT t (fun k => decide (k ≤ c.hi)) none).1 0).1, (moveC c (gtT t (fun k => decide (k ≤ c.hi)) none).1 0).2, errE (moveC c (gtT t (fun k => decide (k ≤ c.hi)) none).1 0).2)
  else if c.place = 1 then ((moveC c (gtT t (fun k => decide (k < c.ek)) none).1 0).1, (moveC c (gtT t (fun k => decide (k < c.ek)) none).1 0).2, errE (moveC c (gtT t (fun k => decide (k < c.ek)) none).1 0).2) else (c, none, 4)
def tCu_prev : Tfm C0 := fun args H K => match args with
  | [.at (.ptr 0 0)] => cuM H fun c S => ∃ hs t, Wf S hs ∧ Rep S t c.root ∧ t.size ≤ 1000000 ∧ S.reads + t.size ≤ 3000000000000000000 ∧ ∀ S' m c' r e, S' = rdS S m → m ≤ t.size → (c', r, e) = prevC t c → K (.tup [entO r, .at (vI e)]) (chC c' S') [0, 1]
  | _ => False
theorem vc_cu_prev (c : Cur) (S : Arn) (K : KT) (hs : List Int) (t : Tr) (hw : Wf S hs) (hr : Rep S t c.root) (h1 : t.size ≤ 1000000) (h2 : S.reads + t.size ≤ 3000000000000000000)
    (h : ∀ S' m c' r e, S' = rdS S m → m ≤ t.size → (c', r, e) = prevC t c → K (.tup [entO r, .at (vI e)]) (chC c' S') [0, 1]) :
    vc C0 (aCu_prev (fun S1 o => S1 = rdS S (gtT t (fun k => decide (k ≤ c.hi)) none).2 ∧ o = (gtT t (fun k => decide (k ≤ c.hi)) none).1) (fun S1 o => S1 = rdS S (gtT t (fun k => decide (k < c.ek)) none).2 ∧ o = (gtT t (fun k => decide (k < c.ek)) none).1) c)
      Try.f39 [.at (.ptr 0 0)] (chC c S) (normK 8 (wideK [0, 1] K)) := by
  generalize hP1 : (fun S1 o => S1 = rdS S (gtT t (fun k => decide (k ≤ c.hi)) none).2 ∧ o = (gtT t (fun k => decide (k ≤ c.hi)) none).1) = P1
  generalize hP2 : (fun S1 o => S1 = rdS S (gtT t (fun k => decide (k < c.ek)) none).2 ∧ o = (gtT t (fun k => decide (k < c.ek)) none).1) = P2
  refine Eq.mp (show (brS (c.closed)
  ((K (SV.tup [(TV.agg [(At.val (Value.int IntKind.i64 0)), (At.val (Value.int IntKind.i64 0))]), (TV.at (At.val (Value.int IntKind.i64 6)))]) [(Chunk.box [(At.ptr 1 0), (At.val (Value.int IntKind.u32 (c.root))), (At.val (Value.int IntKind.i64 (c.lo))), (At.val (Value.int IntKind.i64 (c.hi))), (At.val (Value.int IntKind.i64 (c.place))), (At.val (Value.int IntKind.i64 (c.ek))), (At.val (Value.int IntKind.i64 (c.ev))), (At.val (Value.bool (c.closed)))]), (Chunk.box [(At.ptr 2 0), (At.slc 3), (At.slc 4), (At.val (Value.int IntKind.u64 (S.reads)))]), (Chunk.box [(At.slc 5), (At.slc 6), (At.slc 7), (At.val (Value.int IntKind.u32 (S.fresh)))]), (Chunk.row true (EC.node) (S.nodes)), (Chunk.row true (EC.int) (S.counts)), (Chunk.row true (EC.bool) (S.used)), (Chunk.row true (EC.u32) (S.gen)), (Chunk.row true (EC.u32) (S.rel))] [0, 1]))
  ((brS (c.place == 2)
    ((((∃ hs : List Int,
      (∃ t : Tr,
        ((Wf S hs) ∧
        (Rep S t c.root) ∧
        (t.size ≤ 1000000) ∧
        (S.reads + (↑t.size : Int) ≤ 3000000000000000000) ∧
        (∀ S' : Arn,
          (∀ o : Option Ent,
            (((S') = (rdS S (gtT t (fun k => decide (k ≤ c.hi)) none).snd)) →
            (((o) = ((gtT t (fun k => decide (k ≤ c.hi)) none).fst)) →
            (∃ x : XCu P1,
              (True ∧
              (True ∧
              True ∧
              True ∧
              ((Value.bool (o.isSome)) = (Value.bool (x.o.isSome))) ∧
              True) ∧
              (True ∧
              ((Value.int IntKind.u32 (c.root)) = (Value.int IntKind.u32 (c.root))) ∧
              ((Value.int IntKind.i64 (c.lo)) = (Value.int IntKind.i64 (c.lo))) ∧
              ((Value.int IntKind.i64 (c.hi)) = (Value.int IntKind.i64 (c.hi))) ∧
              ((Value.int IntKind.i64 (c.place)) = (Value.int IntKind.i64 (c.place))) ∧
              ((Value.int IntKind.i64 (c.ek)) = (Value.int IntKind.i64 (c.ek))) ∧
              ((Value.int IntKind.i64 (c.ev)) = (Value.int IntKind.i64 (c.ev))) ∧
              ((Value.bool (c.closed)) = (Value.bool (c.closed))) ∧
              True) ∧
              (True ∧
              True ∧
              True ∧
              ((Value.int IntKind.u64 (S'.reads)) = (Value.int IntKind.u64 (x.S.reads))) ∧
              True) ∧
              (True ∧
              True ∧
              True ∧
              ((Value.int IntKind.u32 (S'.fresh)) = (Value.int IntKind.u32 (x.S.fresh))) ∧
              True) ∧
              ((S'.nodes) = (x.S.nodes)) ∧
              ((S'.counts) = (x.S.counts)) ∧
              ((S'.used) = (x.S.used)) ∧
              ((S'.gen) = (x.S.gen)) ∧
              ((S'.rel) = (x.S.rel)) ∧
              (((Value.int IntKind.i64 0) = (Value.int IntKind.i64 0)) ∧
              ((Value.int IntKind.i64 0) = (Value.int IntKind.i64 0)) ∧
              True) ∧
              (((Value.int IntKind.i64 ((o.getD (0, 0)).fst)) = (Value.int IntKind.i64 ((x.o.getD (0, 0)).fst))) ∧
              ((Value.int IntKind.i64 ((o.getD (0, 0)).snd)) = (Value.int IntKind.i64 ((x.o.getD (0, 0)).snd))) ∧
              True) ∧
              True))))))))) ∧
    (∃ hs : List Int,
      (∃ t : Tr,
        ((Wf S hs) ∧
        (Rep S t c.root) ∧
        (t.size ≤ 1000000) ∧
        (S.reads + (↑t.size : Int) ≤ 3000000000000000000) ∧
        (∀ S' : Arn,
          (∀ o : Option Ent,
            (((S') = (rdS S (gtT t (fun k => decide (k ≤ c.hi)) none).snd)) →
            (((o) = ((gtT t (fun k => decide (k ≤ c.hi)) none).fst)) →
            (∃ x : XCu P1,
              (True ∧
              (True ∧
              True ∧
              True ∧
              ((Value.bool (o.isSome)) = (Value.bool (x.o.isSome))) ∧
              True) ∧
              (True ∧
              ((Value.int IntKind.u32 (c.root)) = (Value.int IntKind.u32 (c.root))) ∧
              ((Value.int IntKind.i64 (c.lo)) = (Value.int IntKind.i64 (c.lo))) ∧
              ((Value.int IntKind.i64 (c.hi)) = (Value.int IntKind.i64 (c.hi))) ∧
              ((Value.int IntKind.i64 (c.place)) = (Value.int IntKind.i64 (c.place))) ∧
              ((Value.int IntKind.i64 (c.ek)) = (Value.int IntKind.i64 (c.ek))) ∧
              ((Value.int IntKind.i64 (c.ev)) = (Value.int IntKind.i64 (c.ev))) ∧
              ((Value.bool (c.closed)) = (Value.bool (c.closed))) ∧
              True) ∧
              (True ∧
              True ∧
              True ∧
              ((Value.int IntKind.u64 (S'.reads)) = (Value.int IntKind.u64 (x.S.reads))) ∧
              True) ∧
              (True ∧
              True ∧
              True ∧
              ((Value.int IntKind.u32 (S'.fresh)) = (Value.int IntKind.u32 (x.S.fresh))) ∧
              True) ∧
              ((S'.nodes) = (x.S.nodes)) ∧
              ((S'.counts) = (x.S.counts)) ∧
              ((S'.used) = (x.S.used)) ∧
              ((S'.gen) = (x.S.gen)) ∧
              ((S'.rel) = (x.S.rel)) ∧
              (((Value.int IntKind.i64 0) = (Value.int IntKind.i64 0)) ∧
              ((Value.int IntKind.i64 0) = (Value.int IntKind.i64 0)) ∧
              True) ∧
              (((Value.int IntKind.i64 ((o.getD (0, 0)).fst)) = (Value.int IntKind.i64 ((x.o.getD (0, 0)).fst))) ∧
              ((Value.int IntKind.i64 ((o.getD (0, 0)).snd)) = (Value.int IntKind.i64 ((x.o.getD (0, 0)).snd))) ∧
              True) ∧
              True)))))))))) ∧
    (∀ x : XCu P1,
      (True →
      (∃ o : Option Ent,
        (((x.o.isSome) = (o.isSome)) ∧
        (((x.o.getD (0, 0)).fst) = ((o.getD (0, 0)).fst)) ∧
        (((x.o.getD (0, 0)).snd) = ((o.getD (0, 0)).snd)) ∧
        (∀ c' : Cur,
          (∀ r : Option Ent,
            (((Prod.mk (c') (r)) = (moveC c o 0)) →
            (K (SV.tup [(TV.agg [(At.val (Value.int IntKind.i64 ((r.getD (0, 0)).fst))), (At.val (Value.int IntKind.i64 ((r.getD (0, 0)).snd)))]), (TV.at (At.val (Value.int IntKind.i64 (errE r))))]) [(Chunk.box [(At.ptr 1 0), (At.val (Value.int IntKind.u32 (c'.root))), (At.val (Value.int IntKind.i64 (c'.lo))), (At.val (Value.int IntKind.i64 (c'.hi))), (At.val (Value.int IntKind.i64 (c'.place))), (At.val (Value.int IntKind.i64 (c'.ek))), (At.val (Value.int IntKind.i64 (c'.ev))), (At.val (Value.bool (c'.closed)))]), (Chunk.box [(At.ptr 2 0), (At.slc 3), (At.slc 4), (At.val (Value.int IntKind.u64 (x.S.reads)))]), (Chunk.box [(At.slc 5), (At.slc 6), (At.slc 7), (At.val (Value.int IntKind.u32 (x.S.fresh)))]), (Chunk.row true (EC.node) (x.S.nodes)), (Chunk.row true (EC.int) (x.S.counts)), (Chunk.row true (EC.bool) (x.S.used)), (Chunk.row true (EC.u32) (x.S.gen)), (Chunk.row true (EC.u32) (x.S.rel))] [0, 1]))))))))))
    ((brS (c.place == 1)
      ((((∃ hs : List Int,
        (∃ t : Tr,
          ((Wf S hs) ∧
          (Rep S t c.root) ∧
          (t.size ≤ 1000000) ∧
          (S.reads + (↑t.size : Int) ≤ 3000000000000000000) ∧
          (∀ S' : Arn,
            (∀ o : Option Ent,
              (((S') = (rdS S (gtT t (fun k => decide (k < c.ek)) none).snd)) →
              (((o) = ((gtT t (fun k => decide (k < c.ek)) none).fst)) →
              (∃ x : XCu P2,
                (True ∧
                (True ∧
                True ∧
                True ∧
                ((Value.bool (o.isSome)) = (Value.bool (x.o.isSome))) ∧
                True) ∧
                (True ∧
                ((Value.int IntKind.u32 (c.root)) = (Value.int IntKind.u32 (c.root))) ∧
                ((Value.int IntKind.i64 (c.lo)) = (Value.int IntKind.i64 (c.lo))) ∧
                ((Value.int IntKind.i64 (c.hi)) = (Value.int IntKind.i64 (c.hi))) ∧
                ((Value.int IntKind.i64 (c.place)) = (Value.int IntKind.i64 (c.place))) ∧
                ((Value.int IntKind.i64 (c.ek)) = (Value.int IntKind.i64 (c.ek))) ∧
                ((Value.int IntKind.i64 (c.ev)) = (Value.int IntKind.i64 (c.ev))) ∧
                ((Value.bool (c.closed)) = (Value.bool (c.closed))) ∧
                True) ∧
                (True ∧
                True ∧
                True ∧
                ((Value.int IntKind.u64 (S'.reads)) = (Value.int IntKind.u64 (x.S.reads))) ∧
                True) ∧
                (True ∧
                True ∧
                True ∧
                ((Value.int IntKind.u32 (S'.fresh)) = (Value.int IntKind.u32 (x.S.fresh))) ∧
                True) ∧
                ((S'.nodes) = (x.S.nodes)) ∧
                ((S'.counts) = (x.S.counts)) ∧
                ((S'.used) = (x.S.used)) ∧
                ((S'.gen) = (x.S.gen)) ∧
                ((S'.rel) = (x.S.rel)) ∧
                (((Value.int IntKind.i64 0) = (Value.int IntKind.i64 0)) ∧
                ((Value.int IntKind.i64 0) = (Value.int IntKind.i64 0)) ∧
                True) ∧
                (((Value.int IntKind.i64 ((o.getD (0, 0)).fst)) = (Value.int IntKind.i64 ((x.o.getD (0, 0)).fst))) ∧
                ((Value.int IntKind.i64 ((o.getD (0, 0)).snd)) = (Value.int IntKind.i64 ((x.o.getD (0, 0)).snd))) ∧
                True) ∧
                True))))))))) ∧
      (∃ hs : List Int,
        (∃ t : Tr,
          ((Wf S hs) ∧
          (Rep S t c.root) ∧
          (t.size ≤ 1000000) ∧
          (S.reads + (↑t.size : Int) ≤ 3000000000000000000) ∧
          (∀ S' : Arn,
            (∀ o : Option Ent,
              (((S') = (rdS S (gtT t (fun k => decide (k < c.ek)) none).snd)) →
              (((o) = ((gtT t (fun k => decide (k < c.ek)) none).fst)) →
              (∃ x : XCu P2,
                (True ∧
                (True ∧
                True ∧
                True ∧
                ((Value.bool (o.isSome)) = (Value.bool (x.o.isSome))) ∧
                True) ∧
                (True ∧
                ((Value.int IntKind.u32 (c.root)) = (Value.int IntKind.u32 (c.root))) ∧
                ((Value.int IntKind.i64 (c.lo)) = (Value.int IntKind.i64 (c.lo))) ∧
                ((Value.int IntKind.i64 (c.hi)) = (Value.int IntKind.i64 (c.hi))) ∧
                ((Value.int IntKind.i64 (c.place)) = (Value.int IntKind.i64 (c.place))) ∧
                ((Value.int IntKind.i64 (c.ek)) = (Value.int IntKind.i64 (c.ek))) ∧
                ((Value.int IntKind.i64 (c.ev)) = (Value.int IntKind.i64 (c.ev))) ∧
                ((Value.bool (c.closed)) = (Value.bool (c.closed))) ∧
                True) ∧
                (True ∧
                True ∧
                True ∧
                ((Value.int IntKind.u64 (S'.reads)) = (Value.int IntKind.u64 (x.S.reads))) ∧
                True) ∧
                (True ∧
                True ∧
                True ∧
                ((Value.int IntKind.u32 (S'.fresh)) = (Value.int IntKind.u32 (x.S.fresh))) ∧
                True) ∧
                ((S'.nodes) = (x.S.nodes)) ∧
                ((S'.counts) = (x.S.counts)) ∧
                ((S'.used) = (x.S.used)) ∧
                ((S'.gen) = (x.S.gen)) ∧
                ((S'.rel) = (x.S.rel)) ∧
                (((Value.int IntKind.i64 0) = (Value.int IntKind.i64 0)) ∧
                ((Value.int IntKind.i64 0) = (Value.int IntKind.i64 0)) ∧
                True) ∧
                (((Value.int IntKind.i64 ((o.getD (0, 0)).fst)) = (Value.int IntKind.i64 ((x.o.getD (0, 0)).fst))) ∧
                ((Value.int IntKind.i64 ((o.getD (0, 0)).snd)) = (Value.int IntKind.i64 ((x.o.getD (0, 0)).snd))) ∧
                True) ∧
                True)))))))))) ∧
      (∀ x : XCu P2,
        (True →
        (∃ o : Option Ent,
          (((x.o.isSome) = (o.isSome)) ∧
          (((x.o.getD (0, 0)).fst) = ((o.getD (0, 0)).fst)) ∧
          (((x.o.getD (0, 0)).snd) = ((o.getD (0, 0)).snd)) ∧
          (∀ c' : Cur,
            (∀ r : Option Ent,
              (((Prod.mk (c') (r)) = (moveC c o 0)) →
              (K (SV.tup [(TV.agg [(At.val (Value.int IntKind.i64 ((r.getD (0, 0)).fst))), (At.val (Value.int IntKind.i64 ((r.getD (0, 0)).snd)))]), (TV.at (At.val (Value.int IntKind.i64 (errE r))))]) [(Chunk.box [(At.ptr 1 0), (At.val (Value.int IntKind.u32 (c'.root))), (At.val (Value.int IntKind.i64 (c'.lo))), (At.val (Value.int IntKind.i64 (c'.hi))), (At.val (Value.int IntKind.i64 (c'.place))), (At.val (Value.int IntKind.i64 (c'.ek))), (At.val (Value.int IntKind.i64 (c'.ev))), (At.val (Value.bool (c'.closed)))]), (Chunk.box [(At.ptr 2 0), (At.slc 3), (At.slc 4), (At.val (Value.int IntKind.u64 (x.S.reads)))]), (Chunk.box [(At.slc 5), (At.slc 6), (At.slc 7), (At.val (Value.int IntKind.u32 (x.S.fresh)))]), (Chunk.row true (EC.node) (x.S.nodes)), (Chunk.row true (EC.int) (x.S.counts)), (Chunk.row true (EC.bool) (x.S.used)), (Chunk.row true (EC.u32) (x.S.gen)), (Chunk.row true (EC.u32) (x.S.rel))] [0, 1]))))))))))
      ((K (SV.tup [(TV.agg [(At.val (Value.int IntKind.i64 0)), (At.val (Value.int IntKind.i64 0))]), (TV.at (At.val (Value.int IntKind.i64 4)))]) [(Chunk.box [(At.ptr 1 0), (At.val (Value.int IntKind.u32 (c.root))), (At.val (Value.int IntKind.i64 (c.lo))), (At.val (Value.int IntKind.i64 (c.hi))), (At.val (Value.int IntKind.i64 (c.place))), (At.val (Value.int IntKind.i64 (c.ek))), (At.val (Value.int IntKind.i64 (c.ev))), (At.val (Value.bool (c.closed)))]), (Chunk.box [(At.ptr 2 0), (At.slc 3), (At.slc 4), (At.val (Value.int IntKind.u64 (S.reads)))]), (Chunk.box [(At.slc 5), (At.slc 6), (At.slc 7), (At.val (Value.int IntKind.u32 (S.fresh)))]), (Chunk.row true (EC.node) (S.nodes)), (Chunk.row true (EC.int) (S.counts)), (Chunk.row true (EC.bool) (S.used)), (Chunk.row true (EC.u32) (S.gen)), (Chunk.row true (EC.u32) (S.rel))] [0, 1]))))))) = _ by kernel_rfl) ?_
  subst hP1 hP2
  refine brS_of (fun d => ?_) fun d => brS_of (fun e => ?_) fun e => ?_
  · exact h S 0 c none 6 (rdS_zero S).symm (Nat.zero_le _) (by rw [prevC, if_pos d])
  all_goals have d : ¬ c.closed = true := by rw [d]; decide
  · have e : c.place = 2 := by simpa using e
    refine ⟨⟨⟨hs, t, hw, hr, h1, h2, fun S1 o a1 a2 => ⟨⟨S1, o, a1, a2⟩, ?_⟩⟩, hs, t, hw, hr, h1, h2, fun S1 o a1 a2 => ⟨⟨S1, o, a1, a2⟩, ?_⟩⟩, fun x _ => ⟨x.o, rfl, rfl, rfl, fun c' r b4 => ?_⟩⟩
    · (repeat' first | exact trivial | exact rfl | refine And.intro ?_ ?_)
    · (repeat' first | exact trivial | exact rfl | refine And.intro ?_ ?_)
    · obtain ⟨x1, x2⟩ := x.h
      rw [x2] at b4
      refine h x.S _ c' r _ x1 (gtT_le _ _ _) ?_
      rw [prevC, if_neg d, if_pos e, ← b4]
  · have e : ¬ c.place = 2 := by simpa using e
    refine brS_of (fun f => ?_) fun f => ?_
    · have f : c.place = 1 := by simpa using f
      refine ⟨⟨⟨hs, t, hw, hr, h1, h2, fun S1 o a1 a2 => ⟨⟨S1, o, a1, a2⟩, ?_⟩⟩, hs, t, hw, hr, h1, h2, fun S1 o a1 a2 => ⟨⟨S1, o, a1, a2⟩, ?_⟩⟩, fun x _ => ⟨x.o, rfl, rfl, rfl, fun c' r b4 => ?_⟩⟩
      · (repeat' first | exact trivial | exact rfl | refine And.intro ?_ ?_)
      · (repeat' first | exact trivial | exact rfl | refine And.intro ?_ ?_)
      · obtain ⟨x1, x2⟩ := x.h
        rw [x2] at b4
        refine h x.S _ c' r _ x1 (gtT_le _ _ _) ?_
        rw [prevC, if_neg d, if_neg e, if_pos f, ← b4]
    · have f : ¬ c.place = 1 := by simpa using f
      exact h S 0 c none 4 (rdS_zero S).symm (Nat.zero_le _) (by rw [prevC, if_neg d, if_neg e, if_neg f])
theorem s_cu_prev : SoundT C0 39 tCu_prev := by
  refine .ofW [0, 1] Try.func39 (by decide) rfl fun args H K h hB => ?_
  unfold tCu_prev at h
  split at h <;> try exact h.elim
  unfold cuM at h
  split at h <;> try exact h.elim
  rename_i root lo hi place ek ev closed rd fr nd ct us gn rl
  obtain ⟨hs, t, h1, h2, h3, h4, h5⟩ := h
  refine ⟨_, ?_, vc_cu_prev ⟨root, lo, hi, place, ek, ev, closed⟩ ⟨us, gn, rl, fr, nd, ct, rd⟩ K hs t h1 h2 h3 h4 h5⟩
  exact ⟨frame C0.ok s_lu_floor _, frame C0.ok s_lu_below _, frame C0.ok s_move _, trivial⟩
end Go.Proofs.Ytacdmmomkngpkaa.Sx
