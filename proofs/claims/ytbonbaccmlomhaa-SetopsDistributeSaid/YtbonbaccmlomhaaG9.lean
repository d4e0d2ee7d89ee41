/- A part of the proof. -/
import Derived.Test.YtbonbaccmlomhaaG8
import Derived.Test.YtbonbaccmlomhaaG7
import Derived.Test.YtbonbaccmlomhaaG1
import Derived.Test.YtbonbaccmlomhaaG4
section
/- treework.Pairs with the visitor of diff's Count$1; this file is written by gen_pa.py. -/
namespace Go.Proofs.Ytbonbaccmlomhaa.Sx
open Go

/-KEEP Wf exW inU Arn.cap Arn.free Rep Tr.size Tr.list btw rdS pushL lastI expL inL popI wL stepV pairC goV fR fC fF-/
abbrev chC (s : Int) (S : Arn) : List (Chunk C0) := [.box [.ptr 2 0, .slc 3, .slc 4, vU64 S.reads], .box [.fn 119 [5]], .box [.slc 6, .slc 7, .slc 8, vU S.fresh], .row true EC.node S.nodes, .row true EC.int S.counts, .box [vI s], .row true EC.bool S.used, .row true EC.u32 S.gen, .row true EC.u32 S.rel]
def mC (H : List (Chunk C0)) (k : Int → Arn → Prop) : Prop := match H with
  | [.box [.ptr 2 0, .slc 3, .slc 4, .val (.int .u64 rd)], .box [.fn 119 [5]], .box [.slc 6, .slc 7, .slc 8, .val (.int .u32 fr)], .row true .node nd, .row true .int ct, .box [.val (.int .i64 s)], .row true .bool us, .row true .u32 gn, .row true .u32 rl] => k s ⟨us, gn, rl, fr, nd, ct, rd⟩
  | _ => False
/-! ### The visitor -/
def tStepC : Tfm C0 := fun args H K => match args, H with
  | [.agg [.val (.int .i64 k), .val (.int .i64 y), .val (.int .i64 o), .val (.int .i64 n)], .at (.ptr 0 0)], [.box [.val (.int .i64 s)]] => ∀ s' b, (s', b) = fC ⟨k, y, o, n⟩ s → K (.one (.at (vB b))) [.box [vI s']] [0]
  | _, _ => False
noncomputable def aVisC : Ann C0 := { Γ := [(119, frameT [] tStepC)] }
def tVisC : Tfm C0 := fun args H K => match args, H with
  | [.agg [.val (.int .i64 k), .val (.int .i64 x), .val (.int .i64 y), .val (.bool a), .val (.bool b), .val (.bool _), .val (.bool _)], .at (.ptr 0 0)], [.box [.fn 119 [1]], .box [.val (.int .i64 s)]] => 
    ∀ s' q, (s', q) = stepV fC (pairC k x y a b) s → K (.one (.at (vB q))) [.box [.fn 119 [1]], .box [vI s']] [1]
  | _, _ => False

/-! ### The walk -/
abbrev hpC (s : Int) (S : Arn) (l r : List ItemT) : List (Chunk C0) := chC  s S ++ [.box [.slc 11], .box [.slc 12], .row true EC.item l, .row true EC.item r]
noncomputable def aPaC (P0 P1 P2 P3 P4 P5 : List ItemT → List ItemT → Int → Nat → Bool → Prop) (S : Arn) : Ann C0 := { Γ := [(151, frameT [] tPush), (152, frameT [] tTop), (153, frameT [] tPop), (154, frameT [] tExp), (133, frameT [] tCom), (135, frameT [] tVisC)], inv := fun n => match n with
  | 3 => some { X := XP P0, sl := [10, 11], tf := fun x => [.one (.at (.ptr 9 0)), .one (.at (.ptr 10 0))], hf := fun x => hpC  x.s (rdS S x.m) x.l x.r, μ := fun x => wL x.l + wL x.r, wr := [0, 5] }
  | 2015 => some { X := XP P1, sl := [10, 11, 12, 13, 14, 15, 90], tf := fun x => [.one (.at (.ptr 9 0)), .one (.at (.ptr 10 0)), .one (.at (.ptr 13 0)), vb (decide (x.l ≠ [])), .one (.at (.ptr 14 0)), vb (decide (x.r ≠ [])), vb x.c], hf := fun x => hpC  x.s (rdS S x.m) x.l x.r ++ [bxI (lastI x.l), bxI (lastI x.r)], rel := fun _ H x => relP 11 12 H x.l x.r, wr := [0, 5] }
  | 1017 => some { X := XP P2, sl := [10, 11, 12, 13, 14, 15, 97], tf := fun x => [.one (.at (.ptr 9 0)), .one (.at (.ptr 10 0)), .one (.at (.ptr 13 0)), vb (decide (x.l ≠ [])), .one (.at (.ptr 14 0)), vb (decide (x.r ≠ [])), vb x.c], hf := fun x => hpC  x.s (rdS S x.m) x.l x.r ++ [bxI (lastI x.l), bxI (lastI x.r)], rel := fun _ H x => relP 11 12 H x.l x.r, wr := [0, 5] }
  | 1021 => some { X := XP P3, sl := [10, 11, 12, 13, 14, 15, 124], tf := fun x => [.one (.at (.ptr 9 0)), .one (.at (.ptr 10 0)), .one (.at (.ptr 13 0)), vb (decide (x.l ≠ [])), .one (.at (.ptr 14 0)), vb (decide (x.r ≠ [])), vb x.c], hf := fun x => hpC  x.s (rdS S x.m) x.l x.r ++ [bxI (lastI x.l), bxI (lastI x.r)], rel := fun _ H x => relP 11 12 H x.l x.r, wr := [0, 5] }
  | 1023 => some { X := XP P4, sl := [10, 11, 12, 13, 14, 15, 148], tf := fun x => [.one (.at (.ptr 9 0)), .one (.at (.ptr 10 0)), .one (.at (.ptr 13 0)), vb (decide (x.l ≠ [])), .one (.at (.ptr 14 0)), vb (decide (x.r ≠ [])), vb x.c], hf := fun x => hpC  x.s (rdS S x.m) x.l x.r ++ [bxI (lastI x.l), bxI (lastI x.r)], rel := fun _ H x => relP 11 12 H x.l x.r, wr := [0, 5] }
  | 1007 => some { X := XP P5, sl := [10, 11, 12, 13, 14, 15, 16], tf := fun x => [.one (.at (.ptr 9 0)), .one (.at (.ptr 10 0)), .one (.at (.ptr 13 0)), vb (decide (x.l ≠ [])), .one (.at (.ptr 14 0)), vb (decide (x.r ≠ [])), .one (.at (.ptr 15 0))], hf := fun x => hpC  x.s (rdS S x.m) x.l x.r ++ [bxI (lastI x.l), bxI (lastI x.r), .box [vI 0, vI 0, vI 0, vB (inL x.l x.r), vB false, vB (decide (x.l ≠ [])), vB (decide (x.r ≠ []))]], rel := fun _ H x => relP 11 12 H x.l x.r, wr := [0, 5] }
  | 1008 => some { X := XP P5, sl := [10, 11, 12, 13, 14, 15, 16], tf := fun x => [.one (.at (.ptr 9 0)), .one (.at (.ptr 10 0)), .one (.at (.ptr 13 0)), vb (decide (x.l ≠ [])), .one (.at (.ptr 14 0)), vb (decide (x.r ≠ [])), .one (.at (.ptr 15 0))], hf := fun x => hpC  x.s (rdS S x.m) x.l x.r ++ [bxI (lastI x.l), bxI (lastI x.r), .box [vI 0, vI 0, vI 0, vB (inL x.l x.r), vB (inL x.r x.l), vB (decide (x.l ≠ [])), vB (decide (x.r ≠ []))]], rel := fun _ H x => relP 11 12 H x.l x.r, wr := [0, 5] }
  | 1011 => some { X := XP P5, sl := [10, 11, 12, 13, 14, 15, 16], tf := fun x => [.one (.at (.ptr 9 0)), .one (.at (.ptr 10 0)), .one (.at (.ptr 13 0)), vb (decide (x.l ≠ [])), .one (.at (.ptr 14 0)), vb (decide (x.r ≠ [])), .one (.at (.ptr 15 0))], hf := fun x => hpC  x.s (rdS S x.m) (popI (inL x.l x.r) x.l) x.r ++ [bxI (lastI x.l), bxI (lastI x.r), .box [vI (ifI (inL x.l x.r) (lastI x.l).key), vI (ifI (inL x.l x.r) (lastI x.l).value), vI 0, vB (inL x.l x.r), vB (inL x.r x.l), vB (decide (x.l ≠ [])), vB (decide (x.r ≠ []))]], rel := fun _ H x => relP 11 12 H x.l x.r, wr := [0, 5] }
  | _ => none }
def tPaC : Tfm C0 := fun args H K => match args with
  | [.at (.ptr 0 0), .at (.val (.int .u32 x)), .at (.val (.int .u32 y)), .at (.fn 133 []), .at (.fn 135 [1])] => mC H fun  s S => ∃ hs t1 t2, Wf S hs ∧ Rep S t1 x ∧ Rep S t2 y ∧ (fun _ => 0) s + 2 * (t1.size + t2.size) ≤ 800000 ∧ S.reads + (2 + 6 * (t1.size + t2.size)) ≤ 3000000000000000000 ∧
    ∀ s' S' m, s' = goV fC s (btw t1.list t2.list) → S' = rdS S m → m ≤ 2 + 6 * (t1.size + t2.size) → K (.tup []) (chC  s' S') [0, 5]
  | _ => False
/-! ### each, and the function itself -/
abbrev ceC (s : Int) (S : Arn) : List (Chunk C0) := [.box [.ptr 2 0, .slc 3, .slc 4, vU64 S.reads], .box [vI s], .box [.slc 5, .slc 6, .slc 7, vU S.fresh], .row true EC.node S.nodes, .row true EC.int S.counts, .row true EC.bool S.used, .row true EC.u32 S.gen, .row true EC.u32 S.rel]
def meC (H : List (Chunk C0)) (k : Int → Arn → Prop) : Prop := match H with
  | [.box [.ptr 2 0, .slc 3, .slc 4, .val (.int .u64 rd)], .box [.val (.int .i64 s)], .box [.slc 5, .slc 6, .slc 7, .val (.int .u32 fr)], .row true .node nd, .row true .int ct, .row true .bool us, .row true .u32 gn, .row true .u32 rl] => k s ⟨us, gn, rl, fr, nd, ct, rd⟩
  | _ => False
noncomputable def aEaC : Ann C0 := { Γ := [(134, frameT [] tPaC)] }
def tEaC : Tfm C0 := fun args H K => match args with
  | [.at (.ptr 0 0), .at (.val (.int .u32 x)), .at (.val (.int .u32 y)), .at (.fn 119 [1])] => meC H fun  s S => ∃ hs t1 t2, Wf S hs ∧ Rep S t1 x ∧ Rep S t2 y ∧ (fun _ => 0) s + 2 * (t1.size + t2.size) ≤ 800000 ∧ S.reads + (2 + 6 * (t1.size + t2.size)) ≤ 3000000000000000000 ∧
    ∀ s' S' m, s' = goV fC s (btw t1.list t2.list) → S' = rdS S m → m ≤ 2 + 6 * (t1.size + t2.size) → (x = y → m = 0) → K (.tup []) (ceC  s' S') [0, 1]
  | _ => False
noncomputable def aFnC : Ann C0 := { Γ := [(106, frameT [] tEaC)] }
def tFnC : Tfm C0 := fun args H K => match args with
  | [.at (.ptr 0 0), .at (.val (.int .u32 x)), .at (.val (.int .u32 y))] => arM H fun S => ∃ hs t1 t2, Wf S hs ∧ Rep S t1 x ∧ Rep S t2 y ∧ t1.size + t2.size ≤ 300000 ∧ S.reads + (2 + 6 * (t1.size + t2.size)) ≤ 3000000000000000000 ∧
    ∀ s' S' m, s' = goV fC 0 (btw t1.list t2.list) → S' = rdS S m → m ≤ 2 + 6 * (t1.size + t2.size) → (x = y → m = 0) → K (.one (.at (vI s'))) (chS S') [0]
  | _ => False
end Go.Proofs.Ytbonbaccmlomhaa.Sx
end
section
/- treework.Pairs with the visitor of diff's First$1; this file is written by gen_pa.py. -/
namespace Go.Proofs.Ytbonbaccmlomhaa.Sx
open Go

/-KEEP Wf exW inU Arn.cap Arn.free Rep Tr.size Tr.list btw rdS pushL lastI expL inL popI wL stepV pairC goV fR fC fF-/
abbrev chF (s : Chg × Bool) (S : Arn) : List (Chunk C0) := [.box [.ptr 2 0, .slc 3, .slc 4, vU64 S.reads], .box [.fn 120 [5, 6]], .box [.slc 7, .slc 8, .slc 9, vU S.fresh], .row true EC.node S.nodes, .row true EC.int S.counts, .box [vI s.1.kind, vI s.1.key, vI s.1.old, vI s.1.new], .box [vB s.2], .row true EC.bool S.used, .row true EC.u32 S.gen, .row true EC.u32 S.rel]
def mF (H : List (Chunk C0)) (k : Chg × Bool → Arn → Prop) : Prop := match H with
  | [.box [.ptr 2 0, .slc 3, .slc 4, .val (.int .u64 rd)], .box [.fn 120 [5, 6]], .box [.slc 7, .slc 8, .slc 9, .val (.int .u32 fr)], .row true .node nd, .row true .int ct, .box [.val (.int .i64 sk), .val (.int .i64 sy), .val (.int .i64 so), .val (.int .i64 sn)], .box [.val (.bool sb)], .row true .bool us, .row true .u32 gn, .row true .u32 rl] => k (⟨sk, sy, so, sn⟩, sb) ⟨us, gn, rl, fr, nd, ct, rd⟩
  | _ => False
/-! ### The visitor -/
def tStepF : Tfm C0 := fun args H K => match args, H with
  | [.agg [.val (.int .i64 k), .val (.int .i64 y), .val (.int .i64 o), .val (.int .i64 n)], .at (.ptr 0 0), .at (.ptr 1 0)], [.box [.val (.int .i64 sk), .val (.int .i64 sy), .val (.int .i64 so), .val (.int .i64 sn)], .box [.val (.bool sb)]] =>
    ∀ s' b, (s', b) = fF ⟨k, y, o, n⟩ (⟨sk, sy, so, sn⟩, sb) → K (.one (.at (vB b))) [.box [vI s'.1.kind, vI s'.1.key, vI s'.1.old, vI s'.1.new], .box [vB s'.2]] [0, 1]
  | _, _ => False
noncomputable def aVisF : Ann C0 := { Γ := [(120, frameT [] tStepF)] }
def tVisF : Tfm C0 := fun args H K => match args, H with
  | [.agg [.val (.int .i64 k), .val (.int .i64 x), .val (.int .i64 y), .val (.bool a), .val (.bool b), .val (.bool _), .val (.bool _)], .at (.ptr 0 0)], [.box [.fn 120 [1, 2]], .box [.val (.int .i64 sk), .val (.int .i64 sy), .val (.int .i64 so), .val (.int .i64 sn)], .box [.val (.bool sb)]] => 
    ∀ s' q, (s', q) = stepV fF (pairC k x y a b) (⟨sk, sy, so, sn⟩, sb) → K (.one (.at (vB q))) [.box [.fn 120 [1, 2]], .box [vI s'.1.kind, vI s'.1.key, vI s'.1.old, vI s'.1.new], .box [vB s'.2]] [1, 2]
  | _, _ => False

/-! ### The walk -/
abbrev hpF (s : Chg × Bool) (S : Arn) (l r : List ItemT) : List (Chunk C0) := chF  s S ++ [.box [.slc 12], .box [.slc 13], .row true EC.item l, .row true EC.item r]
noncomputable def aPaF (P0 P1 P2 P3 P4 P5 : List ItemT → List ItemT → Chg × Bool → Nat → Bool → Prop) (S : Arn) : Ann C0 := { Γ := [(151, frameT [] tPush), (152, frameT [] tTop), (153, frameT [] tPop), (154, frameT [] tExp), (133, frameT [] tCom), (135, frameT [] tVisF)], inv := fun n => match n with
  | 3 => some { X := XP P0, sl := [10, 11], tf := fun x => [.one (.at (.ptr 10 0)), .one (.at (.ptr 11 0))], hf := fun x => hpF  x.s (rdS S x.m) x.l x.r, μ := fun x => wL x.l + wL x.r, wr := [0, 5, 6] }
  | 2015 => some { X := XP P1, sl := [10, 11, 12, 13, 14, 15, 90], tf := fun x => [.one (.at (.ptr 10 0)), .one (.at (.ptr 11 0)), .one (.at (.ptr 14 0)), vb (decide (x.l ≠ [])), .one (.at (.ptr 15 0)), vb (decide (x.r ≠ [])), vb x.c], hf := fun x => hpF  x.s (rdS S x.m) x.l x.r ++ [bxI (lastI x.l), bxI (lastI x.r)], rel := fun _ H x => relP 12 13 H x.l x.r, wr := [0, 5, 6] }
  | 1017 => some { X := XP P2, sl := [10, 11, 12, 13, 14, 15, 97], tf := fun x => [.one (.at (.ptr 10 0)), .one (.at (.ptr 11 0)), .one (.at (.ptr 14 0)), vb (decide (x.l ≠ [])), .one (.at (.ptr 15 0)), vb (decide (x.r ≠ [])), vb x.c], hf := fun x => hpF  x.s (rdS S x.m) x.l x.r ++ [bxI (lastI x.l), bxI (lastI x.r)], rel := fun _ H x => relP 12 13 H x.l x.r, wr := [0, 5, 6] }
  | 1021 => some { X := XP P3, sl := [10, 11, 12, 13, 14, 15, 124], tf := fun x => [.one (.at (.ptr 10 0)), .one (.at (.ptr 11 0)), .one (.at (.ptr 14 0)), vb (decide (x.l ≠ [])), .one (.at (.ptr 15 0)), vb (decide (x.r ≠ [])), vb x.c], hf := fun x => hpF  x.s (rdS S x.m) x.l x.r ++ [bxI (lastI x.l), bxI (lastI x.r)], rel := fun _ H x => relP 12 13 H x.l x.r, wr := [0, 5, 6] }
  | 1023 => some { X := XP P4, sl := [10, 11, 12, 13, 14, 15, 148], tf := fun x => [.one (.at (.ptr 10 0)), .one (.at (.ptr 11 0)), .one (.at (.ptr 14 0)), vb (decide (x.l ≠ [])), .one (.at (.ptr 15 0)), vb (decide (x.r ≠ [])), vb x.c], hf := fun x => hpF  x.s (rdS S x.m) x.l x.r ++ [bxI (lastI x.l), bxI (lastI x.r)], rel := fun _ H x => relP 12 13 H x.l x.r, wr := [0, 5, 6] }
  | 1007 => some { X := XP P5, sl := [10, 11, 12, 13, 14, 15, 16], tf := fun x => [.one (.at (.ptr 10 0)), .one (.at (.ptr 11 0)), .one (.at (.ptr 14 0)), vb (decide (x.l ≠ [])), .one (.at (.ptr 15 0)), vb (decide (x.r ≠ [])), .one (.at (.ptr 16 0))], hf := fun x => hpF  x.s (rdS S x.m) x.l x.r ++ [bxI (lastI x.l), bxI (lastI x.r), .box [vI 0, vI 0, vI 0, vB (inL x.l x.r), vB false, vB (decide (x.l ≠ [])), vB (decide (x.r ≠ []))]], rel := fun _ H x => relP 12 13 H x.l x.r, wr := [0, 5, 6] }
  | 1008 => some { X := XP P5, sl := [10, 11, 12, 13, 14, 15, 16], tf := fun x => [.one (.at (.ptr 10 0)), .one (.at (.ptr 11 0)), .one (.at (.ptr 14 0)), vb (decide (x.l ≠ [])), .one (.at (.ptr 15 0)), vb (decide (x.r ≠ [])), .one (.at (.ptr 16 0))], hf := fun x => hpF  x.s (rdS S x.m) x.l x.r ++ [bxI (lastI x.l), bxI (lastI x.r), .box [vI 0, vI 0, vI 0, vB (inL x.l x.r), vB (inL x.r x.l), vB (decide (x.l ≠ [])), vB (decide (x.r ≠ []))]], rel := fun _ H x => relP 12 13 H x.l x.r, wr := [0, 5, 6] }
  | 1011 => some { X := XP P5, sl := [10, 11, 12, 13, 14, 15, 16], tf := fun x => [.one (.at (.ptr 10 0)), .one (.at (.ptr 11 0)), .one (.at (.ptr 14 0)), vb (decide (x.l ≠ [])), .one (.at (.ptr 15 0)), vb (decide (x.r ≠ [])), .one (.at (.ptr 16 0))], hf := fun x => hpF  x.s (rdS S x.m) (popI (inL x.l x.r) x.l) x.r ++ [bxI (lastI x.l), bxI (lastI x.r), .box [vI (ifI (inL x.l x.r) (lastI x.l).key), vI (ifI (inL x.l x.r) (lastI x.l).value), vI 0, vB (inL x.l x.r), vB (inL x.r x.l), vB (decide (x.l ≠ [])), vB (decide (x.r ≠ []))]], rel := fun _ H x => relP 12 13 H x.l x.r, wr := [0, 5, 6] }
  | _ => none }
def tPaF : Tfm C0 := fun args H K => match args with
  | [.at (.ptr 0 0), .at (.val (.int .u32 x)), .at (.val (.int .u32 y)), .at (.fn 133 []), .at (.fn 135 [1])] => mF H fun  s S => ∃ hs t1 t2, Wf S hs ∧ Rep S t1 x ∧ Rep S t2 y ∧ (fun _ => 0) s + 2 * (t1.size + t2.size) ≤ 800000 ∧ S.reads + (2 + 6 * (t1.size + t2.size)) ≤ 3000000000000000000 ∧
    ∀ s' S' m, s' = goV fF s (btw t1.list t2.list) → S' = rdS S m → m ≤ 2 + 6 * (t1.size + t2.size) → K (.tup []) (chF  s' S') [0, 5, 6]
  | _ => False
/-! ### each, and the function itself -/
abbrev ceF (s : Chg × Bool) (S : Arn) : List (Chunk C0) := [.box [.ptr 3 0, .slc 4, .slc 5, vU64 S.reads], .box [vI s.1.kind, vI s.1.key, vI s.1.old, vI s.1.new], .box [vB s.2], .box [.slc 6, .slc 7, .slc 8, vU S.fresh], .row true EC.node S.nodes, .row true EC.int S.counts, .row true EC.bool S.used, .row true EC.u32 S.gen, .row true EC.u32 S.rel]
def meF (H : List (Chunk C0)) (k : Chg × Bool → Arn → Prop) : Prop := match H with
  | [.box [.ptr 3 0, .slc 4, .slc 5, .val (.int .u64 rd)], .box [.val (.int .i64 sk), .val (.int .i64 sy), .val (.int .i64 so), .val (.int .i64 sn)], .box [.val (.bool sb)], .box [.slc 6, .slc 7, .slc 8, .val (.int .u32 fr)], .row true .node nd, .row true .int ct, .row true .bool us, .row true .u32 gn, .row true .u32 rl] => k (⟨sk, sy, so, sn⟩, sb) ⟨us, gn, rl, fr, nd, ct, rd⟩
  | _ => False
noncomputable def aEaF : Ann C0 := { Γ := [(134, frameT [] tPaF)] }
def tEaF : Tfm C0 := fun args H K => match args with
  | [.at (.ptr 0 0), .at (.val (.int .u32 x)), .at (.val (.int .u32 y)), .at (.fn 120 [1, 2])] => meF H fun  s S => ∃ hs t1 t2, Wf S hs ∧ Rep S t1 x ∧ Rep S t2 y ∧ (fun _ => 0) s + 2 * (t1.size + t2.size) ≤ 800000 ∧ S.reads + (2 + 6 * (t1.size + t2.size)) ≤ 3000000000000000000 ∧
    ∀ s' S' m, s' = goV fF s (btw t1.list t2.list) → S' = rdS S m → m ≤ 2 + 6 * (t1.size + t2.size) → (x = y → m = 0) → K (.tup []) (ceF  s' S') [0, 1, 2]
  | _ => False
noncomputable def aFnF : Ann C0 := { Γ := [(106, frameT [] tEaF)] }
def tFnF : Tfm C0 := fun args H K => match args with
  | [.at (.ptr 0 0), .at (.val (.int .u32 x)), .at (.val (.int .u32 y))] => arM H fun S => ∃ hs t1 t2, Wf S hs ∧ Rep S t1 x ∧ Rep S t2 y ∧ t1.size + t2.size ≤ 300000 ∧ S.reads + (2 + 6 * (t1.size + t2.size)) ≤ 3000000000000000000 ∧
    ∀ s' S' m, s' = goV fF (⟨0, 0, 0, 0⟩, false) (btw t1.list t2.list) → S' = rdS S m → m ≤ 2 + 6 * (t1.size + t2.size) → (x = y → m = 0) → K (.tup [.agg [vI s'.1.kind, vI s'.1.key, vI s'.1.old, vI s'.1.new], .at (vB s'.2)]) (chS S') [0]
  | _ => False
end Go.Proofs.Ytbonbaccmlomhaa.Sx
end
section
/- diff's functions as they are used, and the law DiffOfSelf. -/
namespace Go.Proofs.Ytbonbaccmlomhaa.Sx
open Go

/-! ### Plain -/
def rngC (lo hi : Int) (cs : List Chg) : List Chg := cs.filter fun c => decide (lo ≤ c.key ∧ c.key ≤ hi)
def Kin (l : List Ent) : Prop := ∀ x ∈ l, -9223372036854775808 ≤ x.1 ∧ x.1 ≤ 9223372036854775807
/-! ### The contracts -/
/-KEEP Wf exW inU live Arn.cap Arn.free Rep rdS Tr.size Tr.list btw rngC goV fR Asc Kin PlantR listE newS sameB-/
def tRangeB : Tfm C0 := fun args H K => match args with
  | [.at (.ptr 0 0), .at (.val (.int .u32 x)), .at (.val (.int .u32 y)), .at (.val (.int .i64 lo)), .at (.val (.int .i64 hi))] => arM H fun S => ∃ hs t1 t2, Wf S hs ∧ Rep S t1 x ∧ Rep S t2 y ∧ t1.size + t2.size ≤ 300000 ∧ S.reads + (2 + 6 * (t1.size + t2.size)) ≤ 3000000000000000000 ∧ Asc t1.list ∧ Asc t2.list ∧
    ∀ s' S' m, s' = rngC lo hi (btw t1.list t2.list) → S' = rdS S m → m ≤ 2 + 6 * (t1.size + t2.size) → (x = y → m = 0) → K (.one (.at (.slc 7))) (chS S' ++ [.row true EC.chg s']) [0]
  | _ => False
noncomputable def aDiff : Ann C0 := { Γ := [(62, frameT [] tRangeB)] }
def tDiff : Tfm C0 := fun args H K => match args with
  | [.at (.ptr 0 0), .at (.val (.int .u32 x)), .at (.val (.int .u32 y))] => arM H fun S => ∃ hs t1 t2, Wf S hs ∧ Rep S t1 x ∧ Rep S t2 y ∧ t1.size + t2.size ≤ 300000 ∧ S.reads + (2 + 6 * (t1.size + t2.size)) ≤ 3000000000000000000 ∧ Asc t1.list ∧ Asc t2.list ∧ Kin t1.list ∧ Kin t2.list ∧
    ∀ s' S' m, s' = btw t1.list t2.list → S' = rdS S m → m ≤ 2 + 6 * (t1.size + t2.size) → (x = y → m = 0) → K (.one (.at (.slc 7))) (chS S' ++ [.row true EC.chg s']) [0]
  | _ => False
/-! A tree and itself. -/
def selfM (x y : Int) (S : Arn) : Prop := x = y ∧ ∃ hs t, Wf S hs ∧ Rep S t x ∧ t.size ≤ 100000 ∧ S.reads ≤ 1000000000000000000 ∧ Asc t.list ∧ Kin t.list
theorem selfM.go {x y : Int} {S : Arn} (h : selfM x y S) : ∃ hs t, Wf S hs ∧ Rep S t x ∧ Rep S t y ∧ t.size + t.size ≤ 300000 ∧ S.reads + (2 + 6 * ((t.size : Int) + t.size)) ≤ 3000000000000000000 ∧ Asc t.list ∧ Kin t.list ∧ btw t.list t.list = [] ∧ (∀ m, (x = y → m = 0) → rdS S m = S) := by
  obtain ⟨rfl, hs, t, h1, h2, h3, h4, h5, h6⟩ := h
  exact ⟨hs, t, h1, h2, h2, by omega, by omega, h5, h6, btw_self _, fun m hm => by rw [hm rfl, rdS_zero]⟩
def tDiffS : Tfm C0 := fun args H K => match args with
  | [.at (.ptr 0 0), .at (.val (.int .u32 x)), .at (.val (.int .u32 y))] => arM H fun S => selfM x y S ∧ K (.one (.at (.slc 7))) (chS S ++ [.row true EC.chg []]) [0]
  | _ => False
def tRangeS : Tfm C0 := fun args H K => match args with
  | [.at (.ptr 0 0), .at (.val (.int .u32 x)), .at (.val (.int .u32 y)), .at (.val (.int .i64 _)), .at (.val (.int .i64 _))] => arM H fun S => selfM x y S ∧ K (.one (.at (.slc 7))) (chS S ++ [.row true EC.chg []]) [0]
  | _ => False
def tFirstS : Tfm C0 := fun args H K => match args with
  | [.at (.ptr 0 0), .at (.val (.int .u32 x)), .at (.val (.int .u32 y))] => arM H fun S => selfM x y S ∧ K (.tup [.agg [vI 0, vI 0, vI 0, vI 0], .at (vB false)]) (chS S) [0]
  | _ => False
def tCountS : Tfm C0 := fun args H K => match args with
  | [.at (.ptr 0 0), .at (.val (.int .u32 x)), .at (.val (.int .u32 y))] => arM H fun S => selfM x y S ∧ K (.one (.at (vI 0))) (chS S) [0]
  | _ => False
def tSameT : Tfm C0 := fun args H K => match args, H with
  | [.at (.slc 0), .at (.slc 1)], [.row false .chg l, .row false .chg m] => l = m ∧ K (.one (.at (vB true))) [.row false EC.chg l, .row false EC.chg m] []
  | _, _ => False
/-! ### The example of the chapter -/
noncomputable def aAwake18 : Ann C0 := { Γ := [(34, frameT [] tNew), (51, frameT [] tPlantA), (16, frameT [] tDiff), (61, frameT [] tSameT)] }
def tAwake18 : Tfm C0 := fun args H K => match args, H with
  | [], [] => K (.one (.at (vB true))) [] []
  | _, _ => False
/-! ### The law -/
noncomputable def aDos : Ann C0 := { Γ := [(36, frameT [] tLst), (54, frameT [] tGrow), (15, frameT [] tAwake18), (27, frameT [] tReads), (16, frameT [] tDiffS), (62, frameT [] tRangeS), (85, frameT [] tFirstS), (84, frameT [] tCountS), (78, frameT [] tWi)] }
def tDos : Tfm C0 := fun args H K => match args, H with
  | [.at (.slc 0), .at (.val (.int .u64 t)), .at (.val (.int .i64 _)), .at (.val (.int .i64 _))], [.row false .ent raw] => 0 ≤ t ∧ Kin raw ∧ K (.one (.at (vB true))) [.row false EC.ent raw] []
  | _, _ => False
theorem listE_sub (raw : List Ent) (n : Nat) : ∀ x ∈ listE raw n, x ∈ raw := by
  have key : ∀ (l acc : List Ent), Asc acc → ∀ x ∈ l.foldl insE acc, x ∈ acc ∨ x ∈ l := by
    intro l
    induction l with
    | nil => intro acc _ x hx; exact .inl hx
    | cons a l ih =>
      intro acc ha x hx
      rcases ih (insE acc a) (insE_asc a ha) x hx with h | h
      · rcases insE_mem ha h with h | h
        · exact .inr (by simp [h])
        · exact .inl h
      · exact .inr (by simp [h])
  intro x hx
  unfold listE at hx
  rcases key (raw.take n) [] (by simp [Srt]) x hx with h | h
  · simp at h
  · exact List.mem_of_mem_take h
end Go.Proofs.Ytbonbaccmlomhaa.Sx
end
section
/- Trees that are held, with their entries: what is free, and what a set operation answers. No program in sight. -/
namespace Go.Proofs.Ytbonbaccmlomhaa.Sx
open Go

variable {S S' : Arn} {hs : List Int} {f : Int → Option Int → Option Int → Option Int}
def sumL (E : List (Int × List Ent)) : Nat := (E.map fun p => p.2.length).sum
structure Hld (S : Arn) (E : List (Int × List Ent)) : Prop where
  wf : Wf S (E.map Prod.fst)
  rep : ∀ p ∈ E, ∃ t, Rep S t p.1 ∧ t.list = p.2 ∧ t.Bal
  asc : ∀ p ∈ E, Asc p.2
  kin : ∀ p ∈ E, Kin p.2
theorem nuR_sum (w : Wf S hs) : ∀ E : List (Int × List Ent), (∀ p ∈ E, ∃ t, Rep S t p.1 ∧ t.list = p.2 ∧ t.Bal) → nuR S (E.map Prod.fst) ≤ nuR S [] + sumL E
  | [], _ => by simp [sumL]
  | p :: E, h => by
    obtain ⟨t, rp, lt, _⟩ := h p (List.mem_cons_self ..)
    have a := nuR_cons (hs := E.map Prod.fst) w rp
    have b := nuR_sum w E fun q hq => h q (List.mem_cons_of_mem _ hq)
    have c : t.size = p.2.length := by rw [← t.list_len, lt]
    rw [List.map_cons]
    unfold sumL at *
    rw [List.map_cons, List.sum_cons]
    omega
open Classical in
theorem nuR_nil (w : Wf S hs) : nuR S [] = 0 := by
  unfold nuR
  refine List.countP_eq_zero.2 fun i _ hi => ?_
  have hr : Rch S [] (i : Int) := of_decide_eq_true hi
  clear hi
  generalize (i : Int) = j at hr
  induction hr with
  | root a _ => cases a
  | left _ _ ih => exact ih
  | right _ _ ih => exact ih
theorem Hld.room {E : List (Int × List Ent)} (h : Hld S E) : S.cap ≤ S.free + sumL E := by
  have a := h.wf.free_nonneg.2.2.2
  have b := h.wf.nuR
  have c := nuR_sum h.wf E h.rep
  have d := nuR_nil h.wf
  omega
theorem Hld.step {E : List (Int × List Ent)} {L : List Ent} {m r : Nat} {j : Int} (e : Hld S E) (tr : TrR S (E.map Prod.fst) L m r S' j) (ha : Asc L) (hk : Kin L) : Hld S' ((j, L) :: E) where
  wf := tr.got.wf
  rep p hp := by
    rcases List.mem_cons.1 hp with rfl | hp
    · exact tr.tree
    · obtain ⟨t, rp, lt, bt⟩ := e.rep p hp
      exact ⟨t, rp.held e.wf tr.got.stay (.inr (List.mem_map.2 ⟨p, hp, rfl⟩)), lt, bt⟩
  asc p hp := by
    rcases List.mem_cons.1 hp with rfl | hp
    · exact ha
    · exact e.asc p hp
  kin p hp := by
    rcases List.mem_cons.1 hp with rfl | hp
    · exact hk
    · exact e.kin p hp
theorem Hld.rd {E : List (Int × List Ent)} {n : Nat} (e : Hld S E) (h : S.reads + n ≤ 4000000000000000000) : Hld (rdS S n) E where
  wf := e.wf.rd h
  rep p hp := by
    obtain ⟨t, rp, lt, bt⟩ := e.rep p hp
    exact ⟨t, rp.rdn, lt, bt⟩
  asc := e.asc
  kin := e.kin
theorem set_kin {g : Option Int → Option Int → Option Int} {l m L : List Ent} (g0 : g none none = none) (h : SetR g l m L) (hl : Kin l) (hm : Kin m) : Kin L := fun x hx => by
  have e := getE_in hx
  rw [h.get] at e
  cases ea : getE l x.1 with
  | some v => exact hl (x.1, v) (getE_some ea)
  | none =>
    cases eb : getE m x.1 with
    | some v => exact hm (x.1, v) (getE_some eb)
    | none => rw [ea, eb] at e; exact absurd g0 e
theorem sumL_le {E : List (Int × List Ent)} {p : Int × List Ent} (h : p ∈ E) : p.2.length ≤ sumL E := by
  induction E with
  | nil => cases h
  | cons q E ih =>
    unfold sumL at *
    rw [List.map_cons, List.sum_cons]
    rcases List.mem_cons.1 h with rfl | h
    · omega
    · have := ih h; omega
theorem Hld.op {E : List (Int × List Ent)} {x y : Int} {l m : List Ent} (e : Hld S E) (hx : (x, l) ∈ E) (hy : (y, m) ∈ E) (hl : l.length ≤ 65536) (hm : m.length ≤ 65536) (he : E.length ≤ 900000) (hr : S.reads ≤ 900000000000000000) :
    ∃ tx ty, OpM S (E.map Prod.fst) tx ty x y ∧ tx.list = l ∧ ty.list = m ∧ tx.size = l.length ∧ ty.size = m.length := by
  obtain ⟨t, rp, lt, bt⟩ := e.rep _ hx
  obtain ⟨u, ru, lu, bu⟩ := e.rep _ hy
  have lt : t.list = l := lt
  have lu : u.list = m := lu
  have a1 := e.asc _ hx
  have a2 := e.asc _ hy
  have sz : t.size = l.length := by rw [← t.list_len, lt]
  have su : u.size = m.length := by rw [← u.list_len, lu]
  exact ⟨t, u, ⟨e.wf, rp, ru, bt, bu, by rw [lt]; exact a1, by rw [lu]; exact a2, by omega, by omega, by simpa using he, hr⟩, lt, lu, sz, su⟩
theorem needS_le (tx ty : Tr) : needS tx ty ≤ (tx.size : Int) + ty.size + 984 ∧ 0 ≤ needS tx ty := by
  have := Hn_rng ((tx.size : Int) + ty.size)
  unfold needS
  omega
/-- Where there is room, a set operation makes a tree of its answer. -/
theorem SoR.ok {whole : Int → Int → Int → Prop} {res : Int → Int → Int} {tx ty : Tr} {x y p i e : Int} (o : OpM S hs tx ty x y) (hf : needS tx ty ≤ S.free)
    (hw : whole x y p → ∃ t, Rep S t (res x y) ∧ t.Bal ∧ SetR (f p) tx.list ty.list t.list) (h : SoR f whole res S hs tx ty x y p S' i e) :
    e = 0 ∧ ∃ L, SetR (f p) tx.list ty.list L ∧ TrR S hs L 65537 2000000000 S' i := by
  have hr := o.rd
  have hl := o.hl
  rcases h with ⟨a, b, c, d⟩ | ⟨_, a, _⟩ | ⟨_, _, b, c⟩
  · obtain ⟨t, rp, bal, st⟩ := hw a
    rw [c]
    exact ⟨b, t.list, st, hold_tr (m := 0) o.wf rp bal (by omega) (by omega) (by rw [d, rdS_zero]) (by omega) rfl⟩
  · omega
  · exact ⟨b, c⟩
theorem wh_uni {tx ty : Tr} {x y p : Int} (o : OpM S hs tx ty x y) (h : whU x y p) : ∃ t, Rep S t (reU x y) ∧ t.Bal ∧ SetR (fUni p) tx.list ty.list t.list := by
  have h0 : S.us 0 = false := o.wf.us0 (Int.le_refl 0)
  unfold reU
  split
  · rename_i c
    have ry := o.ry
    rw [c] at ry
    rw [ry.zero o.wf]
    exact ⟨tx, o.rx, o.bx, SetR.left o.ax (fUni_l p)⟩
  · rename_i c
    split
    · rename_i d
      have ry := o.ry
      rw [← d] at ry
      rcases h with h | h | h
      · have rx := o.rx
        rw [h] at rx
        rw [rx.zero o.wf]
        rw [d] at h
        exact absurd h c
      · exact absurd h c
      · rw [ry.inj h0 o.rx]
        exact ⟨tx, o.rx, o.bx, SetR.same o.ax (fUni_s h.2)⟩
    · rename_i d
      rcases h with h | h | h
      · have rx := o.rx
        rw [h] at rx
        rw [rx.zero o.wf]
        exact ⟨ty, o.ry, o.bY, SetR.right o.ay (fUni_r p)⟩
      · exact absurd h c
      · exact absurd h.1 d
theorem wh_int {tx ty : Tr} {x y p : Int} (o : OpM S hs tx ty x y) (h : whU x y p) : ∃ t, Rep S t (reI x y) ∧ t.Bal ∧ SetR (fInt p) tx.list ty.list t.list := by
  have h0 : S.us 0 = false := o.wf.us0 (Int.le_refl 0)
  unfold reI
  split
  · rename_i c
    refine ⟨.nil, rfl, trivial, SetR.none fun k => ?_⟩
    rcases c with c | c
    · have rx := o.rx
      rw [c] at rx
      rw [rx.zero o.wf]
      rfl
    · have ry := o.ry
      rw [c] at ry
      rw [ry.zero o.wf]
      show fInt p _ none = none
      cases getE tx.list k <;> rfl
  · rename_i c
    rcases h with h | h | h
    · exact absurd (.inl h) c
    · exact absurd (.inr h) c
    · have ry := o.ry
      rw [← h.1] at ry
      rw [ry.inj h0 o.rx]
      exact ⟨tx, o.rx, o.bx, SetR.same o.ax (fInt_s h.2)⟩
theorem wh_sub {tx ty : Tr} {x y p : Int} (o : OpM S hs tx ty x y) (h : whS x y p) : ∃ t, Rep S t (reS x y) ∧ t.Bal ∧ SetR (gSub p) tx.list ty.list t.list := by
  have h0 : S.us 0 = false := o.wf.us0 (Int.le_refl 0)
  unfold reS
  split
  · rename_i c
    refine ⟨.nil, rfl, trivial, SetR.none fun k => ?_⟩
    rcases c with c | c
    · have rx := o.rx
      rw [c] at rx
      rw [rx.zero o.wf]
      rfl
    · have ry := o.ry
      rw [← c] at ry
      rw [ry.inj h0 o.rx]
      show fSub _ _ = none
      cases getE tx.list k <;> rfl
  · rename_i c
    rcases h with h | h | h
    · exact absurd (.inl h) c
    · have ry := o.ry
      rw [h] at ry
      rw [ry.zero o.wf]
      exact ⟨tx, o.rx, o.bx, SetR.left o.ax fun x => by cases x <;> rfl⟩
    · exact absurd (.inr h) c
/-- The short forms: there is room. -/
def tSoPk (f : Int → Option Int → Option Int → Option Int) : Tfm C0 := fun args H K => match args with
  | [.at (.ptr 0 0), .at (.val (.int .u32 x)), .at (.val (.int .u32 y)), .at (.val (.int .i64 p))] => arM H fun S => ∃ hs tx ty, OpM S hs tx ty x y ∧ 1 ≤ p ∧ p ≤ 5 ∧ needS tx ty ≤ S.free ∧
    ∀ S' i L, SetR (f p) tx.list ty.list L → TrR S hs L 65537 2000000000 S' i → K (.tup [.at (vU i), .at (vI 0)]) (chS S') W7
  | _ => False
def tSoNk (f : Int → Option Int → Option Int → Option Int) : Tfm C0 := fun args H K => match args with
  | [.at (.ptr 0 0), .at (.val (.int .u32 x)), .at (.val (.int .u32 y))] => arM H fun S => ∃ hs tx ty, OpM S hs tx ty x y ∧ needS tx ty ≤ S.free ∧
    ∀ S' i L, SetR (f 1) tx.list ty.list L → TrR S hs L 65537 2000000000 S' i → K (.tup [.at (vU i), .at (vI 0)]) (chS S') W7
  | _ => False
theorem soPk {g : FuncId} {whole : Int → Int → Int → Prop} {res : Int → Int → Int} (s : SoundT C0 g (tSoP f whole res))
    (hw : ∀ S hs tx ty x y p, OpM S hs tx ty x y → whole x y p → ∃ t, Rep S t (res x y) ∧ t.Bal ∧ SetR (f p) tx.list ty.list t.list) : SoundT C0 g (tSoPk f) := s.weak fun args H K h => by
  unfold tSoPk at h
  unfold tSoP
  split at h <;> try exact h.elim
  unfold arM at h ⊢
  split at h <;> try exact h.elim
  obtain ⟨hs, tx, ty, o, p1, p2, hf, h⟩ := h
  refine ⟨hs, tx, ty, o, fun q => absurd ⟨p1, p2⟩ q, fun _ _ S' i e so => ?_⟩
  obtain ⟨e0, L, hL, tr⟩ := SoR.ok o hf (hw _ _ _ _ _ _ _ o) so
  rw [e0]
  exact h S' i L hL tr
theorem soNk {g : FuncId} {whole : Int → Int → Int → Prop} {res : Int → Int → Int} (s : SoundT C0 g (tSoN f whole res))
    (hw : ∀ S hs tx ty x y p, OpM S hs tx ty x y → whole x y p → ∃ t, Rep S t (res x y) ∧ t.Bal ∧ SetR (f p) tx.list ty.list t.list) : SoundT C0 g (tSoNk f) := s.weak fun args H K h => by
  unfold tSoNk at h
  unfold tSoN
  split at h <;> try exact h.elim
  unfold arM at h ⊢
  split at h <;> try exact h.elim
  obtain ⟨hs, tx, ty, o, hf, h⟩ := h
  refine ⟨hs, tx, ty, o, fun S' i e so => ?_⟩
  obtain ⟨e0, L, hL, tr⟩ := SoR.ok o hf (hw _ _ _ _ _ _ _ o) so
  rw [e0]
  exact h S' i L hL tr
theorem s_soUk : SoundT C0 22 (tSoPk fUni) := soPk s_soU fun _ _ _ _ _ _ _ o h => wh_uni o h
theorem s_soIk : SoundT C0 32 (tSoPk fInt) := soPk s_soI fun _ _ _ _ _ _ _ o h => wh_int o h
theorem s_soSk : SoundT C0 37 (tSoNk gSub) := soNk s_soS fun _ _ _ _ _ _ _ o h => wh_sub o h
/-- An operation on two trees that are held. -/
theorem Hld.set {E : List (Int × List Ent)} {l m L : List Ent} {p j : Int} (e : Hld S E) {x y : Int} (hx : (x, l) ∈ E) (hy : (y, m) ∈ E) (h0 : f p none none = none) (hL : SetR (f p) l m L) (tr : TrR S (E.map Prod.fst) L 65537 2000000000 S' j) : Hld S' ((j, L) :: E) :=
  e.step tr hL.asc (set_kin h0 hL (e.kin _ hx) (e.kin _ hy))
/-- In an arena of at least 4000 slots there is room while no more than 1000 entries are held. -/
theorem Hld.go {E : List (Int × List Ent)} {x y : Int} {l m : List Ent} (e : Hld S E) (hx : (x, l) ∈ E) (hy : (y, m) ∈ E) (hE : sumL E ≤ 1000) (he : E.length ≤ 20) (hc : 4000 ≤ S.cap) (hr : S.reads ≤ 900000000000000000) :
    ∃ tx ty, OpM S (E.map Prod.fst) tx ty x y ∧ tx.list = l ∧ ty.list = m ∧ needS tx ty ≤ S.free := by
  have a := sumL_le hx
  have b := sumL_le hy
  have a : l.length ≤ sumL E := a
  have b : m.length ≤ sumL E := b
  obtain ⟨tx, ty, o, h1, h2, h3, h4⟩ := e.op hx hy (by omega) (by omega) (by omega) hr
  have c := needS_le tx ty
  have d := e.room
  exact ⟨tx, ty, o, h1, h2, by omega⟩
theorem Hld.ls {E : List (Int × List Ent)} {x : Int} {l : List Ent} (e : Hld S E) (hx : (x, l) ∈ E) (hl : l.length ≤ 60000) : ∃ t, Rep S t x ∧ Asc t.list ∧ Kin t.list ∧ t.size ≤ 60000 ∧ t.list = l := by
  obtain ⟨t, rp, lt, _⟩ := e.rep _ hx
  have lt : t.list = l := lt
  have sz : t.size = l.length := by rw [← t.list_len, lt]
  exact ⟨t, rp, by rw [lt]; exact e.asc _ hx, by rw [lt]; exact e.kin _ hx, by omega, lt⟩
theorem sumL_cons (j : Int) (L : List Ent) (E : List (Int × List Ent)) : sumL ((j, L) :: E) = L.length + sumL E := by
  unfold sumL; rw [List.map_cons, List.sum_cons]
theorem sumL_nil : sumL [] = 0 := rfl
theorem tr_cap {L : List Ent} {m r : Nat} {j : Int} (tr : TrR S hs L m r S' j) : S'.cap = S.cap := cap_len tr.got.len
end Go.Proofs.Ytbonbaccmlomhaa.Sx
end
section
/- The order of the free slots, and the arena's Dump. -/
/-KEEP exW inU Arn.cap Arn.free-/
namespace Go.Proofs.Ytbonbaccmlomhaa.Sx
open Go

def upTo (fr : Int) (n : Nat) : List Int := (List.range n).map fun (k : Nat) => fr + 1 + (k : Int)
def orderL (us : List Bool) (rl : List Int) (fr : Int) : List Int := rl.reverse ++ upTo fr ((us.length : Int) - 1 - fr).toNat
structure XOr1 (rl : List Int) where
  k : Nat
  h : k ≤ rl.length
structure XOr2 (us : List Bool) (fr : Int) where
  n : Nat
  h : n ≤ ((us.length : Int) - 1 - fr).toNat
noncomputable def aOrder (us : List Bool) (gn rl : List Int) (fr : Int) : Ann C0 := { Γ := [(109, frameT [] tSlFree), (108, frameT [] tSlCap)], inv := fun n => match n with
  | 3 => some { X := XOr1 rl, sl := [4, 3], tf := fun x => [vi .i64 ((x.k : Int) - 1), .one (.at (.slc 4))], hf := fun x => slC us gn rl fr ++ [.row true EC.u32 (rl.drop x.k).reverse], μ := fun x => x.k }
  | 7 => some { X := XOr2 us fr, sl := [5, 3], tf := fun x => [vi .i64 (fr + 1 + (x.n : Int)), .one (.at (.slc 4))], hf := fun x => slC us gn rl fr ++ [.row true EC.u32 (rl.reverse ++ upTo fr x.n)], μ := fun x => ((us.length : Int) - 1 - fr).toNat - x.n }
  | _ => none }
def tOrder : Tfm C0 := fun args H K => match args with
  | [.at (.ptr 0 0)] => slM H fun us gn rl fr => 1 ≤ us.length ∧ us.length ≤ 65537 ∧ rl.length ≤ 65537 ∧ 0 ≤ fr ∧ fr ≤ us.length - 1 ∧ ∀ o : List Int, o = orderL us rl fr → K (.one (.at (.slc 4))) (slC us gn rl fr ++ [.row true EC.u32 o]) []
  | _ => False
def SlotT.zero : SlotT := ⟨false, 0, 0, NodeT.zero⟩
def slotAt (S : Arn) (k : Nat) : SlotT := ⟨S.us ((k : Int) + 1), if S.us ((k : Int) + 1) then S.ct ((k : Int) + 1) else 0, S.gn ((k : Int) + 1), S.nd ((k : Int) + 1)⟩
def ncap (S : Arn) : Nat := S.used.length - 1
def slotsOf (S : Arn) : List SlotT := (List.range (ncap S)).map (slotAt S)
def orderOf (S : Arn) : List Int := orderL S.used S.rel S.fresh
structure XDu (S : Arn) where
  i : Nat
  h : i ≤ ncap S
def fillS (S : Arn) (i : Nat) : List SlotT := (List.range i).map (slotAt S) ++ List.replicate (ncap S - i) SlotT.zero
noncomputable def aDump (S : Arn) : Ann C0 := { quiet := [67, 68, 69, 65], Γ := [(65, frameT [] tCap), (66, frameT [] tOrder), (67, frameT [] tSlAllocated), (68, frameT [] tCount), (69, frameT [] tGen)], inv := fun n => match n with
  | 1002 => some { X := Unit, sl := [3, 2], tf := fun _ => [.one (.at (.ptr 7 0)), .one (.at (.ptr 10 0))], hf := fun _ => chS S ++ [.box [.slc 8, .slc 9], .row true EC.slot (fillS S 0), .row true EC.u32 (orderOf S), .box [.slc 11, .slc 12], .row true EC.slot [], .row true EC.u32 []] }
  | 3 => some { X := XDu S, sl := [18, 3, 2], tf := fun x => [vi .i64 x.i, .one (.at (.ptr 7 0)), .one (.at (.ptr 10 0))], hf := fun x => chS S ++ [.box [.slc 8, .slc 9], .row true EC.slot (fillS S x.i), .row true EC.u32 (orderOf S), .box [.slc 11, .slc 12], .row true EC.slot [], .row true EC.u32 []], μ := fun x => ncap S - x.i }
  | _ => none }
def tDump : Tfm C0 := fun args H K => match args with
  | [.at (.ptr 0 0)] => arM H fun S => exW S ∧ ∀ (d : List SlotT) (o : List Int), d = slotsOf S → o = orderOf S → K (.one (.agg [.slc 7, .slc 8])) (chS S ++ [.row true EC.slot d, .row true EC.u32 o]) []
  | _ => False
theorem upTo_snoc (fr : Int) (n : Nat) : upTo fr n ++ [fr + 1 + (n : Int)] = upTo fr (n + 1) := by
  unfold upTo; rw [List.range_succ, List.map_append]; rfl
theorem vc_order (us : List Bool) (gn rl : List Int) (fr : Int) (K : KT) (h1 : 1 ≤ us.length) (h2 : us.length ≤ 65537) (h3 : rl.length ≤ 65537) (h4 : 0 ≤ fr) (h5 : fr ≤ us.length - 1) (h : ∀ o : List Int, o = orderL us rl fr → K (.one (.at (.slc 4))) (slC us gn rl fr ++ [.row true EC.u32 o]) []) :
    vc C0 (aOrder us gn rl fr) Try.f66 [.at (.ptr 0 0)] (slC us gn rl fr) (normK 4 K) := by
  refine Eq.mp (show ((1 ≤ us.length) ∧
(us.length ≤ 65537) ∧
(rl.length ≤ 65537) ∧
(0 ≤ fr) ∧
(fr ≤ 65537) ∧
((0 : Int) ≤ 0) ∧
(0 ≤ (↑rl.length : Int) + ((↑us.length : Int) - 1) - fr) ∧
(((↑rl.length : Int) + ((↑us.length : Int) - 1) - fr) * (↑(bytesOf C0 EC.u32) : Int) ≤ 140737488355328) ∧
(∃ x : XOr1 rl, (True ∧ (True ∧ True ∧ ((Value.int IntKind.i64 (IntKind.i64.wrap ((↑rl.length : Int) - 1))) = (Value.int IntKind.i64 ((↑x.k : Int) - 1))) ∧ True) ∧ (True ∧ True ∧ True ∧ ((Value.int IntKind.u32 (fr)) = (Value.int IntKind.u32 (fr))) ∧ True) ∧ ((us) = (us)) ∧ ((gn) = (gn)) ∧ ((rl) = (rl)) ∧ ([] = ((List.drop x.k rl).reverse)) ∧ True)) ∧
(∀ x : XOr1 rl, (True → (brS (decide ((↑x.k : Int) - 1 ≥ 0)) (((0 ≤ (↑x.k : Int) - 1) ∧ ((↑x.k : Int) - 1 < (↑rl.length : Int)) ∧ (((List.drop x.k rl).reverse.length + [rl.getD ((↑x.k : Int) - 1).toNat 0].length) * bytesOf C0 EC.u32 ≤ 140737488355328) ∧ (∃ x' : XOr1 rl, (True ∧ ((True ∧ True ∧ ((Value.int IntKind.i64 (IntKind.i64.wrap ((↑x.k : Int) - 1 - 1))) = (Value.int IntKind.i64 ((↑x'.k : Int) - 1))) ∧ True) ∧ (True ∧ True ∧ True ∧ ((Value.int IntKind.u32 (fr)) = (Value.int IntKind.u32 (fr))) ∧ True) ∧ ((us) = (us)) ∧ ((gn) = (gn)) ∧ ((rl) = (rl)) ∧ (((List.drop x.k rl).reverse ++ [rl.getD ((↑x.k : Int) - 1).toNat 0]) = ((List.drop x'.k rl).reverse)) ∧ True) ∧ (x'.k < x.k))))) (((∃ x1 : XOr2 us fr, (True ∧ (True ∧ True ∧ ((Value.int IntKind.i64 (IntKind.i64.wrap (IntKind.i64.wrap fr + 1))) = (Value.int IntKind.i64 (fr + 1 + (↑x1.n : Int)))) ∧ True) ∧ (True ∧
    True ∧ True ∧ ((Value.int IntKind.u32 (fr)) = (Value.int IntKind.u32 (fr))) ∧ True) ∧ ((us) = (us)) ∧ ((gn) = (gn)) ∧ ((rl) = (rl)) ∧ (((List.drop x.k rl).reverse) = (rl.reverse ++ upTo fr x1.n)) ∧ True)) ∧ (∀ x1 : XOr2 us fr, (True → ((1 ≤ us.length) ∧ (us.length ≤ 65537) ∧ (brS (decide (fr + 1 + (↑x1.n : Int) ≤ (↑us.length : Int) - 1)) (((((rl.reverse ++ upTo fr x1.n).length + [IntKind.u32.wrap (fr + 1 + (↑x1.n : Int))].length) * bytesOf C0 EC.u32 ≤ 140737488355328) ∧ (∃ x' : XOr2 us fr, (True ∧ ((True ∧ True ∧ ((Value.int IntKind.i64 (IntKind.i64.wrap (fr + 1 + (↑x1.n : Int) + 1))) = (Value.int IntKind.i64 (fr + 1 + (↑x'.n : Int)))) ∧ True) ∧ (True ∧ True ∧ True ∧ ((Value.int IntKind.u32 (fr)) = (Value.int IntKind.u32 (fr))) ∧ True) ∧ ((us) = (us)) ∧ ((gn) = (gn)) ∧ ((rl) = (rl)) ∧ ((rl.reverse ++ upTo fr x1.n ++ [IntKind.u32.wrap (fr + 1 + (↑x1.n : Int))]) = (rl.reverse ++ upTo fr x'.n)) ∧ True) ∧ (((↑us.length : Int) - 1 - fr).toNat - x'.n < ((↑us.length : Int) - 1 - fr).toNat - x1.n))))) ((K (SV.one (TV.at (At.slc 4))) [(Chunk.box [(At.slc 1), (At.slc 2), (At.slc 3), (At.val (Value.int IntKind.u32 (fr)))]), (Chunk.row true (EC.bool) (us)), (Chunk.row true (EC.u32) (gn)), (Chunk.row true (EC.u32) (rl)), (Chunk.row true (EC.u32) (rl.reverse ++ upTo fr x1.n))] [])))))))))))) = _ by kernel_rfl) ?_
  rw [bytes_u32]
  rw [wrap_id (x := (rl.length : Int) - 1) (by omega) (by omega), wrap_id (x := fr) (by omega) (by omega), wrap_id (x := fr + 1) (by omega) (by omega)]
  refine ⟨h1, h2, h3, h4, by omega, by decide, by omega, by omega, ⟨⟨rl.length, Nat.le_refl _⟩, trivial, ⟨trivial, trivial, rfl, trivial⟩, ⟨trivial, trivial, trivial, rfl, trivial⟩, rfl, rfl, rfl, by simp, trivial⟩, fun x _ => brS_of (fun c => ?_) fun c => ?_⟩
  · have c : 1 ≤ x.k := by have := of_decide_eq_true c; omega
    have hk := x.h
    have hg : rl[x.k - 1]? = some (rl.getD (x.k - 1) 0) := by simp [List.getD_eq_getElem?_getD, List.getElem?_eq_getElem (show x.k - 1 < rl.length by omega)]
    rw [wrap_id (by omega) (by omega), show ((x.k : Int) - 1).toNat = x.k - 1 by omega]
    refine ⟨by omega, by omega, ?_, ⟨x.k - 1, by omega⟩, trivial, ⟨⟨trivial, trivial, ?_, trivial⟩, ⟨trivial, trivial, trivial, rfl, trivial⟩, rfl, rfl, rfl, ?_, trivial⟩, ?_⟩
    · simp; omega
    · congr 1; show (x.k : Int) - 1 - 1 = ((x.k - 1 : Nat) : Int) - 1; omega
    · show _ = (rl.drop (x.k - 1)).reverse
      rw [drop_cons hg, List.reverse_cons, show x.k - 1 + 1 = x.k by omega]
    · show x.k - 1 < x.k; omega
  · have c : x.k = 0 := by have := of_decide_eq_false c; omega
    refine ⟨⟨⟨0, Nat.zero_le _⟩, trivial, ⟨trivial, trivial, by congr 1; show fr + 1 = fr + 1 + ((0 : Nat) : Int); omega, trivial⟩, ⟨trivial, trivial, trivial, rfl, trivial⟩, rfl, rfl, rfl, by rw [c]; simp [upTo], trivial⟩, fun y _ => ⟨h1, h2, brS_of (fun d => ?_) fun d => ?_⟩⟩
    · have d : fr + 1 + (y.n : Int) ≤ us.length - 1 := of_decide_eq_true d
      have hul : (upTo fr y.n).length = y.n := by simp [upTo]
      rw [wrap_u32 (by omega) (by omega), wrap_id (by omega) (by omega)]
      refine ⟨?_, ⟨y.n + 1, by omega⟩, trivial, ⟨⟨trivial, trivial, ?_, trivial⟩, ⟨trivial, trivial, trivial, rfl, trivial⟩, rfl, rfl, rfl, ?_, trivial⟩, ?_⟩
      · simp [hul]; omega
      · congr 1; show fr + 1 + (y.n : Int) + 1 = fr + 1 + ((y.n + 1 : Nat) : Int); omega
      · show _ = rl.reverse ++ upTo fr (y.n + 1)
        rw [← upTo_snoc, List.append_assoc]
      · show _ - (y.n + 1) < _; omega
    · have d : ¬ fr + 1 + (y.n : Int) ≤ us.length - 1 := of_decide_eq_false d
      have hn : y.n = ((us.length : Int) - 1 - fr).toNat := by have := y.h; omega
      exact h _ (by unfold orderL; rw [hn])
theorem s_order : SoundT C0 66 tOrder := by
  refine .of Try.func66 (by decide) rfl fun args H K h hB => ?_
  unfold tOrder at h
  split at h <;> try exact h.elim
  unfold slM at h
  split at h <;> try exact h.elim
  rename_i fr us gn rl
  obtain ⟨h1, h2, h3, h4, h5, h6⟩ := h
  exact ⟨aOrder us gn rl fr, ⟨frame C0.ok s_slFree _, frame C0.ok s_slCap _, trivial⟩, vc_order us gn rl fr K h1 h2 h3 h4 h5 h6⟩
theorem fill_zero (S : Arn) : List.replicate (ncap S) SlotT.zero = fillS S 0 := by simp [fillS]
theorem fill_len (S : Arn) (i : Nat) (h : i ≤ ncap S) : (fillS S i).length = ncap S := by simp [fillS]; omega
theorem fill_next (S : Arn) {i : Nat} (h : i < ncap S) : (fillS S i).set i (slotAt S i) = fillS S (i + 1) := by
  unfold fillS
  obtain ⟨m, hm⟩ : ∃ m, ncap S - i = m + 1 := ⟨ncap S - i - 1, by omega⟩
  rw [hm, show ncap S - (i + 1) = m by omega, List.range_succ, List.map_append, List.replicate_succ, List.set_append_right _ _ (by simp)]
  simp
theorem fill_all (S : Arn) : fillS S (ncap S) = slotsOf S := by simp [fillS, slotsOf]
theorem vc_dump (S : Arn) (K : KT) (hw : exW S) (h : ∀ (d : List SlotT) (o : List Int), d = slotsOf S → o = orderOf S → K (.one (.agg [.slc 7, .slc 8])) (chS S ++ [.row true EC.slot d, .row true EC.u32 o]) []) :
    vc C0 (aDump S) Try.f21 [.at (.ptr 0 0)] (chS S) (normK 7 K) := by
  refine Eq.mp (show ((((exW S) ∧
((0 ≤ S.cap) ∧
(S.cap ≤ S.cap) ∧
(S.cap * (↑(bytesOf C0 EC.slot) : Int) ≤ 140737488355328) ∧
(((1 ≤ S.used.length) ∧
(S.used.length ≤ 65537) ∧
(S.rel.length ≤ 65537) ∧
(0 ≤ S.fresh) ∧
(S.fresh ≤ (↑S.used.length : Int) - 1) ∧
(∀ o : List Int, (((o) = (orderL S.used S.rel S.fresh)) → (∃ x : Unit, (True ∧ (True ∧ True ∧ True ∧ True) ∧ (True ∧ True ∧ True ∧ ((Value.int IntKind.u64 (S.reads)) = (Value.int IntKind.u64 (S.reads))) ∧ True) ∧ (True ∧ True ∧ True ∧ ((Value.int IntKind.u32 (S.fresh)) = (Value.int IntKind.u32 (S.fresh))) ∧ True) ∧ ((S.nodes) = (S.nodes)) ∧ ((S.counts) = (S.counts)) ∧ ((S.used) = (S.used)) ∧ ((S.gen) = (S.gen)) ∧ ((S.rel) = (S.rel)) ∧ (True ∧ True ∧ True) ∧ ((List.replicate S.cap.toNat { alloc := false, count := 0, gen := 0, node := { key := 0, value := 0, left := 0, right := 0, size := 0, sum := 0, min := 0, max := 0 : NodeT } : SlotT }) = (fillS S 0)) ∧ ((o) = (orderOf S)) ∧ (True ∧ True ∧ True) ∧ ((([] : List SlotT) = [])) ∧ ((([] : List Int) = [])) ∧ True))))) ∧
(1 ≤ S.used.length) ∧
(S.used.length ≤ 65537) ∧
(S.rel.length ≤ 65537) ∧
(0 ≤ S.fresh) ∧
(S.fresh ≤ (↑S.used.length : Int) - 1) ∧
(∀ o : List Int, (((o) = (orderL S.used S.rel S.fresh)) → (∃ x : Unit, (True ∧ (True ∧ True ∧ True ∧ True) ∧ (True ∧ True ∧ True ∧ ((Value.int IntKind.u64 (S.reads)) = (Value.int IntKind.u64 (S.reads))) ∧ True) ∧ (True ∧ True ∧ True ∧ ((Value.int IntKind.u32 (S.fresh)) = (Value.int IntKind.u32 (S.fresh))) ∧ True) ∧ ((S.nodes) = (S.nodes)) ∧
    ((S.counts) = (S.counts)) ∧ ((S.used) = (S.used)) ∧ ((S.gen) = (S.gen)) ∧ ((S.rel) = (S.rel)) ∧ (True ∧ True ∧ True) ∧ ((List.replicate S.cap.toNat { alloc := false, count := 0, gen := 0, node := { key := 0, value := 0, left := 0, right := 0, size := 0, sum := 0, min := 0, max := 0 : NodeT } : SlotT }) = (fillS S 0)) ∧ ((o) = (orderOf S)) ∧ (True ∧ True ∧ True) ∧ ((([] : List SlotT) = [])) ∧ ((([] : List Int) = [])) ∧ True))))) ∧
(1 ≤ S.used.length) ∧
(S.used.length ≤ 65537) ∧
(S.rel.length ≤ 65537) ∧
(0 ≤ S.fresh) ∧
(S.fresh ≤ (↑S.used.length : Int) - 1) ∧
(∀ o : List Int, (((o) = (orderL S.used S.rel S.fresh)) → (∃ x : Unit, (True ∧ (True ∧ True ∧ True ∧ True) ∧ (True ∧ True ∧ True ∧ ((Value.int IntKind.u64 (S.reads)) = (Value.int IntKind.u64 (S.reads))) ∧ True) ∧ (True ∧ True ∧ True ∧ ((Value.int IntKind.u32 (S.fresh)) = (Value.int IntKind.u32 (S.fresh))) ∧ True) ∧ ((S.nodes) = (S.nodes)) ∧ ((S.counts) = (S.counts)) ∧ ((S.used) = (S.used)) ∧ ((S.gen) = (S.gen)) ∧ ((S.rel) = (S.rel)) ∧ (True ∧ True ∧ True) ∧ ((List.replicate S.cap.toNat { alloc := false, count := 0, gen := 0, node := { key := 0, value := 0, left := 0, right := 0, size := 0, sum := 0, min := 0, max := 0 : NodeT } : SlotT }) = (fillS S 0)) ∧ ((o) = (orderOf S)) ∧ (True ∧ True ∧ True) ∧ ((([] : List SlotT) = [])) ∧ ((([] : List Int) = [])) ∧
    True))))) ∧
(((0 ≤ S.cap) ∧
(S.cap ≤ S.cap) ∧
(S.cap * (↑(bytesOf C0 EC.slot) : Int) ≤ 140737488355328) ∧
((1 ≤ S.used.length) ∧
(S.used.length ≤ 65537) ∧
(S.rel.length ≤ 65537) ∧
(0 ≤ S.fresh) ∧
(S.fresh ≤ (↑S.used.length : Int) - 1) ∧
(∀ o : List Int, (((o) = (orderL S.used S.rel S.fresh)) → (∃ x : Unit, (True ∧ (True ∧ True ∧ True ∧ True) ∧ (True ∧ True ∧ True ∧ ((Value.int IntKind.u64 (S.reads)) = (Value.int IntKind.u64 (S.reads))) ∧ True) ∧ (True ∧ True ∧ True ∧ ((Value.int IntKind.u32 (S.fresh)) = (Value.int IntKind.u32 (S.fresh))) ∧ True) ∧ ((S.nodes) = (S.nodes)) ∧ ((S.counts) = (S.counts)) ∧ ((S.used) = (S.used)) ∧ ((S.gen) = (S.gen)) ∧ ((S.rel) = (S.rel)) ∧ (True ∧ True ∧ True) ∧ ((List.replicate S.cap.toNat { alloc := false, count := 0, gen := 0, node := { key := 0, value := 0, left := 0, right := 0, size := 0, sum := 0, min := 0, max := 0 : NodeT } : SlotT }) = (fillS S 0)) ∧ ((o) = (orderOf S)) ∧ (True ∧ True ∧ True) ∧ ((([] : List SlotT) = [])) ∧ ((([] : List Int) = [])) ∧ True))))) ∧
(1 ≤ S.used.length) ∧
(S.used.length ≤ 65537) ∧
(S.rel.length ≤ 65537) ∧
(0 ≤ S.fresh) ∧
(S.fresh ≤ (↑S.used.length : Int) - 1) ∧
(∀ o : List Int, (((o) = (orderL S.used S.rel S.fresh)) → (∃ x : Unit, (True ∧ (True ∧ True ∧ True ∧ True) ∧ (True ∧ True ∧ True ∧ ((Value.int IntKind.u64 (S.reads)) = (Value.int IntKind.u64 (S.reads))) ∧ True) ∧ (True ∧ True ∧ True ∧ ((Value.int IntKind.u32 (S.fresh)) = (Value.int IntKind.u32 (S.fresh))) ∧ True) ∧ ((S.nodes) = (S.nodes)) ∧
    ((S.counts) = (S.counts)) ∧ ((S.used) = (S.used)) ∧ ((S.gen) = (S.gen)) ∧ ((S.rel) = (S.rel)) ∧ (True ∧ True ∧ True) ∧ ((List.replicate S.cap.toNat { alloc := false, count := 0, gen := 0, node := { key := 0, value := 0, left := 0, right := 0, size := 0, sum := 0, min := 0, max := 0 : NodeT } : SlotT }) = (fillS S 0)) ∧ ((o) = (orderOf S)) ∧ (True ∧ True ∧ True) ∧ ((([] : List SlotT) = [])) ∧ ((([] : List Int) = [])) ∧ True))))) ∧
((1 ≤ S.used.length) ∧
(S.used.length ≤ 65537) ∧
(S.rel.length ≤ 65537) ∧
(0 ≤ S.fresh) ∧
(S.fresh ≤ (↑S.used.length : Int) - 1) ∧
(∀ o : List Int, (((o) = (orderL S.used S.rel S.fresh)) → (((0 ≤ S.cap) ∧ (S.cap ≤ S.cap) ∧ (S.cap * (↑(bytesOf C0 EC.slot) : Int) ≤ 140737488355328) ∧ (∃ x : Unit, (True ∧ (True ∧ True ∧ True ∧ True) ∧ (True ∧ True ∧ True ∧ ((Value.int IntKind.u64 (S.reads)) = (Value.int IntKind.u64 (S.reads))) ∧ True) ∧ (True ∧ True ∧ True ∧ ((Value.int IntKind.u32 (S.fresh)) = (Value.int IntKind.u32 (S.fresh))) ∧ True) ∧ ((S.nodes) = (S.nodes)) ∧ ((S.counts) = (S.counts)) ∧ ((S.used) = (S.used)) ∧ ((S.gen) = (S.gen)) ∧ ((S.rel) = (S.rel)) ∧ (True ∧ True ∧ True) ∧ ((List.replicate S.cap.toNat { alloc := false, count := 0, gen := 0, node := { key := 0, value := 0, left := 0, right := 0, size := 0, sum := 0, min := 0, max := 0 : NodeT } : SlotT }) = (fillS S 0)) ∧ ((o) = (orderOf S)) ∧ (True ∧ True ∧ True) ∧ ((([] : List SlotT) = [])) ∧ ((([] : List Int) = [])) ∧ True))) ∧ (0 ≤ S.cap) ∧ (S.cap ≤ S.cap) ∧
    (S.cap * (↑(bytesOf C0 EC.slot) : Int) ≤ 140737488355328) ∧ (∃ x : Unit, (True ∧ (True ∧ True ∧ True ∧ True) ∧ (True ∧ True ∧ True ∧ ((Value.int IntKind.u64 (S.reads)) = (Value.int IntKind.u64 (S.reads))) ∧ True) ∧ (True ∧ True ∧ True ∧ ((Value.int IntKind.u32 (S.fresh)) = (Value.int IntKind.u32 (S.fresh))) ∧ True) ∧ ((S.nodes) = (S.nodes)) ∧ ((S.counts) = (S.counts)) ∧ ((S.used) = (S.used)) ∧ ((S.gen) = (S.gen)) ∧ ((S.rel) = (S.rel)) ∧ (True ∧ True ∧ True) ∧ ((List.replicate S.cap.toNat { alloc := false, count := 0, gen := 0, node := { key := 0, value := 0, left := 0, right := 0, size := 0, sum := 0, min := 0, max := 0 : NodeT } : SlotT }) = (fillS S 0)) ∧ ((o) = (orderOf S)) ∧ (True ∧ True ∧ True) ∧ ((([] : List SlotT) = [])) ∧ ((([] : List Int) = [])) ∧ True)))))) ∧
((0 ≤ S.cap) ∧
(S.cap ≤ S.cap) ∧
(S.cap * (↑(bytesOf C0 EC.slot) : Int) ≤ 140737488355328) ∧
(1 ≤ S.used.length) ∧
(S.used.length ≤ 65537) ∧
(S.rel.length ≤ 65537) ∧
(0 ≤ S.fresh) ∧
(S.fresh ≤ (↑S.used.length : Int) - 1) ∧
(∀ o : List Int, (((o) = (orderL S.used S.rel S.fresh)) → (∃ x : Unit, (True ∧ (True ∧ True ∧ True ∧ True) ∧ (True ∧ True ∧ True ∧ ((Value.int IntKind.u64 (S.reads)) = (Value.int IntKind.u64 (S.reads))) ∧ True) ∧ (True ∧ True ∧ True ∧ ((Value.int IntKind.u32 (S.fresh)) = (Value.int IntKind.u32 (S.fresh))) ∧ True) ∧ ((S.nodes) = (S.nodes)) ∧ ((S.counts) = (S.counts)) ∧ ((S.used) = (S.used)) ∧ ((S.gen) = (S.gen)) ∧ ((S.rel) = (S.rel)) ∧ (True ∧ True ∧ True) ∧
    ((List.replicate S.cap.toNat { alloc := false, count := 0, gen := 0, node := { key := 0, value := 0, left := 0, right := 0, size := 0, sum := 0, min := 0, max := 0 : NodeT } : SlotT }) = (fillS S 0)) ∧ ((o) = (orderOf S)) ∧ (True ∧ True ∧ True) ∧ ((([] : List SlotT) = [])) ∧ ((([] : List Int) = [])) ∧ True))))) ∧
(1 ≤ S.used.length) ∧
(S.used.length ≤ 65537) ∧
(S.rel.length ≤ 65537) ∧
(0 ≤ S.fresh) ∧
(S.fresh ≤ (↑S.used.length : Int) - 1) ∧
(∀ o : List Int, (((o) = (orderL S.used S.rel S.fresh)) → ((0 ≤ S.cap) ∧ (S.cap ≤ S.cap) ∧ (S.cap * (↑(bytesOf C0 EC.slot) : Int) ≤ 140737488355328) ∧ (∃ x : Unit, (True ∧ (True ∧ True ∧ True ∧ True) ∧ (True ∧ True ∧ True ∧ ((Value.int IntKind.u64 (S.reads)) = (Value.int IntKind.u64 (S.reads))) ∧ True) ∧ (True ∧ True ∧ True ∧ ((Value.int IntKind.u32 (S.fresh)) = (Value.int IntKind.u32 (S.fresh))) ∧ True) ∧ ((S.nodes) = (S.nodes)) ∧ ((S.counts) = (S.counts)) ∧ ((S.used) = (S.used)) ∧ ((S.gen) = (S.gen)) ∧ ((S.rel) = (S.rel)) ∧ (True ∧ True ∧ True) ∧ ((List.replicate S.cap.toNat { alloc := false, count := 0, gen := 0, node := { key := 0, value := 0, left := 0, right := 0, size := 0, sum := 0, min := 0, max := 0 : NodeT } : SlotT }) = (fillS S 0)) ∧ ((o) = (orderOf S)) ∧ (True ∧ True ∧ True) ∧ ((([] : List SlotT) = [])) ∧ ((([] : List Int) = [])) ∧
    True)))))) ∧
((0 ≤ S.cap) ∧
(S.cap ≤ S.cap) ∧
(S.cap * (↑(bytesOf C0 EC.slot) : Int) ≤ 140737488355328) ∧
(1 ≤ S.used.length) ∧
(S.used.length ≤ 65537) ∧
(S.rel.length ≤ 65537) ∧
(0 ≤ S.fresh) ∧
(S.fresh ≤ (↑S.used.length : Int) - 1) ∧
(∀ o : List Int, (((o) = (orderL S.used S.rel S.fresh)) → (∃ x : Unit, (True ∧ (True ∧ True ∧ True ∧ True) ∧ (True ∧ True ∧ True ∧ ((Value.int IntKind.u64 (S.reads)) = (Value.int IntKind.u64 (S.reads))) ∧ True) ∧ (True ∧ True ∧ True ∧ ((Value.int IntKind.u32 (S.fresh)) = (Value.int IntKind.u32 (S.fresh))) ∧ True) ∧ ((S.nodes) = (S.nodes)) ∧ ((S.counts) = (S.counts)) ∧ ((S.used) = (S.used)) ∧ ((S.gen) = (S.gen)) ∧ ((S.rel) = (S.rel)) ∧ (True ∧ True ∧ True) ∧ ((List.replicate S.cap.toNat { alloc := false, count := 0, gen := 0, node := { key := 0, value := 0, left := 0, right := 0, size := 0, sum := 0, min := 0, max := 0 : NodeT } : SlotT }) = (fillS S 0)) ∧ ((o) = (orderOf S)) ∧ (True ∧ True ∧ True) ∧ ((([] : List SlotT) = [])) ∧ ((([] : List Int) = [])) ∧ True))))) ∧
((0 ≤ S.cap) ∧
(S.cap ≤ S.cap) ∧
(S.cap * (↑(bytesOf C0 EC.slot) : Int) ≤ 140737488355328) ∧
(1 ≤ S.used.length) ∧
(S.used.length ≤ 65537) ∧
(S.rel.length ≤ 65537) ∧
(0 ≤ S.fresh) ∧
(S.fresh ≤ (↑S.used.length : Int) - 1) ∧
(∀ o : List Int, (((o) = (orderL S.used S.rel S.fresh)) → (∃ x : Unit, (True ∧ (True ∧ True ∧ True ∧ True) ∧ (True ∧ True ∧ True ∧ ((Value.int IntKind.u64 (S.reads)) = (Value.int IntKind.u64 (S.reads))) ∧ True) ∧ (True ∧ True ∧ True ∧
    ((Value.int IntKind.u32 (S.fresh)) = (Value.int IntKind.u32 (S.fresh))) ∧ True) ∧ ((S.nodes) = (S.nodes)) ∧ ((S.counts) = (S.counts)) ∧ ((S.used) = (S.used)) ∧ ((S.gen) = (S.gen)) ∧ ((S.rel) = (S.rel)) ∧ (True ∧ True ∧ True) ∧ ((List.replicate S.cap.toNat { alloc := false, count := 0, gen := 0, node := { key := 0, value := 0, left := 0, right := 0, size := 0, sum := 0, min := 0, max := 0 : NodeT } : SlotT }) = (fillS S 0)) ∧ ((o) = (orderOf S)) ∧ (True ∧ True ∧ True) ∧ ((([] : List SlotT) = [])) ∧ ((([] : List Int) = [])) ∧ True))))) ∧
(1 ≤ S.used.length) ∧
(S.used.length ≤ 65537) ∧
(S.rel.length ≤ 65537) ∧
(0 ≤ S.fresh) ∧
(S.fresh ≤ (↑S.used.length : Int) - 1) ∧
(∀ o : List Int, (((o) = (orderL S.used S.rel S.fresh)) → ((0 ≤ S.cap) ∧ (S.cap ≤ S.cap) ∧ (S.cap * (↑(bytesOf C0 EC.slot) : Int) ≤ 140737488355328) ∧ (∃ x : Unit, (True ∧ (True ∧ True ∧ True ∧ True) ∧ (True ∧ True ∧ True ∧ ((Value.int IntKind.u64 (S.reads)) = (Value.int IntKind.u64 (S.reads))) ∧ True) ∧ (True ∧ True ∧ True ∧ ((Value.int IntKind.u32 (S.fresh)) = (Value.int IntKind.u32 (S.fresh))) ∧ True) ∧ ((S.nodes) = (S.nodes)) ∧ ((S.counts) = (S.counts)) ∧ ((S.used) = (S.used)) ∧ ((S.gen) = (S.gen)) ∧ ((S.rel) = (S.rel)) ∧ (True ∧ True ∧ True) ∧ ((List.replicate S.cap.toNat { alloc := false, count := 0, gen := 0, node := { key := 0, value := 0, left := 0, right := 0, size := 0, sum := 0, min := 0, max := 0 : NodeT } : SlotT }) = (fillS S 0)) ∧ ((o) = (orderOf S)) ∧ (True ∧ True ∧ True) ∧
    ((([] : List SlotT) = [])) ∧ ((([] : List Int) = [])) ∧ True)))))) ∧
(((exW S) ∧
((0 ≤ S.cap) ∧
(S.cap ≤ S.cap) ∧
(S.cap * (↑(bytesOf C0 EC.slot) : Int) ≤ 140737488355328) ∧
((1 ≤ S.used.length) ∧
(S.used.length ≤ 65537) ∧
(S.rel.length ≤ 65537) ∧
(0 ≤ S.fresh) ∧
(S.fresh ≤ (↑S.used.length : Int) - 1) ∧
(∀ o : List Int, (((o) = (orderL S.used S.rel S.fresh)) → (∃ x : Unit, (True ∧ (True ∧ True ∧ True ∧ True) ∧ (True ∧ True ∧ True ∧ ((Value.int IntKind.u64 (S.reads)) = (Value.int IntKind.u64 (S.reads))) ∧ True) ∧ (True ∧ True ∧ True ∧ ((Value.int IntKind.u32 (S.fresh)) = (Value.int IntKind.u32 (S.fresh))) ∧ True) ∧ ((S.nodes) = (S.nodes)) ∧ ((S.counts) = (S.counts)) ∧ ((S.used) = (S.used)) ∧ ((S.gen) = (S.gen)) ∧ ((S.rel) = (S.rel)) ∧ (True ∧ True ∧ True) ∧ ((List.replicate S.cap.toNat { alloc := false, count := 0, gen := 0, node := { key := 0, value := 0, left := 0, right := 0, size := 0, sum := 0, min := 0, max := 0 : NodeT } : SlotT }) = (fillS S 0)) ∧ ((o) = (orderOf S)) ∧ (True ∧ True ∧ True) ∧ ((([] : List SlotT) = [])) ∧ ((([] : List Int) = [])) ∧ True))))) ∧
(1 ≤ S.used.length) ∧
(S.used.length ≤ 65537) ∧
(S.rel.length ≤ 65537) ∧
(0 ≤ S.fresh) ∧
(S.fresh ≤ (↑S.used.length : Int) - 1) ∧
(∀ o : List Int, (((o) = (orderL S.used S.rel S.fresh)) → (∃ x : Unit, (True ∧ (True ∧ True ∧ True ∧ True) ∧ (True ∧ True ∧ True ∧ ((Value.int IntKind.u64 (S.reads)) = (Value.int IntKind.u64 (S.reads))) ∧ True) ∧ (True ∧ True ∧ True ∧
    ((Value.int IntKind.u32 (S.fresh)) = (Value.int IntKind.u32 (S.fresh))) ∧ True) ∧ ((S.nodes) = (S.nodes)) ∧ ((S.counts) = (S.counts)) ∧ ((S.used) = (S.used)) ∧ ((S.gen) = (S.gen)) ∧ ((S.rel) = (S.rel)) ∧ (True ∧ True ∧ True) ∧ ((List.replicate S.cap.toNat { alloc := false, count := 0, gen := 0, node := { key := 0, value := 0, left := 0, right := 0, size := 0, sum := 0, min := 0, max := 0 : NodeT } : SlotT }) = (fillS S 0)) ∧ ((o) = (orderOf S)) ∧ (True ∧ True ∧ True) ∧ ((([] : List SlotT) = [])) ∧ ((([] : List Int) = [])) ∧ True))))) ∧
((1 ≤ S.used.length) ∧
(S.used.length ≤ 65537) ∧
(S.rel.length ≤ 65537) ∧
(0 ≤ S.fresh) ∧
(S.fresh ≤ (↑S.used.length : Int) - 1) ∧
(∀ o : List Int, (((o) = (orderL S.used S.rel S.fresh)) → (((0 ≤ S.cap) ∧ (S.cap ≤ S.cap) ∧ (S.cap * (↑(bytesOf C0 EC.slot) : Int) ≤ 140737488355328) ∧ (∃ x : Unit, (True ∧ (True ∧ True ∧ True ∧ True) ∧ (True ∧ True ∧ True ∧ ((Value.int IntKind.u64 (S.reads)) = (Value.int IntKind.u64 (S.reads))) ∧ True) ∧ (True ∧ True ∧ True ∧ ((Value.int IntKind.u32 (S.fresh)) = (Value.int IntKind.u32 (S.fresh))) ∧ True) ∧ ((S.nodes) = (S.nodes)) ∧ ((S.counts) = (S.counts)) ∧ ((S.used) = (S.used)) ∧ ((S.gen) = (S.gen)) ∧ ((S.rel) = (S.rel)) ∧ (True ∧ True ∧ True) ∧ ((List.replicate S.cap.toNat { alloc := false, count := 0, gen := 0, node := { key := 0, value := 0, left := 0, right := 0, size := 0, sum := 0, min := 0, max := 0 : NodeT } : SlotT }) = (fillS S 0)) ∧ ((o) = (orderOf S)) ∧ (True ∧ True ∧ True) ∧
    ((([] : List SlotT) = [])) ∧ ((([] : List Int) = [])) ∧ True))) ∧ (0 ≤ S.cap) ∧ (S.cap ≤ S.cap) ∧ (S.cap * (↑(bytesOf C0 EC.slot) : Int) ≤ 140737488355328) ∧ (∃ x : Unit, (True ∧ (True ∧ True ∧ True ∧ True) ∧ (True ∧ True ∧ True ∧ ((Value.int IntKind.u64 (S.reads)) = (Value.int IntKind.u64 (S.reads))) ∧ True) ∧ (True ∧ True ∧ True ∧ ((Value.int IntKind.u32 (S.fresh)) = (Value.int IntKind.u32 (S.fresh))) ∧ True) ∧ ((S.nodes) = (S.nodes)) ∧ ((S.counts) = (S.counts)) ∧ ((S.used) = (S.used)) ∧ ((S.gen) = (S.gen)) ∧ ((S.rel) = (S.rel)) ∧ (True ∧ True ∧ True) ∧ ((List.replicate S.cap.toNat { alloc := false, count := 0, gen := 0, node := { key := 0, value := 0, left := 0, right := 0, size := 0, sum := 0, min := 0, max := 0 : NodeT } : SlotT }) = (fillS S 0)) ∧ ((o) = (orderOf S)) ∧ (True ∧ True ∧ True) ∧ ((([] : List SlotT) = [])) ∧ ((([] : List Int) = [])) ∧ True)))))) ∧
((0 ≤ S.cap) ∧
(S.cap ≤ S.cap) ∧
(S.cap * (↑(bytesOf C0 EC.slot) : Int) ≤ 140737488355328) ∧
(1 ≤ S.used.length) ∧
(S.used.length ≤ 65537) ∧
(S.rel.length ≤ 65537) ∧
(0 ≤ S.fresh) ∧
(S.fresh ≤ (↑S.used.length : Int) - 1) ∧
(∀ o : List Int, (((o) = (orderL S.used S.rel S.fresh)) → (∃ x : Unit, (True ∧ (True ∧ True ∧ True ∧ True) ∧ (True ∧ True ∧ True ∧ ((Value.int IntKind.u64 (S.reads)) = (Value.int IntKind.u64 (S.reads))) ∧ True) ∧ (True ∧ True ∧ True ∧ ((Value.int IntKind.u32 (S.fresh)) = (Value.int IntKind.u32 (S.fresh))) ∧ True) ∧ ((S.nodes) = (S.nodes)) ∧ ((S.counts) = (S.counts)) ∧ ((S.used) = (S.used)) ∧
    ((S.gen) = (S.gen)) ∧ ((S.rel) = (S.rel)) ∧ (True ∧ True ∧ True) ∧ ((List.replicate S.cap.toNat { alloc := false, count := 0, gen := 0, node := { key := 0, value := 0, left := 0, right := 0, size := 0, sum := 0, min := 0, max := 0 : NodeT } : SlotT }) = (fillS S 0)) ∧ ((o) = (orderOf S)) ∧ (True ∧ True ∧ True) ∧ ((([] : List SlotT) = [])) ∧ ((([] : List Int) = [])) ∧ True))))) ∧
(1 ≤ S.used.length) ∧
(S.used.length ≤ 65537) ∧
(S.rel.length ≤ 65537) ∧
(0 ≤ S.fresh) ∧
(S.fresh ≤ (↑S.used.length : Int) - 1) ∧
(∀ o : List Int, (((o) = (orderL S.used S.rel S.fresh)) → ((0 ≤ S.cap) ∧ (S.cap ≤ S.cap) ∧ (S.cap * (↑(bytesOf C0 EC.slot) : Int) ≤ 140737488355328) ∧ (∃ x : Unit, (True ∧ (True ∧ True ∧ True ∧ True) ∧ (True ∧ True ∧ True ∧ ((Value.int IntKind.u64 (S.reads)) = (Value.int IntKind.u64 (S.reads))) ∧ True) ∧ (True ∧ True ∧ True ∧ ((Value.int IntKind.u32 (S.fresh)) = (Value.int IntKind.u32 (S.fresh))) ∧ True) ∧ ((S.nodes) = (S.nodes)) ∧ ((S.counts) = (S.counts)) ∧ ((S.used) = (S.used)) ∧ ((S.gen) = (S.gen)) ∧ ((S.rel) = (S.rel)) ∧ (True ∧ True ∧ True) ∧ ((List.replicate S.cap.toNat { alloc := false, count := 0, gen := 0, node := { key := 0, value := 0, left := 0, right := 0, size := 0, sum := 0, min := 0, max := 0 : NodeT } : SlotT }) = (fillS S 0)) ∧ ((o) = (orderOf S)) ∧ (True ∧ True ∧ True) ∧ ((([] : List SlotT) = [])) ∧ ((([] : List Int) = [])) ∧
    True)))))) ∧
(exW S) ∧
((0 ≤ S.cap) ∧
(S.cap ≤ S.cap) ∧
(S.cap * (↑(bytesOf C0 EC.slot) : Int) ≤ 140737488355328) ∧
(1 ≤ S.used.length) ∧
(S.used.length ≤ 65537) ∧
(S.rel.length ≤ 65537) ∧
(0 ≤ S.fresh) ∧
(S.fresh ≤ (↑S.used.length : Int) - 1) ∧
(∀ o : List Int, (((o) = (orderL S.used S.rel S.fresh)) → (∃ x : Unit, (True ∧ (True ∧ True ∧ True ∧ True) ∧ (True ∧ True ∧ True ∧ ((Value.int IntKind.u64 (S.reads)) = (Value.int IntKind.u64 (S.reads))) ∧ True) ∧ (True ∧ True ∧ True ∧ ((Value.int IntKind.u32 (S.fresh)) = (Value.int IntKind.u32 (S.fresh))) ∧ True) ∧ ((S.nodes) = (S.nodes)) ∧ ((S.counts) = (S.counts)) ∧ ((S.used) = (S.used)) ∧ ((S.gen) = (S.gen)) ∧ ((S.rel) = (S.rel)) ∧ (True ∧ True ∧ True) ∧ ((List.replicate S.cap.toNat { alloc := false, count := 0, gen := 0, node := { key := 0, value := 0, left := 0, right := 0, size := 0, sum := 0, min := 0, max := 0 : NodeT } : SlotT }) = (fillS S 0)) ∧ ((o) = (orderOf S)) ∧ (True ∧ True ∧ True) ∧ ((([] : List SlotT) = [])) ∧ ((([] : List Int) = [])) ∧ True))))) ∧
(1 ≤ S.used.length) ∧
(S.used.length ≤ 65537) ∧
(S.rel.length ≤ 65537) ∧
(0 ≤ S.fresh) ∧
(S.fresh ≤ (↑S.used.length : Int) - 1) ∧
(∀ o : List Int, (((o) = (orderL S.used S.rel S.fresh)) → ((0 ≤ S.cap) ∧ (S.cap ≤ S.cap) ∧ (S.cap * (↑(bytesOf C0 EC.slot) : Int) ≤ 140737488355328) ∧ (∃ x : Unit, (True ∧ (True ∧ True ∧ True ∧ True) ∧ (True ∧ True ∧ True ∧ ((Value.int IntKind.u64 (S.reads)) = (Value.int IntKind.u64 (S.reads))) ∧ True) ∧ (True ∧ True ∧ True ∧
    ((Value.int IntKind.u32 (S.fresh)) = (Value.int IntKind.u32 (S.fresh))) ∧ True) ∧ ((S.nodes) = (S.nodes)) ∧ ((S.counts) = (S.counts)) ∧ ((S.used) = (S.used)) ∧ ((S.gen) = (S.gen)) ∧ ((S.rel) = (S.rel)) ∧ (True ∧ True ∧ True) ∧ ((List.replicate S.cap.toNat { alloc := false, count := 0, gen := 0, node := { key := 0, value := 0, left := 0, right := 0, size := 0, sum := 0, min := 0, max := 0 : NodeT } : SlotT }) = (fillS S 0)) ∧ ((o) = (orderOf S)) ∧ (True ∧ True ∧ True) ∧ ((([] : List SlotT) = [])) ∧ ((([] : List Int) = [])) ∧ True)))))) ∧
((exW S) ∧
((0 ≤ S.cap) ∧
(S.cap ≤ S.cap) ∧
(S.cap * (↑(bytesOf C0 EC.slot) : Int) ≤ 140737488355328) ∧
(1 ≤ S.used.length) ∧
(S.used.length ≤ 65537) ∧
(S.rel.length ≤ 65537) ∧
(0 ≤ S.fresh) ∧
(S.fresh ≤ (↑S.used.length : Int) - 1) ∧
(∀ o : List Int, (((o) = (orderL S.used S.rel S.fresh)) → (∃ x : Unit, (True ∧ (True ∧ True ∧ True ∧ True) ∧ (True ∧ True ∧ True ∧ ((Value.int IntKind.u64 (S.reads)) = (Value.int IntKind.u64 (S.reads))) ∧ True) ∧ (True ∧ True ∧ True ∧ ((Value.int IntKind.u32 (S.fresh)) = (Value.int IntKind.u32 (S.fresh))) ∧ True) ∧ ((S.nodes) = (S.nodes)) ∧ ((S.counts) = (S.counts)) ∧ ((S.used) = (S.used)) ∧ ((S.gen) = (S.gen)) ∧ ((S.rel) = (S.rel)) ∧ (True ∧ True ∧ True) ∧ ((List.replicate S.cap.toNat { alloc := false, count := 0, gen := 0, node := { key := 0, value := 0, left := 0, right := 0, size := 0, sum := 0, min := 0, max := 0 : NodeT } : SlotT }) = (fillS S 0)) ∧ ((o) = (orderOf S)) ∧ (True ∧ True ∧ True) ∧
    ((([] : List SlotT) = [])) ∧ ((([] : List Int) = [])) ∧ True))))) ∧
((0 ≤ S.cap) ∧
(S.cap ≤ S.cap) ∧
(S.cap * (↑(bytesOf C0 EC.slot) : Int) ≤ 140737488355328) ∧
(1 ≤ S.used.length) ∧
(S.used.length ≤ 65537) ∧
(S.rel.length ≤ 65537) ∧
(0 ≤ S.fresh) ∧
(S.fresh ≤ (↑S.used.length : Int) - 1) ∧
(∀ o : List Int, (((o) = (orderL S.used S.rel S.fresh)) → (∃ x : Unit, (True ∧ (True ∧ True ∧ True ∧ True) ∧ (True ∧ True ∧ True ∧ ((Value.int IntKind.u64 (S.reads)) = (Value.int IntKind.u64 (S.reads))) ∧ True) ∧ (True ∧ True ∧ True ∧ ((Value.int IntKind.u32 (S.fresh)) = (Value.int IntKind.u32 (S.fresh))) ∧ True) ∧ ((S.nodes) = (S.nodes)) ∧ ((S.counts) = (S.counts)) ∧ ((S.used) = (S.used)) ∧ ((S.gen) = (S.gen)) ∧ ((S.rel) = (S.rel)) ∧ (True ∧ True ∧ True) ∧ ((List.replicate S.cap.toNat { alloc := false, count := 0, gen := 0, node := { key := 0, value := 0, left := 0, right := 0, size := 0, sum := 0, min := 0, max := 0 : NodeT } : SlotT }) = (fillS S 0)) ∧ ((o) = (orderOf S)) ∧ (True ∧ True ∧ True) ∧ ((([] : List SlotT) = [])) ∧ ((([] : List Int) = [])) ∧ True))))) ∧
(1 ≤ S.used.length) ∧
(S.used.length ≤ 65537) ∧
(S.rel.length ≤ 65537) ∧
(0 ≤ S.fresh) ∧
(S.fresh ≤ (↑S.used.length : Int) - 1) ∧
(∀ o : List Int, (((o) = (orderL S.used S.rel S.fresh)) → ((0 ≤ S.cap) ∧ (S.cap ≤ S.cap) ∧ (S.cap * (↑(bytesOf C0 EC.slot) : Int) ≤ 140737488355328) ∧ (∃ x : Unit, (True ∧ (True ∧ True ∧ True ∧ True) ∧ (True ∧ True ∧ True ∧ ((Value.int IntKind.u64 (S.reads)) = (Value.int IntKind.u64 (S.reads))) ∧
    True) ∧ (True ∧ True ∧ True ∧ ((Value.int IntKind.u32 (S.fresh)) = (Value.int IntKind.u32 (S.fresh))) ∧ True) ∧ ((S.nodes) = (S.nodes)) ∧ ((S.counts) = (S.counts)) ∧ ((S.used) = (S.used)) ∧ ((S.gen) = (S.gen)) ∧ ((S.rel) = (S.rel)) ∧ (True ∧ True ∧ True) ∧ ((List.replicate S.cap.toNat { alloc := false, count := 0, gen := 0, node := { key := 0, value := 0, left := 0, right := 0, size := 0, sum := 0, min := 0, max := 0 : NodeT } : SlotT }) = (fillS S 0)) ∧ ((o) = (orderOf S)) ∧ (True ∧ True ∧ True) ∧ ((([] : List SlotT) = [])) ∧ ((([] : List Int) = [])) ∧ True)))))) ∧
(exW S) ∧
((0 ≤ S.cap) ∧
(S.cap ≤ S.cap) ∧
(S.cap * (↑(bytesOf C0 EC.slot) : Int) ≤ 140737488355328) ∧
(1 ≤ S.used.length) ∧
(S.used.length ≤ 65537) ∧
(S.rel.length ≤ 65537) ∧
(0 ≤ S.fresh) ∧
(S.fresh ≤ (↑S.used.length : Int) - 1) ∧
(∀ o : List Int, (((o) = (orderL S.used S.rel S.fresh)) → (∃ x : Unit, (True ∧ (True ∧ True ∧ True ∧ True) ∧ (True ∧ True ∧ True ∧ ((Value.int IntKind.u64 (S.reads)) = (Value.int IntKind.u64 (S.reads))) ∧ True) ∧ (True ∧ True ∧ True ∧ ((Value.int IntKind.u32 (S.fresh)) = (Value.int IntKind.u32 (S.fresh))) ∧ True) ∧ ((S.nodes) = (S.nodes)) ∧ ((S.counts) = (S.counts)) ∧ ((S.used) = (S.used)) ∧ ((S.gen) = (S.gen)) ∧ ((S.rel) = (S.rel)) ∧ (True ∧ True ∧ True) ∧ ((List.replicate S.cap.toNat { alloc := false, count := 0, gen := 0, node := { key := 0, value := 0, left := 0, right := 0, size := 0, sum := 0, min := 0, max := 0 : NodeT } : SlotT }) = (fillS S 0)) ∧ ((o) = (orderOf S)) ∧ (True ∧
    True ∧ True) ∧ ((([] : List SlotT) = [])) ∧ ((([] : List Int) = [])) ∧ True))))) ∧
(1 ≤ S.used.length) ∧
(S.used.length ≤ 65537) ∧
(S.rel.length ≤ 65537) ∧
(0 ≤ S.fresh) ∧
(S.fresh ≤ (↑S.used.length : Int) - 1) ∧
(∀ o : List Int, (((o) = (orderL S.used S.rel S.fresh)) → ((0 ≤ S.cap) ∧ (S.cap ≤ S.cap) ∧ (S.cap * (↑(bytesOf C0 EC.slot) : Int) ≤ 140737488355328) ∧ (∃ x : Unit, (True ∧ (True ∧ True ∧ True ∧ True) ∧ (True ∧ True ∧ True ∧ ((Value.int IntKind.u64 (S.reads)) = (Value.int IntKind.u64 (S.reads))) ∧ True) ∧ (True ∧ True ∧ True ∧ ((Value.int IntKind.u32 (S.fresh)) = (Value.int IntKind.u32 (S.fresh))) ∧ True) ∧ ((S.nodes) = (S.nodes)) ∧ ((S.counts) = (S.counts)) ∧ ((S.used) = (S.used)) ∧ ((S.gen) = (S.gen)) ∧ ((S.rel) = (S.rel)) ∧ (True ∧ True ∧ True) ∧ ((List.replicate S.cap.toNat { alloc := false, count := 0, gen := 0, node := { key := 0, value := 0, left := 0, right := 0, size := 0, sum := 0, min := 0, max := 0 : NodeT } : SlotT }) = (fillS S 0)) ∧ ((o) = (orderOf S)) ∧ (True ∧ True ∧ True) ∧ ((([] : List SlotT) = [])) ∧ ((([] : List Int) = [])) ∧ True)))))) ∧
(∀ x : Unit, (True → ((∃ x1 : XDu S, (True ∧ (True ∧ True ∧ True ∧ ((Value.int IntKind.i64 ((↑(fillS S 0).length : Int))) = (Value.int IntKind.i64 ((↑(fillS S 0).length : Int)))) ∧ ((Value.int IntKind.i64 0) = (Value.int IntKind.i64 ((↑x1.i : Int)))) ∧ True) ∧ (True ∧ True ∧ True ∧ ((Value.int IntKind.u64 (S.reads)) = (Value.int IntKind.u64 (S.reads))) ∧ True) ∧ (True ∧ True ∧ True ∧
    ((Value.int IntKind.u32 (S.fresh)) = (Value.int IntKind.u32 (S.fresh))) ∧ True) ∧ ((S.nodes) = (S.nodes)) ∧ ((S.counts) = (S.counts)) ∧ ((S.used) = (S.used)) ∧ ((S.gen) = (S.gen)) ∧ ((S.rel) = (S.rel)) ∧ (True ∧ True ∧ True) ∧ ((fillS S 0) = (fillS S x1.i)) ∧ ((orderOf S) = (orderOf S)) ∧ (True ∧ True ∧ True) ∧ ((([] : List SlotT) = [])) ∧ ((([] : List Int) = [])) ∧ True)) ∧ (∀ x1 : XDu S, (True → (brS (decide ((↑x1.i : Int) < (↑(fillS S 0).length : Int))) (((0 ≤ IntKind.u32.wrap (IntKind.i64.wrap ((↑x1.i : Int) + 1))) ∧ (IntKind.u32.wrap (IntKind.i64.wrap ((↑x1.i : Int) + 1)) < (↑S.nodes.length : Int)) ∧ (0 ≤ IntKind.u32.wrap (IntKind.i64.wrap ((↑x1.i : Int) + 1))) ∧ (IntKind.u32.wrap (IntKind.i64.wrap ((↑x1.i : Int) + 1)) < 4294967296) ∧ (S.used.length ≤ 65537) ∧ (inU (IntKind.u32.wrap (IntKind.i64.wrap ((↑x1.i : Int) + 1)))) ∧ (exW S) ∧ (inU (IntKind.u32.wrap (IntKind.i64.wrap ((↑x1.i : Int) + 1)))) ∧ (exW S) ∧ (0 ≤ (↑x1.i : Int)) ∧ ((↑x1.i : Int) < (↑(fillS S x1.i).length : Int)) ∧ (∃ x' : XDu S, (True ∧ ((True ∧ True ∧ True ∧ ((Value.int IntKind.i64 ((↑(fillS S 0).length : Int))) = (Value.int IntKind.i64 ((↑(fillS S 0).length : Int)))) ∧ ((Value.int IntKind.i64 (IntKind.i64.wrap ((↑x1.i : Int) + 1))) = (Value.int IntKind.i64 ((↑x'.i : Int)))) ∧ True) ∧ (True ∧ True ∧ True ∧ ((Value.int IntKind.u64 (S.reads)) = (Value.int IntKind.u64 (S.reads))) ∧ True) ∧ (True ∧ True ∧ True ∧ ((Value.int IntKind.u32 (S.fresh)) = (Value.int IntKind.u32 (S.fresh))) ∧ True) ∧
    ((S.nodes) = (S.nodes)) ∧ ((S.counts) = (S.counts)) ∧ ((S.used) = (S.used)) ∧ ((S.gen) = (S.gen)) ∧ ((S.rel) = (S.rel)) ∧ (True ∧ True ∧ True) ∧ (((fillS S x1.i).set (↑x1.i : Int).toNat { alloc := S.us (IntKind.u32.wrap (IntKind.i64.wrap ((↑x1.i : Int) + 1))), count := if S.us (IntKind.u32.wrap (IntKind.i64.wrap ((↑x1.i : Int) + 1))) = true then S.ct (IntKind.u32.wrap (IntKind.i64.wrap ((↑x1.i : Int) + 1))) else 0, gen := S.gn (IntKind.u32.wrap (IntKind.i64.wrap ((↑x1.i : Int) + 1))), node := S.nd (IntKind.u32.wrap (IntKind.i64.wrap ((↑x1.i : Int) + 1))) : SlotT }) = (fillS S x'.i)) ∧ ((orderOf S) = (orderOf S)) ∧ (True ∧ True ∧ True) ∧ ((([] : List SlotT) = [])) ∧ ((([] : List Int) = [])) ∧ True) ∧ (ncap S - x'.i < ncap S - x1.i))))) ((K (SV.one (TV.agg [(At.slc 7), (At.slc 8)])) [(Chunk.box [(At.ptr 1 0), (At.slc 2), (At.slc 3), (At.val (Value.int IntKind.u64 (S.reads)))]), (Chunk.box [(At.slc 4), (At.slc 5), (At.slc 6), (At.val (Value.int IntKind.u32 (S.fresh)))]), (Chunk.row true (EC.node) (S.nodes)), (Chunk.row true (EC.int) (S.counts)), (Chunk.row true (EC.bool) (S.used)), (Chunk.row true (EC.u32) (S.gen)), (Chunk.row true (EC.u32) (S.rel)), (Chunk.row true (EC.slot) (fillS S x1.i)), (Chunk.row true (EC.u32) (orderOf S))] []))))))))) = _ by kernel_rfl) ?_
  rw [bytes_slot]
  have hw0 := hw
  obtain ⟨hs, hw⟩ := hw
  have hn1 := hw.n1; have hn2 := hw.n2; have hnn := hw.nnod; have hfr := hw.fr; have hfree := hw.free_nonneg
  have hcap : S.cap = (ncap S : Int) := by unfold Arn.cap ncap; omega
  have hc1 : (ncap S : Int) + 1 = S.used.length := by unfold ncap; omega
  have z1 : List.replicate S.cap.toNat SlotT.zero = fillS S 0 := by rw [hcap, ← fill_zero]; rfl
  refine ⟨?_, fun x _ => ⟨⟨⟨0, Nat.zero_le _⟩, ?_⟩, fun y _ => brS_of (fun c => ?_) fun c => ?_⟩⟩
  · (repeat' first | exact trivial | exact hw0 | exact z1 | assumption | exact rfl | omega | refine And.intro ?_ ?_ | refine fun o ho => ?_ | refine ⟨(), ?_⟩)
  · (repeat' first | exact trivial | exact rfl | refine And.intro ?_ ?_)
  · rw [fill_len S 0 (Nat.zero_le _)] at c
    have c : y.i < ncap S := by have := of_decide_eq_true c; omega
    rw [wrap_id (x := (y.i : Int) + 1) (by omega) (by omega), wrap_u32 (by omega) (by omega)]
    refine ⟨by omega, by omega, by omega, by omega, hn2, ⟨by omega, by omega⟩, hw0, ⟨by omega, by omega⟩, hw0, by omega, by rw [fill_len S y.i y.h]; omega, ⟨y.i + 1, c⟩, trivial, ⟨⟨trivial, trivial, trivial, rfl, by congr 1, trivial⟩, ⟨trivial, trivial, trivial, rfl, trivial⟩, ⟨trivial, trivial, trivial, rfl, trivial⟩, rfl, rfl, rfl, rfl, rfl, ⟨trivial, trivial, trivial⟩, fill_next S c, rfl, ⟨trivial, trivial, trivial⟩, rfl, rfl, trivial⟩, ?_⟩
    show ncap S - (y.i + 1) < _; omega
  · rw [fill_len S 0 (Nat.zero_le _)] at c
    have c : y.i = ncap S := by have := of_decide_eq_false c; have := y.h; omega
    exact h _ _ (by rw [c, fill_all]) rfl
theorem s_dump : SoundT C0 21 tDump := by
  refine .of Try.func21 (by decide) rfl fun args H K h hB => ?_
  unfold tDump at h
  split at h <;> try exact h.elim
  unfold arM at h
  split at h <;> try exact h.elim
  rename_i rd fr nd ct us gn rl
  exact ⟨aDump ⟨us, gn, rl, fr, nd, ct, rd⟩, ⟨frame C0.ok s_cap _, frame C0.ok s_order _, frame C0.ok s_slAllocated _, frame C0.ok s_count _, frame C0.ok s_gen _, trivial⟩, vc_dump ⟨us, gn, rl, fr, nd, ct, rd⟩ K h.1 h.2⟩
end Go.Proofs.Ytbonbaccmlomhaa.Sx
end
