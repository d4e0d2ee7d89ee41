/- A part of the proof. -/
import Derived.Test.YtjbkckcjmmmooaaG4
section
/- Listing trees. -/
namespace Go.Proofs.Ytjbkckcjmmmooaa.Sx
open Go

/-KEEP Wf exW inU live Arn.cap Arn.free maxSize mkNode makeS relA nxt NodeR BuildR Rep lk pl rdS Tr.size-/
abbrev chL (lim : Int) (S : Arn) (out : List Ent) : List (Chunk C0) := [.box [.ptr 1 0, .slc 2, vI lim], .box [.ptr 3 0, .slc 4, .slc 5, vU64 S.reads], .row true EC.ent out, .box [.slc 6, .slc 7, .slc 8, vU S.fresh], .row true EC.node S.nodes, .row true EC.int S.counts, .row true EC.bool S.used, .row true EC.u32 S.gen, .row true EC.u32 S.rel]
def lsM (H : List (Chunk C0)) (k : Int → Arn → List Ent → Prop) : Prop := match H with
  | [.box [.ptr 1 0, .slc 2, .val (.int .i64 lim)], .box [.ptr 3 0, .slc 4, .slc 5, .val (.int .u64 rd)], .row true .ent out, .box [.slc 6, .slc 7, .slc 8, .val (.int .u32 fr)], .row true .node nd, .row true .int ct, .row true .bool us, .row true .u32 gn, .row true .u32 rl] => k lim ⟨us, gn, rl, fr, nd, ct, rd⟩ out
  | _ => False
theorem fold_nd' (S : Arn) (i : Int) : S.nodes.getD i.toNat ⟨0, 0, 0, 0, 0, 0, 0, 0⟩ = S.nd i := rfl
def tFull : Tfm C0 := fun args H K => match args with
  | [.at (.ptr 0 0)] => lsM H fun lim S out => K (.one (.at (vB (decide (lim ≤ (out.length : Int)))))) (chL lim S out) []
  | _ => False
def room (lim : Int) (out : List Ent) : Nat := (lim - out.length).toNat
def tLk (n : Nat) : Tfm C0 := fun args H K => match args with
  | [.at (.ptr 0 0), .at (.val (.int .u32 i)), .at (.val (.int .i64 lo)), .at (.val (.int .i64 hi))] => lsM H fun lim S out => ∃ hs t, Wf S hs ∧ Rep S t i ∧ t.size < n ∧ t.size ≤ 1000000 ∧ out.length + t.size ≤ 3000000 ∧ S.reads + t.size ≤ 3000000000000000000 ∧
    ∀ S' out', S' = rdS S (lk t lo hi (room lim out)).2 → out' = out ++ (lk t lo hi (room lim out)).1 → K (.tup []) (chL lim S' out') [0, 1, 2]
  | _ => False
structure XSt (P : Arn → List Ent → Prop) where
  S : Arn
  out : List Ent
  h : P S out
noncomputable def aLk (n : Nat) (lim : Int) (nd : NodeT) (P1 P2 : Arn → List Ent → Prop) : Ann C0 := { Γ := [(136, frameT [] tFull), (49, frameT [] tNode), (124, frameT [] (tLk n))], inv := fun k => match k with
  | 1005 => some { X := XSt P1, sl := [8], tf := fun _ => [.one (.at (.ptr 9 0))], hf := fun x => chL lim x.S x.out ++ [bxN nd], wr := [0, 1, 2] }
  | 1007 => some { X := XSt P2, sl := [8], tf := fun _ => [.one (.at (.ptr 9 0))], hf := fun x => chL lim x.S x.out ++ [bxN nd], wr := [0, 1, 2] }
  | _ => none }
def tPl (n : Nat) : Tfm C0 := fun args H K => match args with
  | [.at (.ptr 0 0), .at (.val (.int .u32 i)), .at (.val (.int .i64 x)), .at (.val (.int .i64 y))] => lsM H fun lim S out => ∃ hs t, Wf S hs ∧ Rep S t i ∧ t.size < n ∧ t.size ≤ 1000000 ∧ out.length + t.size ≤ 3000000 ∧ S.reads + 2 * t.size ≤ 3000000000000000000 ∧ 0 ≤ x ∧ y ≤ t.size ∧
    ∀ S' out', S' = rdS S (pl t x y).2 → out' = out ++ (pl t x y).1 → K (.tup []) (chL lim S' out') [0, 1, 2]
  | _ => False
theorem vc_full (lim : Int) (S : Arn) (out : List Ent) (K : KT) (h : K (.one (.at (vB (decide (lim ≤ (out.length : Int)))))) (chL lim S out) []) :
    vc C0 A0 Try.f136 [.at (.ptr 0 0)] (chL lim S out) (normK 9 K) := Eq.mp (show (K (SV.one (TV.at (At.val (Value.bool (decide ((↑out.length : Int) ≥ lim)))))) [(Chunk.box [(At.ptr 1 0), (At.slc 2), (At.val (Value.int IntKind.i64 (lim)))]), (Chunk.box [(At.ptr 3 0), (At.slc 4), (At.slc 5), (At.val (Value.int IntKind.u64 (S.reads)))]), (Chunk.row true (EC.ent) (out)), (Chunk.box [(At.slc 6), (At.slc 7), (At.slc 8), (At.val (Value.int IntKind.u32 (S.fresh)))]), (Chunk.row true (EC.node) (S.nodes)), (Chunk.row true (EC.int) (S.counts)), (Chunk.row true (EC.bool) (S.used)), (Chunk.row true (EC.u32) (S.gen)), (Chunk.row true (EC.u32) (S.rel))] []) = _ by kernel_rfl) h
theorem s_full : SoundT C0 136 tFull := by
  refine .of Try.func136 (by decide) rfl fun args H K h hB => ?_
  unfold tFull at h
  split at h <;> try exact h.elim
  unfold lsM at h
  split at h <;> try exact h.elim
  rename_i lim rd out fr nd ct us gn rl
  exact ⟨A0, trivial, vc_full lim ⟨us, gn, rl, fr, nd, ct, rd⟩ out K h⟩
def lkA (t : Tr) (lo hi : Int) (rm : Nat) : List Ent × Nat := match t with
  | .nil => ([], 0)
  | .node l k _ _ => if lo < k then lk l lo hi rm else ([], 0)
def lkB (t : Tr) (lo hi : Int) (rm : Nat) : List Ent := match t with
  | .nil => []
  | .node _ k v _ => if lo ≤ k ∧ k ≤ hi ∧ (lkA t lo hi rm).1.length < rm then [(k, v)] else []
theorem vc_lk (n : Nat) (lim : Int) (S : Arn) (out : List Ent) (i lo hi : Int) (K : KT) (hs : List Int) (t : Tr) (hw : Wf S hs) (hr : Rep S t i) (h1 : t.size < n + 1) (h2 : t.size ≤ 1000000) (h3 : out.length + t.size ≤ 3000000) (h4 : S.reads + t.size ≤ 3000000000000000000)
    (h : ∀ S' out', S' = rdS S (lk t lo hi (room lim out)).2 → out' = out ++ (lk t lo hi (room lim out)).1 → K (.tup []) (chL lim S' out') [0, 1, 2]) :
    vc C0 (aLk n lim (S.nd i) (fun S1 o1 => S1 = rdS S (1 + (lkA t lo hi (room lim out)).2) ∧ o1 = out ++ (lkA t lo hi (room lim out)).1) (fun S1 o1 => S1 = rdS S (1 + (lkA t lo hi (room lim out)).2) ∧ o1 = out ++ ((lkA t lo hi (room lim out)).1 ++ lkB t lo hi (room lim out))))
      Try.f124 [.at (.ptr 0 0), .at (vU i), .at (vI lo), .at (vI hi)] (chL lim S out) (normK 9 (wideK [0, 1, 2] K)) := by
  generalize hP1 : (fun S1 o1 => S1 = rdS S (1 + (lkA t lo hi (room lim out)).2) ∧ o1 = out ++ (lkA t lo hi (room lim out)).1) = P1
  generalize hP2 : (fun S1 o1 => S1 = rdS S (1 + (lkA t lo hi (room lim out)).2) ∧ o1 = out ++ ((lkA t lo hi (room lim out)).1 ++ lkB t lo hi (room lim out))) = P2
  refine Eq.mp (show (brS (i == 0) ((K (SV.tup []) [(Chunk.box [(At.ptr 1 0), (At.slc 2), (At.val (Value.int IntKind.i64 (lim)))]), (Chunk.box [(At.ptr 3 0), (At.slc 4), (At.slc 5), (At.val (Value.int IntKind.u64 (S.reads)))]), (Chunk.row true (EC.ent) (out)), (Chunk.box [(At.slc 6), (At.slc 7), (At.slc 8), (At.val (Value.int IntKind.u32 (S.fresh)))]), (Chunk.row true (EC.node) (S.nodes)), (Chunk.row true (EC.int) (S.counts)), (Chunk.row true (EC.bool) (S.used)), (Chunk.row true (EC.u32) (S.gen)), (Chunk.row true (EC.u32) (S.rel))] [0, 1, 2])) ((brS (decide (lim ≤ (↑out.length : Int))) ((K (SV.tup []) [(Chunk.box [(At.ptr 1 0), (At.slc 2), (At.val (Value.int IntKind.i64 (lim)))]), (Chunk.box [(At.ptr 3 0), (At.slc 4), (At.slc 5), (At.val (Value.int IntKind.u64 (S.reads)))]), (Chunk.row true (EC.ent) (out)), (Chunk.box [(At.slc 6), (At.slc 7), (At.slc 8), (At.val (Value.int IntKind.u32 (S.fresh)))]), (Chunk.row true (EC.node) (S.nodes)), (Chunk.row true (EC.int) (S.counts)), (Chunk.row true (EC.bool) (S.used)), (Chunk.row true (EC.u32) (S.gen)), (Chunk.row true (EC.u32) (S.rel))] [0, 1, 2])) (((inU i) ∧ (exW S) ∧ (S.reads < 4000000000000000000) ∧ (∀ S' : Arn, (((S') = (rdS S (S.us i).toNat)) → (brS (!S.us i)
    ((K (SV.tup []) [(Chunk.box [(At.ptr 1 0), (At.slc 2), (At.val (Value.int IntKind.i64 (lim)))]), (Chunk.box [(At.ptr 3 0), (At.slc 4), (At.slc 5), (At.val (Value.int IntKind.u64 (S'.reads)))]), (Chunk.row true (EC.ent) (out)), (Chunk.box [(At.slc 6), (At.slc 7), (At.slc 8), (At.val (Value.int IntKind.u32 (S'.fresh)))]), (Chunk.row true (EC.node) (S'.nodes)), (Chunk.row true (EC.int) (S'.counts)), (Chunk.row true (EC.bool) (S'.used)), (Chunk.row true (EC.u32) (S'.gen)), (Chunk.row true (EC.u32) (S'.rel))] [0, 1, 2])) (((brS (decide ((S.nd i).key > lo)) ((∃ hs : List Int, (∃ t : Tr, ((Wf S' hs) ∧ (Rep S' t (S.nd i).left) ∧ (t.size < n) ∧ (t.size ≤ 1000000) ∧ (out.length + t.size ≤ 3000000) ∧ (S'.reads + (↑t.size : Int) ≤ 3000000000000000000) ∧ (∀ S'1 : Arn, (∀ out' : List Ent, (((S'1) = (rdS S' (lk t lo hi (room lim out)).snd)) → (((out') = (out ++ (lk t lo hi (room lim out)).fst)) → (∃ x : XSt P1, (True ∧ (True ∧ ((Value.int IntKind.i64 (lo)) = (Value.int IntKind.i64 (lo))) ∧ ((Value.int IntKind.i64 (hi)) = (Value.int IntKind.i64 (hi))) ∧ True ∧ True) ∧ (True ∧ True ∧ ((Value.int IntKind.i64 (lim)) = (Value.int IntKind.i64 (lim))) ∧ True) ∧ (True ∧ True ∧ True ∧ ((Value.int IntKind.u64 (S'1.reads)) = (Value.int IntKind.u64 (x.S.reads))) ∧ True) ∧ ((out') = (x.out)) ∧ (True ∧ True ∧ True ∧ ((Value.int IntKind.u32 (S'1.fresh)) = (Value.int IntKind.u32 (x.S.fresh))) ∧ True) ∧ ((S'1.nodes) = (x.S.nodes)) ∧ ((S'1.counts) = (x.S.counts)) ∧ ((S'1.used) = (x.S.used)) ∧
    ((S'1.gen) = (x.S.gen)) ∧ ((S'1.rel) = (x.S.rel)) ∧ (((Value.int IntKind.i64 ((S.nd i).key)) = (Value.int IntKind.i64 ((S.nd i).key))) ∧ ((Value.int IntKind.i64 ((S.nd i).value)) = (Value.int IntKind.i64 ((S.nd i).value))) ∧ ((Value.int IntKind.u32 ((S.nd i).left)) = (Value.int IntKind.u32 ((S.nd i).left))) ∧ ((Value.int IntKind.u32 ((S.nd i).right)) = (Value.int IntKind.u32 ((S.nd i).right))) ∧ ((Value.int IntKind.i64 ((S.nd i).size)) = (Value.int IntKind.i64 ((S.nd i).size))) ∧ ((Value.int IntKind.i64 ((S.nd i).sum)) = (Value.int IntKind.i64 ((S.nd i).sum))) ∧ ((Value.int IntKind.i64 ((S.nd i).min)) = (Value.int IntKind.i64 ((S.nd i).min))) ∧ ((Value.int IntKind.i64 ((S.nd i).max)) = (Value.int IntKind.i64 ((S.nd i).max))) ∧ True) ∧ True)))))))))) ((∃ x : XSt P1, (True ∧ (True ∧ ((Value.int IntKind.i64 (lo)) = (Value.int IntKind.i64 (lo))) ∧ ((Value.int IntKind.i64 (hi)) = (Value.int IntKind.i64 (hi))) ∧ True ∧ True) ∧ (True ∧ True ∧ ((Value.int IntKind.i64 (lim)) = (Value.int IntKind.i64 (lim))) ∧ True) ∧ (True ∧ True ∧ True ∧ ((Value.int IntKind.u64 (S'.reads)) = (Value.int IntKind.u64 (x.S.reads))) ∧ True) ∧ ((out) = (x.out)) ∧ (True ∧ True ∧ True ∧ ((Value.int IntKind.u32 (S'.fresh)) = (Value.int IntKind.u32 (x.S.fresh))) ∧ True) ∧ ((S'.nodes) = (x.S.nodes)) ∧ ((S'.counts) = (x.S.counts)) ∧ ((S'.used) = (x.S.used)) ∧ ((S'.gen) = (x.S.gen)) ∧ ((S'.rel) = (x.S.rel)) ∧ (((Value.int IntKind.i64 ((S.nd i).key)) = (Value.int IntKind.i64 ((S.nd i).key))) ∧
    ((Value.int IntKind.i64 ((S.nd i).value)) = (Value.int IntKind.i64 ((S.nd i).value))) ∧ ((Value.int IntKind.u32 ((S.nd i).left)) = (Value.int IntKind.u32 ((S.nd i).left))) ∧ ((Value.int IntKind.u32 ((S.nd i).right)) = (Value.int IntKind.u32 ((S.nd i).right))) ∧ ((Value.int IntKind.i64 ((S.nd i).size)) = (Value.int IntKind.i64 ((S.nd i).size))) ∧ ((Value.int IntKind.i64 ((S.nd i).sum)) = (Value.int IntKind.i64 ((S.nd i).sum))) ∧ ((Value.int IntKind.i64 ((S.nd i).min)) = (Value.int IntKind.i64 ((S.nd i).min))) ∧ ((Value.int IntKind.i64 ((S.nd i).max)) = (Value.int IntKind.i64 ((S.nd i).max))) ∧ True) ∧ True)))) ∧ (∀ x : XSt P1, (True → ((brS (decide ((S.nd i).key ≥ lo)) ((brS (decide ((S.nd i).key ≤ hi)) ((brS (!decide (lim ≤ (↑x.out.length : Int))) (((((x.out.length + [((S.nd i).key, (S.nd i).value)].length) * bytesOf C0 EC.ent ≤ 140737488355328) ∧ (∃ x1 : XSt P2, (True ∧ (True ∧ ((Value.int IntKind.i64 (lo)) = (Value.int IntKind.i64 (lo))) ∧ ((Value.int IntKind.i64 (hi)) = (Value.int IntKind.i64 (hi))) ∧ True ∧ True) ∧ (True ∧ True ∧ ((Value.int IntKind.i64 (lim)) = (Value.int IntKind.i64 (lim))) ∧ True) ∧ (True ∧ True ∧ True ∧ ((Value.int IntKind.u64 (x.S.reads)) = (Value.int IntKind.u64 (x1.S.reads))) ∧ True) ∧ ((x.out ++ [((S.nd i).key, (S.nd i).value)]) = (x1.out)) ∧ (True ∧ True ∧ True ∧ ((Value.int IntKind.u32 (x.S.fresh)) = (Value.int IntKind.u32 (x1.S.fresh))) ∧ True) ∧ ((x.S.nodes) = (x1.S.nodes)) ∧ ((x.S.counts) = (x1.S.counts)) ∧ ((x.S.used) = (x1.S.used)) ∧
    ((x.S.gen) = (x1.S.gen)) ∧ ((x.S.rel) = (x1.S.rel)) ∧ (((Value.int IntKind.i64 ((S.nd i).key)) = (Value.int IntKind.i64 ((S.nd i).key))) ∧ ((Value.int IntKind.i64 ((S.nd i).value)) = (Value.int IntKind.i64 ((S.nd i).value))) ∧ ((Value.int IntKind.u32 ((S.nd i).left)) = (Value.int IntKind.u32 ((S.nd i).left))) ∧ ((Value.int IntKind.u32 ((S.nd i).right)) = (Value.int IntKind.u32 ((S.nd i).right))) ∧ ((Value.int IntKind.i64 ((S.nd i).size)) = (Value.int IntKind.i64 ((S.nd i).size))) ∧ ((Value.int IntKind.i64 ((S.nd i).sum)) = (Value.int IntKind.i64 ((S.nd i).sum))) ∧ ((Value.int IntKind.i64 ((S.nd i).min)) = (Value.int IntKind.i64 ((S.nd i).min))) ∧ ((Value.int IntKind.i64 ((S.nd i).max)) = (Value.int IntKind.i64 ((S.nd i).max))) ∧ True) ∧ True))) ∧ ((x.out.length + [((S.nd i).key, (S.nd i).value)].length) * bytesOf C0 EC.ent ≤ 140737488355328) ∧ (∃ x1 : XSt P2, (True ∧ (True ∧ ((Value.int IntKind.i64 (lo)) = (Value.int IntKind.i64 (lo))) ∧ ((Value.int IntKind.i64 (hi)) = (Value.int IntKind.i64 (hi))) ∧ True ∧ True) ∧ (True ∧ True ∧ ((Value.int IntKind.i64 (lim)) = (Value.int IntKind.i64 (lim))) ∧ True) ∧ (True ∧ True ∧ True ∧ ((Value.int IntKind.u64 (x.S.reads)) = (Value.int IntKind.u64 (x1.S.reads))) ∧ True) ∧ ((x.out ++ [((S.nd i).key, (S.nd i).value)]) = (x1.out)) ∧ (True ∧ True ∧ True ∧ ((Value.int IntKind.u32 (x.S.fresh)) = (Value.int IntKind.u32 (x1.S.fresh))) ∧ True) ∧ ((x.S.nodes) = (x1.S.nodes)) ∧ ((x.S.counts) = (x1.S.counts)) ∧ ((x.S.used) = (x1.S.used)) ∧
    ((x.S.gen) = (x1.S.gen)) ∧ ((x.S.rel) = (x1.S.rel)) ∧ (((Value.int IntKind.i64 ((S.nd i).key)) = (Value.int IntKind.i64 ((S.nd i).key))) ∧ ((Value.int IntKind.i64 ((S.nd i).value)) = (Value.int IntKind.i64 ((S.nd i).value))) ∧ ((Value.int IntKind.u32 ((S.nd i).left)) = (Value.int IntKind.u32 ((S.nd i).left))) ∧ ((Value.int IntKind.u32 ((S.nd i).right)) = (Value.int IntKind.u32 ((S.nd i).right))) ∧ ((Value.int IntKind.i64 ((S.nd i).size)) = (Value.int IntKind.i64 ((S.nd i).size))) ∧ ((Value.int IntKind.i64 ((S.nd i).sum)) = (Value.int IntKind.i64 ((S.nd i).sum))) ∧ ((Value.int IntKind.i64 ((S.nd i).min)) = (Value.int IntKind.i64 ((S.nd i).min))) ∧ ((Value.int IntKind.i64 ((S.nd i).max)) = (Value.int IntKind.i64 ((S.nd i).max))) ∧ True) ∧ True)))) ((∃ x1 : XSt P2, (True ∧ (True ∧ ((Value.int IntKind.i64 (lo)) = (Value.int IntKind.i64 (lo))) ∧ ((Value.int IntKind.i64 (hi)) = (Value.int IntKind.i64 (hi))) ∧ True ∧ True) ∧ (True ∧ True ∧ ((Value.int IntKind.i64 (lim)) = (Value.int IntKind.i64 (lim))) ∧ True) ∧ (True ∧ True ∧ True ∧ ((Value.int IntKind.u64 (x.S.reads)) = (Value.int IntKind.u64 (x1.S.reads))) ∧ True) ∧ ((x.out) = (x1.out)) ∧ (True ∧ True ∧ True ∧ ((Value.int IntKind.u32 (x.S.fresh)) = (Value.int IntKind.u32 (x1.S.fresh))) ∧ True) ∧ ((x.S.nodes) = (x1.S.nodes)) ∧ ((x.S.counts) = (x1.S.counts)) ∧ ((x.S.used) = (x1.S.used)) ∧ ((x.S.gen) = (x1.S.gen)) ∧ ((x.S.rel) = (x1.S.rel)) ∧ (((Value.int IntKind.i64 ((S.nd i).key)) = (Value.int IntKind.i64 ((S.nd i).key))) ∧
    ((Value.int IntKind.i64 ((S.nd i).value)) = (Value.int IntKind.i64 ((S.nd i).value))) ∧ ((Value.int IntKind.u32 ((S.nd i).left)) = (Value.int IntKind.u32 ((S.nd i).left))) ∧ ((Value.int IntKind.u32 ((S.nd i).right)) = (Value.int IntKind.u32 ((S.nd i).right))) ∧ ((Value.int IntKind.i64 ((S.nd i).size)) = (Value.int IntKind.i64 ((S.nd i).size))) ∧ ((Value.int IntKind.i64 ((S.nd i).sum)) = (Value.int IntKind.i64 ((S.nd i).sum))) ∧ ((Value.int IntKind.i64 ((S.nd i).min)) = (Value.int IntKind.i64 ((S.nd i).min))) ∧ ((Value.int IntKind.i64 ((S.nd i).max)) = (Value.int IntKind.i64 ((S.nd i).max))) ∧ True) ∧ True))))) ((∃ x1 : XSt P2, (True ∧ (True ∧ ((Value.int IntKind.i64 (lo)) = (Value.int IntKind.i64 (lo))) ∧ ((Value.int IntKind.i64 (hi)) = (Value.int IntKind.i64 (hi))) ∧ True ∧ True) ∧ (True ∧ True ∧ ((Value.int IntKind.i64 (lim)) = (Value.int IntKind.i64 (lim))) ∧ True) ∧ (True ∧ True ∧ True ∧ ((Value.int IntKind.u64 (x.S.reads)) = (Value.int IntKind.u64 (x1.S.reads))) ∧ True) ∧ ((x.out) = (x1.out)) ∧ (True ∧ True ∧ True ∧ ((Value.int IntKind.u32 (x.S.fresh)) = (Value.int IntKind.u32 (x1.S.fresh))) ∧ True) ∧ ((x.S.nodes) = (x1.S.nodes)) ∧ ((x.S.counts) = (x1.S.counts)) ∧ ((x.S.used) = (x1.S.used)) ∧ ((x.S.gen) = (x1.S.gen)) ∧ ((x.S.rel) = (x1.S.rel)) ∧ (((Value.int IntKind.i64 ((S.nd i).key)) = (Value.int IntKind.i64 ((S.nd i).key))) ∧ ((Value.int IntKind.i64 ((S.nd i).value)) = (Value.int IntKind.i64 ((S.nd i).value))) ∧
    ((Value.int IntKind.u32 ((S.nd i).left)) = (Value.int IntKind.u32 ((S.nd i).left))) ∧ ((Value.int IntKind.u32 ((S.nd i).right)) = (Value.int IntKind.u32 ((S.nd i).right))) ∧ ((Value.int IntKind.i64 ((S.nd i).size)) = (Value.int IntKind.i64 ((S.nd i).size))) ∧ ((Value.int IntKind.i64 ((S.nd i).sum)) = (Value.int IntKind.i64 ((S.nd i).sum))) ∧ ((Value.int IntKind.i64 ((S.nd i).min)) = (Value.int IntKind.i64 ((S.nd i).min))) ∧ ((Value.int IntKind.i64 ((S.nd i).max)) = (Value.int IntKind.i64 ((S.nd i).max))) ∧ True) ∧ True))))) ((∃ x1 : XSt P2, (True ∧ (True ∧ ((Value.int IntKind.i64 (lo)) = (Value.int IntKind.i64 (lo))) ∧ ((Value.int IntKind.i64 (hi)) = (Value.int IntKind.i64 (hi))) ∧ True ∧ True) ∧ (True ∧ True ∧ ((Value.int IntKind.i64 (lim)) = (Value.int IntKind.i64 (lim))) ∧ True) ∧ (True ∧ True ∧ True ∧ ((Value.int IntKind.u64 (x.S.reads)) = (Value.int IntKind.u64 (x1.S.reads))) ∧ True) ∧ ((x.out) = (x1.out)) ∧ (True ∧ True ∧ True ∧ ((Value.int IntKind.u32 (x.S.fresh)) = (Value.int IntKind.u32 (x1.S.fresh))) ∧ True) ∧ ((x.S.nodes) = (x1.S.nodes)) ∧ ((x.S.counts) = (x1.S.counts)) ∧ ((x.S.used) = (x1.S.used)) ∧ ((x.S.gen) = (x1.S.gen)) ∧ ((x.S.rel) = (x1.S.rel)) ∧ (((Value.int IntKind.i64 ((S.nd i).key)) = (Value.int IntKind.i64 ((S.nd i).key))) ∧ ((Value.int IntKind.i64 ((S.nd i).value)) = (Value.int IntKind.i64 ((S.nd i).value))) ∧ ((Value.int IntKind.u32 ((S.nd i).left)) = (Value.int IntKind.u32 ((S.nd i).left))) ∧
    ((Value.int IntKind.u32 ((S.nd i).right)) = (Value.int IntKind.u32 ((S.nd i).right))) ∧ ((Value.int IntKind.i64 ((S.nd i).size)) = (Value.int IntKind.i64 ((S.nd i).size))) ∧ ((Value.int IntKind.i64 ((S.nd i).sum)) = (Value.int IntKind.i64 ((S.nd i).sum))) ∧ ((Value.int IntKind.i64 ((S.nd i).min)) = (Value.int IntKind.i64 ((S.nd i).min))) ∧ ((Value.int IntKind.i64 ((S.nd i).max)) = (Value.int IntKind.i64 ((S.nd i).max))) ∧ True) ∧ True)))) ∧ (∀ x1 : XSt P2, (True → (brS (decide ((S.nd i).key < hi)) ((∃ hs : List Int, (∃ t : Tr, ((Wf x1.S hs) ∧ (Rep x1.S t (S.nd i).right) ∧ (t.size < n) ∧ (t.size ≤ 1000000) ∧ (x1.out.length + t.size ≤ 3000000) ∧ (x1.S.reads + (↑t.size : Int) ≤ 3000000000000000000) ∧ (∀ S'1 : Arn, (∀ out' : List Ent, (((S'1) = (rdS x1.S (lk t lo hi (room lim x1.out)).snd)) → (((out') = (x1.out ++ (lk t lo hi (room lim x1.out)).fst)) → (K (SV.tup []) [(Chunk.box [(At.ptr 1 0), (At.slc 2), (At.val (Value.int IntKind.i64 (lim)))]), (Chunk.box [(At.ptr 3 0), (At.slc 4), (At.slc 5), (At.val (Value.int IntKind.u64 (S'1.reads)))]), (Chunk.row true (EC.ent) (out')), (Chunk.box [(At.slc 6), (At.slc 7), (At.slc 8), (At.val (Value.int IntKind.u32 (S'1.fresh)))]), (Chunk.row true (EC.node) (S'1.nodes)), (Chunk.row true (EC.int) (S'1.counts)), (Chunk.row true (EC.bool) (S'1.used)), (Chunk.row true (EC.u32) (S'1.gen)), (Chunk.row true (EC.u32) (S'1.rel))] [0, 1, 2])))))))))
    ((K (SV.tup []) [(Chunk.box [(At.ptr 1 0), (At.slc 2), (At.val (Value.int IntKind.i64 (lim)))]), (Chunk.box [(At.ptr 3 0), (At.slc 4), (At.slc 5), (At.val (Value.int IntKind.u64 (x1.S.reads)))]), (Chunk.row true (EC.ent) (x1.out)), (Chunk.box [(At.slc 6), (At.slc 7), (At.slc 8), (At.val (Value.int IntKind.u32 (x1.S.fresh)))]), (Chunk.row true (EC.node) (x1.S.nodes)), (Chunk.row true (EC.int) (x1.S.counts)), (Chunk.row true (EC.bool) (x1.S.used)), (Chunk.row true (EC.u32) (x1.S.gen)), (Chunk.row true (EC.u32) (x1.S.rel))] [0, 1, 2])))))))))))))))))) = _ by kernel_rfl) ?_
  subst hP1 hP2
  rw [bytes_ent]
  cases t with
  | nil =>
    have e : i = 0 := hr
    subst e
    exact brS_of (fun _ => h S out (by simp [lk, rdS_zero]) (by simp [lk])) fun c => by simp at c
  | node l k v r =>
    obtain ⟨r1, r2, r3, r4, r5⟩ := hr
    have hp := hw.pos r1
    have hn2 := hw.n2
    have hrd := hw.rds
    have hsz : l.size + r.size + 1 = (Tr.node l k v r).size := by simp [Tr.size]; omega
    refine brS_of (fun c => ?_) fun _ => brS_of (fun c => ?_) fun c => ⟨inU_of hw (.inr r1), ⟨_, hw⟩, by omega, fun S1 e1 => brS_of (fun d => ?_) fun _ => ?_⟩
    · have : i = 0 := by simpa using c
      omega
    · have c : lim ≤ (out.length : Int) := of_decide_eq_true c
      have e : room lim out = 0 := by unfold room; omega
      exact h S out (by rw [e]; simp [lk, rdS_zero]) (by rw [e]; simp [lk])
    · rw [r1] at d; cases d
    · have c : ¬ lim ≤ (out.length : Int) := of_decide_eq_false c
      have hrm : room lim out ≠ 0 := by unfold room; omega
      rw [r1] at e1
      have e1 : S1 = rdS S 1 := e1
      have hw1 : Wf S1 hs := by rw [e1]; exact hw.rd (by omega)
      have hl := lk_len l lo hi (room lim out)
      rw [r2, r3]
      refine ⟨brS_of (fun d => ?_) fun d => ?_, fun x _ => ?_⟩
      · have d : lo < k := of_decide_eq_true d
        refine ⟨hs, l, hw1, by rw [e1]; exact rep_rd r4 1, by omega, by omega, by omega, by rw [e1]; show S.reads + ((1 : Nat) : Int) + _ ≤ _; omega, fun S2 o2 e2 e3 => ⟨⟨S2, o2, ?_⟩, ?_⟩⟩
        · rw [e2, e1, rdS_rdS]
          simp only [lkA, if_pos d]
          exact ⟨trivial, e3⟩
        · (repeat' first | exact trivial | exact rfl | refine And.intro ?_ ?_)
      · have d : ¬ lo < k := of_decide_eq_false d
        refine ⟨⟨S1, out, ?_⟩, ?_⟩
        · simp only [lkA, if_neg d]
          exact ⟨e1, by simp⟩
        · (repeat' first | exact trivial | exact rfl | refine And.intro ?_ ?_)
      · obtain ⟨x1, x2⟩ := x.h
        have la : (lkA (.node l k v r) lo hi (room lim out)).1.length ≤ l.size ∧ (lkA (.node l k v r) lo hi (room lim out)).2 ≤ l.size := by
          simp only [lkA]; split
          · exact ⟨hl.2.1, hl.2.2⟩
          · simp
        have hxl : x.out.length = out.length + (lkA (.node l k v r) lo hi (room lim out)).1.length := by rw [x2, List.length_append]
        have lb : lkB (.node l k v r) lo hi (room lim out) = if lo ≤ k ∧ k ≤ hi ∧ (lkA (.node l k v r) lo hi (room lim out)).1.length < room lim out then [(k, v)] else [] := rfl
        have hroom : (lkA (.node l k v r) lo hi (room lim out)).1.length < room lim out ↔ ¬ lim ≤ (x.out.length : Int) := by
          have e0 : room lim out = (lim - out.length).toNat := rfl
          omega
        refine ⟨brS_of (fun d1 => brS_of (fun d2 => brS_of (fun d3 => ⟨⟨by simp; omega, ⟨x.S, x.out ++ [(k, v)], ?_⟩, ?_⟩, by simp; omega, ⟨x.S, x.out ++ [(k, v)], ?_⟩, ?_⟩) fun d3 => ⟨⟨x.S, x.out, ?_⟩, ?_⟩) fun d2 => ⟨⟨x.S, x.out, ?_⟩, ?_⟩) fun d1 => ⟨⟨x.S, x.out, ?_⟩, ?_⟩, fun y _ => ?fin⟩
        case fin =>
          obtain ⟨y1, y2⟩ := y.h
          have lb1 : (lkB (.node l k v r) lo hi (room lim out)).length ≤ 1 := by rw [lb]; split <;> simp
          have hyl : y.out.length = out.length + ((lkA (.node l k v r) lo hi (room lim out)).1.length + (lkB (.node l k v r) lo hi (room lim out)).length) := by rw [y2]; simp
          have hwy : Wf y.S hs := by rw [y1]; exact hw.rd (by omega)
          have hry : room lim y.out = room lim out - ((lkA (.node l k v r) lo hi (room lim out)).1.length + (lkB (.node l k v r) lo hi (room lim out)).length) := by
            have e0 : room lim out = (lim - out.length).toNat := rfl
            have e1 : room lim y.out = (lim - y.out.length).toNat := rfl
            omega
          have hlk : lk (.node l k v r) lo hi (room lim out) = ((lkA (.node l k v r) lo hi (room lim out)).1 ++ (lkB (.node l k v r) lo hi (room lim out) ++ (if k < hi then lk r lo hi (room lim y.out) else ([], 0)).1), 1 + (lkA (.node l k v r) lo hi (room lim out)).2 + (if k < hi then lk r lo hi (room lim y.out) else ([], 0)).2) := by
            rw [hry]
            simp only [lk, if_neg hrm, lkA, lkB]
            rfl
          rw [hlk] at h
          refine brS_of (fun d => ?_) fun d => ?_
          · have d : k < hi := of_decide_eq_true d
            rw [if_pos d] at h
            refine ⟨hs, r, hwy, by rw [y1]; exact rep_rd r5 _, by omega, by omega, by omega, by rw [y1]; show S.reads + ((1 + (lkA (.node l k v r) lo hi (room lim out)).2 : Nat) : Int) + _ ≤ _; omega, fun S2 o2 e2 e3 => h S2 o2 ?_ ?_⟩
            · rw [e2, y1, rdS_rdS]
            · rw [e3, y2]; simp
          · have d : ¬ k < hi := of_decide_eq_false d
            rw [if_neg d] at h
            exact h y.S y.out (by rw [y1]; rfl) (by rw [y2]; simp)
        all_goals first
          | ((repeat' first | exact trivial | exact rfl | refine And.intro ?_ ?_); done)
          | (refine ⟨x1, ?_⟩
             rw [x2, lb]
             first
               | (rw [if_pos ⟨of_decide_eq_true d1, of_decide_eq_true d2, hroom.2 (by simpa using d3)⟩, List.append_assoc]; done)
               | (rw [if_neg (fun q => absurd (of_decide_eq_false d1) (by simpa using q.1))]; simp; done)
               | (rw [if_neg (fun q => absurd (of_decide_eq_false d2) (by simpa using q.2.1))]; simp; done)
               | (rw [if_neg (fun q => absurd (hroom.1 q.2.2) (by simpa using d3))]; simp; done))
theorem s_lk : ∀ n, SoundT C0 124 (tLk n) := by
  intro n
  induction n with
  | zero =>
    refine .of Try.func124 (by decide) rfl fun args H K h hB => ?_
    exfalso
    unfold tLk at h
    split at h <;> try exact h.elim
    unfold lsM at h
    split at h <;> try exact h.elim
    obtain ⟨_, _, _, _, h1, _⟩ := h
    omega
  | succ n ih =>
    refine .ofW [0, 1, 2] Try.func124 (by decide) rfl fun args H K h hB => ?_
    unfold tLk at h
    split at h <;> try exact h.elim
    unfold lsM at h
    split at h <;> try exact h.elim
    rename_i i lo hi _ lim rd out fr nd ct us gn rl
    obtain ⟨hs, t, h1, h2, h3, h4, h5, h6, h7⟩ := h
    refine ⟨_, ?_, vc_lk n lim ⟨us, gn, rl, fr, nd, ct, rd⟩ out i lo hi K hs t h1 h2 h3 h4 h5 h6 h7⟩
    exact ⟨frame C0.ok s_full _, frame C0.ok s_node _, frame C0.ok ih _, trivial⟩
def plS (t : Tr) : Int := match t with
  | .nil => 0
  | .node l _ _ _ => l.size
def plA (t : Tr) (x y : Int) : List Ent × Nat := match t with
  | .nil => ([], 0)
  | .node l _ _ _ => if x < (l.size : Int) then pl l x (if (l.size : Int) < y then (l.size : Int) else y) else ([], 0)
def plB (t : Tr) (x y : Int) : List Ent := match t with
  | .nil => []
  | .node l k v _ => if x ≤ (l.size : Int) ∧ (l.size : Int) < y then [(k, v)] else []
end Go.Proofs.Ytjbkckcjmmmooaa.Sx
end
section
/- Ranks and positions in a tree. No program in sight. -/
namespace Go.Proofs.Ytjbkckcjmmmooaa
open Go

def bf : Tr → Int → Bool → Nat × Nat
  | .nil, _, _ => (0, 0)
  | .node l k _ r, q, eq => if q < k ∨ (k = q ∧ eq = false) then ((bf l q eq).1, 1 + (bf l q eq).2) else (l.size + 1 + (bf r q eq).1, 1 + ne0 l + (bf r q eq).2)
theorem bf_le : ∀ (t : Tr) (q : Int) (eq : Bool), (bf t q eq).1 ≤ t.size ∧ (bf t q eq).2 ≤ 2 * t.size
  | .nil, q, eq => by simp [bf, Tr.size]
  | .node l k v r, q, eq => by
    have h1 := bf_le l q eq
    have h2 := bf_le r q eq
    have hm : ne0 l ≤ 1 := by unfold ne0; split <;> omega
    simp only [bf, Tr.size]
    split <;> simp only [] <;> omega
def sel : Tr → Int → Option Ent × Nat
  | .nil, _ => (none, 0)
  | .node l k v r, i => if i < (l.size : Int) then ((sel l i).1, 1 + ne0 l + (sel l i).2) else if (l.size : Int) < i then ((sel r (i - (l.size + 1))).1, 1 + ne0 l + (sel r (i - (l.size + 1))).2) else (some (k, v), 1 + ne0 l)
def selR (t : Tr) (i : Int) : Option Ent × Nat := if i < 0 then (none, 0) else if (t.size : Int) ≤ i then (none, ne0 t) else ((sel t i).1, ne0 t + (sel t i).2)
theorem sel_le : ∀ (t : Tr) (i : Int), (sel t i).2 ≤ 2 * t.size
  | .nil, i => by simp [sel, Tr.size]
  | .node l k v r, i => by
    have h1 := sel_le l i
    have h2 := sel_le r (i - (l.size + 1))
    have hm : ne0 l ≤ 1 := by unfold ne0; split <;> omega
    simp only [sel, Tr.size]
    split
    · simp only []; omega
    · split <;> simp only [] <;> omega
/-- The entry at a position. -/
theorem sel_get : ∀ (t : Tr) (i : Nat), (sel t i).1 = t.list[i]?
  | .nil, i => by simp [sel, Tr.list]
  | .node l k v r, i => by
    have h1 := sel_get l i
    have hl := l.list_len
    simp only [sel, Tr.list]
    by_cases a : (i : Int) < l.size
    · rw [if_pos a]; simp only []
      rw [h1, List.getElem?_append_left (by omega)]
    · rw [if_neg a, List.getElem?_append_right (by omega), hl]
      by_cases b : (l.size : Int) < i
      · rw [if_pos b]; simp only []
        have h2 := sel_get r (i - (l.size + 1))
        rw [show (i : Int) - (l.size + 1) = ((i - (l.size + 1) : Nat) : Int) by omega, h2, show i - l.size = (i - (l.size + 1)) + 1 by omega, List.getElem?_cons_succ]
      · rw [if_neg b]; simp only []
        rw [show i - l.size = 0 by omega]; rfl
theorem bf_count : ∀ (t : Tr) (q : Int) (eq : Bool), Asc t.list → (bf t q eq).1 = (t.list.filter fun x => decide (x.1 < q) || (eq && decide (x.1 = q))).length
  | .nil, q, eq, _ => by simp [bf, Tr.list]
  | .node l k v r, q, eq, h => by
    have hl : Asc l.list := Srt.left h
    have hr : Asc r.list := (Srt.right h).tail
    have hlk : ∀ x ∈ l.list, x.1 < k := fun x hx => (List.pairwise_append.1 h).2.2 x hx (k, v) (by simp)
    have hkr : ∀ x ∈ r.list, k < x.1 := fun x hx => (Srt.right h).head x hx
    have h1 := bf_count l q eq hl
    have h2 := bf_count r q eq hr
    simp only [bf, Tr.list]
    rw [List.filter_append, List.filter_cons]
    by_cases a : q < k ∨ (k = q ∧ eq = false)
    · rw [if_pos a]; simp only []
      have e1 : (decide (k < q) || (eq && decide (k = q))) = false := by rcases a with a | ⟨a, b⟩; simp; exact ⟨by omega, fun _ => by omega⟩; simp [a, b]
      have e2 : r.list.filter (fun x => decide (x.1 < q) || (eq && decide (x.1 = q))) = [] := by
        rw [List.filter_eq_nil_iff]
        intro x hx
        have := hkr x hx
        rcases a with a | ⟨a, _⟩ <;> simp <;> omega
      simp [e1, e2, h1]
    · rw [if_neg a]; simp only []
      have e1 : (decide (k < q) || (eq && decide (k = q))) = true := by
        rcases Int.lt_trichotomy k q with c | c | c
        · simp [c]
        · have : eq = true := by cases eq <;> simp_all
          simp [this, c]
        · exact absurd (.inl c) a
      have e2 : l.list.filter (fun x => decide (x.1 < q) || (eq && decide (x.1 = q))) = l.list := by
        rw [List.filter_eq_self]
        intro x hx
        have := hlk x hx
        have : k ≤ q := by rcases Int.lt_trichotomy k q with c | c | c; omega; omega; exact absurd (.inl c) a
        simp; left; omega
      simp [e1, e2, h2, l.list_len]; omega
end Go.Proofs.Ytjbkckcjmmmooaa
end
section
/- Ranks and positions. -/
namespace Go.Proofs.Ytjbkckcjmmmooaa.Sx
open Go

/-KEEP Wf exW inU live Arn.cap Arn.free Rep rdS Tr.size ne0 bf sel selR-/
structure XBf (S : Arn) (t : Tr) (q : Int) (eq : Bool) where
  i : Int
  t' : Tr
  c : Nat
  m : Nat
  h : Rep S t' i ∧ bf t q eq = (c + (bf t' q eq).1, m + (bf t' q eq).2) ∧ t'.size ≤ t.size
noncomputable def aBf (S : Arn) (t : Tr) (q : Int) (eq : Bool) : Ann C0 := { Γ := [(49, frameT [] tNode), (61, frameT [] tSize)], inv := fun n => match n with
  | 3 => some { X := XBf S t q eq, sl := [10, 9], tf := fun x => [vi .u32 x.i, vi .i64 x.c], hf := fun x => chS (rdS S x.m), μ := fun x => x.t'.size, wr := [0] }
  | _ => none }
def tBf : Tfm C0 := fun args H K => match args with
  | [.at (.ptr 0 0), .at (.val (.int .u32 i)), .at (.val (.int .i64 q)), .at (.val (.bool eq))] => arM H fun S => ∃ hs t, Wf S hs ∧ Rep S t i ∧ t.size ≤ 1000000 ∧ S.reads + 2 * t.size ≤ 3000000000000000000 ∧
    ∀ S' (c : Int), S' = rdS S (bf t q eq).2 → c = (bf t q eq).1 → K (.one (.at (vI c))) (chS S') [0]
  | _ => False
noncomputable def aRank : Ann C0 := { Γ := [(135, frameT [] tBf)] }
def tRank : Tfm C0 := fun args H K => match args with
  | [.at (.ptr 0 0), .at (.val (.int .u32 i)), .at (.val (.int .i64 q))] => arM H fun S => ∃ hs t, Wf S hs ∧ Rep S t i ∧ t.size ≤ 1000000 ∧ S.reads + 2 * t.size ≤ 3000000000000000000 ∧
    ∀ S' (c : Int), S' = rdS S (bf t q false).2 → c = (bf t q false).1 → K (.one (.at (vI c))) (chS S') [0]
  | _ => False
structure XSel (S : Arn) (t : Tr) (n : Int) where
  i : Int
  j : Int
  t' : Tr
  m : Nat
  h : Rep S t' i ∧ sel t n = ((sel t' j).1, m + (sel t' j).2) ∧ t'.size ≤ t.size ∧ 0 ≤ j ∧ j < t'.size
def entO (o : Option Ent) : TV := .agg [vI (o.getD (0, 0)).1, vI (o.getD (0, 0)).2]
noncomputable def aSel (S : Arn) (t : Tr) (n : Int) : Ann C0 := { Γ := [(49, frameT [] tNode), (61, frameT [] tSize)], inv := fun k => match k with
  | 4 => some { X := XSel S t n, sl := [8, 2, 6], tf := fun x => [vi .u32 x.i, vi .i64 x.j, .one (.at (.ptr 7 0))], hf := fun x => chS (rdS S (ne0 t + x.m)) ++ [.box [vI 0, vI 0]], μ := fun x => x.t'.size, wr := [0] }
  | _ => none }
def tSel : Tfm C0 := fun args H K => match args with
  | [.at (.ptr 0 0), .at (.val (.int .u32 i)), .at (.val (.int .i64 n))] => arM H fun S => ∃ hs t, Wf S hs ∧ Rep S t i ∧ t.size ≤ 1000000 ∧ S.reads + 2 * t.size ≤ 3000000000000000000 ∧
    ∀ S' o, S' = rdS S (selR t n).2 → o = (selR t n).1 → K (.tup [entO o, .at (vB o.isSome)]) (chS S') [0]
  | _ => False
theorem vc_bf (S : Arn) (i q : Int) (eq : Bool) (K : KT) (hs : List Int) (t : Tr) (hw : Wf S hs) (hr : Rep S t i) (h1 : t.size ≤ 1000000) (h2 : S.reads + 2 * t.size ≤ 3000000000000000000)
    (h : ∀ S' (c : Int), S' = rdS S (bf t q eq).2 → c = (bf t q eq).1 → K (.one (.at (vI c))) (chS S') [0]) :
    vc C0 (aBf S t q eq) Try.f135 [.at (.ptr 0 0), .at (vU i), .at (vI q), .at (vB eq)] (chS S) (normK 7 (wideK [0] K)) := by
  refine Eq.mp (show ((∃ x : XBf S t q eq, (True ∧ (True ∧ ((Value.int IntKind.i64 (q)) = (Value.int IntKind.i64 (q))) ∧ ((Value.bool (eq)) = (Value.bool (eq))) ∧ ((Value.int IntKind.i64 0) = (Value.int IntKind.i64 ((↑x.c : Int)))) ∧ ((Value.int IntKind.u32 (i)) = (Value.int IntKind.u32 (x.i))) ∧ True) ∧ (True ∧ True ∧ True ∧ ((Value.int IntKind.u64 (S.reads)) = (Value.int IntKind.u64 ((rdS S x.m).reads))) ∧ True) ∧ (True ∧ True ∧ True ∧ ((Value.int IntKind.u32 (S.fresh)) = (Value.int IntKind.u32 ((rdS S x.m).fresh))) ∧ True) ∧ ((S.nodes) = ((rdS S x.m).nodes)) ∧ ((S.counts) = ((rdS S x.m).counts)) ∧ ((S.used) = ((rdS S x.m).used)) ∧ ((S.gen) = ((rdS S x.m).gen)) ∧ ((S.rel) = ((rdS S x.m).rel)) ∧ True)) ∧
(∀ x : XBf S t q eq, (True → (brS (x.i != 0) (((inU x.i) ∧ (exW (rdS S x.m)) ∧ ((rdS S x.m).reads < 4000000000000000000) ∧ (∀ S' : Arn, (((S') = (rdS (rdS S x.m) ((rdS S x.m).us x.i).toNat)) → (brS (!(rdS S x.m).us x.i) ((K (SV.one (TV.at (At.val (Value.int IntKind.i64 ((↑x.c : Int)))))) [(Chunk.box [(At.ptr 1 0), (At.slc 2), (At.slc 3), (At.val (Value.int IntKind.u64 (S'.reads)))]), (Chunk.box [(At.slc 4), (At.slc 5), (At.slc 6), (At.val (Value.int IntKind.u32 (S'.fresh)))]), (Chunk.row true (EC.node) (S'.nodes)), (Chunk.row true (EC.int) (S'.counts)), (Chunk.row true (EC.bool) (S'.used)), (Chunk.row true (EC.u32) (S'.gen)), (Chunk.row true (EC.u32) (S'.rel))] [0])) ((brS (decide (((rdS S x.m).nd x.i).key > q)) ((∃ x' : XBf S t q eq, (True ∧ ((True ∧
    ((Value.int IntKind.i64 (q)) = (Value.int IntKind.i64 (q))) ∧ ((Value.bool (eq)) = (Value.bool (eq))) ∧ ((Value.int IntKind.i64 ((↑x.c : Int))) = (Value.int IntKind.i64 ((↑x'.c : Int)))) ∧ ((Value.int IntKind.u32 (((rdS S x.m).nd x.i).left)) = (Value.int IntKind.u32 (x'.i))) ∧ True) ∧ (True ∧ True ∧ True ∧ ((Value.int IntKind.u64 (S'.reads)) = (Value.int IntKind.u64 ((rdS S x'.m).reads))) ∧ True) ∧ (True ∧ True ∧ True ∧ ((Value.int IntKind.u32 (S'.fresh)) = (Value.int IntKind.u32 ((rdS S x'.m).fresh))) ∧ True) ∧ ((S'.nodes) = ((rdS S x'.m).nodes)) ∧ ((S'.counts) = ((rdS S x'.m).counts)) ∧ ((S'.used) = ((rdS S x'.m).used)) ∧ ((S'.gen) = ((rdS S x'.m).gen)) ∧ ((S'.rel) = ((rdS S x'.m).rel)) ∧ True) ∧ (x'.t'.size < x.t'.size)))) ((brS (((rdS S x.m).nd x.i).key == q) ((brS (!eq) ((∃ x' : XBf S t q eq, (True ∧ ((True ∧ ((Value.int IntKind.i64 (q)) = (Value.int IntKind.i64 (q))) ∧ ((Value.bool (eq)) = (Value.bool (eq))) ∧ ((Value.int IntKind.i64 ((↑x.c : Int))) = (Value.int IntKind.i64 ((↑x'.c : Int)))) ∧ ((Value.int IntKind.u32 (((rdS S x.m).nd x.i).left)) = (Value.int IntKind.u32 (x'.i))) ∧ True) ∧ (True ∧ True ∧ True ∧ ((Value.int IntKind.u64 (S'.reads)) = (Value.int IntKind.u64 ((rdS S x'.m).reads))) ∧ True) ∧ (True ∧ True ∧ True ∧ ((Value.int IntKind.u32 (S'.fresh)) = (Value.int IntKind.u32 ((rdS S x'.m).fresh))) ∧ True) ∧ ((S'.nodes) = ((rdS S x'.m).nodes)) ∧ ((S'.counts) = ((rdS S x'.m).counts)) ∧ ((S'.used) = ((rdS S x'.m).used)) ∧ ((S'.gen) = ((rdS S x'.m).gen)) ∧
    ((S'.rel) = ((rdS S x'.m).rel)) ∧ True) ∧ (x'.t'.size < x.t'.size)))) (((inU ((rdS S x.m).nd x.i).left) ∧ (exW S') ∧ (S'.reads < 4000000000000000000) ∧ (∀ S'1 : Arn, (((S'1) = (rdS S' (S'.us ((rdS S x.m).nd x.i).left).toNat)) → (∃ x' : XBf S t q eq, (True ∧ ((True ∧ ((Value.int IntKind.i64 (q)) = (Value.int IntKind.i64 (q))) ∧ ((Value.bool (eq)) = (Value.bool (eq))) ∧ ((Value.int IntKind.i64 (IntKind.i64.wrap ((↑x.c : Int) + IntKind.i64.wrap ((S'.nd ((rdS S x.m).nd x.i).left).size + 1)))) = (Value.int IntKind.i64 ((↑x'.c : Int)))) ∧ ((Value.int IntKind.u32 (((rdS S x.m).nd x.i).right)) = (Value.int IntKind.u32 (x'.i))) ∧ True) ∧ (True ∧ True ∧ True ∧ ((Value.int IntKind.u64 (S'1.reads)) = (Value.int IntKind.u64 ((rdS S x'.m).reads))) ∧ True) ∧ (True ∧ True ∧ True ∧ ((Value.int IntKind.u32 (S'1.fresh)) = (Value.int IntKind.u32 ((rdS S x'.m).fresh))) ∧ True) ∧ ((S'1.nodes) = ((rdS S x'.m).nodes)) ∧ ((S'1.counts) = ((rdS S x'.m).counts)) ∧ ((S'1.used) = ((rdS S x'.m).used)) ∧ ((S'1.gen) = ((rdS S x'.m).gen)) ∧ ((S'1.rel) = ((rdS S x'.m).rel)) ∧ True) ∧ (x'.t'.size < x.t'.size))))))))) (((inU ((rdS S x.m).nd x.i).left) ∧ (exW S') ∧ (S'.reads < 4000000000000000000) ∧ (∀ S'1 : Arn, (((S'1) = (rdS S' (S'.us ((rdS S x.m).nd x.i).left).toNat)) → (∃ x' : XBf S t q eq, (True ∧ ((True ∧ ((Value.int IntKind.i64 (q)) = (Value.int IntKind.i64 (q))) ∧ ((Value.bool (eq)) = (Value.bool (eq))) ∧
    ((Value.int IntKind.i64 (IntKind.i64.wrap ((↑x.c : Int) + IntKind.i64.wrap ((S'.nd ((rdS S x.m).nd x.i).left).size + 1)))) = (Value.int IntKind.i64 ((↑x'.c : Int)))) ∧ ((Value.int IntKind.u32 (((rdS S x.m).nd x.i).right)) = (Value.int IntKind.u32 (x'.i))) ∧ True) ∧ (True ∧ True ∧ True ∧ ((Value.int IntKind.u64 (S'1.reads)) = (Value.int IntKind.u64 ((rdS S x'.m).reads))) ∧ True) ∧ (True ∧ True ∧ True ∧ ((Value.int IntKind.u32 (S'1.fresh)) = (Value.int IntKind.u32 ((rdS S x'.m).fresh))) ∧ True) ∧ ((S'1.nodes) = ((rdS S x'.m).nodes)) ∧ ((S'1.counts) = ((rdS S x'.m).counts)) ∧ ((S'1.used) = ((rdS S x'.m).used)) ∧ ((S'1.gen) = ((rdS S x'.m).gen)) ∧ ((S'1.rel) = ((rdS S x'.m).rel)) ∧ True) ∧ (x'.t'.size < x.t'.size)))))))))))))))) ((K (SV.one (TV.at (At.val (Value.int IntKind.i64 ((↑x.c : Int)))))) [(Chunk.box [(At.ptr 1 0), (At.slc 2), (At.slc 3), (At.val (Value.int IntKind.u64 ((rdS S x.m).reads)))]), (Chunk.box [(At.slc 4), (At.slc 5), (At.slc 6), (At.val (Value.int IntKind.u32 ((rdS S x.m).fresh)))]), (Chunk.row true (EC.node) ((rdS S x.m).nodes)), (Chunk.row true (EC.int) ((rdS S x.m).counts)), (Chunk.row true (EC.bool) ((rdS S x.m).used)), (Chunk.row true (EC.u32) ((rdS S x.m).gen)), (Chunk.row true (EC.u32) ((rdS S x.m).rel))] [0])))))) = _ by kernel_rfl) ?_
  have hrd := hw.rds
  have hb := bf_le t q eq
  refine ⟨⟨⟨i, t, 0, 0, hr, by simp, Nat.le_refl _⟩, ?_⟩, fun x _ => ?_⟩
  · (repeat' first | exact trivial | exact rfl | refine And.intro ?_ ?_)
    rw [rdS_zero]
  obtain ⟨xi, xt, xc, xm, h1', h2, h3⟩ := x
  dsimp only
  have hb2 : bf t q eq = (xc + (bf xt q eq).1, xm + (bf xt q eq).2) := h2
  have hxm : xc ≤ (bf t q eq).1 ∧ xm ≤ (bf t q eq).2 := by rw [hb2]; exact ⟨Nat.le_add_right _ _, Nat.le_add_right _ _⟩
  have hwx : Wf (rdS S xm) hs := hw.rd (by omega)
  refine brS_of (fun c => ?_) fun c => ?_
  · have c : xi ≠ 0 := by simpa using c
    cases xt with
    | nil => exact absurd h1' c
    | node l k v r =>
      obtain ⟨r1, r2, r3, r4, r5⟩ := h1'
      have hsz : l.size + r.size + 1 = (Tr.node l k v r).size := by simp [Tr.size]; omega
      have hsl : (S.nd (S.nd xi).left).size = l.size := r4.size hw
      have hus := us_toNat hw r4
      have hm : ne0 l ≤ 1 := by unfold ne0; split <;> omega
      have hsb : (bf (.node l k v r) q eq).2 ≤ (bf t q eq).2 - xm := by rw [hb2]; simp
      refine ⟨inU_of hw (.inr r1), ⟨_, hwx⟩, by show S.reads + (xm : Int) < _; omega, fun S1 e1 => brS_of (fun d => ?_) fun _ => ?_⟩
      · have d : (!S.us xi) = true := d
        have d : S.us xi = false := by simpa using d
        rw [r1] at d; cases d
      have e1 : S1 = rdS S (xm + 1) := by rw [e1, rdS_rdS]; show rdS S (xm + (S.us xi).toNat) = _; rw [r1]; rfl
      subst e1
      have ek : ((rdS S xm).nd xi).key = k := r2
      rw [ek]
      refine brS_of (fun d => ?_) fun d => brS_of (fun d2 => brS_of (fun d3 => ?_) fun d3 => ?_) fun d2 => ?_
      · have hc : q < k ∨ (k = q ∧ eq = false) := .inl (of_decide_eq_true d)
        refine ⟨⟨(S.nd xi).left, l, xc, xm + 1, r4, by rw [h2]; simp only [bf, if_pos hc]; rw [Nat.add_assoc], by omega⟩, ?_⟩
        (repeat' first | exact trivial | exact rfl | refine And.intro ?_ ?_)
        show l.size < (Tr.node l k v r).size; omega
      · have hc : q < k ∨ (k = q ∧ eq = false) := .inr ⟨by simpa using d2, by simpa using d3⟩
        refine ⟨⟨(S.nd xi).left, l, xc, xm + 1, r4, by rw [h2]; simp only [bf, if_pos hc]; rw [Nat.add_assoc], by omega⟩, ?_⟩
        (repeat' first | exact trivial | exact rfl | refine And.intro ?_ ?_)
        show l.size < (Tr.node l k v r).size; omega
      all_goals
        have d : ¬ q < k := of_decide_eq_false d
        have hc : ¬ (q < k ∨ (k = q ∧ eq = false)) := by first | (rintro (a | ⟨_, a⟩); exact d a; rw [a] at d3; cases d3) | (rintro (a | ⟨a, _⟩); exact d a; rw [a] at d2; simp at d2)
        have hn : (bf (.node l k v r) q eq).2 ≤ 2 * (Tr.node l k v r).size := (bf_le _ _ _).2
        refine ⟨inU_of hw (hw.kid xi r1).1, ⟨_, hw.rd (by omega)⟩, by show S.reads + ((xm + 1 : Nat) : Int) < _; omega, fun S2 e2 => ?_⟩
        have e2 : S2 = rdS S (xm + (1 + ne0 l)) := by rw [e2, rdS_rdS]; show rdS S (xm + 1 + (S.us (S.nd xi).left).toNat) = _; rw [hus, Nat.add_assoc]
        have e2 := e2
        subst e2
        refine ⟨⟨(S.nd xi).right, r, xc + (l.size + 1), xm + (1 + ne0 l), r5, by rw [h2]; simp only [bf, if_neg hc]; exact Prod.ext (by show _ = _; simp only []; omega) (by show _ = _; simp only []; omega), by omega⟩, ?_⟩
        (repeat' first | exact trivial | exact rfl | refine And.intro ?_ ?_)
        · show Value.int .i64 (IntKind.i64.wrap ((xc : Int) + IntKind.i64.wrap ((S.nd (S.nd xi).left).size + 1))) = Value.int .i64 ((xc + (l.size + 1) : Nat) : Int)
          rw [hsl, wrap_id (x := (l.size : Int) + 1) (by omega) (by omega), wrap_id (by omega) (by omega)]
          congr 1
        · show r.size < (Tr.node l k v r).size; omega
        
  · have c : xi = 0 := by simpa using c
    subst c
    have e := h1'.zero hw
    subst e
    exact h _ _ (by rw [hb2]; simp [bf]) (by rw [hb2]; simp [bf])
theorem s_bf : SoundT C0 135 tBf := by
  refine .ofW [0] Try.func135 (by decide) rfl fun args H K h hB => ?_
  unfold tBf at h
  split at h <;> try exact h.elim
  unfold arM at h
  split at h <;> try exact h.elim
  rename_i i q eq _ rd fr nd ct us gn rl
  obtain ⟨hs, t, h1, h2, h3, h4, h5⟩ := h
  exact ⟨aBf ⟨us, gn, rl, fr, nd, ct, rd⟩ t q eq, ⟨frame C0.ok s_node _, frame C0.ok s_size _, trivial⟩, vc_bf ⟨us, gn, rl, fr, nd, ct, rd⟩ i q eq K hs t h1 h2 h3 h4 h5⟩
end Go.Proofs.Ytjbkckcjmmmooaa.Sx
end
section
/- Listing a tree gives what the reference gives. No program in sight. -/
namespace Go.Proofs.Ytjbkckcjmmmooaa
open Go

/-- The entries with keys from lo to hi. -/
def betE (l : List Ent) (lo hi : Int) : List Ent := l.filter fun x => decide (lo ≤ x.1) && decide (x.1 ≤ hi)
theorem node_asc {l r : Tr} {k v : Int} (h : Asc (Tr.node l k v r).list) : Asc l.list ∧ Asc r.list ∧ (∀ x ∈ l.list, x.1 < k) ∧ (∀ x ∈ r.list, k < x.1) :=
  ⟨Srt.left h, (Srt.right h).tail, fun x hx => (List.pairwise_append.1 h).2.2 x hx (k, v) (by simp), fun x hx => (Srt.right h).head x hx⟩
theorem lk_spec : ∀ (t : Tr) (lo hi : Int) (rm : Nat), Asc t.list → (lk t lo hi rm).1 = (betE t.list lo hi).take rm
  | .nil, lo, hi, rm, _ => by simp [lk, Tr.list, betE]
  | .node l k v r, lo, hi, rm, h => by
    obtain ⟨hl, hr, hlk, hkr⟩ := node_asc h
    by_cases h0 : rm = 0
    · simp [lk, h0]
    have ea : (if lo < k then lk l lo hi rm else ([], 0)).1 = (betE l.list lo hi).take rm := by
      by_cases c : lo < k
      · rw [if_pos c]; exact lk_spec l lo hi rm hl
      · rw [if_neg c]
        have : betE l.list lo hi = [] := by
          unfold betE; rw [List.filter_eq_nil_iff]
          intro x hx; have := hlk x hx; simp; omega
        rw [this]; simp
    have ec : ∀ m, (if k < hi then lk r lo hi m else ([], 0)).1 = (betE r.list lo hi).take m := by
      intro m
      by_cases c : k < hi
      · rw [if_pos c]; exact lk_spec r lo hi m hr
      · rw [if_neg c]
        have : betE r.list lo hi = [] := by
          unfold betE; rw [List.filter_eq_nil_iff]
          intro x hx; have := hkr x hx; simp; omega
        rw [this]; simp
    have eb : betE (Tr.node l k v r).list lo hi = betE l.list lo hi ++ (if lo ≤ k ∧ k ≤ hi then (k, v) :: betE r.list lo hi else betE r.list lo hi) := by
      unfold betE
      simp only [Tr.list]
      rw [List.filter_append, List.filter_cons]
      congr 1
      by_cases c : lo ≤ k ∧ k ≤ hi
      · rw [if_pos c, if_pos (by simp; exact c)]
      · rw [if_neg c, if_neg (by simp; omega)]
    rw [eb]
    simp only [lk, if_neg h0, ec]
    rw [ea, List.take_append]
    congr 1
    generalize betE l.list lo hi = A
    generalize betE r.list lo hi = B
    by_cases c : rm ≤ A.length
    · have e1 : (A.take rm).length = rm := by simp; omega
      rw [e1, if_neg (by omega), show rm - A.length = 0 by omega]
      simp
    · have e1 : (A.take rm).length = A.length := by simp; omega
      rw [e1]
      obtain ⟨m, hm⟩ : ∃ m, rm - A.length = m + 1 := ⟨rm - A.length - 1, by omega⟩
      by_cases d : lo ≤ k ∧ k ≤ hi
      · rw [if_pos ⟨d.1, d.2, by omega⟩, if_pos d, hm]
        simp only [List.take_succ_cons, List.singleton_append, List.length_singleton]
        rw [show rm - (A.length + 1) = m by omega]
      · rw [if_neg (fun q => d ⟨q.1, q.2.1⟩), if_neg d]
        simp
theorem betE_all {l : List Ent} (h : ∀ x ∈ l, -9223372036854775808 ≤ x.1 ∧ x.1 ≤ 9223372036854775807) : betE l (-9223372036854775808) 9223372036854775807 = l := by
  unfold betE; rw [List.filter_eq_self]; intro x hx; simpa using h x hx
theorem pl_spec : ∀ (t : Tr) (x y : Nat), y ≤ t.size → (pl t x y).1 = (t.list.drop x).take (y - x)
  | .nil, x, y, _ => by simp [pl, Tr.list]
  | .node l k v r, x, y, h => by
    have hl := l.list_len
    have hr := r.list_len
    have hz : y ≤ 1 + l.size + r.size := h
    simp only [pl, Tr.list]
    by_cases c : (y : Int) ≤ x
    · rw [if_pos c, show y - x = 0 by omega]; simp
    rw [if_neg c, List.drop_append, List.take_append]
    simp only []
    have ea : (if (x : Int) < (l.size : Int) then pl l x (if (l.size : Int) < y then (l.size : Int) else y) else ([], 0)).1 = (l.list.drop x).take (y - x) := by
      by_cases d : (x : Int) < l.size
      · rw [if_pos d]
        by_cases e : (l.size : Int) < y
        · rw [if_pos e, pl_spec l x l.size (Nat.le_refl _), List.take_of_length_le (by simp; omega), List.take_of_length_le (by simp; omega)]
        · rw [if_neg e, pl_spec l x y (by omega)]
      · rw [if_neg d, List.drop_eq_nil_of_le (by omega)]; simp
    rw [ea]
    congr 1
    have el : (List.drop x l.list).length = l.size - x := by simp [hl]
    rw [el, hl]
    by_cases d : (x : Int) ≤ l.size
    · rw [show x - l.size = 0 by omega, List.drop_zero, show y - x - (l.size - x) = y - l.size by omega]
      by_cases e : (l.size : Int) < y
      · rw [if_pos ⟨d, e⟩]
        obtain ⟨m, hm⟩ : ∃ m, y - l.size = m + 1 := ⟨y - l.size - 1, by omega⟩
        rw [hm, List.take_succ_cons]
        by_cases f : (l.size : Int) + 1 < y
        · rw [if_pos f, if_neg (by omega)]
          have := pl_spec r 0 m (by omega)
          rw [show (y : Int) - l.size - 1 = ((m : Nat) : Int) by omega]
          have e0 : ((0 : Nat) : Int) = 0 := rfl
          rw [e0] at this
          rw [this]; simp
        · rw [if_neg f, show m = 0 by omega]; simp
      · rw [if_neg (fun q => e q.2), if_neg (by omega), show y - l.size = 0 by omega]; simp
    · rw [if_neg (fun q => d q.1), if_pos (by omega)]
      obtain ⟨m, hm⟩ : ∃ m, x - l.size = m + 1 := ⟨x - l.size - 1, by omega⟩
      rw [hm, List.drop_succ_cons, show (if 0 < (x : Int) - l.size - 1 then (x : Int) - l.size - 1 else 0) = ((m : Nat) : Int) by split <;> omega, show (y : Int) - l.size - 1 = ((y - l.size - 1 : Nat) : Int) by omega, pl_spec r m (y - l.size - 1) (by omega)]
      simp only [List.nil_append]
      rw [show y - l.size - 1 - m = y - x - (l.size - x) by omega]
theorem asc_lt {l : List Ent} (h : Asc l) (q : Int) : l.filter (fun x => decide (x.1 < q)) = l.take (l.filter fun x => decide (x.1 < q)).length ∧ l.filter (fun x => decide (q ≤ x.1)) = l.drop (l.filter fun x => decide (x.1 < q)).length := by
  induction l with
  | nil => simp
  | cons a t ih =>
    obtain ⟨i1, i2⟩ := ih h.tail
    have hh := h.head
    by_cases c : a.1 < q
    · rw [List.filter_cons, if_pos (by simpa using c), List.filter_cons, if_neg (by simp; omega)]
      simp only [List.length_cons, List.take_succ_cons, List.drop_succ_cons]
      exact ⟨by rw [← i1], i2⟩
    · have e : ∀ x ∈ a :: t, ¬ x.1 < q := by
        intro x hx
        rcases List.mem_cons.1 hx with rfl | hx
        · exact c
        · have : a.1 < x.1 := hh x hx; omega
      have e1 : (a :: t).filter (fun x => decide (x.1 < q)) = [] := by rw [List.filter_eq_nil_iff]; intro x hx; simpa using e x hx
      have e2 : (a :: t).filter (fun x => decide (q ≤ x.1)) = a :: t := by rw [List.filter_eq_self]; intro x hx; have := e x hx; simp; omega
      rw [e1, e2]; simp
theorem filt_len {α : Type} (p : α → Bool) (m : List α) : m.length = (m.filter p).length + (m.filter fun x => !p x).length := by
  induction m with
  | nil => rfl
  | cons a t ih => cases c : p a <;> simp [c] <;> omega
/-- A range is the slice between two ranks. -/
theorem betE_slice {l : List Ent} (h : Asc l) (lo hi : Int) (hb : lo ≤ hi) : betE l lo hi = (l.drop (l.filter fun x => decide (x.1 < lo)).length).take ((l.filter fun x => decide (x.1 < hi + 1)).length - (l.filter fun x => decide (x.1 < lo)).length) := by
  obtain ⟨_, a2⟩ := asc_lt h lo
  have hd : Asc (l.filter fun x => decide (lo ≤ x.1)) := h.filter _
  obtain ⟨b1, _⟩ := asc_lt hd (hi + 1)
  have e1 : betE l lo hi = (l.filter fun x => decide (lo ≤ x.1)).filter fun x => decide (x.1 < hi + 1) := by
    unfold betE
    rw [List.filter_filter]
    congr 1
    funext x
    rw [Bool.and_comm]
    congr 1
    apply decide_eq_decide.2
    omega
  have e2 : ((l.filter fun x => decide (lo ≤ x.1)).filter fun x => decide (x.1 < hi + 1)).length = (l.filter fun x => decide (x.1 < hi + 1)).length - (l.filter fun x => decide (x.1 < lo)).length := by
    have := filt_len (fun x : Ent => decide (x.1 < lo)) (l.filter fun x => decide (x.1 < hi + 1))
    rw [this, List.filter_filter, List.filter_filter, List.filter_filter]
    have f1 : (fun x : Ent => decide (x.1 < lo) && decide (x.1 < hi + 1)) = fun x => decide (x.1 < lo) := by
      funext x; by_cases c : x.1 < lo
      · simp [c]; omega
      · simp [c]
    have f2 : (fun x : Ent => decide (x.1 < hi + 1) && decide (lo ≤ x.1)) = fun x => !decide (x.1 < lo) && decide (x.1 < hi + 1) := by
      funext x; by_cases c : x.1 < lo
      · simp [c]
      · have : lo ≤ x.1 := by omega
        simp [c, this]
    rw [f1, f2]; omega
  rw [e1, b1, e2, a2]
end Go.Proofs.Ytjbkckcjmmmooaa
end
section
/- The nearest entries of a tree. No program in sight. -/
namespace Go.Proofs.Ytjbkckcjmmmooaa
open Go

def lsT : Tr → (Int → Bool) → Option Ent → Option Ent × Nat
  | .nil, _, b => (b, 0)
  | .node l k v r, p, b => if p k then ((lsT l p (some (k, v))).1, 1 + (lsT l p (some (k, v))).2) else ((lsT r p b).1, 1 + (lsT r p b).2)
def gtT : Tr → (Int → Bool) → Option Ent → Option Ent × Nat
  | .nil, _, b => (b, 0)
  | .node l k v r, p, b => if p k then ((gtT r p (some (k, v))).1, 1 + (gtT r p (some (k, v))).2) else ((gtT l p b).1, 1 + (gtT l p b).2)
theorem lsT_le : ∀ (t : Tr) (p : Int → Bool) (b : Option Ent), (lsT t p b).2 ≤ t.size
  | .nil, _, _ => by simp [lsT, Tr.size]
  | .node l k v r, p, b => by
    have h1 := lsT_le l p (some (k, v))
    have h2 := lsT_le r p b
    simp only [lsT, Tr.size]
    split <;> simp only [] <;> omega
theorem gtT_le : ∀ (t : Tr) (p : Int → Bool) (b : Option Ent), (gtT t p b).2 ≤ t.size
  | .nil, _, _ => by simp [gtT, Tr.size]
  | .node l k v r, p, b => by
    have h1 := gtT_le r p (some (k, v))
    have h2 := gtT_le l p b
    simp only [gtT, Tr.size]
    split <;> simp only [] <;> omega
/-- The first entry that is admitted, where greater keys are admitted as well. -/
theorem lsT_find : ∀ (t : Tr) (p : Int → Bool) (b : Option Ent), Asc t.list → (∀ i j, i < j → p i = true → p j = true) → (lsT t p b).1 = (t.list.find? fun x => p x.1).or b
  | .nil, _, _, _, _ => by simp [lsT, Tr.list]
  | .node l k v r, p, b, h, hp => by
    obtain ⟨hl, hr, hlk, hkr⟩ := node_asc h
    simp only [lsT, Tr.list]
    rw [List.find?_append, List.find?_cons]
    cases c : p k with
    | true =>
      simp only [if_true]
      rw [lsT_find l p _ hl hp]
      cases (l.list.find? fun x => p x.1) <;> rfl
    | false =>
      simp only [Bool.false_eq_true, if_false]
      have e : (l.list.find? fun x => p x.1) = none := by
        rw [List.find?_eq_none]
        intro x hx hc
        have := hp x.1 k (hlk x hx) hc
        rw [c] at this; cases this
      rw [e, lsT_find r p b hr hp]; rfl
/-- The last entry that is admitted, where lesser keys are admitted as well. -/
theorem gtT_find : ∀ (t : Tr) (p : Int → Bool) (b : Option Ent), Asc t.list → (∀ i j, i < j → p j = true → p i = true) → (gtT t p b).1 = (t.list.reverse.find? fun x => p x.1).or b
  | .nil, _, _, _, _ => by simp [gtT, Tr.list]
  | .node l k v r, p, b, h, hp => by
    obtain ⟨hl, hr, hlk, hkr⟩ := node_asc h
    simp only [gtT, Tr.list]
    rw [List.reverse_append, List.reverse_cons, List.append_assoc, List.find?_append, List.singleton_append, List.find?_cons]
    cases c : p k with
    | true =>
      simp only [if_true]
      rw [gtT_find r p _ hr hp]
      cases (r.list.reverse.find? fun x => p x.1) <;> rfl
    | false =>
      simp only [Bool.false_eq_true, if_false]
      have e : (r.list.reverse.find? fun x => p x.1) = none := by
        rw [List.find?_eq_none]
        intro x hx hc
        have := hp k x.1 (hkr x (by simpa using hx)) hc
        rw [c] at this; cases this
      rw [e, gtT_find l p b hl hp]; rfl
end Go.Proofs.Ytjbkckcjmmmooaa
end
section
/- The nearest entries of a tree: lookup's functions. -/
namespace Go.Proofs.Ytjbkckcjmmmooaa.Sx
open Go

/-KEEP Wf exW inU live Arn.cap Arn.free Rep rdS Tr.size lsT gtT entO-/
abbrev chA (key : Int) (S : Arn) : List (Chunk C0) := [.box [.ptr 2 0, .slc 3, .slc 4, vU64 S.reads], .box [vI key], .box [.slc 5, .slc 6, .slc 7, vU S.fresh], .row true EC.node S.nodes, .row true EC.int S.counts, .row true EC.bool S.used, .row true EC.u32 S.gen, .row true EC.u32 S.rel]
def caM (H : List (Chunk C0)) (k : Int → Arn → Prop) : Prop := match H with
  | [.box [.ptr 2 0, .slc 3, .slc 4, .val (.int .u64 rd)], .box [.val (.int .i64 key)], .box [.slc 5, .slc 6, .slc 7, .val (.int .u32 fr)], .row true .node nd, .row true .int ct, .row true .bool us, .row true .u32 gn, .row true .u32 rl] => k key ⟨us, gn, rl, fr, nd, ct, rd⟩
  | _ => False
def tEntry : Tfm C0 := fun args H K => match args, H with
  | [.agg [.val (.int .i64 k), .val (.int .i64 v), .val (.int .u32 _), .val (.int .u32 _), .val (.int .i64 _), .val (.int .i64 _), .val (.int .i64 _), .val (.int .i64 _)]], [] => K (.one (.agg [vI k, vI v])) [] []
  | _, _ => False
theorem s_entry : SoundT C0 132 tEntry := by
  refine .of Try.func132 (by decide) rfl fun args H K h hB => ⟨A0, trivial, ?_⟩
  unfold tEntry at h
  split at h <;> try exact h.elim
  exact Eq.mp (show _ = _ by kernel_rfl) h
structure XNr (F : Tr → (Int → Bool) → Option Ent → Option Ent × Nat) (S : Arn) (t : Tr) (p : Int → Bool) where
  i : Int
  t' : Tr
  b : Option Ent
  m : Nat
  h : Rep S t' i ∧ F t p none = ((F t' p b).1, m + (F t' p b).2) ∧ t'.size ≤ t.size
def tAdm_ceil : Tfm C0 := fun args H K => match args, H with
  | [.at (.val (.int .i64 k)), .at (.ptr 0 0)], [.box [.val (.int .i64 key)]] => K (.one (.at (vB (decide (k ≥ key))))) [.box [vI key]] []
  | _, _ => False
def tLu_ceil : Tfm C0 := fun args H K => match args with
  | [.at (.ptr 0 0), .at (.val (.int .u32 i)), .at (.val (.int .i64 key))] => arM H fun S => ∃ hs t, Wf S hs ∧ Rep S t i ∧ t.size ≤ 1000000 ∧ S.reads + t.size ≤ 3000000000000000000 ∧
    ∀ S' o, S' = rdS S (lsT t (fun k => decide (k ≥ key)) none).2 → o = (lsT t (fun k => decide (k ≥ key)) none).1 → K (.tup [entO o, .at (vB o.isSome)]) (chS S') [0]
  | _ => False
def tAdm_above : Tfm C0 := fun args H K => match args, H with
  | [.at (.val (.int .i64 k)), .at (.ptr 0 0)], [.box [.val (.int .i64 key)]] => K (.one (.at (vB (decide (k > key))))) [.box [vI key]] []
  | _, _ => False
theorem s_adm_above : SoundT C0 123 tAdm_above := by
  refine .of Try.func123 (by decide) rfl fun args H K h hB => ⟨A0, trivial, ?_⟩
  unfold tAdm_above at h
  split at h <;> try exact h.elim
  exact Eq.mp (show _ = _ by kernel_rfl) h
noncomputable def aNr_above (S : Arn) (t : Tr) (key : Int) : Ann C0 := { Γ := [(49, frameT [] tNode), (123, frameT [] tAdm_above), (132, frameT [] tEntry)], inv := fun n => match n with
  | 4 => some { X := XNr lsT S t (fun k => decide (k > key)), sl := [10, 9, 8, 6], tf := fun x => [vi .u32 x.i, vb x.b.isSome, .one (.at (.ptr 8 0)), .one (.at (.ptr 9 0))], hf := fun x => chA key (rdS S x.m) ++ [.box [vI (x.b.getD (0, 0)).1, vI (x.b.getD (0, 0)).2], .box [vI 0, vI 0]], μ := fun x => x.t'.size, wr := [0] }
  | _ => none }
def tNr_above : Tfm C0 := fun args H K => match args with
  | [.at (.ptr 0 0), .at (.val (.int .u32 i)), .at (.fn 123 [1])] => caM H fun key S => ∃ hs t, Wf S hs ∧ Rep S t i ∧ t.size ≤ 1000000 ∧ S.reads + t.size ≤ 3000000000000000000 ∧
    ∀ S' o, S' = rdS S (lsT t (fun k => decide (k > key)) none).2 → o = (lsT t (fun k => decide (k > key)) none).1 → K (.tup [entO o, .at (vB o.isSome)]) (chA key S') [0]
  | _ => False
noncomputable def aLu_above : Ann C0 := { Γ := [(113, frameT [] tNr_above)] }
def tLu_above : Tfm C0 := fun args H K => match args with
  | [.at (.ptr 0 0), .at (.val (.int .u32 i)), .at (.val (.int .i64 key))] => arM H fun S => ∃ hs t, Wf S hs ∧ Rep S t i ∧ t.size ≤ 1000000 ∧ S.reads + t.size ≤ 3000000000000000000 ∧
    ∀ S' o, S' = rdS S (lsT t (fun k => decide (k > key)) none).2 → o = (lsT t (fun k => decide (k > key)) none).1 → K (.tup [entO o, .at (vB o.isSome)]) (chS S') [0]
  | _ => False
theorem vc_nr_above (S : Arn) (i key : Int) (K : KT) (hs : List Int) (t : Tr) (hw : Wf S hs) (hr : Rep S t i) (h1 : t.size ≤ 1000000) (h2 : S.reads + t.size ≤ 3000000000000000000)
    (h : ∀ S' o, S' = rdS S (lsT t (fun k => decide (k > key)) none).2 → o = (lsT t (fun k => decide (k > key)) none).1 → K (.tup [entO o, .at (vB o.isSome)]) (chA key S') [0]) :
    vc C0 (aNr_above S t key) Try.f113 [.at (.ptr 0 0), .at (vU i), .at (.fn 123 [1])] (chA key S) (normK 8 (wideK [0] K)) := by
  refine Eq.mp (show ((∃ x : XNr lsT S t fun k => decide (k > key), (True ∧ (True ∧ ((At.fn 123 [1]) = (At.fn 123 [1])) ∧ True ∧ True ∧ ((Value.bool false) = (Value.bool (x.b.isSome))) ∧ ((Value.int IntKind.u32 (i)) = (Value.int IntKind.u32 (x.i))) ∧ True) ∧ (True ∧ True ∧ True ∧ ((Value.int IntKind.u64 (S.reads)) = (Value.int IntKind.u64 ((rdS S x.m).reads))) ∧ True) ∧ (((Value.int IntKind.i64 (key)) = (Value.int IntKind.i64 (key))) ∧ True) ∧ (True ∧ True ∧ True ∧ ((Value.int IntKind.u32 (S.fresh)) = (Value.int IntKind.u32 ((rdS S x.m).fresh))) ∧ True) ∧ ((S.nodes) = ((rdS S x.m).nodes)) ∧ ((S.counts) = ((rdS S x.m).counts)) ∧ ((S.used) = ((rdS S x.m).used)) ∧ ((S.gen) = ((rdS S x.m).gen)) ∧ ((S.rel) = ((rdS S x.m).rel)) ∧ (((Value.int IntKind.i64 0) = (Value.int IntKind.i64 ((x.b.getD (0, 0)).fst))) ∧ ((Value.int IntKind.i64 0) = (Value.int IntKind.i64 ((x.b.getD (0, 0)).snd))) ∧ True) ∧ (((Value.int IntKind.i64 0) = (Value.int IntKind.i64 0)) ∧ ((Value.int IntKind.i64 0) = (Value.int IntKind.i64 0)) ∧ True) ∧ True)) ∧
(∀ x : XNr lsT S t fun k => decide (k > key), (True → (brS (x.i != 0) (((inU x.i) ∧ (exW (rdS S x.m)) ∧ ((rdS S x.m).reads < 4000000000000000000) ∧ (∀ S' : Arn, (((S') = (rdS (rdS S x.m) ((rdS S x.m).us x.i).toNat)) → (brS (!(rdS S x.m).us x.i)
    ((K (SV.tup [(TV.agg [(At.val (Value.int IntKind.i64 ((x.b.getD (0, 0)).fst))), (At.val (Value.int IntKind.i64 ((x.b.getD (0, 0)).snd)))]), (TV.at (At.val (Value.bool (x.b.isSome))))]) [(Chunk.box [(At.ptr 2 0), (At.slc 3), (At.slc 4), (At.val (Value.int IntKind.u64 (S'.reads)))]), (Chunk.box [(At.val (Value.int IntKind.i64 (key)))]), (Chunk.box [(At.slc 5), (At.slc 6), (At.slc 7), (At.val (Value.int IntKind.u32 (S'.fresh)))]), (Chunk.row true (EC.node) (S'.nodes)), (Chunk.row true (EC.int) (S'.counts)), (Chunk.row true (EC.bool) (S'.used)), (Chunk.row true (EC.u32) (S'.gen)), (Chunk.row true (EC.u32) (S'.rel))] [0])) ((brS (!decide (((rdS S x.m).nd x.i).key > key)) ((∃ x' : XNr lsT S t fun k => decide (k > key), (True ∧ ((True ∧ ((At.fn 123 [1]) = (At.fn 123 [1])) ∧ True ∧ True ∧ ((Value.bool (x.b.isSome)) = (Value.bool (x'.b.isSome))) ∧ ((Value.int IntKind.u32 (((rdS S x.m).nd x.i).right)) = (Value.int IntKind.u32 (x'.i))) ∧ True) ∧ (True ∧ True ∧ True ∧ ((Value.int IntKind.u64 (S'.reads)) = (Value.int IntKind.u64 ((rdS S x'.m).reads))) ∧ True) ∧ (((Value.int IntKind.i64 (key)) = (Value.int IntKind.i64 (key))) ∧ True) ∧ (True ∧ True ∧ True ∧ ((Value.int IntKind.u32 (S'.fresh)) = (Value.int IntKind.u32 ((rdS S x'.m).fresh))) ∧ True) ∧ ((S'.nodes) = ((rdS S x'.m).nodes)) ∧ ((S'.counts) = ((rdS S x'.m).counts)) ∧ ((S'.used) = ((rdS S x'.m).used)) ∧ ((S'.gen) = ((rdS S x'.m).gen)) ∧ ((S'.rel) = ((rdS S x'.m).rel)) ∧
    (((Value.int IntKind.i64 ((x.b.getD (0, 0)).fst)) = (Value.int IntKind.i64 ((x'.b.getD (0, 0)).fst))) ∧ ((Value.int IntKind.i64 ((x.b.getD (0, 0)).snd)) = (Value.int IntKind.i64 ((x'.b.getD (0, 0)).snd))) ∧ True) ∧ (((Value.int IntKind.i64 0) = (Value.int IntKind.i64 0)) ∧ ((Value.int IntKind.i64 0) = (Value.int IntKind.i64 0)) ∧ True) ∧ True) ∧ (x'.t'.size < x.t'.size)))) ((∃ x' : XNr lsT S t fun k => decide (k > key), (True ∧ ((True ∧ ((At.fn 123 [1]) = (At.fn 123 [1])) ∧ True ∧ True ∧ ((Value.bool true) = (Value.bool (x'.b.isSome))) ∧ ((Value.int IntKind.u32 (((rdS S x.m).nd x.i).left)) = (Value.int IntKind.u32 (x'.i))) ∧ True) ∧ (True ∧ True ∧ True ∧ ((Value.int IntKind.u64 (S'.reads)) = (Value.int IntKind.u64 ((rdS S x'.m).reads))) ∧ True) ∧ (((Value.int IntKind.i64 (key)) = (Value.int IntKind.i64 (key))) ∧ True) ∧ (True ∧ True ∧ True ∧ ((Value.int IntKind.u32 (S'.fresh)) = (Value.int IntKind.u32 ((rdS S x'.m).fresh))) ∧ True) ∧ ((S'.nodes) = ((rdS S x'.m).nodes)) ∧ ((S'.counts) = ((rdS S x'.m).counts)) ∧ ((S'.used) = ((rdS S x'.m).used)) ∧ ((S'.gen) = ((rdS S x'.m).gen)) ∧ ((S'.rel) = ((rdS S x'.m).rel)) ∧ (((Value.int IntKind.i64 (((rdS S x.m).nd x.i).key)) = (Value.int IntKind.i64 ((x'.b.getD (0, 0)).fst))) ∧ ((Value.int IntKind.i64 (((rdS S x.m).nd x.i).value)) = (Value.int IntKind.i64 ((x'.b.getD (0, 0)).snd))) ∧ True) ∧ (((Value.int IntKind.i64 0) = (Value.int IntKind.i64 0)) ∧ ((Value.int IntKind.i64 0) = (Value.int IntKind.i64 0)) ∧ True) ∧ True) ∧
    (x'.t'.size < x.t'.size))))))))))) ((K (SV.tup [(TV.agg [(At.val (Value.int IntKind.i64 ((x.b.getD (0, 0)).fst))), (At.val (Value.int IntKind.i64 ((x.b.getD (0, 0)).snd)))]), (TV.at (At.val (Value.bool (x.b.isSome))))]) [(Chunk.box [(At.ptr 2 0), (At.slc 3), (At.slc 4), (At.val (Value.int IntKind.u64 ((rdS S x.m).reads)))]), (Chunk.box [(At.val (Value.int IntKind.i64 (key)))]), (Chunk.box [(At.slc 5), (At.slc 6), (At.slc 7), (At.val (Value.int IntKind.u32 ((rdS S x.m).fresh)))]), (Chunk.row true (EC.node) ((rdS S x.m).nodes)), (Chunk.row true (EC.int) ((rdS S x.m).counts)), (Chunk.row true (EC.bool) ((rdS S x.m).used)), (Chunk.row true (EC.u32) ((rdS S x.m).gen)), (Chunk.row true (EC.u32) ((rdS S x.m).rel))] [0])))))) = _ by kernel_rfl) ?_
  have hrd := hw.rds
  have hb := lsT_le t (fun k => decide (k > key)) none
  refine ⟨⟨⟨i, t, none, 0, hr, by simp, Nat.le_refl _⟩, ?_⟩, fun x _ => ?_⟩
  · (repeat' first | exact trivial | exact rfl | refine And.intro ?_ ?_)
    rw [rdS_zero]
  obtain ⟨xi, xt, xb, xm, h1', hb2, h3⟩ := x
  dsimp only
  have hxm : xm ≤ (lsT t (fun k => decide (k > key)) none).2 := by rw [hb2]; exact Nat.le_add_right _ _
  have hwx : Wf (rdS S xm) hs := hw.rd (by omega)
  refine brS_of (fun c => ?_) fun c => ?_
  · have c : xi ≠ 0 := by simpa using c
    cases xt with
    | nil => exact absurd h1' c
    | node l k v r =>
      obtain ⟨r1, r2, r3, r4, r5⟩ := h1'
      have hsz : l.size + r.size + 1 = (Tr.node l k v r).size := by simp [Tr.size]; omega
      refine ⟨inU_of hw (.inr r1), ⟨_, hwx⟩, by show S.reads + (xm : Int) < _; omega, fun S1 e1 => brS_of (fun d => ?_) fun _ => ?_⟩
      · have d : (!S.us xi) = true := d
        have d : S.us xi = false := by simpa using d
        rw [r1] at d; cases d
      have e1 : S1 = rdS S (xm + 1) := by rw [e1, rdS_rdS]; show rdS S (xm + (S.us xi).toNat) = _; rw [r1]; rfl
      subst e1
      have ek : ((rdS S xm).nd xi).key = k := r2
      have ev : ((rdS S xm).nd xi).value = v := r3
      rw [ek, ev]
      refine brS_of (fun d => ?_) fun d => ?_
      · have hc : ¬ decide (k > key) = true := by simpa using d
        refine ⟨⟨(S.nd xi).right, r, xb, xm + 1, r5, by rw [hb2]; simp only [lsT, if_neg hc]; exact Prod.ext rfl (by show _ = _; simp only []; omega), by omega⟩, ?_⟩
        (repeat' first | exact trivial | exact rfl | refine And.intro ?_ ?_)
        show r.size < (Tr.node l k v r).size; omega
      · have hc : decide (k > key) = true := by simpa using d
        refine ⟨⟨(S.nd xi).left, l, some (k, v), xm + 1, r4, by rw [hb2]; simp only [lsT, if_pos hc]; exact Prod.ext rfl (by show _ = _; simp only []; omega), by omega⟩, ?_⟩
        (repeat' first | exact trivial | exact rfl | refine And.intro ?_ ?_)
        show l.size < (Tr.node l k v r).size; omega
  · have c : xi = 0 := by simpa using c
    subst c
    have e := h1'.zero hw
    subst e
    exact h _ xb (by rw [hb2]; simp [lsT]) (by rw [hb2]; simp [lsT])
theorem s_nr_above : SoundT C0 113 tNr_above := by
  refine .ofW [0] Try.func113 (by decide) rfl fun args H K h hB => ?_
  unfold tNr_above at h
  split at h <;> try exact h.elim
  unfold caM at h
  split at h <;> try exact h.elim
  rename_i i _ rd key fr nd ct us gn rl
  obtain ⟨hs, t, h1, h2, h3, h4, h5⟩ := h
  exact ⟨aNr_above ⟨us, gn, rl, fr, nd, ct, rd⟩ t key, ⟨frame C0.ok s_node _, frame C0.ok s_adm_above _, frame C0.ok s_entry _, trivial⟩, vc_nr_above ⟨us, gn, rl, fr, nd, ct, rd⟩ i key K hs t h1 h2 h3 h4 h5⟩
theorem vc_lu_above (S : Arn) (i key : Int) (K : KT) (hs : List Int) (t : Tr) (hw : Wf S hs) (hr : Rep S t i) (h1 : t.size ≤ 1000000) (h2 : S.reads + t.size ≤ 3000000000000000000)
    (h : ∀ S' o, S' = rdS S (lsT t (fun k => decide (k > key)) none).2 → o = (lsT t (fun k => decide (k > key)) none).1 → K (.tup [entO o, .at (vB o.isSome)]) (chS S') [0]) :
    vc C0 aLu_above Try.f97 [.at (.ptr 0 0), .at (vU i), .at (vI key)] (chS S) (normK 7 (wideK [0] K)) :=
  Eq.mp (show (∃ hs : List Int, (∃ t : Tr, ((Wf S hs) ∧ (Rep S t i) ∧ (t.size ≤ 1000000) ∧ (S.reads + (↑t.size : Int) ≤ 3000000000000000000) ∧ (∀ S' : Arn, (∀ o : Option Ent, (((S') = (rdS S (lsT t (fun k => decide (k > key)) none).snd)) → (((o) = ((lsT t (fun k => decide (k > key)) none).fst)) → (K (SV.tup [(TV.agg [(At.val (Value.int IntKind.i64 ((o.getD (0, 0)).fst))), (At.val (Value.int IntKind.i64 ((o.getD (0, 0)).snd)))]), (TV.at (At.val (Value.bool (o.isSome))))]) [(Chunk.box [(At.ptr 1 0), (At.slc 2), (At.slc 3), (At.val (Value.int IntKind.u64 (S'.reads)))]), (Chunk.box [(At.slc 4), (At.slc 5), (At.slc 6), (At.val (Value.int IntKind.u32 (S'.fresh)))]), (Chunk.row true (EC.node) (S'.nodes)), (Chunk.row true (EC.int) (S'.counts)), (Chunk.row true (EC.bool) (S'.used)), (Chunk.row true (EC.u32) (S'.gen)), (Chunk.row true (EC.u32) (S'.rel))] [0])))))))) = _ by kernel_rfl) ⟨hs, t, hw, hr, h1, h2, h⟩
theorem s_lu_above : SoundT C0 97 tLu_above := by
  refine .ofW [0] Try.func97 (by decide) rfl fun args H K h hB => ?_
  unfold tLu_above at h
  split at h <;> try exact h.elim
  unfold arM at h
  split at h <;> try exact h.elim
  rename_i i key _ rd fr nd ct us gn rl
  obtain ⟨hs, t, h1, h2, h3, h4, h5⟩ := h
  exact ⟨aLu_above, ⟨frame C0.ok s_nr_above _, trivial⟩, vc_lu_above ⟨us, gn, rl, fr, nd, ct, rd⟩ i key K hs t h1 h2 h3 h4 h5⟩
def tAdm_floor : Tfm C0 := fun args H K => match args, H with
  | [.at (.val (.int .i64 k)), .at (.ptr 0 0)], [.box [.val (.int .i64 key)]] => K (.one (.at (vB (decide (k ≤ key))))) [.box [vI key]] []
  | _, _ => False
def tLu_floor : Tfm C0 := fun args H K => match args with
  | [.at (.ptr 0 0), .at (.val (.int .u32 i)), .at (.val (.int .i64 key))] => arM H fun S => ∃ hs t, Wf S hs ∧ Rep S t i ∧ t.size ≤ 1000000 ∧ S.reads + t.size ≤ 3000000000000000000 ∧
    ∀ S' o, S' = rdS S (gtT t (fun k => decide (k ≤ key)) none).2 → o = (gtT t (fun k => decide (k ≤ key)) none).1 → K (.tup [entO o, .at (vB o.isSome)]) (chS S') [0]
  | _ => False
def tAdm_below : Tfm C0 := fun args H K => match args, H with
  | [.at (.val (.int .i64 k)), .at (.ptr 0 0)], [.box [.val (.int .i64 key)]] => K (.one (.at (vB (decide (k < key))))) [.box [vI key]] []
  | _, _ => False
theorem s_adm_below : SoundT C0 122 tAdm_below := by
  refine .of Try.func122 (by decide) rfl fun args H K h hB => ⟨A0, trivial, ?_⟩
  unfold tAdm_below at h
  split at h <;> try exact h.elim
  exact Eq.mp (show _ = _ by kernel_rfl) h
noncomputable def aNr_below (S : Arn) (t : Tr) (key : Int) : Ann C0 := { Γ := [(49, frameT [] tNode), (122, frameT [] tAdm_below), (132, frameT [] tEntry)], inv := fun n => match n with
  | 4 => some { X := XNr gtT S t (fun k => decide (k < key)), sl := [10, 9, 8, 6], tf := fun x => [vi .u32 x.i, vb x.b.isSome, .one (.at (.ptr 8 0)), .one (.at (.ptr 9 0))], hf := fun x => chA key (rdS S x.m) ++ [.box [vI (x.b.getD (0, 0)).1, vI (x.b.getD (0, 0)).2], .box [vI 0, vI 0]], μ := fun x => x.t'.size, wr := [0] }
  | _ => none }
def tNr_below : Tfm C0 := fun args H K => match args with
  | [.at (.ptr 0 0), .at (.val (.int .u32 i)), .at (.fn 122 [1])] => caM H fun key S => ∃ hs t, Wf S hs ∧ Rep S t i ∧ t.size ≤ 1000000 ∧ S.reads + t.size ≤ 3000000000000000000 ∧
    ∀ S' o, S' = rdS S (gtT t (fun k => decide (k < key)) none).2 → o = (gtT t (fun k => decide (k < key)) none).1 → K (.tup [entO o, .at (vB o.isSome)]) (chA key S') [0]
  | _ => False
noncomputable def aLu_below : Ann C0 := { Γ := [(115, frameT [] tNr_below)] }
def tLu_below : Tfm C0 := fun args H K => match args with
  | [.at (.ptr 0 0), .at (.val (.int .u32 i)), .at (.val (.int .i64 key))] => arM H fun S => ∃ hs t, Wf S hs ∧ Rep S t i ∧ t.size ≤ 1000000 ∧ S.reads + t.size ≤ 3000000000000000000 ∧
    ∀ S' o, S' = rdS S (gtT t (fun k => decide (k < key)) none).2 → o = (gtT t (fun k => decide (k < key)) none).1 → K (.tup [entO o, .at (vB o.isSome)]) (chS S') [0]
  | _ => False
theorem vc_nr_below (S : Arn) (i key : Int) (K : KT) (hs : List Int) (t : Tr) (hw : Wf S hs) (hr : Rep S t i) (h1 : t.size ≤ 1000000) (h2 : S.reads + t.size ≤ 3000000000000000000)
    (h : ∀ S' o, S' = rdS S (gtT t (fun k => decide (k < key)) none).2 → o = (gtT t (fun k => decide (k < key)) none).1 → K (.tup [entO o, .at (vB o.isSome)]) (chA key S') [0]) :
    vc C0 (aNr_below S t key) Try.f115 [.at (.ptr 0 0), .at (vU i), .at (.fn 122 [1])] (chA key S) (normK 8 (wideK [0] K)) := by
  refine Eq.mp (show ((∃ x : XNr gtT S t fun k => decide (k < key), (True ∧ (True ∧ ((At.fn 122 [1]) = (At.fn 122 [1])) ∧ True ∧ True ∧ ((Value.bool false) = (Value.bool (x.b.isSome))) ∧ ((Value.int IntKind.u32 (i)) = (Value.int IntKind.u32 (x.i))) ∧ True) ∧ (True ∧ True ∧ True ∧ ((Value.int IntKind.u64 (S.reads)) = (Value.int IntKind.u64 ((rdS S x.m).reads))) ∧ True) ∧ (((Value.int IntKind.i64 (key)) = (Value.int IntKind.i64 (key))) ∧ True) ∧ (True ∧ True ∧ True ∧ ((Value.int IntKind.u32 (S.fresh)) = (Value.int IntKind.u32 ((rdS S x.m).fresh))) ∧ True) ∧ ((S.nodes) = ((rdS S x.m).nodes)) ∧ ((S.counts) = ((rdS S x.m).counts)) ∧ ((S.used) = ((rdS S x.m).used)) ∧ ((S.gen) = ((rdS S x.m).gen)) ∧ ((S.rel) = ((rdS S x.m).rel)) ∧ (((Value.int IntKind.i64 0) = (Value.int IntKind.i64 ((x.b.getD (0, 0)).fst))) ∧ ((Value.int IntKind.i64 0) = (Value.int IntKind.i64 ((x.b.getD (0, 0)).snd))) ∧ True) ∧ (((Value.int IntKind.i64 0) = (Value.int IntKind.i64 0)) ∧ ((Value.int IntKind.i64 0) = (Value.int IntKind.i64 0)) ∧ True) ∧ True)) ∧
(∀ x : XNr gtT S t fun k => decide (k < key), (True → (brS (x.i != 0) (((inU x.i) ∧ (exW (rdS S x.m)) ∧ ((rdS S x.m).reads < 4000000000000000000) ∧ (∀ S' : Arn, (((S') = (rdS (rdS S x.m) ((rdS S x.m).us x.i).toNat)) → (brS (!(rdS S x.m).us x.i)
    ((K (SV.tup [(TV.agg [(At.val (Value.int IntKind.i64 ((x.b.getD (0, 0)).fst))), (At.val (Value.int IntKind.i64 ((x.b.getD (0, 0)).snd)))]), (TV.at (At.val (Value.bool (x.b.isSome))))]) [(Chunk.box [(At.ptr 2 0), (At.slc 3), (At.slc 4), (At.val (Value.int IntKind.u64 (S'.reads)))]), (Chunk.box [(At.val (Value.int IntKind.i64 (key)))]), (Chunk.box [(At.slc 5), (At.slc 6), (At.slc 7), (At.val (Value.int IntKind.u32 (S'.fresh)))]), (Chunk.row true (EC.node) (S'.nodes)), (Chunk.row true (EC.int) (S'.counts)), (Chunk.row true (EC.bool) (S'.used)), (Chunk.row true (EC.u32) (S'.gen)), (Chunk.row true (EC.u32) (S'.rel))] [0])) ((brS (!decide (((rdS S x.m).nd x.i).key < key)) ((∃ x' : XNr gtT S t fun k => decide (k < key), (True ∧ ((True ∧ ((At.fn 122 [1]) = (At.fn 122 [1])) ∧ True ∧ True ∧ ((Value.bool (x.b.isSome)) = (Value.bool (x'.b.isSome))) ∧ ((Value.int IntKind.u32 (((rdS S x.m).nd x.i).left)) = (Value.int IntKind.u32 (x'.i))) ∧ True) ∧ (True ∧ True ∧ True ∧ ((Value.int IntKind.u64 (S'.reads)) = (Value.int IntKind.u64 ((rdS S x'.m).reads))) ∧ True) ∧ (((Value.int IntKind.i64 (key)) = (Value.int IntKind.i64 (key))) ∧ True) ∧ (True ∧ True ∧ True ∧ ((Value.int IntKind.u32 (S'.fresh)) = (Value.int IntKind.u32 ((rdS S x'.m).fresh))) ∧ True) ∧ ((S'.nodes) = ((rdS S x'.m).nodes)) ∧ ((S'.counts) = ((rdS S x'.m).counts)) ∧ ((S'.used) = ((rdS S x'.m).used)) ∧ ((S'.gen) = ((rdS S x'.m).gen)) ∧ ((S'.rel) = ((rdS S x'.m).rel)) ∧
    (((Value.int IntKind.i64 ((x.b.getD (0, 0)).fst)) = (Value.int IntKind.i64 ((x'.b.getD (0, 0)).fst))) ∧ ((Value.int IntKind.i64 ((x.b.getD (0, 0)).snd)) = (Value.int IntKind.i64 ((x'.b.getD (0, 0)).snd))) ∧ True) ∧ (((Value.int IntKind.i64 0) = (Value.int IntKind.i64 0)) ∧ ((Value.int IntKind.i64 0) = (Value.int IntKind.i64 0)) ∧ True) ∧ True) ∧ (x'.t'.size < x.t'.size)))) ((∃ x' : XNr gtT S t fun k => decide (k < key), (True ∧ ((True ∧ ((At.fn 122 [1]) = (At.fn 122 [1])) ∧ True ∧ True ∧ ((Value.bool true) = (Value.bool (x'.b.isSome))) ∧ ((Value.int IntKind.u32 (((rdS S x.m).nd x.i).right)) = (Value.int IntKind.u32 (x'.i))) ∧ True) ∧ (True ∧ True ∧ True ∧ ((Value.int IntKind.u64 (S'.reads)) = (Value.int IntKind.u64 ((rdS S x'.m).reads))) ∧ True) ∧ (((Value.int IntKind.i64 (key)) = (Value.int IntKind.i64 (key))) ∧ True) ∧ (True ∧ True ∧ True ∧ ((Value.int IntKind.u32 (S'.fresh)) = (Value.int IntKind.u32 ((rdS S x'.m).fresh))) ∧ True) ∧ ((S'.nodes) = ((rdS S x'.m).nodes)) ∧ ((S'.counts) = ((rdS S x'.m).counts)) ∧ ((S'.used) = ((rdS S x'.m).used)) ∧ ((S'.gen) = ((rdS S x'.m).gen)) ∧ ((S'.rel) = ((rdS S x'.m).rel)) ∧ (((Value.int IntKind.i64 (((rdS S x.m).nd x.i).key)) = (Value.int IntKind.i64 ((x'.b.getD (0, 0)).fst))) ∧ ((Value.int IntKind.i64 (((rdS S x.m).nd x.i).value)) = (Value.int IntKind.i64 ((x'.b.getD (0, 0)).snd))) ∧ True) ∧ (((Value.int IntKind.i64 0) = (Value.int IntKind.i64 0)) ∧ ((Value.int IntKind.i64 0) = (Value.int IntKind.i64 0)) ∧ True) ∧ True) ∧
    (x'.t'.size < x.t'.size))))))))))) ((K (SV.tup [(TV.agg [(At.val (Value.int IntKind.i64 ((x.b.getD (0, 0)).fst))), (At.val (Value.int IntKind.i64 ((x.b.getD (0, 0)).snd)))]), (TV.at (At.val (Value.bool (x.b.isSome))))]) [(Chunk.box [(At.ptr 2 0), (At.slc 3), (At.slc 4), (At.val (Value.int IntKind.u64 ((rdS S x.m).reads)))]), (Chunk.box [(At.val (Value.int IntKind.i64 (key)))]), (Chunk.box [(At.slc 5), (At.slc 6), (At.slc 7), (At.val (Value.int IntKind.u32 ((rdS S x.m).fresh)))]), (Chunk.row true (EC.node) ((rdS S x.m).nodes)), (Chunk.row true (EC.int) ((rdS S x.m).counts)), (Chunk.row true (EC.bool) ((rdS S x.m).used)), (Chunk.row true (EC.u32) ((rdS S x.m).gen)), (Chunk.row true (EC.u32) ((rdS S x.m).rel))] [0])))))) = _ by kernel_rfl) ?_
  have hrd := hw.rds
  have hb := gtT_le t (fun k => decide (k < key)) none
  refine ⟨⟨⟨i, t, none, 0, hr, by simp, Nat.le_refl _⟩, ?_⟩, fun x _ => ?_⟩
  · (repeat' first | exact trivial | exact rfl | refine And.intro ?_ ?_)
    rw [rdS_zero]
  obtain ⟨xi, xt, xb, xm, h1', hb2, h3⟩ := x
  dsimp only
  have hxm : xm ≤ (gtT t (fun k => decide (k < key)) none).2 := by rw [hb2]; exact Nat.le_add_right _ _
  have hwx : Wf (rdS S xm) hs := hw.rd (by omega)
  refine brS_of (fun c => ?_) fun c => ?_
  · have c : xi ≠ 0 := by simpa using c
    cases xt with
    | nil => exact absurd h1' c
    | node l k v r =>
      obtain ⟨r1, r2, r3, r4, r5⟩ := h1'
      have hsz : l.size + r.size + 1 = (Tr.node l k v r).size := by simp [Tr.size]; omega
      refine ⟨inU_of hw (.inr r1), ⟨_, hwx⟩, by show S.reads + (xm : Int) < _; omega, fun S1 e1 => brS_of (fun d => ?_) fun _ => ?_⟩
      · have d : (!S.us xi) = true := d
        have d : S.us xi = false := by simpa using d
        rw [r1] at d; cases d
      have e1 : S1 = rdS S (xm + 1) := by rw [e1, rdS_rdS]; show rdS S (xm + (S.us xi).toNat) = _; rw [r1]; rfl
      subst e1
      have ek : ((rdS S xm).nd xi).key = k := r2
      have ev : ((rdS S xm).nd xi).value = v := r3
      rw [ek, ev]
      refine brS_of (fun d => ?_) fun d => ?_
      · have hc : ¬ decide (k < key) = true := by simpa using d
        refine ⟨⟨(S.nd xi).left, l, xb, xm + 1, r4, by rw [hb2]; simp only [gtT, if_neg hc]; exact Prod.ext rfl (by show _ = _; simp only []; omega), by omega⟩, ?_⟩
        (repeat' first | exact trivial | exact rfl | refine And.intro ?_ ?_)
        show l.size < (Tr.node l k v r).size; omega
      · have hc : decide (k < key) = true := by simpa using d
        refine ⟨⟨(S.nd xi).right, r, some (k, v), xm + 1, r5, by rw [hb2]; simp only [gtT, if_pos hc]; exact Prod.ext rfl (by show _ = _; simp only []; omega), by omega⟩, ?_⟩
        (repeat' first | exact trivial | exact rfl | refine And.intro ?_ ?_)
        show r.size < (Tr.node l k v r).size; omega
  · have c : xi = 0 := by simpa using c
    subst c
    have e := h1'.zero hw
    subst e
    exact h _ xb (by rw [hb2]; simp [gtT]) (by rw [hb2]; simp [gtT])
theorem s_nr_below : SoundT C0 115 tNr_below := by
  refine .ofW [0] Try.func115 (by decide) rfl fun args H K h hB => ?_
  unfold tNr_below at h
  split at h <;> try exact h.elim
  unfold caM at h
  split at h <;> try exact h.elim
  rename_i i _ rd key fr nd ct us gn rl
  obtain ⟨hs, t, h1, h2, h3, h4, h5⟩ := h
  exact ⟨aNr_below ⟨us, gn, rl, fr, nd, ct, rd⟩ t key, ⟨frame C0.ok s_node _, frame C0.ok s_adm_below _, frame C0.ok s_entry _, trivial⟩, vc_nr_below ⟨us, gn, rl, fr, nd, ct, rd⟩ i key K hs t h1 h2 h3 h4 h5⟩
theorem vc_lu_below (S : Arn) (i key : Int) (K : KT) (hs : List Int) (t : Tr) (hw : Wf S hs) (hr : Rep S t i) (h1 : t.size ≤ 1000000) (h2 : S.reads + t.size ≤ 3000000000000000000)
    (h : ∀ S' o, S' = rdS S (gtT t (fun k => decide (k < key)) none).2 → o = (gtT t (fun k => decide (k < key)) none).1 → K (.tup [entO o, .at (vB o.isSome)]) (chS S') [0]) :
    vc C0 aLu_below Try.f95 [.at (.ptr 0 0), .at (vU i), .at (vI key)] (chS S) (normK 7 (wideK [0] K)) :=
  Eq.mp (show (∃ hs : List Int, (∃ t : Tr, ((Wf S hs) ∧ (Rep S t i) ∧ (t.size ≤ 1000000) ∧ (S.reads + (↑t.size : Int) ≤ 3000000000000000000) ∧ (∀ S' : Arn, (∀ o : Option Ent, (((S') = (rdS S (gtT t (fun k => decide (k < key)) none).snd)) → (((o) = ((gtT t (fun k => decide (k < key)) none).fst)) → (K (SV.tup [(TV.agg [(At.val (Value.int IntKind.i64 ((o.getD (0, 0)).fst))), (At.val (Value.int IntKind.i64 ((o.getD (0, 0)).snd)))]), (TV.at (At.val (Value.bool (o.isSome))))]) [(Chunk.box [(At.ptr 1 0), (At.slc 2), (At.slc 3), (At.val (Value.int IntKind.u64 (S'.reads)))]), (Chunk.box [(At.slc 4), (At.slc 5), (At.slc 6), (At.val (Value.int IntKind.u32 (S'.fresh)))]), (Chunk.row true (EC.node) (S'.nodes)), (Chunk.row true (EC.int) (S'.counts)), (Chunk.row true (EC.bool) (S'.used)), (Chunk.row true (EC.u32) (S'.gen)), (Chunk.row true (EC.u32) (S'.rel))] [0])))))))) = _ by kernel_rfl) ⟨hs, t, hw, hr, h1, h2, h⟩
theorem s_lu_below : SoundT C0 95 tLu_below := by
  refine .ofW [0] Try.func95 (by decide) rfl fun args H K h hB => ?_
  unfold tLu_below at h
  split at h <;> try exact h.elim
  unfold arM at h
  split at h <;> try exact h.elim
  rename_i i key _ rd fr nd ct us gn rl
  obtain ⟨hs, t, h1, h2, h3, h4, h5⟩ := h
  exact ⟨aLu_below, ⟨frame C0.ok s_nr_below _, trivial⟩, vc_lu_below ⟨us, gn, rl, fr, nd, ct, rd⟩ i key K hs t h1 h2 h3 h4 h5⟩
end Go.Proofs.Ytjbkckcjmmmooaa.Sx
end
section
/- How high a balanced tree is at most, and how many nodes a listing reads. No program in sight. -/
namespace Go.Proofs.Ytjbkckcjmmmooaa
open Go

/-- The least weights of trees of the heights 0 to 80. -/
def wtsL : List Int := [1, 2, 3, 4, 6, 8, 11, 15, 20, 27, 36, 48, 64, 86, 115, 154, 206, 275, 367, 490, 654, 872, 1163, 1551, 2068, 2758, 3678, 4904, 6539, 8719, 11626, 15502, 20670, 27560, 36747, 48996, 65328, 87104, 116139, 154852, 206470, 275294, 367059, 489412, 652550, 870067, 1160090, 1546787, 2062383, 2749844, 3666459, 4888612, 6518150, 8690867, 11587823, 15450431, 20600575, 27467434, 36623246, 48830995, 65107994, 86810659, 115747546, 154330062, 205773416, 274364555, 365819407, 487759210, 650345614, 867127486, 1156169982, 1541559976, 2055413302, 2740551070, 3654068094, 4872090792, 6496121056, 8661494742, 11548659656, 15398212875, 20530950500]
def wt (h : Nat) : Int := wtsL.getD h 0
def hnC : List Int → Int → Int → Int
  | [], h, _ => h
  | w :: l, h, k => if w - 1 ≤ k then hnC l (h + 1) k else h
/-- The greatest height of a tree with k keys. -/
def Hn (k : Int) : Int := hnC (wtsL.drop 1) 0 k
theorem wt_step : ∀ h < 80, wt (h + 1) = wt h + (wt h + 2) / 3 := by decide
theorem hnC_le : ∀ (l : List Int) (h k : Int), h ≤ hnC l h k
  | [], _, _ => Int.le_refl _
  | w :: l, h, k => by
    unfold hnC
    split
    · have := hnC_le l (h + 1) k; omega
    · exact Int.le_refl _
theorem hnC_ge : ∀ (l : List Int) (h k : Int) (m : Nat), m ≤ l.length → (∀ i < m, l.getD i 0 - 1 ≤ k) → h + m ≤ hnC l h k
  | [], h, k, m, hm, _ => by have : m = 0 := by simpa using hm
                             subst this; show h + 0 ≤ h; omega
  | w :: l, h, k, 0, _, _ => by have := hnC_le (w :: l) h k; show h + 0 ≤ _; omega
  | w :: l, h, k, m + 1, hm, hk => by
    have h0 := hk 0 (by omega)
    unfold hnC
    rw [if_pos (by simpa using h0)]
    have := hnC_ge l (h + 1) k m (by simpa using hm) (fun i hi => by have := hk (i + 1) (by omega); simpa using this)
    omega
theorem hnC_up : ∀ (l : List Int) (h k : Int), hnC l h k ≤ h + l.length
  | [], h, k => by show h ≤ h + 0; omega
  | w :: l, h, k => by
    unfold hnC
    have := hnC_up l (h + 1) k
    rw [List.length_cons]
    split <;> omega
theorem Hn_rng (k : Int) : 0 ≤ Hn k ∧ Hn k ≤ 80 := by
  have h1 := hnC_le (wtsL.drop 1) 0 k
  have h2 := hnC_up (wtsL.drop 1) 0 k
  have h3 : (wtsL.drop 1).length = 80 := rfl
  unfold Hn
  omega
def ht : Tr → Nat
  | .nil => 0
  | .node l _ _ r => 1 + (if ht l ≤ ht r then ht r else ht l)
theorem bal_wt : ∀ (t : Tr) (h : Nat), t.Bal → h ≤ 80 → h ≤ ht t → wt h ≤ t.size + 1
  | t, 0, _, _, _ => by have : wt 0 = 1 := rfl
                        rw [this]; omega
  | .nil, h + 1, _, _, hh => by simp [ht] at hh
  | .node l k v r, h + 1, hb, h8, hh => by
    obtain ⟨b0, bl, br⟩ := hb
    unfold balN at b0
    have hs : ((Tr.node l k v r).size : Int) = 1 + l.size + r.size := by simp [Tr.size]
    have st := wt_step h (by omega)
    have hh : h + 1 ≤ 1 + (if ht l ≤ ht r then ht r else ht l) := hh
    by_cases c : ht l ≤ ht r
    · rw [if_pos c] at hh
      have := bal_wt r h br (by omega) (by omega)
      omega
    · rw [if_neg c] at hh
      have := bal_wt l h bl (by omega) (by omega)
      omega
/-- A balanced tree is no higher than its number of keys allows. -/
theorem Bal.height {t : Tr} (hb : t.Bal) (hs : t.size ≤ 1000000) : (ht t : Int) ≤ Hn t.size := by
  have h80 : ht t ≤ 80 := by
    by_cases c : ht t ≤ 80
    · exact c
    · have := bal_wt t 80 hb (Nat.le_refl _) (by omega)
      have e : wt 80 = 20530950500 := rfl
      omega
  have hl : (wtsL.drop 1).length = 80 := rfl
  have := hnC_ge (wtsL.drop 1) 0 t.size (ht t) (by omega) (fun i hi => by
    have e : (wtsL.drop 1).getD i 0 = wt (i + 1) := by simp [wt, List.getD_eq_getElem?_getD]
    have := bal_wt t (i + 1) hb (by omega) (by omega)
    rw [e]; omega)
  unfold Hn
  omega

/-! ### Reads of a listing by keys -/
theorem lk_node {l r : Tr} {k v lo hi : Int} {rm : Nat} (h : rm ≠ 0) : ∃ a b c, a = (if lo < k then lk l lo hi rm else ([], 0)) ∧ b = (if lo ≤ k ∧ k ≤ hi ∧ a.1.length < rm then [(k, v)] else ([] : List Ent)) ∧ c = (if k < hi then lk r lo hi (rm - (a.1.length + b.length)) else ([], 0)) ∧
    (lk (.node l k v r) lo hi rm).1.length = a.1.length + b.length + c.1.length ∧ (lk (.node l k v r) lo hi rm).2 = 1 + a.2 + c.2 := by
  refine ⟨_, _, _, rfl, rfl, rfl, ?_, ?_⟩
  · rw [lk, if_neg h]; simp only [List.length_append]; omega
  · rw [lk, if_neg h]
theorem lk_zero : ∀ (t : Tr) (lo hi : Int), lk t lo hi 0 = ([], 0)
  | .nil, _, _ => rfl
  | .node _ _ _ _, _, _ => by rw [lk, if_pos rfl]
theorem lk_N : ∀ (t : Tr) (lo hi : Int) (rm : Nat), Asc t.list → (∀ x ∈ t.list, lo < x.1 ∧ x.1 ≤ hi) → (lk t lo hi rm).1.length < rm → (lk t lo hi rm).2 ≤ (lk t lo hi rm).1.length
  | .nil, _, _, _, _, _, _ => Nat.le_refl _
  | .node l k v r, lo, hi, rm, h, hx, hlt => by
    obtain ⟨hl, hr, hlk, hkr⟩ := node_asc h
    have hk := hx (k, v) (by simp [Tr.list])
    obtain ⟨a, b, c, ea, eb, ec, e1, e2⟩ := lk_node (l := l) (r := r) (k := k) (v := v) (lo := lo) (hi := hi) (rm := rm) (by omega)
    rw [e1] at hlt ⊢
    rw [e2]
    rw [if_pos hk.1] at ea
    rw [if_pos ⟨by omega, hk.2, by omega⟩] at eb
    have hb : b.length = 1 := by rw [eb]; rfl
    have ha := lk_N l lo hi rm hl (fun x hm => hx x (by simp [Tr.list, hm])) (by rw [← ea]; omega)
    rw [← ea] at ha
    have hc : c.2 ≤ c.1.length := by
      by_cases d : k < hi
      · rw [if_pos d] at ec
        have := lk_N r lo hi (rm - (a.1.length + b.length)) hr (fun x hm => hx x (by simp [Tr.list, hm])) (by rw [← ec]; omega)
        rw [← ec] at this; exact this
      · rw [if_neg d] at ec; rw [ec]; exact Nat.le_refl _
    omega
theorem ht_l (l r : Tr) (k v : Int) : 1 + ht l ≤ ht (.node l k v r) := by rw [ht]; split <;> omega
theorem ht_r (l r : Tr) (k v : Int) : 1 + ht r ≤ ht (.node l k v r) := by rw [ht]; split <;> omega
theorem lk_L : ∀ (t : Tr) (lo hi : Int) (rm : Nat), Asc t.list → (∀ x ∈ t.list, x.1 ≤ hi) → (lk t lo hi rm).1.length < rm → (lk t lo hi rm).2 ≤ ht t + (lk t lo hi rm).1.length
  | .nil, _, _, _, _, _, _ => by simp [lk]
  | .node l k v r, lo, hi, rm, h, hx, hlt => by
    obtain ⟨hl, hr, hlk, hkr⟩ := node_asc h
    have hk : k ≤ hi := hx (k, v) (by simp [Tr.list])
    have q1 := ht_l l r k v
    have q2 := ht_r l r k v
    obtain ⟨a, b, c, ea, eb, ec, e1, e2⟩ := lk_node (l := l) (r := r) (k := k) (v := v) (lo := lo) (hi := hi) (rm := rm) (by omega)
    rw [e1] at hlt ⊢
    rw [e2]
    by_cases d0 : lo < k
    · rw [if_pos d0] at ea
      rw [if_pos ⟨by omega, hk, by omega⟩] at eb
      have hb : b.length = 1 := by rw [eb]; rfl
      have ha := lk_L l lo hi rm hl (fun x hm => hx x (by simp [Tr.list, hm])) (by rw [← ea]; omega)
      rw [← ea] at ha
      have hc : c.2 ≤ c.1.length := by
        by_cases d : k < hi
        · rw [if_pos d] at ec
          have := lk_N r lo hi (rm - (a.1.length + b.length)) hr (fun x hm => ⟨by have := hkr x hm; omega, hx x (by simp [Tr.list, hm])⟩) (by rw [← ec]; omega)
          rw [← ec] at this; exact this
        · rw [if_neg d] at ec; rw [ec]; exact Nat.le_refl _
      omega
    · rw [if_neg d0] at ea
      have a1 : a.1.length = 0 := by rw [ea]; rfl
      have a2 : a.2 = 0 := by rw [ea]
      have hc : c.2 ≤ ht r + c.1.length := by
        by_cases d : k < hi
        · rw [if_pos d] at ec
          have := lk_L r lo hi (rm - (a.1.length + b.length)) hr (fun x hm => hx x (by simp [Tr.list, hm])) (by rw [← ec]; omega)
          rw [← ec] at this; exact this
        · rw [if_neg d] at ec; rw [ec]; simp
      omega
theorem lk_M : ∀ (t : Tr) (lo hi : Int) (rm : Nat), Asc t.list → (∀ x ∈ t.list, lo < x.1) → (lk t lo hi rm).2 ≤ ht t + (lk t lo hi rm).1.length
  | .nil, _, _, _, _, _ => by simp [lk]
  | .node l k v r, lo, hi, rm, h, hx => by
    by_cases h0 : rm = 0
    · rw [h0, lk_zero]; simp
    obtain ⟨hl, hr, hlk, hkr⟩ := node_asc h
    have hk : lo < k := hx (k, v) (by simp [Tr.list])
    have q1 := ht_l l r k v
    have q2 := ht_r l r k v
    obtain ⟨a, b, c, ea, eb, ec, e1, e2⟩ := lk_node (l := l) (r := r) (k := k) (v := v) (lo := lo) (hi := hi) (rm := rm) h0
    rw [e1, e2]
    rw [if_pos hk] at ea
    have ha := lk_M l lo hi rm hl (fun x hm => hx x (by simp [Tr.list, hm]))
    rw [← ea] at ha
    by_cases d1 : a.1.length < rm
    · by_cases d2 : k ≤ hi
      · rw [if_pos ⟨by omega, d2, d1⟩] at eb
        have hb : b.length = 1 := by rw [eb]; rfl
        have ha := lk_N l lo hi rm hl (fun x hm => ⟨hx x (by simp [Tr.list, hm]), by have := hlk x hm; omega⟩) (by rw [← ea]; omega)
        rw [← ea] at ha
        have hc : c.2 ≤ ht r + c.1.length := by
          by_cases d : k < hi
          · rw [if_pos d] at ec
            have := lk_M r lo hi (rm - (a.1.length + b.length)) hr (fun x hm => hx x (by simp [Tr.list, hm]))
            rw [← ec] at this; exact this
          · rw [if_neg d] at ec; rw [ec]; simp
        omega
      · rw [if_neg (by omega)] at ec
        have : c.2 = 0 := by rw [ec]
        omega
    · have hm : rm - (a.1.length + b.length) = 0 := by omega
      have : c.2 = 0 := by
        rw [ec, hm]
        split
        · rw [lk_zero]
        · rfl
      omega
/-- A listing by keys reads what it gives, and two paths. -/
theorem lk_reads : ∀ (t : Tr) (lo hi : Int) (rm : Nat), Asc t.list → (lk t lo hi rm).2 ≤ 2 * ht t + (lk t lo hi rm).1.length
  | .nil, _, _, _, _ => by simp [lk]
  | .node l k v r, lo, hi, rm, h => by
    by_cases h0 : rm = 0
    · rw [h0, lk_zero]; simp
    obtain ⟨hl, hr, hlk, hkr⟩ := node_asc h
    have q1 := ht_l l r k v
    have q2 := ht_r l r k v
    obtain ⟨a, b, c, ea, eb, ec, e1, e2⟩ := lk_node (l := l) (r := r) (k := k) (v := v) (lo := lo) (hi := hi) (rm := rm) h0
    rw [e1, e2]
    by_cases d0 : lo < k
    · rw [if_pos d0] at ea
      have ha := lk_reads l lo hi rm hl
      rw [← ea] at ha
      by_cases d1 : a.1.length < rm
      · by_cases d2 : k ≤ hi
        · rw [if_pos ⟨by omega, d2, d1⟩] at eb
          have hb : b.length = 1 := by rw [eb]; rfl
          have ha := lk_L l lo hi rm hl (fun x hm => by have := hlk x hm; omega) (by rw [← ea]; omega)
          rw [← ea] at ha
          have hc : c.2 ≤ ht r + c.1.length := by
            by_cases d : k < hi
            · rw [if_pos d] at ec
              have := lk_M r lo hi (rm - (a.1.length + b.length)) hr (fun x hm => by have := hkr x hm; omega)
              rw [← ec] at this; exact this
            · rw [if_neg d] at ec; rw [ec]; simp
          omega
        · rw [if_neg (by omega)] at ec
          have : c.2 = 0 := by rw [ec]
          omega
      · have hm : rm - (a.1.length + b.length) = 0 := by omega
        have : c.2 = 0 := by
          rw [ec, hm]
          split
          · rw [lk_zero]
          · rfl
        omega
    · rw [if_neg d0] at ea
      have a1 : a.1.length = 0 := by rw [ea]; rfl
      have a2 : a.2 = 0 := by rw [ea]
      have hc : c.2 ≤ 2 * ht r + c.1.length := by
        by_cases d : k < hi
        · rw [if_pos d] at ec
          have := lk_reads r lo hi (rm - (a.1.length + b.length)) hr
          rw [← ec] at this; exact this
        · rw [if_neg d] at ec; rw [ec]; simp
      omega

/-! ### Reads of a listing by places -/
theorem pl_node {l r : Tr} {k v x y : Int} (h : ¬ y ≤ x) : ∃ a b c, a = (if x < (l.size : Int) then pl l x (if (l.size : Int) < y then (l.size : Int) else y) else ([], 0)) ∧ b = (if x ≤ (l.size : Int) ∧ (l.size : Int) < y then [(k, v)] else ([] : List Ent)) ∧
    c = (if (l.size : Int) + 1 < y then pl r (if 0 < x - l.size - 1 then x - l.size - 1 else 0) (y - l.size - 1) else ([], 0)) ∧ (pl (.node l k v r) x y).1.length = a.1.length + b.length + c.1.length ∧ (pl (.node l k v r) x y).2 ≤ 2 + a.2 + c.2 := by
  refine ⟨_, _, _, rfl, rfl, rfl, ?_, ?_⟩
  · rw [pl, if_neg h]; simp only [List.length_append]; omega
  · rw [pl, if_neg h]
    have : ne0 l ≤ 1 := by cases l <;> simp [ne0]
    simp only []
    omega
theorem pl_none {t : Tr} {x y : Int} (h : y ≤ x) : pl t x y = ([], 0) := by
  cases t with
  | nil => rfl
  | node l k v r => rw [pl, if_pos h]
theorem pl_N : ∀ (t : Tr) (x y : Int), x ≤ 0 → (t.size : Int) ≤ y → (pl t x y).2 ≤ 2 * (pl t x y).1.length
  | .nil, _, _, _, _ => by simp [pl]
  | .node l k v r, x, y, hx, hy => by
    have hs : ((Tr.node l k v r).size : Int) = 1 + l.size + r.size := by simp [Tr.size]
    obtain ⟨a, b, c, ea, eb, ec, e1, e2⟩ := pl_node (l := l) (r := r) (k := k) (v := v) (x := x) (y := y) (by omega)
    rw [e1]
    rw [if_pos ⟨by omega, by omega⟩] at eb
    have hb : b.length = 1 := by rw [eb]; rfl
    have ha : a.2 ≤ 2 * a.1.length := by
      by_cases d : x < (l.size : Int)
      · rw [if_pos d, if_pos (by omega)] at ea
        rw [ea]; exact pl_N l x l.size hx (Int.le_refl _)
      · rw [if_neg d] at ea; rw [ea]; simp
    have hc : c.2 ≤ 2 * c.1.length := by
      by_cases d : (l.size : Int) + 1 < y
      · rw [if_pos d, if_neg (by omega)] at ec
        rw [ec]; exact pl_N r 0 _ (Int.le_refl _) (by omega)
      · rw [if_neg d] at ec; rw [ec]; simp
    omega
theorem pl_L : ∀ (t : Tr) (x y : Int), (t.size : Int) ≤ y → (pl t x y).2 ≤ 2 * ht t + 2 * (pl t x y).1.length
  | .nil, _, _, _ => by simp [pl]
  | .node l k v r, x, y, hy => by
    by_cases h0 : y ≤ x
    · rw [pl_none h0]; simp
    have hs : ((Tr.node l k v r).size : Int) = 1 + l.size + r.size := by simp [Tr.size]
    have q1 := ht_l l r k v
    have q2 := ht_r l r k v
    obtain ⟨a, b, c, ea, eb, ec, e1, e2⟩ := pl_node (l := l) (r := r) (k := k) (v := v) (x := x) (y := y) h0
    rw [e1]
    by_cases d : x < (l.size : Int)
    · rw [if_pos d, if_pos (by omega)] at ea
      rw [if_pos ⟨by omega, by omega⟩] at eb
      have hb : b.length = 1 := by rw [eb]; rfl
      have ha := pl_L l x l.size (Int.le_refl _)
      rw [← ea] at ha
      have hc : c.2 ≤ 2 * c.1.length := by
        by_cases e : (l.size : Int) + 1 < y
        · rw [if_pos e, if_neg (by omega)] at ec
          rw [ec]; exact pl_N r 0 _ (Int.le_refl _) (by omega)
        · rw [if_neg e] at ec; rw [ec]; simp
      omega
    · rw [if_neg d] at ea
      have a2 : a.2 = 0 := by rw [ea]
      have hc : c.2 ≤ 2 * ht r + 2 * c.1.length := by
        by_cases e : (l.size : Int) + 1 < y
        · rw [if_pos e] at ec
          rw [ec]; exact pl_L r _ _ (by omega)
        · rw [if_neg e] at ec; rw [ec]; simp
      omega
theorem pl_M : ∀ (t : Tr) (x y : Int), x ≤ 0 → (pl t x y).2 ≤ 2 * ht t + 2 * (pl t x y).1.length
  | .nil, _, _, _ => by simp [pl]
  | .node l k v r, x, y, hx => by
    by_cases h0 : y ≤ x
    · rw [pl_none h0]; simp
    have q1 := ht_l l r k v
    have q2 := ht_r l r k v
    obtain ⟨a, b, c, ea, eb, ec, e1, e2⟩ := pl_node (l := l) (r := r) (k := k) (v := v) (x := x) (y := y) h0
    rw [e1]
    by_cases f : (l.size : Int) < y
    · rw [if_pos ⟨by omega, f⟩] at eb
      have hb : b.length = 1 := by rw [eb]; rfl
      have ha : a.2 ≤ 2 * a.1.length := by
        by_cases d : x < (l.size : Int)
        · rw [if_pos d, if_pos f] at ea
          rw [ea]; exact pl_N l x l.size hx (Int.le_refl _)
        · rw [if_neg d] at ea; rw [ea]; simp
      have hc : c.2 ≤ 2 * ht r + 2 * c.1.length := by
        by_cases e : (l.size : Int) + 1 < y
        · rw [if_pos e, if_neg (by omega)] at ec
          rw [ec]; exact pl_M r 0 _ (Int.le_refl _)
        · rw [if_neg e] at ec; rw [ec]; simp
      omega
    · rw [if_neg (by omega)] at ec
      have c2 : c.2 = 0 := by rw [ec]
      have ha : a.2 ≤ 2 * ht l + 2 * a.1.length := by
        by_cases d : x < (l.size : Int)
        · rw [if_pos d] at ea
          rw [ea]; exact pl_M l x _ hx
        · rw [if_neg d] at ea; rw [ea]; simp
      omega
theorem pl_reads : ∀ (t : Tr) (x y : Int), (pl t x y).2 ≤ 4 * ht t + 2 * (pl t x y).1.length
  | .nil, _, _ => by simp [pl]
  | .node l k v r, x, y => by
    by_cases h0 : y ≤ x
    · rw [pl_none h0]; simp
    have q1 := ht_l l r k v
    have q2 := ht_r l r k v
    obtain ⟨a, b, c, ea, eb, ec, e1, e2⟩ := pl_node (l := l) (r := r) (k := k) (v := v) (x := x) (y := y) h0
    rw [e1]
    by_cases d : x < (l.size : Int)
    · rw [if_pos d] at ea
      by_cases f : (l.size : Int) < y
      · rw [if_pos f] at ea
        rw [if_pos ⟨by omega, f⟩] at eb
        have hb : b.length = 1 := by rw [eb]; rfl
        have ha := pl_L l x l.size (Int.le_refl _)
        rw [← ea] at ha
        have hc : c.2 ≤ 2 * ht r + 2 * c.1.length := by
          by_cases e : (l.size : Int) + 1 < y
          · rw [if_pos e, if_neg (by omega)] at ec
            rw [ec]; exact pl_M r 0 _ (Int.le_refl _)
          · rw [if_neg e] at ec; rw [ec]; simp
        omega
      · rw [if_neg (by omega)] at ec
        have c2 : c.2 = 0 := by rw [ec]
        have ha := pl_reads l x (if (l.size : Int) < y then (l.size : Int) else y)
        rw [← ea] at ha
        omega
    · rw [if_neg d] at ea
      have a2 : a.2 = 0 := by rw [ea]
      have hc : c.2 ≤ 4 * ht r + 2 * c.1.length := by
        by_cases e : (l.size : Int) + 1 < y
        · rw [if_pos e] at ec
          rw [ec]; exact pl_reads r _ _
        · rw [if_neg e] at ec; rw [ec]; simp
      omega
end Go.Proofs.Ytjbkckcjmmmooaa
end
section
/- What joining trees costs, and that one rotation is enough. No program in sight. -/
namespace Go.Proofs.Ytjbkckcjmmmooaa
open Go

/-! ### The greatest height of a weight -/
/-- The greatest h whose least weight is at most w. -/
def gN (w : Nat) : Nat := (Hn ((w : Int) - 1)).toNat
theorem hnC_spec : ∀ (l : List Int) (h k : Int) (i : Nat), (i : Int) < hnC l h k - h → l.getD i 0 - 1 ≤ k
  | [], h, k, i, hi => by simp [hnC] at hi; omega
  | w :: l, h, k, i, hi => by
    unfold hnC at hi
    split at hi
    · rename_i c
      cases i with
      | zero => simpa using c
      | succ i => have := hnC_spec l (h + 1) k i (by omega); simpa using this
    · omega
theorem wtsL_drop (i : Nat) : (wtsL.drop 1).getD i 0 = wt (i + 1) := by simp [wt, List.getD_eq_getElem?_getD]
theorem gN_rng (w : Nat) : gN w ≤ 80 := by have := Hn_rng ((w : Int) - 1); unfold gN; omega
theorem gN_Hn (w : Nat) : (gN w : Int) = Hn ((w : Int) - 1) := by have := Hn_rng ((w : Int) - 1); unfold gN; omega
theorem gN_size (n : Nat) : (gN (n + 1) : Int) = Hn n := by rw [gN_Hn]; congr 1; omega
theorem gN_wt {w : Nat} (hw : 1 ≤ w) : wt (gN w) ≤ w := by
  have h0 := Hn_rng ((w : Int) - 1)
  have e := gN_Hn w
  cases h : gN w with
  | zero => have : wt 0 = 1 := rfl
            rw [this]; omega
  | succ g =>
    have := hnC_spec (wtsL.drop 1) 0 ((w : Int) - 1) g (by unfold Hn at e; omega)
    rw [wtsL_drop] at this
    omega
theorem wt_mono1 : ∀ h < 80, wt h < wt (h + 1) := by decide
theorem wt_mono : ∀ {i j : Nat}, i ≤ j → j ≤ 80 → wt i ≤ wt j := by
  intro i j h
  induction h with
  | refl => intro _; exact Int.le_refl _
  | @step m h ih => intro hj; have := ih (by omega); have := wt_mono1 m (by omega); show wt i ≤ wt (m + 1); omega
theorem gN_le {w h : Nat} (h8 : h ≤ 80) (hw : wt h ≤ w) : h ≤ gN w := by
  have hl : (wtsL.drop 1).length = 80 := rfl
  have := hnC_ge (wtsL.drop 1) 0 ((w : Int) - 1) h (by omega) (fun i hi => by
    rw [wtsL_drop]
    have := wt_mono (show i + 1 ≤ h by omega) h8
    omega)
  have e := gN_Hn w
  unfold Hn at e
  omega
theorem gN_mono {v w : Nat} (hv : 1 ≤ v) (h : v ≤ w) : gN v ≤ gN w := gN_le (gN_rng v) (by have := gN_wt hv; omega)
theorem gN_small {w : Nat} (hw : 1 ≤ w) (h : w ≤ 1000000) : gN w ≤ 60 := by
  by_cases c : gN w ≤ 60
  · exact c
  · have h1 := gN_wt hw
    have h2 := wt_mono (show 61 ≤ gN w by omega) (gN_rng w)
    have : wt 61 = 86810659 := rfl
    omega
theorem gN_step {m w : Nat} (hm : 1 ≤ m) (h : 4 * m ≤ 3 * w) (hw : w ≤ 1000000) : gN m + 1 ≤ gN w := by
  have h1 := gN_small hm (by omega)
  have h2 := gN_wt hm
  have h3 := wt_step (gN m) (by omega)
  exact gN_le (by omega) (by omega)
theorem wt_step4 : ∀ h < 77, 4 ≤ h → wt (h + 4) ≤ 4 * wt h - 2 := by decide
theorem gN_step4 {r w : Nat} (hr : 5 ≤ r) (h : 4 * r ≤ w + 2) (hw : w ≤ 1000000) : gN r + 4 ≤ gN w := by
  have h1 := gN_small (w := r) (by omega) (by omega)
  have h2 := gN_wt (w := r) (by omega)
  have h3 : 3 ≤ gN r := gN_le (by decide) (by have : wt 3 = 4 := rfl
                                              omega)
  by_cases c : gN r = 3
  · rw [c]; exact gN_le (by decide) (by have : wt (3 + 4) = 15 := rfl
                                        omega)
  · have := wt_step4 (gN r) (by omega) (by omega)
    exact gN_le (by omega) (by omega)

/-! ### How often a join goes down -/
def dsc (w v : Nat) : Nat := if h : w ≤ 3 * v then 0 else 1 + dsc (3 * w / 4) v
termination_by w
decreasing_by omega
theorem dsc_zero {w v : Nat} (h : w ≤ 3 * v) : dsc w v = 0 := by rw [dsc, dif_pos h]
theorem dsc_succ {w v : Nat} (h : ¬ w ≤ 3 * v) : dsc w v = 1 + dsc (3 * w / 4) v := by rw [dsc, dif_neg h]
theorem dsc_mono (v : Nat) : ∀ (n w w' : Nat), w' < n → w ≤ w' → dsc w v ≤ dsc w' v := by
  intro n
  induction n with
  | zero => intro w w' h; omega
  | succ n ih =>
    intro w w' hn h
    by_cases c : w ≤ 3 * v
    · rw [dsc_zero c]; exact Nat.zero_le _
    · rw [dsc_succ c, dsc_succ (show ¬ w' ≤ 3 * v by omega)]
      have := ih (3 * w / 4) (3 * w' / 4) (by omega) (by omega)
      omega
theorem dsc_g {v : Nat} (hv : 1 ≤ v) : ∀ (n w : Nat), w < n → v ≤ w → w ≤ 1000000 → gN v + dsc w v ≤ gN w := by
  intro n
  induction n with
  | zero => intro w h; omega
  | succ n ih =>
    intro w hn h hw
    by_cases c : w ≤ 3 * v
    · rw [dsc_zero c]; exact gN_mono hv h
    · rw [dsc_succ c]
      have h1 := ih (3 * w / 4) (by omega) (by omega) (by omega)
      have h2 := gN_step (m := 3 * w / 4) (w := w) (by omega) (by omega) hw
      omega
theorem dsc_le {w v : Nat} (hv : 1 ≤ v) (hw : w ≤ 1000000) : dsc w v ≤ gN w := by
  by_cases c : v ≤ w
  · have := dsc_g hv (w + 1) w (by omega) c hw; omega
  · rw [dsc_zero (by omega)]; exact Nat.zero_le _
theorem dsc_one {w v : Nat} (h : w ≤ 3 * v + 3) (hv : 2 ≤ v) : dsc w v ≤ 1 := by
  by_cases c : w ≤ 3 * v
  · rw [dsc_zero c]; omega
  · rw [dsc_succ c, dsc_zero (by omega)]; omega
theorem dsc_two {w : Nat} (h : w ≤ 6) : dsc w 1 ≤ 2 := by
  by_cases c : w ≤ 3
  · rw [dsc_zero (by omega)]; omega
  · rw [dsc_succ (by omega)]
    by_cases d : 3 * w / 4 ≤ 3
    · rw [dsc_zero (by omega)]; omega
    · rw [dsc_succ (by omega), dsc_zero (by omega)]; omega
theorem dsc_tiny {w : Nat} (h : w ≤ 5) : dsc w 1 ≤ 1 := by
  by_cases c : w ≤ 3
  · rw [dsc_zero (by omega)]; omega
  · rw [dsc_succ (by omega), dsc_zero (by omega)]; omega
/-- What a join of trees of these sizes may need. -/
def jB (a b : Nat) : Nat := 1 + 3 * (dsc (a + 1) (b + 1) + dsc (b + 1) (a + 1))
theorem jB_pos (a b : Nat) : 1 ≤ jB a b := by unfold jB; omega
theorem jB_comm (a b : Nat) : jB a b = jB b a := by unfold jB; omega
theorem jB_bal {a b : Nat} (h : balN a b) : jB a b = 1 := by
  unfold balN at h
  unfold jB
  rw [dsc_zero (by omega), dsc_zero (by omega)]
theorem jB_down {s m r : Nat} (h : balN s m) (hb : ¬ balN ((s + m + 1 : Nat) : Int) r) (hg : r < s + m + 1) : jB m r + 3 ≤ jB (s + m + 1) r := by
  unfold balN at h hb
  unfold jB
  rw [dsc_zero (w := r + 1) (by omega), dsc_zero (w := r + 1) (by omega), dsc_succ (w := s + m + 1 + 1) (by omega)]
  have := dsc_mono (r + 1) (3 * (s + m + 1 + 1) / 4 + 1) (m + 1) (3 * (s + m + 1 + 1) / 4) (by omega) (by omega)
  omega
theorem jB_g {a b : Nat} (h : a + b ≤ 900000) : jB a b ≤ 1 + 3 * gN (a + b + 1) := by
  unfold jB
  rcases Nat.le_total a b with c | c
  · rw [dsc_zero (w := a + 1) (by omega)]
    have h1 := dsc_le (w := b + 1) (v := a + 1) (by omega) (by omega)
    have h2 := gN_mono (v := b + 1) (w := a + b + 1) (by omega) (by omega)
    omega
  · rw [dsc_zero (w := b + 1) (by omega)]
    have h1 := dsc_le (w := a + 1) (v := b + 1) (by omega) (by omega)
    have h2 := gN_mono (v := a + 1) (w := a + b + 1) (by omega) (by omega)
    omega
/-- Joining where one side is heavier pays by the growth of the result's height. -/
theorem jB_grow {a b : Nat} (_ : b + 1 ≤ 3 * (a + 1) ∨ a ≤ b) (h : a + b ≤ 900000) (hba : a + 1 ≤ 3 * (b + 1)) : jB a b + 3 * gN (a + 1) ≤ 1 + 3 * gN (a + b + 2) := by
  unfold jB
  rw [dsc_zero (w := a + 1) (by omega)]
  by_cases c : b + 1 ≤ 3 * (a + 1)
  · rw [dsc_zero c]
    have := gN_mono (v := a + 1) (w := a + b + 2) (by omega) (by omega)
    omega
  · have h1 := dsc_g (v := a + 1) (by omega) (b + 2) (b + 1) (by omega) (by omega) (by omega)
    have h2 := gN_mono (v := b + 1) (w := a + b + 2) (by omega) (by omega)
    omega

/-! ### Rotations -/
def near (a b : Nat) : Prop := 3 * (b + 1) ≤ 13 * (a + 1) ∧ 3 * (a + 1) ≤ 13 * (b + 1)
theorem join_near {s m r : Nat} (h : balN s m) (hb : ¬ balN ((s + m + 1 : Nat) : Int) r) (hg : r < s + m + 1) : near s (m + r + 1) := by
  unfold balN at h hb
  unfold near
  omega
theorem rot_nil {a s : Nat} (hn : near a (0 + s + 1)) (h1 : balN (0 : Nat) s) (_ : ¬ balN a ((0 + s + 1 : Nat) : Int)) (hlt : a < 0 + s + 1) : balN a (0 : Nat) ∧ balN ((a + 0 + 1 : Nat) : Int) s := by
  unfold balN at *
  unfold near at hn
  omega
theorem rot_two {a s x y : Nat} (hn : near a (x + y + 1 + s + 1)) (h1 : balN ((x + y + 1 : Nat) : Int) s) (h2 : balN x y) (hb : ¬ balN a ((x + y + 1 + s + 1 : Nat) : Int)) (hlt : a < x + y + 1 + s + 1)
    (hc : ¬ (balN a ((x + y + 1 : Nat) : Int) ∧ balN ((a + (x + y + 1) + 1 : Nat) : Int) s)) : balN a x ∧ balN y s ∧ balN ((a + x + 1 : Nat) : Int) ((y + s + 1 : Nat) : Int) := by
  unfold balN at *
  unfold near at hn
  omega
theorem near_comm {a b : Nat} (h : near a b) : near b a := ⟨h.2, h.1⟩
theorem balN_comm {a b : Int} (h : balN a b) : balN b a := ⟨h.2, h.1⟩
theorem rot_near {s m r : Nat} (h : balN s m) (hb : ¬ balN ((s + m + 1 : Nat) : Int) r) (hg : r < s + m + 1) : near s (m + r + 1) := join_near h hb hg

/-! ### States between -/
variable {S S' S1 S2 : Arn} {hs h1 h2 hs1 hs2 : List Int}
structure Got (S : Arn) (hs : List Int) (mk rd : Nat) (S' : Arn) (hs' : List Int) : Prop where
  wf : Wf S' hs'
  stay : Stay S S' hs
  len : S'.used.length = S.used.length
  nu : S'.nu ≤ S.nu + mk
  rd0 : S.reads ≤ S'.reads
  rd : S'.reads ≤ S.reads + rd
theorem Got.free {m r : Nat} (h : Got S hs m r S' hs1) (w : Wf S hs2) : S.free ≤ S'.free + m := by
  have a := w.free_nonneg.2.2.2
  have b := h.wf.free_nonneg.2.2.2
  have c : S'.cap = S.cap := by unfold Arn.cap; rw [h.len]
  have := h.nu
  omega
theorem Got.seq {h : List Int} {m1 r1 m2 r2 : Nat} (a : Got S h1 m1 r1 S1 hs1) (b : Got S1 h2 m2 r2 S2 hs2) (e1 : ∀ i ∈ h, i ∈ h1) (e2 : ∀ i ∈ h, i ∈ h2) : Got S h (m1 + m2) (r1 + r2) S2 hs2 where
  wf := b.wf
  stay := (a.stay.mono e1).trans (b.stay.mono e2)
  len := b.len.trans a.len
  nu := by have := a.nu; have := b.nu; omega
  rd0 := Int.le_trans a.rd0 b.rd0
  rd := by have := a.rd; have := b.rd; omega
theorem Got.mono {m r m' r' : Nat} (a : Got S hs m r S' hs1) (h1 : m ≤ m') (h2 : r ≤ r') : Got S hs m' r' S' hs1 where
  wf := a.wf
  stay := a.stay
  len := a.len
  nu := by have := a.nu; omega
  rd0 := a.rd0
  rd := by have := a.rd; omega
theorem Got.perm {m r : Nat} (a : Got S hs m r S' hs1) (p : hs1.Perm hs2) : Got S hs m r S' hs2 := ⟨a.wf.perm p, a.stay, a.len, a.nu, a.rd0, a.rd⟩
theorem Got.rds (w : Wf S hs1) {n : Nat} (hn : S.reads + n ≤ 4000000000000000000) : Got S hs 0 n (rdS S n) hs1 where
  wf := w.rd hn
  stay := stay_rd S n hs
  len := rfl
  nu := Nat.le_refl _
  rd0 := by show S.reads ≤ S.reads + n; omega
  rd := Int.le_refl _
theorem Got.refl (w : Wf S hs1) : Got S hs 0 0 S hs1 := ⟨w, Stay.refl _ _, rfl, Nat.le_refl _, Int.le_refl _, by omega⟩
theorem Got.node {k v : Int} {tl tr : Tr} {i : Int} (n : NodeR S hs k v tl tr S' i) : Got S hs 1 0 S' (i :: hs) := ⟨n.wf, n.stay, n.len, by rw [n.nu]; exact Nat.le_refl _, by rw [n.rds]; exact Int.le_refl _, by rw [n.rds]; omega⟩
/-- A balanced tree with these entries is made, and held. -/
structure TrR (S : Arn) (hs : List Int) (L : List Ent) (mk rd : Nat) (S' : Arn) (i : Int) : Prop where
  got : Got S hs mk rd S' (i :: hs)
  tree : ∃ t, Rep S' t i ∧ t.list = L ∧ t.Bal
theorem TrR.mono {L : List Ent} {m r m' r' : Nat} {i : Int} (a : TrR S hs L m r S' i) (h1 : m ≤ m') (h2 : r ≤ r') : TrR S hs L m' r' S' i := ⟨a.got.mono h1 h2, a.tree⟩
end Go.Proofs.Ytjbkckcjmmmooaa
end
section
/- Taking a node apart, holding and giving back a tree. No program in sight. -/
namespace Go.Proofs.Ytjbkckcjmmmooaa
open Go

variable {S S' S1 S2 : Arn} {hs h1 h2 hs1 hs2 : List Int}

theorem countP_le : ∀ (l m : List Bool), l.length = m.length → (∀ i : Nat, m.getD i false = true → l.getD i false = true) → m.countP id ≤ l.countP id
  | [], [], _, _ => Nat.le_refl _
  | [], _ :: _, h, _ => by simp at h
  | _ :: _, [], h, _ => by simp at h
  | a :: l, b :: m, h, hi => by
    have h0 := hi 0
    have ih := countP_le l m (by simpa using h) (fun i => by simpa using hi (i + 1))
    simp at h0
    rw [List.countP_cons, List.countP_cons]
    cases a <;> cases b <;> simp_all <;> omega
theorem Kept.nu_le (k : Kept S S') : S'.nu ≤ S.nu := by
  unfold Arn.nu
  refine countP_le _ _ k.len.symm fun i hi => ?_
  have := (k.kp (i : Int) (by unfold Arn.us; simpa using hi)).1
  unfold Arn.us at this
  simpa using this
/-- One more reference to a tree that may be empty. -/
def retL (S : Arn) (i : Int) : Arn := if i = 0 then S else retA S i
theorem retL_flds (S : Arn) (i : Int) : (retL S i).reads = S.reads ∧ (retL S i).used = S.used ∧ (∀ j, (retL S i).us j = S.us j) ∧ (∀ j, (retL S i).nd j = S.nd j) ∧ (∀ j, (retL S i).gn j = S.gn j) := by
  unfold retL; split <;> exact ⟨rfl, rfl, fun _ => rfl, fun _ => rfl, fun _ => rfl⟩
theorem retL_wf (w : Wf S hs) {i : Int} (hi : i = 0 ∨ S.us i = true) (hl : hs.length ≤ 999999990) : Wf (retL S i) (i :: hs) := by
  unfold retL
  split
  · rename_i e; subst e; exact w.zero_cons (by omega)
  · rename_i e; exact w.ret (hi.resolve_left e) (by omega)
theorem retL_got (w : Wf S hs1) {i : Int} (hi : i = 0 ∨ S.us i = true) (hl : hs1.length ≤ 999999990) : Got S hs 0 0 (retL S i) (i :: hs1) := by
  obtain ⟨a, b, c, d, e⟩ := retL_flds S i
  exact ⟨retL_wf w hi hl, stay_same c d e hs, by rw [b], by unfold Arn.nu; rw [b]; exact Nat.le_refl _, by rw [a]; exact Int.le_refl _, by rw [a]; omega⟩
theorem Rep.retL {t : Tr} {i j : Int} (h : Rep S t i) : Rep (retL S j) t i := Rep.same (retL_flds S j).2.2.1 (retL_flds S j).2.2.2.1 h
/-- A tree is given back. -/
theorem rel_got {i : Int} (w : Wf S (i :: hs1)) (w' : Wf S' hs1) (k : Kept S S') : Got S hs1 0 0 S' hs1 := ⟨w', k.stay w w', k.len, k.nu_le, by rw [k.rds]; exact Int.le_refl _, by rw [k.rds]; omega⟩
/-- A node is taken apart. -/
structure OpnR (S : Arn) (hs : List Int) (a : Tr) (k v : Int) (b : Tr) (S' : Arn) (l r : Int) : Prop where
  got : Got S hs 0 1 S' (l :: r :: hs)
  repl : Rep S' a l
  repr : Rep S' b r
theorem opn_wf {i : Int} {a b : Tr} {k v : Int} (w : Wf S (i :: hs)) (hr : Rep S (.node a k v b) i) (hl : hs.length ≤ 900000000) (hrd : S.reads + 1 ≤ 4000000000000000000) :
    Wf (rdS S 1) (i :: hs) ∧ Wf (retL (rdS S 1) (S.nd i).left) ((S.nd i).left :: i :: hs) ∧ Wf (retL (retL (rdS S 1) (S.nd i).left) (S.nd i).right) (i :: (S.nd i).left :: (S.nd i).right :: hs) := by
  have w1 : Wf (rdS S 1) (i :: hs) := w.rd (by omega)
  have hk := w.kid i hr.1
  have w2 := retL_wf w1 (i := (S.nd i).left) hk.1 (by simp; omega)
  have w3 := retL_wf w2 (i := (S.nd i).right) (by rw [(retL_flds _ _).2.2.1]; exact hk.2) (by simp; omega)
  refine ⟨w1, w2, w3.perm ?_⟩
  refine (List.Perm.swap _ _ _).trans ?_
  refine ((List.Perm.swap _ _ _).cons _).trans ?_
  exact List.Perm.swap _ _ _
theorem opn_ok {i : Int} {a b : Tr} {k v : Int} (w : Wf S (i :: hs)) (hr : Rep S (.node a k v b) i) (hl : hs.length ≤ 900000000) (hrd : S.reads + 1 ≤ 4000000000000000000)
    (w' : Wf S' ((S.nd i).left :: (S.nd i).right :: hs)) (kp : Kept (retL (retL (rdS S 1) (S.nd i).left) (S.nd i).right) S') : OpnR S hs a k v b S' (S.nd i).left (S.nd i).right := by
  obtain ⟨w1, w2, w3⟩ := opn_wf w hr hl hrd
  have hk := w.kid i hr.1
  have g1 : Got S hs 0 1 (rdS S 1) (i :: hs) := Got.rds w (by omega)
  have g2 : Got (rdS S 1) hs 0 0 _ _ := retL_got (hs := hs) w1 (i := (S.nd i).left) hk.1 (by simp; omega)
  have g3 : Got (retL (rdS S 1) (S.nd i).left) hs 0 0 _ _ := retL_got (hs := hs) w2 (i := (S.nd i).right) (by rw [(retL_flds _ _).2.2.1]; exact hk.2) (by simp; omega)
  have g4 := rel_got w3 w' kp
  refine ⟨(((g1.seq g2 (h := hs) (fun _ h => h) (fun _ h => h)).seq g3 (fun _ h => h) (fun _ h => h)).seq g4 (fun _ h => h) (fun _ h => by simp [h])), ?_, ?_⟩
  · have h1 : Rep (retL (retL (rdS S 1) (S.nd i).left) (S.nd i).right) a (S.nd i).left := (Rep.same (S := S) (S' := rdS S 1) (fun _ => rfl) (fun _ => rfl) hr.2.2.2.1).retL.retL
    exact h1.held w3 (kp.stay w3 w') (.inr (by simp))
  · have h1 : Rep (retL (retL (rdS S 1) (S.nd i).left) (S.nd i).right) b (S.nd i).right := (Rep.same (S := S) (S' := rdS S 1) (fun _ => rfl) (fun _ => rfl) hr.2.2.2.2).retL.retL
    exact h1.held w3 (kp.stay w3 w') (.inr (by simp))
theorem perm_rot {α : Type} (a b c : α) (l : List α) : (a :: b :: c :: l).Perm (c :: a :: b :: l) := ((List.Perm.swap c b l).cons a).trans (List.Perm.swap c a (b :: l))
theorem perm_tor {α : Type} (a b c : α) (l : List α) : (a :: b :: c :: l).Perm (b :: c :: a :: l) := (perm_rot b c a l).symm
theorem Got.rdn {m r n k : Nat} (a : Got S hs m r S1 hs1) (hn : n ≤ k) (hb : S1.reads + n ≤ 4000000000000000000) : Got S hs m (r + k) (rdS S1 n) hs1 :=
  (a.seq (Got.rds (hs := hs) a.wf hb) (fun _ h => h) (fun _ h => h)).mono (by omega) (by omega)
theorem Rep.rdn {t : Tr} {i : Int} {n : Nat} (h : Rep S t i) : Rep (rdS S n) t i := Rep.same (S := S) (S' := rdS S n) (fun _ => rfl) (fun _ => rfl) h
/-! ### Rotations on the arena -/
section
variable {S0 S3 S4 : Arn} {A M B x y : Tr} {k1 v1 k2 v2 k3 v3 u m w i j q ix iy : Int} {r0 : Nat}
theorem single_okL (g : Got S0 hs 0 r0 S (u :: m :: w :: hs)) (n1 : NodeR S (w :: hs) k1 v1 A M S2 i) (n2 : NodeR S2 hs k2 v2 (.node A k1 v1 M) B S3 j)
    (bA : A.Bal) (bM : M.Bal) (bB : B.Bal) (c1 : balN A.size M.size) (c2 : balN ((A.size + M.size + 1 : Nat) : Int) B.size) : TrR S0 hs (A.list ++ (k1, v1) :: (M.list ++ (k2, v2) :: B.list)) 3 (r0 + 1) S3 j where
  got := ((g.seq (Got.node n1) (h := hs) (fun _ h => h) (fun _ h => by simp [h])).seq (Got.node n2) (fun _ h => h) (fun _ h => h)).mono (by omega) (by omega)
  tree := ⟨_, n2.rep, by simp [Tr.list], by
    refine ⟨?_, ⟨c1, bA, bM⟩, bB⟩
    have e : ((Tr.node A k1 v1 M).size : Int) = ((A.size + M.size + 1 : Nat) : Int) := by simp [Tr.size]; omega
    rw [e]; exact c2⟩
theorem single_okR (g : Got S0 hs 0 r0 S (u :: m :: w :: hs)) (n1 : NodeR S (u :: hs) k2 v2 M B S2 i) (n2 : NodeR S2 hs k1 v1 A (.node M k2 v2 B) S3 j)
    (bA : A.Bal) (bM : M.Bal) (bB : B.Bal) (c1 : balN M.size B.size) (c2 : balN A.size ((M.size + B.size + 1 : Nat) : Int)) : TrR S0 hs (A.list ++ (k1, v1) :: (M.list ++ (k2, v2) :: B.list)) 3 (r0 + 1) S3 j where
  got := ((g.seq (Got.node n1) (h := hs) (fun _ h => h) (fun _ h => by simp [h])).seq (Got.node n2) (fun _ h => h) (fun _ h => h)).mono (by omega) (by omega)
  tree := ⟨_, n2.rep, by simp [Tr.list], by
    refine ⟨?_, bA, ⟨c1, bM, bB⟩⟩
    have e : ((Tr.node M k2 v2 B).size : Int) = ((M.size + B.size + 1 : Nat) : Int) := by simp [Tr.size]; omega
    rw [e]; exact c2⟩
theorem double_ok (g : Got S0 hs 0 r0 S (u :: m :: w :: hs)) (o : OpnR S (u :: w :: hs) x k3 v3 y S1 ix iy) (n1 : NodeR S1 (iy :: w :: hs) k1 v1 A x S2 i) (n2 : NodeR S2 (i :: hs) k2 v2 y B S3 j)
    (n3 : NodeR S3 hs k3 v3 (.node A k1 v1 x) (.node y k2 v2 B) S4 q) (bA : A.Bal) (bx : x.Bal) (bY : y.Bal) (bB : B.Bal) (c1 : balN A.size x.size) (c2 : balN y.size B.size) (c3 : balN ((A.size + x.size + 1 : Nat) : Int) ((y.size + B.size + 1 : Nat) : Int)) :
    TrR S0 hs (A.list ++ (k1, v1) :: (x.list ++ (k3, v3) :: (y.list ++ (k2, v2) :: B.list))) 3 (r0 + 1) S4 q where
  got := ((((g.seq o.got (h := hs) (fun _ h => h) (fun _ h => by simp [h])).seq (Got.node n1) (h := hs) (fun _ h => h) (fun _ h => by simp [h])).seq (Got.node n2) (h := hs) (fun _ h => h) (fun _ h => by simp [h])).seq (Got.node n3) (fun _ h => h) (fun _ h => h)).mono (by omega) (by omega)
  tree := ⟨_, n3.rep, by simp [Tr.list], by
    refine ⟨?_, ⟨c1, bA, bx⟩, ⟨c2, bY, bB⟩⟩
    have e : ((Tr.node A k1 v1 x).size : Int) = ((A.size + x.size + 1 : Nat) : Int) := by simp [Tr.size]; omega
    have e2 : ((Tr.node y k2 v2 B).size : Int) = ((y.size + B.size + 1 : Nat) : Int) := by simp [Tr.size]; omega
    rw [e, e2]; exact c3⟩
end
end Go.Proofs.Ytjbkckcjmmmooaa
end
