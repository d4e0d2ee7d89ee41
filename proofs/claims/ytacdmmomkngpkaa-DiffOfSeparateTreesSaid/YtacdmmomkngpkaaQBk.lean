/- Listing trees. -/
import Derived.Test.YtacdmmomkngpkaaQAn
import Derived.Test.YtacdmmomkngpkaaArD
import Derived.Test.YtacdmmomkngpkaaPatD
namespace Go.Proofs.Ytacdmmomkngpkaa.Sx
open Go

/-KEEP Wf exW inU live Arn.cap Arn.free maxSize mkNode makeS relA nxt NodeR BuildR Rep lk pl rdS Tr.size-/
abbrev chL (lim : Int) (S : Arn) (out : List Ent) : List (Chunk C0) := [.box [.ptr 1 0, .slc 2, vI lim], .box [.ptr 3 0, .slc 4, .slc 5, vU64 S.reads], .row true EC.ent out, .box [.slc 6, .slc 7, .slc 8, vU S.fresh], .row true EC.node S.nodes, .row true EC.int S.counts, .row true EC.bool S.used, .row true EC.u32 S.gen, .row true EC.u32 S.rel]
def lsM (H : List (Chunk C0)) (k : Int → Arn → List Ent → Prop) : Prop := match H with
  | [.box [.ptr 1 0, .slc 2, .val (.int .i64 lim)], .box [.ptr 3 0, .slc 4, .slc 5, .val (.int .u64 rd)], .row true .ent out, .box [.slc 6, .slc 7, .slc 8, .val (.int .u32 fr)], .row true .node nd, .row true .int ct, .row true .bool us, .row true .u32 gn, .row true .u32 rl] => k lim ⟨us, gn, rl, fr, nd, ct, rd⟩ out
  | _ => False
theorem fold_nd' (S : Arn) (i : Int) : S.nodes.getD i.toNat ⟨0, 0, 0, 0, 0, 0, 0, 0⟩ = S.nd i := rfl
def tFull : Tfm C0 := fun args H K => match args with
  | [.at (.ptr 0 0)] => lsM H fun lim S out => K (.one (.at (vB (decide (lim ≤ (out.length : Int)))))) (chL lim S out) []
  | _ => False
def room (lim : Int) (out : List Ent) : Nat := (lim - out.length).toNat
def tLk (n : Nat) : Tfm C0 := fun args H K => match args with
  | [.at (.ptr 0 0), .at (.val (.int .u32 i)), .at (.val (.int .i64 lo)), .at (.val (.int .i64 hi))] => lsM H fun lim S out => ∃ hs t, Wf S hs ∧ Rep S t i ∧ t.size < n ∧ t.size ≤ 1000000 ∧ out.length + t.size ≤ 3000000 ∧ S.reads + t.size ≤ 3000000000000000000 ∧
    ∀ S' out', S' = rdS S (lk t lo hi (room lim out)).2 → out' = out ++ (lk t lo hi (room lim out)).1 → K (.tup []) (chL lim S' out') [0, 1, 2]
  | _ => False
structure XSt (P : Arn → List Ent → Prop) where
  S : Arn
  out : List Ent
  h : P S out
noncomputable def aLk (n : Nat) (lim : Int) (nd : NodeT) (P1 P2 : Arn → List Ent → Prop) : Ann C0 := { Γ := [(132, frameT [] tFull), (75, frameT [] tNode), (101, frameT [] (tLk n))], inv := fun k => match k with
  | 1005 => some { X := XSt P1, sl := [8], tf := fun _ => [.one (.at (.ptr 9 0))], hf := fun x => chL lim x.S x.out ++ [bxN nd], wr := [0, 1, 2] }
  | 1007 => some { X := XSt P2, sl := [8], tf := fun _ => [.one (.at (.ptr 9 0))], hf := fun x => chL lim x.S x.out ++ [bxN nd], wr := [0, 1, 2] }
  | _ => none }
def tPl (n : Nat) : Tfm C0 := fun args H K => match args with
  | [.at (.ptr 0 0), .at (.val (.int .u32 i)), .at (.val (.int .i64 x)), .at (.val (.int .i64 y))] => lsM H fun lim S out => ∃ hs t, Wf S hs ∧ Rep S t i ∧ t.size < n ∧ t.size ≤ 1000000 ∧ out.length + t.size ≤ 3000000 ∧ S.reads + 2 * t.size ≤ 3000000000000000000 ∧ 0 ≤ x ∧ y ≤ t.size ∧
    ∀ S' out', S' = rdS S (pl t x y).2 → out' = out ++ (pl t x y).1 → K (.tup []) (chL lim S' out') [0, 1, 2]
  | _ => False
noncomputable def aPl (n : Nat) (lim s : Int) (nd : NodeT) (P0 P1 P2 : Arn → List Ent → Prop) : Ann C0 := { Γ := [(75, frameT [] tNode), (20, frameT [] tSize), (103, frameT [] (tPl n))], inv := fun k => match k with
  | 1004 => some { X := XSt P0, sl := [8, 10], tf := fun _ => [.one (.at (.ptr 9 0)), vi .i64 s], hf := fun x => chL lim x.S x.out ++ [bxN nd], wr := [0, 1, 2] }
  | 1006 => some { X := XSt P1, sl := [8, 10], tf := fun _ => [.one (.at (.ptr 9 0)), vi .i64 s], hf := fun x => chL lim x.S x.out ++ [bxN nd], wr := [0, 1, 2] }
  | 1008 => some { X := XSt P2, sl := [8, 10], tf := fun _ => [.one (.at (.ptr 9 0)), vi .i64 s], hf := fun x => chL lim x.S x.out ++ [bxN nd], wr := [0, 1, 2] }
  | _ => none }
theorem rdS_zero (S : Arn) : rdS S 0 = S := by simp [rdS]
theorem rdS_rdS (S : Arn) (a b : Nat) : rdS (rdS S a) b = rdS S (a + b) := by simp [rdS]; omega
theorem rep_rd {S : Arn} {t : Tr} {i : Int} (h : Rep S t i) (n : Nat) : Rep (rdS S n) t i := Rep.same (S := S) (S' := rdS S n) (fun _ => rfl) (fun _ => rfl) h
theorem inU_of {S : Arn} {hs : List Int} (h : Wf S hs) {i : Int} (hi : live S i) : inU i := by
  have h2 := h.n2
  rcases hi with rfl | hi
  · exact ⟨by decide, by decide⟩
  · have := h.pos hi; exact ⟨by omega, by omega⟩
theorem vc_full (lim : Int) (S : Arn) (out : List Ent) (K : KT) (h : K (.one (.at (vB (decide (lim ≤ (out.length : Int)))))) (chL lim S out) []) :
    vc C0 A0 Try.f132 [.at (.ptr 0 0)] (chL lim S out) (normK 9 K) := Eq.mp (show (K (SV.one (TV.at (At.val (Value.bool (decide ((↑out.length : Int) ≥ lim)))))) [(Chunk.box [(At.ptr 1 0), (At.slc 2), (At.val (Value.int IntKind.i64 (lim)))]), (Chunk.box [(At.ptr 3 0), (At.slc 4), (At.slc 5), (At.val (Value.int IntKind.u64 (S.reads)))]), (Chunk.row true (EC.ent) (out)), (Chunk.box [(At.slc 6), (At.slc 7), (At.slc 8), (At.val (Value.int IntKind.u32 (S.fresh)))]), (Chunk.row true (EC.node) (S.nodes)), (Chunk.row true (EC.int) (S.counts)), (Chunk.row true (EC.bool) (S.used)), (Chunk.row true (EC.u32) (S.gen)), (Chunk.row true (EC.u32) (S.rel))] []) = _ by kernel_rfl) h
theorem s_full : SoundT C0 132 tFull := by
  refine .of Try.func132 (by decide) rfl fun args H K h hB => ?_
  unfold tFull at h
  split at h <;> try exact h.elim
  unfold lsM at h
  split at h <;> try exact h.elim
  rename_i lim rd out fr nd ct us gn rl
  exact ⟨A0, trivial, vc_full lim ⟨us, gn, rl, fr, nd, ct, rd⟩ out K h⟩
def lkA (t : Tr) (lo hi : Int) (rm : Nat) : List Ent × Nat := match t with
  | .nil => ([], 0)
  | .node l k _ _ => if lo < k then lk l lo hi rm else ([], 0)
def lkB (t : Tr) (lo hi : Int) (rm : Nat) : List Ent := match t with
  | .nil => []
  | .node _ k v _ => if lo ≤ k ∧ k ≤ hi ∧ (lkA t lo hi rm).1.length < rm then [(k, v)] else []
theorem vc_lk (n : Nat) (lim : Int) (S : Arn) (out : List Ent) (i lo hi : Int) (K : KT) (hs : List Int) (t : Tr) (hw : Wf S hs) (hr : Rep S t i) (h1 : t.size < n + 1) (h2 : t.size ≤ 1000000) (h3 : out.length + t.size ≤ 3000000) (h4 : S.reads + t.size ≤ 3000000000000000000)
    (h : ∀ S' out', S' = rdS S (lk t lo hi (room lim out)).2 → out' = out ++ (lk t lo hi (room lim out)).1 → K (.tup []) (chL lim S' out') [0, 1, 2]) :
    vc C0 (aLk n lim (S.nd i) (fun S1 o1 => S1 = rdS S (1 + (lkA t lo hi (room lim out)).2) ∧ o1 = out ++ (lkA t lo hi (room lim out)).1) (fun S1 o1 => S1 = rdS S (1 + (lkA t lo hi (room lim out)).2) ∧ o1 = out ++ ((lkA t lo hi (room lim out)).1 ++ lkB t lo hi (room lim out))))
      Try.f101 [.at (.ptr 0 0), .at (vU i), .at (vI lo), .at (vI hi)] (chL lim S out) (normK 9 (wideK [0, 1, 2] K)) := by
  generalize hP1 : (fun S1 o1 => S1 = rdS S (1 + (lkA t lo hi (room lim out)).2) ∧ o1 = out ++ (lkA t lo hi (room lim out)).1) = P1
  generalize hP2 : (fun S1 o1 => S1 = rdS S (1 + (lkA t lo hi (room lim out)).2) ∧ o1 = out ++ ((lkA t lo hi (room lim out)).1 ++ lkB t lo hi (room lim out))) = P2
  refine Eq.mp (show (brS (i == 0)
  ((K (SV.tup []) [(Chunk.box [(At.ptr 1 0), (At.slc 2), (At.val (Value.int IntKind.i64 (lim)))]), (Chunk.box [(At.ptr 3 0), (At.slc 4), (At.slc 5), (At.val (Value.int IntKind.u64 (S.reads)))]), (Chunk.row true (EC.ent) (out)), (Chunk.box [(At.slc 6), (At.slc 7), (At.slc 8), (At.val (Value.int IntKind.u32 (S.fresh)))]), (Chunk.row true (EC.node) (S.nodes)), (Chunk.row true (EC.int) (S.counts)), (Chunk.row true (EC.bool) (S.used)), (Chunk.row true (EC.u32) (S.gen)), (Chunk.row true (EC.u32) (S.rel))] [0, 1, 2]))
  ((brS (decide (lim ≤ (↑out.length : Int)))
    ((K (SV.tup []) [(Chunk.box [(At.ptr 1 0), (At.slc 2), (At.val (Value.int IntKind.i64 (lim)))]), (Chunk.box [(At.ptr 3 0), (At.slc 4), (At.slc 5), (At.val (Value.int IntKind.u64 (S.reads)))]), (Chunk.row true (EC.ent) (out)), (Chunk.box [(At.slc 6), (At.slc 7), (At.slc 8), (At.val (Value.int IntKind.u32 (S.fresh)))]), (Chunk.row true (EC.node) (S.nodes)), (Chunk.row true (EC.int) (S.counts)), (Chunk.row true (EC.bool) (S.used)), (Chunk.row true (EC.u32) (S.gen)), (Chunk.row true (EC.u32) (S.rel))] [0, 1, 2]))
    (((inU i) ∧
    (exW S) ∧
    (S.reads < 4000000000000000000) ∧
    (∀ S' : Arn,
      (((S') = (rdS S (S.us i).toNat)) →
      (brS (!S.us i)
        ((K (SV.tup []) [(Chunk.box [(At.ptr 1 0), (At.slc 2), (At.val (Value.int IntKind.i64 (lim)))]), (Chunk.box [(At.ptr 3 0), (At.slc 4), (At.slc 5), (At.val (Value.int IntKind.u64 (S'.reads)))]), (Chunk.row true (EC.ent) (out)), (Chunk.box [(At.slc 6), (At.slc 7), (At.slc 8), (At.val (Value.int IntKind.u32 (S'.fresh)))]), (Chunk.row true (EC.node) (S'.nodes)), (Chunk.row true (EC.int) (S'.counts)), (Chunk.row true (EC.bool) (S'.used)), (Chunk.row true (EC.u32) (S'.gen)), (Chunk.row true (EC.u32) (S'.rel))] [0, 1, 2]))
        (((brS (decide ((S.nd i).key > lo))
          ((∃ hs : List Int,
            (∃ t : Tr,
              ((Wf S' hs) ∧
              (Rep S' t (S.nd i).left) ∧
              (t.size < n) ∧
              (t.size ≤ 1000000) ∧
              (out.length + t.size ≤ 3000000) ∧
              (S'.reads + (↑t.size : Int) ≤ 3000000000000000000) ∧
              (∀ S'1 : Arn,
                (∀ out' : List Ent,
                  (((S'1) = (rdS S' (lk t lo hi (room lim out)).snd)) →
                  (((out') = (out ++ (lk t lo hi (room lim out)).fst)) →
                  (∃ x : XSt P1,
                    (True ∧
                    (True ∧
                    ((Value.int IntKind.i64 (lo)) = (Value.int IntKind.i64 (lo))) ∧
                    ((Value.int IntKind.i64 (hi)) = (Value.int IntKind.i64 (hi))) ∧
                    True ∧
                    True) ∧
                    (True ∧
                    True ∧
                    ((Value.int IntKind.i64 (lim)) = (Value.int IntKind.i64 (lim))) ∧
                    True) ∧
                    (True ∧
                    True ∧
                    True ∧
                    ((Value.int IntKind.u64 (S'1.reads)) = (Value.int IntKind.u64 (x.S.reads))) ∧
                    True) ∧
                    ((out') = (x.out)) ∧
                    (True ∧
                    True ∧
                    True ∧
                    ((Value.int IntKind.u32 (S'1.fresh)) = (Value.int IntKind.u32 (x.S.fresh))) ∧
                    True) ∧
                    ((S'1.nodes) = (x.S.nodes)) ∧
                    ((S'1.counts) = (x.S.counts)) ∧
                    ((S'1.used) = (x.S.used)) ∧
                    ((S'1.gen) = (x.S.gen)) ∧
                    ((S'1.rel) = (x.S.rel)) ∧
                    (((Value.int IntKind.i64 ((S.nd i).key)) = (Value.int IntKind.i64 ((S.nd i).key))) ∧
                    ((Value.int IntKind.i64 ((S.nd i).value)) = (Value.int IntKind.i64 ((S.nd i).value))) ∧
                    ((Value.int IntKind.u32 ((S.nd i).left)) = (Value.int IntKind.u32 ((S.nd i).left))) ∧
                    ((Value.int IntKind.u32 ((S.nd i).right)) = (Value.int IntKind.u32 ((S.nd i).right))) ∧
                    ((Value.int IntKind.i64 ((S.nd i).size)) = (Value.int IntKind.i64 ((S.nd i).size))) ∧
                    ((Value.int IntKind.i64 ((S.nd i).sum)) = (Value.int IntKind.i64 ((S.nd i).sum))) ∧
                    ((Value.int IntKind.i64 ((S.nd i).min)) = (Value.int IntKind.i64 ((S.nd i).min))) ∧
                    ((Value.int IntKind.i64 ((S.nd i).max)) = (Value.int IntKind.i64 ((S.nd i).max))) ∧
                    True) ∧
                    True))))))))))
          ((∃ x : XSt P1,
            (True ∧
            (True ∧
            ((Value.int IntKind.i64 (lo)) = (Value.int IntKind.i64 (lo))) ∧
            ((Value.int IntKind.i64 (hi)) = (Value.int IntKind.i64 (hi))) ∧
            True ∧
            True) ∧
            (True ∧
            True ∧
            ((Value.int IntKind.i64 (lim)) = (Value.int IntKind.i64 (lim))) ∧
            True) ∧
            (True ∧
            True ∧
            True ∧
            ((Value.int IntKind.u64 (S'.reads)) = (Value.int IntKind.u64 (x.S.reads))) ∧
            True) ∧
            ((out) = (x.out)) ∧
            (True ∧
            True ∧
            True ∧
            ((Value.int IntKind.u32 (S'.fresh)) = (Value.int IntKind.u32 (x.S.fresh))) ∧
            True) ∧
            ((S'.nodes) = (x.S.nodes)) ∧
            ((S'.counts) = (x.S.counts)) ∧
            ((S'.used) = (x.S.used)) ∧
            ((S'.gen) = (x.S.gen)) ∧
            ((S'.rel) = (x.S.rel)) ∧
            (((Value.int IntKind.i64 ((S.nd i).key)) = (Value.int IntKind.i64 ((S.nd i).key))) ∧
            ((Value.int IntKind.i64 ((S.nd i).value)) = (Value.int IntKind.i64 ((S.nd i).value))) ∧
            ((Value.int IntKind.u32 ((S.nd i).left)) = (Value.int IntKind.u32 ((S.nd i).left))) ∧
            ((Value.int IntKind.u32 ((S.nd i).right)) = (Value.int IntKind.u32 ((S.nd i).right))) ∧
            ((Value.int IntKind.i64 ((S.nd i).size)) = (Value.int IntKind.i64 ((S.nd i).size))) ∧
            ((Value.int IntKind.i64 ((S.nd i).sum)) = (Value.int IntKind.i64 ((S.nd i).sum))) ∧
            ((Value.int IntKind.i64 ((S.nd i).min)) = (Value.int IntKind.i64 ((S.nd i).min))) ∧
            ((Value.int IntKind.i64 ((S.nd i).max)) = (Value.int IntKind.i64 ((S.nd i).max))) ∧
            True) ∧
            True)))) ∧
        (∀ x : XSt P1,
          (True →
          ((brS (decide ((S.nd i).key ≥ lo))
            ((brS (decide ((S.nd i).key ≤ hi))
              ((brS (!decide (lim ≤ (↑x.out.length : Int)))
                (((((x.out.length + [((S.nd i).key, (S.nd i).value)].length) * bytesOf C0 EC.ent ≤ 140737488355328) ∧
                (∃ x1 : XSt P2,
                  (True ∧
                  (True ∧
                  ((Value.int IntKind.i64 (lo)) = (Value.int IntKind.i64 (lo))) ∧
                  ((Value.int IntKind.i64 (hi)) = (Value.int IntKind.i64 (hi))) ∧
                  True ∧
                  True) ∧
                  (True ∧
                  True ∧
                  ((Value.int IntKind.i64 (lim)) = (Value.int IntKind.i64 (lim))) ∧
                  True) ∧
                  (True ∧
                  True ∧
                  True ∧
                  ((Value.int IntKind.u64 (x.S.reads)) = (Value.int IntKind.u64 (x1.S.reads))) ∧
                  True) ∧
                  ((x.out ++ [((S.nd i).key, (S.nd i).value)]) = (x1.out)) ∧
                  (True ∧
                  True ∧
                  True ∧
                  ((Value.int IntKind.u32 (x.S.fresh)) = (Value.int IntKind.u32 (x1.S.fresh))) ∧
                  True) ∧
                  ((x.S.nodes) = (x1.S.nodes)) ∧
                  ((x.S.counts) = (x1.S.counts)) ∧
                  ((x.S.used) = (x1.S.used)) ∧
                  ((x.S.gen) = (x1.S.gen)) ∧
                  ((x.S.rel) = (x1.S.rel)) ∧
                  (((Value.int IntKind.i64 ((S.nd i).key)) = (Value.int IntKind.i64 ((S.nd i).key))) ∧
                  ((Value.int IntKind.i64 ((S.nd i).value)) = (Value.int IntKind.i64 ((S.nd i).value))) ∧
                  ((Value.int IntKind.u32 ((S.nd i).left)) = (Value.int IntKind.u32 ((S.nd i).left))) ∧
                  ((Value.int IntKind.u32 ((S.nd i).right)) = (Value.int IntKind.u32 ((S.nd i).right))) ∧
                  ((Value.int IntKind.i64 ((S.nd i).size)) = (Value.int IntKind.i64 ((S.nd i).size))) ∧
                  ((Value.int IntKind.i64 ((S.nd i).sum)) = (Value.int IntKind.i64 ((S.nd i).sum))) ∧
                  ((Value.int IntKind.i64 ((S.nd i).min)) = (Value.int IntKind.i64 ((S.nd i).min))) ∧
                  ((Value.int IntKind.i64 ((S.nd i).max)) = (Value.int IntKind.i64 ((S.nd i).max))) ∧
                  True) ∧
                  True))) ∧
                ((x.out.length + [((S.nd i).key, (S.nd i).value)].length) * bytesOf C0 EC.ent ≤ 140737488355328) ∧
                (∃ x1 : XSt P2,
                  (True ∧
                  (True ∧
                  ((Value.int IntKind.i64 (lo)) = (Value.int IntKind.i64 (lo))) ∧
                  ((Value.int IntKind.i64 (hi)) = (Value.int IntKind.i64 (hi))) ∧
                  True ∧
                  True) ∧
                  (True ∧
                  True ∧
                  ((Value.int IntKind.i64 (lim)) = (Value.int IntKind.i64 (lim))) ∧
                  True) ∧
                  (True ∧
                  True ∧
                  True ∧
                  ((Value.int IntKind.u64 (x.S.reads)) = (Value.int IntKind.u64 (x1.S.reads))) ∧
                  True) ∧
                  ((x.out ++ [((S.nd i).key, (S.nd i).value)]) = (x1.out)) ∧
                  (True ∧
                  True ∧
                  True ∧
                  ((Value.int IntKind.u32 (x.S.fresh)) = (Value.int IntKind.u32 (x1.S.fresh))) ∧
                  True) ∧
                  ((x.S.nodes) = (x1.S.nodes)) ∧
                  ((x.S.counts) = (x1.S.counts)) ∧
                  ((x.S.used) = (x1.S.used)) ∧
                  ((x.S.gen) = (x1.S.gen)) ∧
                  ((x.S.rel) = (x1.S.rel)) ∧
                  (((Value.int IntKind.i64 ((S.nd i).key)) = (Value.int IntKind.i64 ((S.nd i).key))) ∧
                  ((Value.int IntKind.i64 ((S.nd i).value)) = (Value.int IntKind.i64 ((S.nd i).value))) ∧
                  ((Value.int IntKind.u32 ((S.nd i).left)) = (Value.int IntKind.u32 ((S.nd i).left))) ∧
                  ((Value.int IntKind.u32 ((S.nd i).right)) = (Value.int IntKind.u32 ((S.nd i).right))) ∧
                  ((Value.int IntKind.i64 ((S.nd i).size)) = (Value.int IntKind.i64 ((S.nd i).size))) ∧
                  ((Value.int IntKind.i64 ((S.nd i).sum)) = (Value.int IntKind.i64 ((S.nd i).sum))) ∧
                  ((Value.int IntKind.i64 ((S.nd i).min)) = (Value.int IntKind.i64 ((S.nd i).min))) ∧
                  ((Value.int IntKind.i64 ((S.nd i).max)) = (Value.int IntKind.i64 ((S.nd i).max))) ∧
                  True) ∧
                  True))))
                ((∃ x1 : XSt P2,
                  (True ∧
                  (True ∧
                  ((Value.int IntKind.i64 (lo)) = (Value.int IntKind.i64 (lo))) ∧
                  ((Value.int IntKind.i64 (hi)) = (Value.int IntKind.i64 (hi))) ∧
                  True ∧
                  True) ∧
                  (True ∧
                  True ∧
                  ((Value.int IntKind.i64 (lim)) = (Value.int IntKind.i64 (lim))) ∧
                  True) ∧
                  (True ∧
                  True ∧
                  True ∧
                  ((Value.int IntKind.u64 (x.S.reads)) = (Value.int IntKind.u64 (x1.S.reads))) ∧
                  True) ∧
                  ((x.out) = (x1.out)) ∧
                  (True ∧
                  True ∧
                  True ∧
                  ((Value.int IntKind.u32 (x.S.fresh)) = (Value.int IntKind.u32 (x1.S.fresh))) ∧
                  True) ∧
                  ((x.S.nodes) = (x1.S.nodes)) ∧
                  ((x.S.counts) = (x1.S.counts)) ∧
                  ((x.S.used) = (x1.S.used)) ∧
                  ((x.S.gen) = (x1.S.gen)) ∧
                  ((x.S.rel) = (x1.S.rel)) ∧
                  (((Value.int IntKind.i64 ((S.nd i).key)) = (Value.int IntKind.i64 ((S.nd i).key))) ∧
                  ((Value.int IntKind.i64 ((S.nd i).value)) = (Value.int IntKind.i64 ((S.nd i).value))) ∧
                  ((Value.int IntKind.u32 ((S.nd i).left)) = (Value.int IntKind.u32 ((S.nd i).left))) ∧
                  ((Value.int IntKind.u32 ((S.nd i).right)) = (Value.int IntKind.u32 ((S.nd i).right))) ∧
                  ((Value.int IntKind.i64 ((S.nd i).size)) = (Value.int IntKind.i64 ((S.nd i).size))) ∧
                  ((Value.int IntKind.i64 ((S.nd i).sum)) = (Value.int IntKind.i64 ((S.nd i).sum))) ∧
                  ((Value.int IntKind.i64 ((S.nd i).min)) = (Value.int IntKind.i64 ((S.nd i).min))) ∧
                  ((Value.int IntKind.i64 ((S.nd i).max)) = (Value.int IntKind.i64 ((S.nd i).max))) ∧
                  True) ∧
                  True)))))
              ((∃ x1 : XSt P2,
                (True ∧
                (True ∧
                ((Value.int IntKind.i64 (lo)) = (Value.int IntKind.i64 (lo))) ∧
                ((Value.int IntKind.i64 (hi)) = (Value.int IntKind.i64 (hi))) ∧
                True ∧
                True) ∧
                (True ∧
                True ∧
                ((Value.int IntKind.i64 (lim)) = (Value.int IntKind.i64 (lim))) ∧
                True) ∧
                (True ∧
                True ∧
                True ∧
                ((Value.int IntKind.u64 (x.S.reads)) = (Value.int IntKind.u64 (x1.S.reads))) ∧
                True) ∧
                ((x.out) = (x1.out)) ∧
                (True ∧
                True ∧
                True ∧
                ((Value.int IntKind.u32 (x.S.fresh)) = (Value.int IntKind.u32 (x1.S.fresh))) ∧
                True) ∧
                ((x.S.nodes) = (x1.S.nodes)) ∧
                ((x.S.counts) = (x1.S.counts)) ∧
                ((x.S.used) = (x1.S.used)) ∧
                ((x.S.gen) = (x1.S.gen)) ∧
                ((x.S.rel) = (x1.S.rel)) ∧
                (((Value.int IntKind.i64 ((S.nd i).key)) = (Value.int IntKind.i64 ((S.nd i).key))) ∧
                ((Value.int IntKind.i64 ((S.nd i).value)) = (Value.int IntKind.i64 ((S.nd i).value))) ∧
                ((Value.int IntKind.u32 ((S.nd i).left)) = (Value.int IntKind.u32 ((S.nd i).left))) ∧
                ((Value.int IntKind.u32 ((S.nd i).right)) = (Value.int IntKind.u32 ((S.nd i).right))) ∧
                ((Value.int IntKind.i64 ((S.nd i).size)) = (Value.int IntKind.i64 ((S.nd i).size))) ∧
                ((Value.int IntKind.i64 ((S.nd i).sum)) = (Value.int IntKind.i64 ((S.nd i).sum))) ∧
                ((Value.int IntKind.i64 ((S.nd i).min)) = (Value.int IntKind.i64 ((S.nd i).min))) ∧
                ((Value.int IntKind.i64 ((S.nd i).max)) = (Value.int IntKind.i64 ((S.nd i).max))) ∧
                True) ∧
                True)))))
            ((∃ x1 : XSt P2,
              (True ∧
              (True ∧
              ((Value.int IntKind.i64 (lo)) = (Value.int IntKind.i64 (lo))) ∧
              ((Value.int IntKind.i64 (hi)) = (Value.int IntKind.i64 (hi))) ∧
              True ∧
              True) ∧
              (True ∧
              True ∧
              ((Value.int IntKind.i64 (lim)) = (Value.int IntKind.i64 (lim))) ∧
              True) ∧
              (True ∧
              True ∧
              True ∧
              ((Value.int IntKind.u64 (x.S.reads)) = (Value.int IntKind.u64 (x1.S.reads))) ∧
              True) ∧
              ((x.out) = (x1.out)) ∧
              (True ∧
              True ∧
              True ∧
              ((Value.int IntKind.u32 (x.S.fresh)) = (Value.int IntKind.u32 (x1.S.fresh))) ∧
              True) ∧
              ((x.S.nodes) = (x1.S.nodes)) ∧
              ((x.S.counts) = (x1.S.counts)) ∧
              ((x.S.used) = (x1.S.used)) ∧
              ((x.S.gen) = (x1.S.gen)) ∧
              ((x.S.rel) = (x1.S.rel)) ∧
              (((Value.int IntKind.i64 ((S.nd i).key)) = (Value.int IntKind.i64 ((S.nd i).key))) ∧
              ((Value.int IntKind.i64 ((S.nd i).value)) = (Value.int IntKind.i64 ((S.nd i).value))) ∧
              ((Value.int IntKind.u32 ((S.nd i).left)) = (Value.int IntKind.u32 ((S.nd i).left))) ∧
              ((Value.int IntKind.u32 ((S.nd i).right)) = (Value.int IntKind.u32 ((S.nd i).right))) ∧
              ((Value.int IntKind.i64 ((S.nd i).size)) = (Value.int IntKind.i64 ((S.nd i).size))) ∧
              ((Value.int IntKind.i64 ((S.nd i).sum)) = (Value.int IntKind.i64 ((S.nd i).sum))) ∧
              ((Value.int IntKind.i64 ((S.nd i).min)) = (Value.int IntKind.i64 ((S.nd i).min))) ∧
              ((Value.int IntKind.i64 ((S.nd i).max)) = (Value.int IntKind.i64 ((S.nd i).max))) ∧
              True) ∧
              True)))) ∧
          (∀ x1 : XSt P2,
            (True →
            (brS (decide ((S.nd i).key < hi))
              ((∃ hs : List Int,
                (∃ t : Tr,
                  ((Wf x1.S hs) ∧
                  (Rep x1.S t (S.nd i).right) ∧
                  (t.size < n) ∧
                  (t.size ≤ 1000000) ∧
                  (x1.out.length + t.size ≤ 3000000) ∧
                  (x1.S.reads + (↑t.size : Int) ≤ 3000000000000000000) ∧
                  (∀ S'1 : Arn,
                    (∀ out' : List Ent,
                      (((S'1) = (rdS x1.S (lk t lo hi (room lim x1.out)).snd)) →
                      (((out') = (x1.out ++ (lk t lo hi (room lim x1.out)).fst)) →
                      (K (SV.tup []) [(Chunk.box [(At.ptr 1 0), (At.slc 2), (At.val (Value.int IntKind.i64 (lim)))]), (Chunk.box [(At.ptr 3 0), (At.slc 4), (At.slc 5), (At.val (Value.int IntKind.u64 (S'1.reads)))]), (Chunk.row true (EC.ent) (out')), (Chunk.box [(At.slc 6), (At.slc 7), (At.slc 8), (At.val (Value.int IntKind.u32 (S'1.fresh)))]), (Chunk.row true (EC.node) (S'1.nodes)), (Chunk.row true (EC.int) (S'1.counts)), (Chunk.row true (EC.bool) (S'1.used)), (Chunk.row true (EC.u32) (S'1.gen)), (Chunk.row true (EC.u32) (S'1.rel))] [0, 1, 2])))))))))
              ((K (SV.tup []) [(Chunk.box [(At.ptr 1 0), (At.slc 2), (At.val (Value.int IntKind.i64 (lim)))]), (Chunk.box [(At.ptr 3 0), (At.slc 4), (At.slc 5), (At.val (Value.int IntKind.u64 (x1.S.reads)))]), (Chunk.row true (EC.ent) (x1.out)), (Chunk.box [(At.slc 6), (At.slc 7), (At.slc 8), (At.val (Value.int IntKind.u32 (x1.S.fresh)))]), (Chunk.row true (EC.node) (x1.S.nodes)), (Chunk.row true (EC.int) (x1.S.counts)), (Chunk.row true (EC.bool) (x1.S.used)), (Chunk.row true (EC.u32) (x1.S.gen)), (Chunk.row true (EC.u32) (x1.S.rel))] [0, 1, 2])))))))))))))))))) = _ by kernel_rfl) ?_
  subst hP1 hP2
  rw [bytes_ent]
  cases t with
  | nil =>
    have e : i = 0 := hr
    subst e
    exact brS_of (fun _ => h S out (by simp [lk, rdS_zero]) (by simp [lk])) fun c => by simp at c
  | node l k v r =>
    obtain ⟨r1, r2, r3, r4, r5⟩ := hr
    have hp := hw.pos r1
    have hn2 := hw.n2
    have hrd := hw.rds
    have hsz : l.size + r.size + 1 = (Tr.node l k v r).size := by simp [Tr.size]; omega
    refine brS_of (fun c => ?_) fun _ => brS_of (fun c => ?_) fun c => ⟨inU_of hw (.inr r1), ⟨_, hw⟩, by omega, fun S1 e1 => brS_of (fun d => ?_) fun _ => ?_⟩
    · have : i = 0 := by simpa using c
      omega
    · have c : lim ≤ (out.length : Int) := of_decide_eq_true c
      have e : room lim out = 0 := by unfold room; omega
      exact h S out (by rw [e]; simp [lk, rdS_zero]) (by rw [e]; simp [lk])
    · rw [r1] at d; cases d
    · have c : ¬ lim ≤ (out.length : Int) := of_decide_eq_false c
      have hrm : room lim out ≠ 0 := by unfold room; omega
      rw [r1] at e1
      have e1 : S1 = rdS S 1 := e1
      have hw1 : Wf S1 hs := by rw [e1]; exact hw.rd (by omega)
      have hl := lk_len l lo hi (room lim out)
      rw [r2, r3]
      refine ⟨brS_of (fun d => ?_) fun d => ?_, fun x _ => ?_⟩
      · have d : lo < k := of_decide_eq_true d
        refine ⟨hs, l, hw1, by rw [e1]; exact rep_rd r4 1, by omega, by omega, by omega, by rw [e1]; show S.reads + ((1 : Nat) : Int) + _ ≤ _; omega, fun S2 o2 e2 e3 => ⟨⟨S2, o2, ?_⟩, ?_⟩⟩
        · rw [e2, e1, rdS_rdS]
          simp only [lkA, if_pos d]
          exact ⟨trivial, e3⟩
        · (repeat' first | exact trivial | exact rfl | refine And.intro ?_ ?_)
      · have d : ¬ lo < k := of_decide_eq_false d
        refine ⟨⟨S1, out, ?_⟩, ?_⟩
        · simp only [lkA, if_neg d]
          exact ⟨e1, by simp⟩
        · (repeat' first | exact trivial | exact rfl | refine And.intro ?_ ?_)
      · obtain ⟨x1, x2⟩ := x.h
        have la : (lkA (.node l k v r) lo hi (room lim out)).1.length ≤ l.size ∧ (lkA (.node l k v r) lo hi (room lim out)).2 ≤ l.size := by
          simp only [lkA]; split
          · exact ⟨hl.2.1, hl.2.2⟩
          · simp
        have hxl : x.out.length = out.length + (lkA (.node l k v r) lo hi (room lim out)).1.length := by rw [x2, List.length_append]
        have lb : lkB (.node l k v r) lo hi (room lim out) = if lo ≤ k ∧ k ≤ hi ∧ (lkA (.node l k v r) lo hi (room lim out)).1.length < room lim out then [(k, v)] else [] := rfl
        have hroom : (lkA (.node l k v r) lo hi (room lim out)).1.length < room lim out ↔ ¬ lim ≤ (x.out.length : Int) := by
          have e0 : room lim out = (lim - out.length).toNat := rfl
          omega
        refine ⟨brS_of (fun d1 => brS_of (fun d2 => brS_of (fun d3 => ⟨⟨by simp; omega, ⟨x.S, x.out ++ [(k, v)], ?_⟩, ?_⟩, by simp; omega, ⟨x.S, x.out ++ [(k, v)], ?_⟩, ?_⟩) fun d3 => ⟨⟨x.S, x.out, ?_⟩, ?_⟩) fun d2 => ⟨⟨x.S, x.out, ?_⟩, ?_⟩) fun d1 => ⟨⟨x.S, x.out, ?_⟩, ?_⟩, fun y _ => ?fin⟩
        case fin =>
          obtain ⟨y1, y2⟩ := y.h
          have lb1 : (lkB (.node l k v r) lo hi (room lim out)).length ≤ 1 := by rw [lb]; split <;> simp
          have hyl : y.out.length = out.length + ((lkA (.node l k v r) lo hi (room lim out)).1.length + (lkB (.node l k v r) lo hi (room lim out)).length) := by rw [y2]; simp
          have hwy : Wf y.S hs := by rw [y1]; exact hw.rd (by omega)
          have hry : room lim y.out = room lim out - ((lkA (.node l k v r) lo hi (room lim out)).1.length + (lkB (.node l k v r) lo hi (room lim out)).length) := by
            have e0 : room lim out = (lim - out.length).toNat := rfl
            have e1 : room lim y.out = (lim - y.out.length).toNat := rfl
            omega
          have hlk : lk (.node l k v r) lo hi (room lim out) = ((lkA (.node l k v r) lo hi (room lim out)).1 ++ (lkB (.node l k v r) lo hi (room lim out) ++ (if k < hi then lk r lo hi (room lim y.out) else ([], 0)).1), 1 + (lkA (.node l k v r) lo hi (room lim out)).2 + (if k < hi then lk r lo hi (room lim y.out) else ([], 0)).2) := by
            rw [hry]
            simp only [lk, if_neg hrm, lkA, lkB]
            rfl
          rw [hlk] at h
          refine brS_of (fun d => ?_) fun d => ?_
          · have d : k < hi := of_decide_eq_true d
            rw [if_pos d] at h
            refine ⟨hs, r, hwy, by rw [y1]; exact rep_rd r5 _, by omega, by omega, by omega, by rw [y1]; show S.reads + ((1 + (lkA (.node l k v r) lo hi (room lim out)).2 : Nat) : Int) + _ ≤ _; omega, fun S2 o2 e2 e3 => h S2 o2 ?_ ?_⟩
            · rw [e2, y1, rdS_rdS]
            · rw [e3, y2]; simp
          · have d : ¬ k < hi := of_decide_eq_false d
            rw [if_neg d] at h
            exact h y.S y.out (by rw [y1]; rfl) (by rw [y2]; simp)
        all_goals first
          | ((repeat' first | exact trivial | exact rfl | refine And.intro ?_ ?_); done)
          | (refine ⟨x1, ?_⟩
             rw [x2, lb]
             first
               | (rw [if_pos ⟨of_decide_eq_true d1, of_decide_eq_true d2, hroom.2 (by simpa using d3)⟩, List.append_assoc]; done)
               | (rw [if_neg (fun q => absurd (of_decide_eq_false d1) (by simpa using q.1))]; simp; done)
               | (rw [if_neg (fun q => absurd (of_decide_eq_false d2) (by simpa using q.2.1))]; simp; done)
               | (rw [if_neg (fun q => absurd (hroom.1 q.2.2) (by simpa using d3))]; simp; done))
theorem s_lk : ∀ n, SoundT C0 101 (tLk n) := by
  intro n
  induction n with
  | zero =>
    refine .of Try.func101 (by decide) rfl fun args H K h hB => ?_
    exfalso
    unfold tLk at h
    split at h <;> try exact h.elim
    unfold lsM at h
    split at h <;> try exact h.elim
    obtain ⟨_, _, _, _, h1, _⟩ := h
    omega
  | succ n ih =>
    refine .ofW [0, 1, 2] Try.func101 (by decide) rfl fun args H K h hB => ?_
    unfold tLk at h
    split at h <;> try exact h.elim
    unfold lsM at h
    split at h <;> try exact h.elim
    rename_i i lo hi _ lim rd out fr nd ct us gn rl
    obtain ⟨hs, t, h1, h2, h3, h4, h5, h6, h7⟩ := h
    refine ⟨_, ?_, vc_lk n lim ⟨us, gn, rl, fr, nd, ct, rd⟩ out i lo hi K hs t h1 h2 h3 h4 h5 h6 h7⟩
    exact ⟨frame C0.ok s_full _, frame C0.ok s_node _, frame C0.ok ih _, trivial⟩
def plS (t : Tr) : Int := match t with
  | .nil => 0
  | .node l _ _ _ => l.size
def plA (t : Tr) (x y : Int) : List Ent × Nat := match t with
  | .nil => ([], 0)
  | .node l _ _ _ => if x < (l.size : Int) then pl l x (if (l.size : Int) < y then (l.size : Int) else y) else ([], 0)
def plB (t : Tr) (x y : Int) : List Ent := match t with
  | .nil => []
  | .node l k v _ => if x ≤ (l.size : Int) ∧ (l.size : Int) < y then [(k, v)] else []
theorem us_toNat {S : Arn} {hs : List Int} (hw : Wf S hs) {t : Tr} {i : Int} (hr : Rep S t i) : (S.us i).toNat = ne0 t := by
  cases t with
  | nil => have e : i = 0 := hr; rw [e, hw.us0 (Int.le_refl 0)]; rfl
  | node l k v r => rw [hr.1]; rfl
theorem vc_pl (n : Nat) (lim : Int) (S : Arn) (out : List Ent) (i x y : Int) (K : KT) (hs : List Int) (t : Tr) (hw : Wf S hs) (hr : Rep S t i) (h1 : t.size < n + 1) (h2 : t.size ≤ 1000000) (h3 : out.length + t.size ≤ 3000000) (h4 : S.reads + 2 * t.size ≤ 3000000000000000000)
    (hx : 0 ≤ x) (hy : y ≤ t.size) (h : ∀ S' out', S' = rdS S (pl t x y).2 → out' = out ++ (pl t x y).1 → K (.tup []) (chL lim S' out') [0, 1, 2]) :
    vc C0 (aPl n lim (plS t) (S.nd i) (fun S1 o1 => S1 = rdS S (1 + (S.us (S.nd i).left).toNat) ∧ o1 = out) (fun S1 o1 => S1 = rdS S (1 + (S.us (S.nd i).left).toNat + (plA t x y).2) ∧ o1 = out ++ (plA t x y).1) (fun S1 o1 => S1 = rdS S (1 + (S.us (S.nd i).left).toNat + (plA t x y).2) ∧ o1 = out ++ ((plA t x y).1 ++ plB t x y)))
      Try.f103 [.at (.ptr 0 0), .at (vU i), .at (vI x), .at (vI y)] (chL lim S out) (normK 9 (wideK [0, 1, 2] K)) := by
  generalize hP0 : (fun S1 o1 => S1 = rdS S (1 + (S.us (S.nd i).left).toNat) ∧ o1 = out) = P0
  generalize hP1 : (fun S1 o1 => S1 = rdS S (1 + (S.us (S.nd i).left).toNat + (plA t x y).2) ∧ o1 = out ++ (plA t x y).1) = P1
  generalize hP2 : (fun S1 o1 => S1 = rdS S (1 + (S.us (S.nd i).left).toNat + (plA t x y).2) ∧ o1 = out ++ ((plA t x y).1 ++ plB t x y)) = P2
  generalize hs0 : plS t = s
  refine Eq.mp (show (brS (i == 0)
  ((K (SV.tup []) [(Chunk.box [(At.ptr 1 0), (At.slc 2), (At.val (Value.int IntKind.i64 (lim)))]), (Chunk.box [(At.ptr 3 0), (At.slc 4), (At.slc 5), (At.val (Value.int IntKind.u64 (S.reads)))]), (Chunk.row true (EC.ent) (out)), (Chunk.box [(At.slc 6), (At.slc 7), (At.slc 8), (At.val (Value.int IntKind.u32 (S.fresh)))]), (Chunk.row true (EC.node) (S.nodes)), (Chunk.row true (EC.int) (S.counts)), (Chunk.row true (EC.bool) (S.used)), (Chunk.row true (EC.u32) (S.gen)), (Chunk.row true (EC.u32) (S.rel))] [0, 1, 2]))
  ((brS (decide (x ≥ y))
    ((K (SV.tup []) [(Chunk.box [(At.ptr 1 0), (At.slc 2), (At.val (Value.int IntKind.i64 (lim)))]), (Chunk.box [(At.ptr 3 0), (At.slc 4), (At.slc 5), (At.val (Value.int IntKind.u64 (S.reads)))]), (Chunk.row true (EC.ent) (out)), (Chunk.box [(At.slc 6), (At.slc 7), (At.slc 8), (At.val (Value.int IntKind.u32 (S.fresh)))]), (Chunk.row true (EC.node) (S.nodes)), (Chunk.row true (EC.int) (S.counts)), (Chunk.row true (EC.bool) (S.used)), (Chunk.row true (EC.u32) (S.gen)), (Chunk.row true (EC.u32) (S.rel))] [0, 1, 2]))
    (((inU i) ∧
    (exW S) ∧
    (S.reads < 4000000000000000000) ∧
    (∀ S' : Arn,
      (((S') = (rdS S (S.us i).toNat)) →
      (brS (!S.us i)
        ((K (SV.tup []) [(Chunk.box [(At.ptr 1 0), (At.slc 2), (At.val (Value.int IntKind.i64 (lim)))]), (Chunk.box [(At.ptr 3 0), (At.slc 4), (At.slc 5), (At.val (Value.int IntKind.u64 (S'.reads)))]), (Chunk.row true (EC.ent) (out)), (Chunk.box [(At.slc 6), (At.slc 7), (At.slc 8), (At.val (Value.int IntKind.u32 (S'.fresh)))]), (Chunk.row true (EC.node) (S'.nodes)), (Chunk.row true (EC.int) (S'.counts)), (Chunk.row true (EC.bool) (S'.used)), (Chunk.row true (EC.u32) (S'.gen)), (Chunk.row true (EC.u32) (S'.rel))] [0, 1, 2]))
        (((((inU (S.nd i).left) ∧
        (exW S') ∧
        (S'.reads < 4000000000000000000) ∧
        (∀ S'1 : Arn,
          (((S'1) = (rdS S' (S'.us (S.nd i).left).toNat)) →
          (∃ x1 : XSt P0,
            (True ∧
            (True ∧
            ((Value.int IntKind.i64 (x)) = (Value.int IntKind.i64 (x))) ∧
            ((Value.int IntKind.i64 (y)) = (Value.int IntKind.i64 (y))) ∧
            True ∧
            ((Value.int IntKind.i64 ((S'.nd (S.nd i).left).size)) = (Value.int IntKind.i64 (s))) ∧
            True) ∧
            (True ∧
            True ∧
            ((Value.int IntKind.i64 (lim)) = (Value.int IntKind.i64 (lim))) ∧
            True) ∧
            (True ∧
            True ∧
            True ∧
            ((Value.int IntKind.u64 (S'1.reads)) = (Value.int IntKind.u64 (x1.S.reads))) ∧
            True) ∧
            ((out) = (x1.out)) ∧
            (True ∧
            True ∧
            True ∧
            ((Value.int IntKind.u32 (S'1.fresh)) = (Value.int IntKind.u32 (x1.S.fresh))) ∧
            True) ∧
            ((S'1.nodes) = (x1.S.nodes)) ∧
            ((S'1.counts) = (x1.S.counts)) ∧
            ((S'1.used) = (x1.S.used)) ∧
            ((S'1.gen) = (x1.S.gen)) ∧
            ((S'1.rel) = (x1.S.rel)) ∧
            (((Value.int IntKind.i64 ((S.nd i).key)) = (Value.int IntKind.i64 ((S.nd i).key))) ∧
            ((Value.int IntKind.i64 ((S.nd i).value)) = (Value.int IntKind.i64 ((S.nd i).value))) ∧
            ((Value.int IntKind.u32 ((S.nd i).left)) = (Value.int IntKind.u32 ((S.nd i).left))) ∧
            ((Value.int IntKind.u32 ((S.nd i).right)) = (Value.int IntKind.u32 ((S.nd i).right))) ∧
            ((Value.int IntKind.i64 ((S.nd i).size)) = (Value.int IntKind.i64 ((S.nd i).size))) ∧
            ((Value.int IntKind.i64 ((S.nd i).sum)) = (Value.int IntKind.i64 ((S.nd i).sum))) ∧
            ((Value.int IntKind.i64 ((S.nd i).min)) = (Value.int IntKind.i64 ((S.nd i).min))) ∧
            ((Value.int IntKind.i64 ((S.nd i).max)) = (Value.int IntKind.i64 ((S.nd i).max))) ∧
            True) ∧
            True))))) ∧
        (inU (S.nd i).left) ∧
        (exW S') ∧
        (S'.reads < 4000000000000000000) ∧
        (∀ S'1 : Arn,
          (((S'1) = (rdS S' (S'.us (S.nd i).left).toNat)) →
          (∃ x1 : XSt P0,
            (True ∧
            (True ∧
            ((Value.int IntKind.i64 (x)) = (Value.int IntKind.i64 (x))) ∧
            ((Value.int IntKind.i64 (y)) = (Value.int IntKind.i64 (y))) ∧
            True ∧
            ((Value.int IntKind.i64 ((S'.nd (S.nd i).left).size)) = (Value.int IntKind.i64 (s))) ∧
            True) ∧
            (True ∧
            True ∧
            ((Value.int IntKind.i64 (lim)) = (Value.int IntKind.i64 (lim))) ∧
            True) ∧
            (True ∧
            True ∧
            True ∧
            ((Value.int IntKind.u64 (S'1.reads)) = (Value.int IntKind.u64 (x1.S.reads))) ∧
            True) ∧
            ((out) = (x1.out)) ∧
            (True ∧
            True ∧
            True ∧
            ((Value.int IntKind.u32 (S'1.fresh)) = (Value.int IntKind.u32 (x1.S.fresh))) ∧
            True) ∧
            ((S'1.nodes) = (x1.S.nodes)) ∧
            ((S'1.counts) = (x1.S.counts)) ∧
            ((S'1.used) = (x1.S.used)) ∧
            ((S'1.gen) = (x1.S.gen)) ∧
            ((S'1.rel) = (x1.S.rel)) ∧
            (((Value.int IntKind.i64 ((S.nd i).key)) = (Value.int IntKind.i64 ((S.nd i).key))) ∧
            ((Value.int IntKind.i64 ((S.nd i).value)) = (Value.int IntKind.i64 ((S.nd i).value))) ∧
            ((Value.int IntKind.u32 ((S.nd i).left)) = (Value.int IntKind.u32 ((S.nd i).left))) ∧
            ((Value.int IntKind.u32 ((S.nd i).right)) = (Value.int IntKind.u32 ((S.nd i).right))) ∧
            ((Value.int IntKind.i64 ((S.nd i).size)) = (Value.int IntKind.i64 ((S.nd i).size))) ∧
            ((Value.int IntKind.i64 ((S.nd i).sum)) = (Value.int IntKind.i64 ((S.nd i).sum))) ∧
            ((Value.int IntKind.i64 ((S.nd i).min)) = (Value.int IntKind.i64 ((S.nd i).min))) ∧
            ((Value.int IntKind.i64 ((S.nd i).max)) = (Value.int IntKind.i64 ((S.nd i).max))) ∧
            True) ∧
            True))))) ∧
        (∀ x1 : XSt P0,
          (True →
          ((brS (decide (x < s))
            ((∃ hs : List Int,
              (∃ t : Tr,
                ((Wf x1.S hs) ∧
                (Rep x1.S t (S.nd i).left) ∧
                (t.size < n) ∧
                (t.size ≤ 1000000) ∧
                (x1.out.length + t.size ≤ 3000000) ∧
                (x1.S.reads + 2 * (↑t.size : Int) ≤ 3000000000000000000) ∧
                (0 ≤ x) ∧
                ((if s < y then s else y) ≤ (↑t.size : Int)) ∧
                (∀ S'1 : Arn,
                  (∀ out' : List Ent,
                    (((S'1) = (rdS x1.S (pl t x (if s < y then s else y)).snd)) →
                    (((out') = (x1.out ++ (pl t x (if s < y then s else y)).fst)) →
                    (∃ x2 : XSt P1,
                      (True ∧
                      (True ∧
                      ((Value.int IntKind.i64 (x)) = (Value.int IntKind.i64 (x))) ∧
                      ((Value.int IntKind.i64 (y)) = (Value.int IntKind.i64 (y))) ∧
                      True ∧
                      ((Value.int IntKind.i64 (s)) = (Value.int IntKind.i64 (s))) ∧
                      True) ∧
                      (True ∧
                      True ∧
                      ((Value.int IntKind.i64 (lim)) = (Value.int IntKind.i64 (lim))) ∧
                      True) ∧
                      (True ∧
                      True ∧
                      True ∧
                      ((Value.int IntKind.u64 (S'1.reads)) = (Value.int IntKind.u64 (x2.S.reads))) ∧
                      True) ∧
                      ((out') = (x2.out)) ∧
                      (True ∧
                      True ∧
                      True ∧
                      ((Value.int IntKind.u32 (S'1.fresh)) = (Value.int IntKind.u32 (x2.S.fresh))) ∧
                      True) ∧
                      ((S'1.nodes) = (x2.S.nodes)) ∧
                      ((S'1.counts) = (x2.S.counts)) ∧
                      ((S'1.used) = (x2.S.used)) ∧
                      ((S'1.gen) = (x2.S.gen)) ∧
                      ((S'1.rel) = (x2.S.rel)) ∧
                      (((Value.int IntKind.i64 ((S.nd i).key)) = (Value.int IntKind.i64 ((S.nd i).key))) ∧
                      ((Value.int IntKind.i64 ((S.nd i).value)) = (Value.int IntKind.i64 ((S.nd i).value))) ∧
                      ((Value.int IntKind.u32 ((S.nd i).left)) = (Value.int IntKind.u32 ((S.nd i).left))) ∧
                      ((Value.int IntKind.u32 ((S.nd i).right)) = (Value.int IntKind.u32 ((S.nd i).right))) ∧
                      ((Value.int IntKind.i64 ((S.nd i).size)) = (Value.int IntKind.i64 ((S.nd i).size))) ∧
                      ((Value.int IntKind.i64 ((S.nd i).sum)) = (Value.int IntKind.i64 ((S.nd i).sum))) ∧
                      ((Value.int IntKind.i64 ((S.nd i).min)) = (Value.int IntKind.i64 ((S.nd i).min))) ∧
                      ((Value.int IntKind.i64 ((S.nd i).max)) = (Value.int IntKind.i64 ((S.nd i).max))) ∧
                      True) ∧
                      True))))))))))
            ((∃ x2 : XSt P1,
              (True ∧
              (True ∧
              ((Value.int IntKind.i64 (x)) = (Value.int IntKind.i64 (x))) ∧
              ((Value.int IntKind.i64 (y)) = (Value.int IntKind.i64 (y))) ∧
              True ∧
              ((Value.int IntKind.i64 (s)) = (Value.int IntKind.i64 (s))) ∧
              True) ∧
              (True ∧
              True ∧
              ((Value.int IntKind.i64 (lim)) = (Value.int IntKind.i64 (lim))) ∧
              True) ∧
              (True ∧
              True ∧
              True ∧
              ((Value.int IntKind.u64 (x1.S.reads)) = (Value.int IntKind.u64 (x2.S.reads))) ∧
              True) ∧
              ((x1.out) = (x2.out)) ∧
              (True ∧
              True ∧
              True ∧
              ((Value.int IntKind.u32 (x1.S.fresh)) = (Value.int IntKind.u32 (x2.S.fresh))) ∧
              True) ∧
              ((x1.S.nodes) = (x2.S.nodes)) ∧
              ((x1.S.counts) = (x2.S.counts)) ∧
              ((x1.S.used) = (x2.S.used)) ∧
              ((x1.S.gen) = (x2.S.gen)) ∧
              ((x1.S.rel) = (x2.S.rel)) ∧
              (((Value.int IntKind.i64 ((S.nd i).key)) = (Value.int IntKind.i64 ((S.nd i).key))) ∧
              ((Value.int IntKind.i64 ((S.nd i).value)) = (Value.int IntKind.i64 ((S.nd i).value))) ∧
              ((Value.int IntKind.u32 ((S.nd i).left)) = (Value.int IntKind.u32 ((S.nd i).left))) ∧
              ((Value.int IntKind.u32 ((S.nd i).right)) = (Value.int IntKind.u32 ((S.nd i).right))) ∧
              ((Value.int IntKind.i64 ((S.nd i).size)) = (Value.int IntKind.i64 ((S.nd i).size))) ∧
              ((Value.int IntKind.i64 ((S.nd i).sum)) = (Value.int IntKind.i64 ((S.nd i).sum))) ∧
              ((Value.int IntKind.i64 ((S.nd i).min)) = (Value.int IntKind.i64 ((S.nd i).min))) ∧
              ((Value.int IntKind.i64 ((S.nd i).max)) = (Value.int IntKind.i64 ((S.nd i).max))) ∧
              True) ∧
              True)))) ∧
          (∀ x2 : XSt P1,
            (True →
            ((brS (decide (x ≤ s))
              ((brS (decide (s < y))
                (((((x2.out.length + [((S.nd i).key, (S.nd i).value)].length) * bytesOf C0 EC.ent ≤ 140737488355328) ∧
                (∃ x3 : XSt P2,
                  (True ∧
                  (True ∧
                  ((Value.int IntKind.i64 (x)) = (Value.int IntKind.i64 (x))) ∧
                  ((Value.int IntKind.i64 (y)) = (Value.int IntKind.i64 (y))) ∧
                  True ∧
                  ((Value.int IntKind.i64 (s)) = (Value.int IntKind.i64 (s))) ∧
                  True) ∧
                  (True ∧
                  True ∧
                  ((Value.int IntKind.i64 (lim)) = (Value.int IntKind.i64 (lim))) ∧
                  True) ∧
                  (True ∧
                  True ∧
                  True ∧
                  ((Value.int IntKind.u64 (x2.S.reads)) = (Value.int IntKind.u64 (x3.S.reads))) ∧
                  True) ∧
                  ((x2.out ++ [((S.nd i).key, (S.nd i).value)]) = (x3.out)) ∧
                  (True ∧
                  True ∧
                  True ∧
                  ((Value.int IntKind.u32 (x2.S.fresh)) = (Value.int IntKind.u32 (x3.S.fresh))) ∧
                  True) ∧
                  ((x2.S.nodes) = (x3.S.nodes)) ∧
                  ((x2.S.counts) = (x3.S.counts)) ∧
                  ((x2.S.used) = (x3.S.used)) ∧
                  ((x2.S.gen) = (x3.S.gen)) ∧
                  ((x2.S.rel) = (x3.S.rel)) ∧
                  (((Value.int IntKind.i64 ((S.nd i).key)) = (Value.int IntKind.i64 ((S.nd i).key))) ∧
                  ((Value.int IntKind.i64 ((S.nd i).value)) = (Value.int IntKind.i64 ((S.nd i).value))) ∧
                  ((Value.int IntKind.u32 ((S.nd i).left)) = (Value.int IntKind.u32 ((S.nd i).left))) ∧
                  ((Value.int IntKind.u32 ((S.nd i).right)) = (Value.int IntKind.u32 ((S.nd i).right))) ∧
                  ((Value.int IntKind.i64 ((S.nd i).size)) = (Value.int IntKind.i64 ((S.nd i).size))) ∧
                  ((Value.int IntKind.i64 ((S.nd i).sum)) = (Value.int IntKind.i64 ((S.nd i).sum))) ∧
                  ((Value.int IntKind.i64 ((S.nd i).min)) = (Value.int IntKind.i64 ((S.nd i).min))) ∧
                  ((Value.int IntKind.i64 ((S.nd i).max)) = (Value.int IntKind.i64 ((S.nd i).max))) ∧
                  True) ∧
                  True))) ∧
                ((x2.out.length + [((S.nd i).key, (S.nd i).value)].length) * bytesOf C0 EC.ent ≤ 140737488355328) ∧
                (∃ x3 : XSt P2,
                  (True ∧
                  (True ∧
                  ((Value.int IntKind.i64 (x)) = (Value.int IntKind.i64 (x))) ∧
                  ((Value.int IntKind.i64 (y)) = (Value.int IntKind.i64 (y))) ∧
                  True ∧
                  ((Value.int IntKind.i64 (s)) = (Value.int IntKind.i64 (s))) ∧
                  True) ∧
                  (True ∧
                  True ∧
                  ((Value.int IntKind.i64 (lim)) = (Value.int IntKind.i64 (lim))) ∧
                  True) ∧
                  (True ∧
                  True ∧
                  True ∧
                  ((Value.int IntKind.u64 (x2.S.reads)) = (Value.int IntKind.u64 (x3.S.reads))) ∧
                  True) ∧
                  ((x2.out ++ [((S.nd i).key, (S.nd i).value)]) = (x3.out)) ∧
                  (True ∧
                  True ∧
                  True ∧
                  ((Value.int IntKind.u32 (x2.S.fresh)) = (Value.int IntKind.u32 (x3.S.fresh))) ∧
                  True) ∧
                  ((x2.S.nodes) = (x3.S.nodes)) ∧
                  ((x2.S.counts) = (x3.S.counts)) ∧
                  ((x2.S.used) = (x3.S.used)) ∧
                  ((x2.S.gen) = (x3.S.gen)) ∧
                  ((x2.S.rel) = (x3.S.rel)) ∧
                  (((Value.int IntKind.i64 ((S.nd i).key)) = (Value.int IntKind.i64 ((S.nd i).key))) ∧
                  ((Value.int IntKind.i64 ((S.nd i).value)) = (Value.int IntKind.i64 ((S.nd i).value))) ∧
                  ((Value.int IntKind.u32 ((S.nd i).left)) = (Value.int IntKind.u32 ((S.nd i).left))) ∧
                  ((Value.int IntKind.u32 ((S.nd i).right)) = (Value.int IntKind.u32 ((S.nd i).right))) ∧
                  ((Value.int IntKind.i64 ((S.nd i).size)) = (Value.int IntKind.i64 ((S.nd i).size))) ∧
                  ((Value.int IntKind.i64 ((S.nd i).sum)) = (Value.int IntKind.i64 ((S.nd i).sum))) ∧
                  ((Value.int IntKind.i64 ((S.nd i).min)) = (Value.int IntKind.i64 ((S.nd i).min))) ∧
                  ((Value.int IntKind.i64 ((S.nd i).max)) = (Value.int IntKind.i64 ((S.nd i).max))) ∧
                  True) ∧
                  True))))
                ((∃ x3 : XSt P2,
                  (True ∧
                  (True ∧
                  ((Value.int IntKind.i64 (x)) = (Value.int IntKind.i64 (x))) ∧
                  ((Value.int IntKind.i64 (y)) = (Value.int IntKind.i64 (y))) ∧
                  True ∧
                  ((Value.int IntKind.i64 (s)) = (Value.int IntKind.i64 (s))) ∧
                  True) ∧
                  (True ∧
                  True ∧
                  ((Value.int IntKind.i64 (lim)) = (Value.int IntKind.i64 (lim))) ∧
                  True) ∧
                  (True ∧
                  True ∧
                  True ∧
                  ((Value.int IntKind.u64 (x2.S.reads)) = (Value.int IntKind.u64 (x3.S.reads))) ∧
                  True) ∧
                  ((x2.out) = (x3.out)) ∧
                  (True ∧
                  True ∧
                  True ∧
                  ((Value.int IntKind.u32 (x2.S.fresh)) = (Value.int IntKind.u32 (x3.S.fresh))) ∧
                  True) ∧
                  ((x2.S.nodes) = (x3.S.nodes)) ∧
                  ((x2.S.counts) = (x3.S.counts)) ∧
                  ((x2.S.used) = (x3.S.used)) ∧
                  ((x2.S.gen) = (x3.S.gen)) ∧
                  ((x2.S.rel) = (x3.S.rel)) ∧
                  (((Value.int IntKind.i64 ((S.nd i).key)) = (Value.int IntKind.i64 ((S.nd i).key))) ∧
                  ((Value.int IntKind.i64 ((S.nd i).value)) = (Value.int IntKind.i64 ((S.nd i).value))) ∧
                  ((Value.int IntKind.u32 ((S.nd i).left)) = (Value.int IntKind.u32 ((S.nd i).left))) ∧
                  ((Value.int IntKind.u32 ((S.nd i).right)) = (Value.int IntKind.u32 ((S.nd i).right))) ∧
                  ((Value.int IntKind.i64 ((S.nd i).size)) = (Value.int IntKind.i64 ((S.nd i).size))) ∧
                  ((Value.int IntKind.i64 ((S.nd i).sum)) = (Value.int IntKind.i64 ((S.nd i).sum))) ∧
                  ((Value.int IntKind.i64 ((S.nd i).min)) = (Value.int IntKind.i64 ((S.nd i).min))) ∧
                  ((Value.int IntKind.i64 ((S.nd i).max)) = (Value.int IntKind.i64 ((S.nd i).max))) ∧
                  True) ∧
                  True)))))
              ((∃ x3 : XSt P2,
                (True ∧
                (True ∧
                ((Value.int IntKind.i64 (x)) = (Value.int IntKind.i64 (x))) ∧
                ((Value.int IntKind.i64 (y)) = (Value.int IntKind.i64 (y))) ∧
                True ∧
                ((Value.int IntKind.i64 (s)) = (Value.int IntKind.i64 (s))) ∧
                True) ∧
                (True ∧
                True ∧
                ((Value.int IntKind.i64 (lim)) = (Value.int IntKind.i64 (lim))) ∧
                True) ∧
                (True ∧
                True ∧
                True ∧
                ((Value.int IntKind.u64 (x2.S.reads)) = (Value.int IntKind.u64 (x3.S.reads))) ∧
                True) ∧
                ((x2.out) = (x3.out)) ∧
                (True ∧
                True ∧
                True ∧
                ((Value.int IntKind.u32 (x2.S.fresh)) = (Value.int IntKind.u32 (x3.S.fresh))) ∧
                True) ∧
                ((x2.S.nodes) = (x3.S.nodes)) ∧
                ((x2.S.counts) = (x3.S.counts)) ∧
                ((x2.S.used) = (x3.S.used)) ∧
                ((x2.S.gen) = (x3.S.gen)) ∧
                ((x2.S.rel) = (x3.S.rel)) ∧
                (((Value.int IntKind.i64 ((S.nd i).key)) = (Value.int IntKind.i64 ((S.nd i).key))) ∧
                ((Value.int IntKind.i64 ((S.nd i).value)) = (Value.int IntKind.i64 ((S.nd i).value))) ∧
                ((Value.int IntKind.u32 ((S.nd i).left)) = (Value.int IntKind.u32 ((S.nd i).left))) ∧
                ((Value.int IntKind.u32 ((S.nd i).right)) = (Value.int IntKind.u32 ((S.nd i).right))) ∧
                ((Value.int IntKind.i64 ((S.nd i).size)) = (Value.int IntKind.i64 ((S.nd i).size))) ∧
                ((Value.int IntKind.i64 ((S.nd i).sum)) = (Value.int IntKind.i64 ((S.nd i).sum))) ∧
                ((Value.int IntKind.i64 ((S.nd i).min)) = (Value.int IntKind.i64 ((S.nd i).min))) ∧
                ((Value.int IntKind.i64 ((S.nd i).max)) = (Value.int IntKind.i64 ((S.nd i).max))) ∧
                True) ∧
                True)))) ∧
            (∀ x3 : XSt P2,
              (True →
              (brS (decide (y > IntKind.i64.wrap (s + 1)))
                ((∃ hs : List Int,
                  (∃ t : Tr,
                    ((Wf x3.S hs) ∧
                    (Rep x3.S t (S.nd i).right) ∧
                    (t.size < n) ∧
                    (t.size ≤ 1000000) ∧
                    (x3.out.length + t.size ≤ 3000000) ∧
                    (x3.S.reads + 2 * (↑t.size : Int) ≤ 3000000000000000000) ∧
                    (0 ≤ if IntKind.i64.wrap (IntKind.i64.wrap (x - s) - 1) > 0 then IntKind.i64.wrap (IntKind.i64.wrap (x - s) - 1) else 0) ∧
                    (IntKind.i64.wrap (IntKind.i64.wrap (y - s) - 1) ≤ (↑t.size : Int)) ∧
                    (∀ S'1 : Arn,
                      (∀ out' : List Ent,
                        (((S'1) = (rdS x3.S (pl t (if IntKind.i64.wrap (IntKind.i64.wrap (x - s) - 1) > 0 then IntKind.i64.wrap (IntKind.i64.wrap (x - s) - 1) else 0) (IntKind.i64.wrap (IntKind.i64.wrap (y - s) - 1))).snd)) →
                        (((out') = (x3.out ++ (pl t (if IntKind.i64.wrap (IntKind.i64.wrap (x - s) - 1) > 0 then IntKind.i64.wrap (IntKind.i64.wrap (x - s) - 1) else 0) (IntKind.i64.wrap (IntKind.i64.wrap (y - s) - 1))).fst)) →
                        (K (SV.tup []) [(Chunk.box [(At.ptr 1 0), (At.slc 2), (At.val (Value.int IntKind.i64 (lim)))]), (Chunk.box [(At.ptr 3 0), (At.slc 4), (At.slc 5), (At.val (Value.int IntKind.u64 (S'1.reads)))]), (Chunk.row true (EC.ent) (out')), (Chunk.box [(At.slc 6), (At.slc 7), (At.slc 8), (At.val (Value.int IntKind.u32 (S'1.fresh)))]), (Chunk.row true (EC.node) (S'1.nodes)), (Chunk.row true (EC.int) (S'1.counts)), (Chunk.row true (EC.bool) (S'1.used)), (Chunk.row true (EC.u32) (S'1.gen)), (Chunk.row true (EC.u32) (S'1.rel))] [0, 1, 2])))))))))
                ((K (SV.tup []) [(Chunk.box [(At.ptr 1 0), (At.slc 2), (At.val (Value.int IntKind.i64 (lim)))]), (Chunk.box [(At.ptr 3 0), (At.slc 4), (At.slc 5), (At.val (Value.int IntKind.u64 (x3.S.reads)))]), (Chunk.row true (EC.ent) (x3.out)), (Chunk.box [(At.slc 6), (At.slc 7), (At.slc 8), (At.val (Value.int IntKind.u32 (x3.S.fresh)))]), (Chunk.row true (EC.node) (x3.S.nodes)), (Chunk.row true (EC.int) (x3.S.counts)), (Chunk.row true (EC.bool) (x3.S.used)), (Chunk.row true (EC.u32) (x3.S.gen)), (Chunk.row true (EC.u32) (x3.S.rel))] [0, 1, 2]))))))))))))))))))))) = _ by kernel_rfl) ?_
  subst hP0 hP1 hP2
  rw [bytes_ent]
  cases t with
  | nil =>
    have e : i = 0 := hr
    subst e
    exact brS_of (fun _ => h S out (by simp [pl, rdS_zero]) (by simp [pl])) fun c => by simp at c
  | node l k v r =>
    obtain ⟨r1, r2, r3, r4, r5⟩ := hr
    have hs0 : (l.size : Int) = s := hs0
    have hp := hw.pos r1
    have hn2 := hw.n2
    have hrd := hw.rds
    have hsz : l.size + r.size + 1 = (Tr.node l k v r).size := by simp [Tr.size]; omega
    have hus := us_toNat hw r4
    have hue : (S.us (S.nd i).left).toNat ≤ 1 ∧ (S.us (S.nd i).left).toNat ≤ l.size := by rw [hus]; cases l <;> simp [Tr.size, ne0]; omega
    have hsl : (S.nd (S.nd i).left).size = l.size := r4.size hw
    refine brS_of (fun c => ?_) fun _ => brS_of (fun c => ?_) fun c => ⟨inU_of hw (.inr r1), ⟨_, hw⟩, by omega, fun S1 e1 => brS_of (fun d => ?_) fun _ => ?_⟩
    · have : i = 0 := by simpa using c
      omega
    · have c : y ≤ x := of_decide_eq_true c
      exact h S out (by simp [pl, if_pos c, rdS_zero]) (by simp [pl, if_pos c])
    · rw [r1] at d; cases d
    · have c : ¬ y ≤ x := of_decide_eq_false c
      rw [r1] at e1
      have e1 : S1 = rdS S 1 := e1
      have hw1 : Wf S1 hs := by rw [e1]; exact hw.rd (by omega)
      have hpl := pl_len l x (if s < y then s else y)
      have la : (plA (.node l k v r) x y).1.length ≤ l.size ∧ (plA (.node l k v r) x y).2 ≤ 2 * l.size := by
        simp only [plA, hs0]; split
        · exact hpl
        · simp
      have hin : inU (S.nd i).left := inU_of hw (hw.kid i r1).1
      have p0 : ∀ S2, S2 = rdS S1 (S1.us (S.nd i).left).toNat → S2 = rdS S (1 + (S.us (S.nd i).left).toNat) := fun S2 e => by rw [e, e1, rdS_rdS]; rfl
      have h0 : ∀ S2 : Arn, S1.us (S.nd i).left = S.us (S.nd i).left := fun _ => by rw [e1]; rfl
      have h0s : (S1.nd (S.nd i).left).size = s := by rw [e1, ← hs0]; exact hsl
      have hr1 : S1.reads < 4000000000000000000 := by rw [e1]; show S.reads + ((1 : Nat) : Int) < _; omega
      rw [r2, r3]
      refine ⟨⟨⟨hin, ⟨_, hw1⟩, hr1, fun S2 e2 => ⟨⟨S2, out, p0 S2 e2, rfl⟩, ?_⟩⟩, hin, ⟨_, hw1⟩, hr1, fun S2 e2 => ⟨⟨S2, out, p0 S2 e2, rfl⟩, ?_⟩⟩, fun z _ => ⟨brS_of (fun d => ?_) fun d => ?_, fun u _ => ⟨?_, fun w _ => ?_⟩⟩⟩
      case refine_1 | refine_2 =>
        (repeat' first | exact trivial | exact rfl | refine And.intro ?_ ?_)
        all_goals (rw [h0s])
      · obtain ⟨z1, z2⟩ := z.h
        have d : x < s := of_decide_eq_true d
        have hwz : Wf z.S hs := by rw [z1]; exact hw.rd (by omega)
        refine ⟨hs, l, hwz, by rw [z1]; exact rep_rd r4 _, by omega, by omega, by rw [z2]; omega, by rw [z1]; show S.reads + ((1 + (S.us (S.nd i).left).toNat : Nat) : Int) + _ ≤ _; omega, hx, by split <;> omega, fun S2 o2 e2 e3 => ⟨⟨S2, o2, ?_⟩, ?_⟩⟩
        · rw [e2, z1, rdS_rdS, e3, z2]
          simp only [plA, hs0, if_pos d]
          exact ⟨trivial, trivial⟩
        · (repeat' first | exact trivial | exact rfl | refine And.intro ?_ ?_)
      · obtain ⟨z1, z2⟩ := z.h
        have d : ¬ x < s := of_decide_eq_false d
        refine ⟨⟨z.S, z.out, ?_⟩, ?_⟩
        · simp only [plA, hs0, if_neg d]
          exact ⟨z1, by simp [z2]⟩
        · (repeat' first | exact trivial | exact rfl | refine And.intro ?_ ?_)
      · obtain ⟨u1, u2⟩ := u.h
        have hul : u.out.length = out.length + (plA (.node l k v r) x y).1.length := by rw [u2, List.length_append]
        have lb : (plB (.node l k v r) x y) = if x ≤ s ∧ s < y then [(k, v)] else [] := by simp only [plB, hs0]
        refine brS_of (fun d1 => brS_of (fun d2 => ⟨⟨by simp; omega, ⟨u.S, u.out ++ [(k, v)], ?_⟩, ?_⟩, by simp; omega, ⟨u.S, u.out ++ [(k, v)], ?_⟩, ?_⟩) fun d2 => ⟨⟨u.S, u.out, ?_⟩, ?_⟩) fun d1 => ⟨⟨u.S, u.out, ?_⟩, ?_⟩
        all_goals first
          | ((repeat' first | exact trivial | exact rfl | refine And.intro ?_ ?_); done)
          | (refine ⟨u1, ?_⟩
             rw [u2, lb]
             first
               | (rw [if_pos ⟨of_decide_eq_true d1, of_decide_eq_true d2⟩, List.append_assoc]; done)
               | (rw [if_neg (fun q => absurd (of_decide_eq_false d1) (by simpa using q.1))]; simp; done)
               | (rw [if_neg (fun q => absurd (of_decide_eq_false d2) (by simpa using q.2))]; simp; done))
      · obtain ⟨y1, y2⟩ := w.h
        have lb1 : (plB (.node l k v r) x y).length ≤ 1 := by simp only [plB]; split <;> simp
        have hyl : w.out.length = out.length + ((plA (.node l k v r) x y).1.length + (plB (.node l k v r) x y).length) := by rw [y2]; simp
        have hwy : Wf w.S hs := by rw [y1]; exact hw.rd (by omega)
        rw [wrap_id (x := s + 1) (by omega) (by omega), wrap_id (x := x - s) (by omega) (by omega), wrap_id (x := x - s - 1) (by omega) (by omega), wrap_id (x := y - s) (by omega) (by omega), wrap_id (x := y - s - 1) (by omega) (by omega)]
        have hlk : pl (.node l k v r) x y = ((plA (.node l k v r) x y).1 ++ ((plB (.node l k v r) x y) ++ (if s + 1 < y then pl r (if 0 < x - s - 1 then x - s - 1 else 0) (y - s - 1) else ([], 0)).1), 1 + (S.us (S.nd i).left).toNat + (plA (.node l k v r) x y).2 + (if s + 1 < y then pl r (if 0 < x - s - 1 then x - s - 1 else 0) (y - s - 1) else ([], 0)).2) := by
          simp only [pl, if_neg c, plA, plB, hs0, hus]
        rw [hlk] at h
        refine brS_of (fun d => ?_) fun d => ?_
        · have d : s + 1 < y := of_decide_eq_true d
          rw [if_pos d] at h
          refine ⟨hs, r, hwy, by rw [y1]; exact rep_rd r5 _, by omega, by omega, by omega, by rw [y1]; show S.reads + ((1 + (S.us (S.nd i).left).toNat + (plA (.node l k v r) x y).2 : Nat) : Int) + _ ≤ _; omega, by split <;> omega, by omega, fun S2 o2 e2 e3 => h S2 o2 ?_ ?_⟩
          · rw [e2, y1, rdS_rdS]
          · rw [e3, y2]; simp
        · have d : ¬ s + 1 < y := of_decide_eq_false d
          rw [if_neg d] at h
          exact h w.S w.out (by rw [y1]; rfl) (by rw [y2]; simp)
theorem s_pl : ∀ n, SoundT C0 103 (tPl n) := by
  intro n
  induction n with
  | zero =>
    refine .of Try.func103 (by decide) rfl fun args H K h hB => ?_
    exfalso
    unfold tPl at h
    split at h <;> try exact h.elim
    unfold lsM at h
    split at h <;> try exact h.elim
    obtain ⟨_, _, _, _, h1, _⟩ := h
    omega
  | succ n ih =>
    refine .ofW [0, 1, 2] Try.func103 (by decide) rfl fun args H K h hB => ?_
    unfold tPl at h
    split at h <;> try exact h.elim
    unfold lsM at h
    split at h <;> try exact h.elim
    rename_i i x y _ lim rd out fr nd ct us gn rl
    obtain ⟨hs, t, h1, h2, h3, h4, h5, h6, h7, h8, h9⟩ := h
    refine ⟨_, ?_, vc_pl n lim ⟨us, gn, rl, fr, nd, ct, rd⟩ out i x y K hs t h1 h2 h3 h4 h5 h6 h7 h8 h9⟩
    exact ⟨frame C0.ok s_node _, frame C0.ok s_size _, frame C0.ok ih _, trivial⟩
end Go.Proofs.Ytacdmmomkngpkaa.Sx
