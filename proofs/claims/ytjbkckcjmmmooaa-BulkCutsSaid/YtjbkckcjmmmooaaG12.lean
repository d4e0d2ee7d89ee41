/- A part of the proof. -/
import Derived.Test.YtjbkckcjmmmooaaG8
import Derived.Test.YtjbkckcjmmmooaaG5
import Derived.Test.YtjbkckcjmmmooaaG11
import Derived.Test.YtjbkckcjmmmooaaG9
section
/- Range, Slice and List; Build. -/
namespace Go.Proofs.Ytjbkckcjmmmooaa.Sx
open Go

/-KEEP Wf exW inU live Arn.cap Arn.free maxSize mkNode makeS relA nxt NodeR BuildR Rep lk pl rdS Tr.size rangeR sliceR ne0-/
def tLkA : Tfm C0 := fun args H K => match args with
  | [.at (.ptr 0 0), .at (.val (.int .u32 i)), .at (.val (.int .i64 lo)), .at (.val (.int .i64 hi))] => lsM H fun lim S out => ∃ hs t, Wf S hs ∧ Rep S t i ∧ t.size ≤ 1000000 ∧ out.length + t.size ≤ 3000000 ∧ S.reads + t.size ≤ 3000000000000000000 ∧
    ∀ S' out', S' = rdS S (lk t lo hi (room lim out)).2 → out' = out ++ (lk t lo hi (room lim out)).1 → K (.tup []) (chL lim S' out') [0, 1, 2]
  | _ => False
theorem s_lkA : SoundT C0 124 tLkA := (s_lk 1000001).weak fun args H K h => by
  unfold tLkA at h
  unfold tLk
  split at h <;> try exact h.elim
  unfold lsM at h ⊢
  split at h <;> try exact h.elim
  obtain ⟨hs, t, h1, h2, h3, h4⟩ := h
  exact ⟨hs, t, h1, h2, by omega, h3, h4⟩
def tPlA : Tfm C0 := fun args H K => match args with
  | [.at (.ptr 0 0), .at (.val (.int .u32 i)), .at (.val (.int .i64 x)), .at (.val (.int .i64 y))] => lsM H fun lim S out => ∃ hs t, Wf S hs ∧ Rep S t i ∧ t.size ≤ 1000000 ∧ out.length + t.size ≤ 3000000 ∧ S.reads + 2 * t.size ≤ 3000000000000000000 ∧ 0 ≤ x ∧ y ≤ t.size ∧
    ∀ S' out', S' = rdS S (pl t x y).2 → out' = out ++ (pl t x y).1 → K (.tup []) (chL lim S' out') [0, 1, 2]
  | _ => False
def rangeR (t : Tr) (lo hi lim : Int) : List Ent × Nat := if lim ≤ 0 ∨ hi < lo then ([], 0) else lk t lo hi lim.toNat
def sliceR (t : Tr) (x y : Int) : List Ent × Nat := if x < 0 ∨ y < x then ([], 0) else if (t.size : Int) < y then ([], ne0 t) else ((pl t x y).1, ne0 t + (pl t x y).2)
noncomputable def aRange : Ann C0 := { Γ := [(124, frameT [] tLkA)] }
def tRange : Tfm C0 := fun args H K => match args with
  | [.at (.ptr 0 0), .at (.val (.int .u32 i)), .at (.val (.int .i64 lo)), .at (.val (.int .i64 hi)), .at (.val (.int .i64 lim))] => arM H fun S => ∃ hs t, Wf S hs ∧ Rep S t i ∧ t.size ≤ 1000000 ∧ S.reads + t.size ≤ 3000000000000000000 ∧
    ∀ S' (out : List Ent), S' = rdS S (rangeR t lo hi lim).2 → out = (rangeR t lo hi lim).1 → K (.one (.at (.slc 7))) (chS S' ++ [.row true EC.ent out]) [0]
  | _ => False
def tSlice : Tfm C0 := fun args H K => match args with
  | [.at (.ptr 0 0), .at (.val (.int .u32 i)), .at (.val (.int .i64 x)), .at (.val (.int .i64 y))] => arM H fun S => ∃ hs t, Wf S hs ∧ Rep S t i ∧ t.size ≤ 1000000 ∧ S.reads + 2 * t.size ≤ 2000000000000000000 ∧
    ∀ S' (out : List Ent), S' = rdS S (sliceR t x y).2 → out = (sliceR t x y).1 → K (.one (.at (.slc 7))) (chS S' ++ [.row true EC.ent out]) [0]
  | _ => False
noncomputable def aList : Ann C0 := { Γ := [(99, frameT [] tRange)] }
def tList : Tfm C0 := fun args H K => match args with
  | [.at (.ptr 0 0), .at (.val (.int .u32 i))] => arM H fun S => ∃ hs t, Wf S hs ∧ Rep S t i ∧ t.size ≤ 1000000 ∧ S.reads + t.size ≤ 3000000000000000000 ∧
    ∀ S' (out : List Ent), S' = rdS S (rangeR t (-9223372036854775808) 9223372036854775807 2147483647).2 → out = (rangeR t (-9223372036854775808) 9223372036854775807 2147483647).1 → K (.one (.at (.slc 7))) (chS S' ++ [.row true EC.ent out]) [0]
  | _ => False
def tNodeW : Tfm C0 := fun args H K => match args with
  | [.at (.ptr 0 0), .at (.val (.int .u32 l)), .agg [.val (.int .i64 k), .val (.int .i64 v)], .at (.val (.int .u32 r))] => arM H fun S => ∃ hs tl tr, Wf S (l :: r :: hs) ∧ Rep S tl l ∧ Rep S tr r ∧ tl.size + tr.size ≤ 1000000 ∧ 0 < S.free ∧ hs.length ≤ 900000000 ∧
    ∀ S' i, NodeR S hs k v tl tr S' i → K (.one (.at (vU i))) (chS S') W7
  | _ => False
noncomputable def aNodeW : Ann C0 := { Γ := [(101, frameT [] tMakeOk), (29, frameT [] tGive)] }
def tBld (n : Nat) : Tfm C0 := fun args H K => match args with
  | [.at (.ptr 0 0), .at (.slc 7)] => arMr H fun S rest => match rest with
    | [.row false .ent l] => ∃ hs, Wf S hs ∧ l.length < n ∧ l.length ≤ 100000 ∧ (l.length : Int) ≤ S.free ∧ hs.length + l.length ≤ 800000000 ∧ ∀ S' i, BuildR S hs l S' i → K (.one (.at (vU i))) (chS S' ++ [.row false EC.ent l]) W7
    | _ => False
  | _ => False
structure XBld (P : Arn → Int → Prop) where
  S : Arn
  i : Int
  h : P S i
noncomputable def aBld (n : Nat) (l : List Ent) (P : Arn → Int → Prop) : Ann C0 := { Γ := [(120, frameT [] (tBld n)), (106, frameT [] tNodeW)], inv := fun k => match k with
  | 1005 => some { X := XBld P, sl := [6], tf := fun x => [vi .u32 x.i], hf := fun x => chS x.S ++ [.row false EC.ent l], wr := W7 }
  | _ => none }
theorem vc_range (S : Arn) (i lo hi lim : Int) (K : KT) (hs : List Int) (t : Tr) (hw : Wf S hs) (hr : Rep S t i) (h1 : t.size ≤ 1000000) (h2 : S.reads + t.size ≤ 3000000000000000000)
    (h : ∀ S' (out : List Ent), S' = rdS S (rangeR t lo hi lim).2 → out = (rangeR t lo hi lim).1 → K (.one (.at (.slc 7))) (chS S' ++ [.row true EC.ent out]) [0]) :
    vc C0 aRange Try.f99 [.at (.ptr 0 0), .at (vU i), .at (vI lo), .at (vI hi), .at (vI lim)] (chS S) (normK 7 (wideK [0] K)) := by
  refine Eq.mp (show (brS (decide (lim ≤ 0)) ((K (SV.one (TV.at (At.slc 7))) [(Chunk.box [(At.ptr 1 0), (At.slc 2), (At.slc 3), (At.val (Value.int IntKind.u64 (S.reads)))]), (Chunk.box [(At.slc 4), (At.slc 5), (At.slc 6), (At.val (Value.int IntKind.u32 (S.fresh)))]), (Chunk.row true (EC.node) (S.nodes)), (Chunk.row true (EC.int) (S.counts)), (Chunk.row true (EC.bool) (S.used)), (Chunk.row true (EC.u32) (S.gen)), (Chunk.row true (EC.u32) (S.rel)), (Chunk.row true (EC.ent) [])] [0])) ((brS (decide (lo > hi)) ((K (SV.one (TV.at (At.slc 7))) [(Chunk.box [(At.ptr 1 0), (At.slc 2), (At.slc 3), (At.val (Value.int IntKind.u64 (S.reads)))]), (Chunk.box [(At.slc 4), (At.slc 5), (At.slc 6), (At.val (Value.int IntKind.u32 (S.fresh)))]), (Chunk.row true (EC.node) (S.nodes)), (Chunk.row true (EC.int) (S.counts)), (Chunk.row true (EC.bool) (S.used)), (Chunk.row true (EC.u32) (S.gen)), (Chunk.row true (EC.u32) (S.rel)), (Chunk.row true (EC.ent) [])] [0])) ((∃ hs : List Int, (∃ t : Tr, ((Wf S hs) ∧ (Rep S t i) ∧ (t.size ≤ 1000000) ∧ (([] : List Ent).length + t.size ≤ 3000000) ∧ (S.reads + (↑t.size : Int) ≤ 3000000000000000000) ∧ (∀ S' : Arn, (∀ out' : List Ent, (((S') = (rdS S (lk t lo hi (room lim [])).snd)) → (((out') = ([] ++ (lk t lo hi (room lim [])).fst)) →
    (K (SV.one (TV.at (At.slc 7))) [(Chunk.box [(At.ptr 1 0), (At.slc 2), (At.slc 3), (At.val (Value.int IntKind.u64 (S'.reads)))]), (Chunk.box [(At.slc 4), (At.slc 5), (At.slc 6), (At.val (Value.int IntKind.u32 (S'.fresh)))]), (Chunk.row true (EC.node) (S'.nodes)), (Chunk.row true (EC.int) (S'.counts)), (Chunk.row true (EC.bool) (S'.used)), (Chunk.row true (EC.u32) (S'.gen)), (Chunk.row true (EC.u32) (S'.rel)), (Chunk.row true (EC.ent) (out'))] [0])))))))))))) = _ by kernel_rfl) ?_
  refine brS_of (fun c => ?_) fun c => brS_of (fun d => ?_) fun d => ?_
  · have c : lim ≤ 0 := of_decide_eq_true c
    exact h S [] (by rw [rangeR, if_pos (.inl c)]; exact (rdS_zero S).symm) (by rw [rangeR, if_pos (.inl c)])
  · have d : hi < lo := of_decide_eq_true d
    exact h S [] (by rw [rangeR, if_pos (.inr d)]; exact (rdS_zero S).symm) (by rw [rangeR, if_pos (.inr d)])
  · have c : ¬ lim ≤ 0 := of_decide_eq_false c
    have d : ¬ hi < lo := of_decide_eq_false d
    have e : rangeR t lo hi lim = lk t lo hi (room lim []) := by rw [rangeR, if_neg (by omega)]; unfold room; simp
    rw [e] at h
    exact ⟨hs, t, hw, hr, h1, by simp; omega, h2, fun S' out e1 e2 => h S' out e1 (by simpa using e2)⟩
theorem s_range : SoundT C0 99 tRange := by
  refine .ofW [0] Try.func99 (by decide) rfl fun args H K h hB => ?_
  unfold tRange at h
  split at h <;> try exact h.elim
  unfold arM at h
  split at h <;> try exact h.elim
  rename_i i lo hi lim _ rd fr nd ct us gn rl
  obtain ⟨hs, t, h1, h2, h3, h4, h5⟩ := h
  exact ⟨aRange, ⟨frame C0.ok s_lkA _, trivial⟩, vc_range ⟨us, gn, rl, fr, nd, ct, rd⟩ i lo hi lim K hs t h1 h2 h3 h4 h5⟩
theorem s_list : SoundT C0 62 tList := by
  refine .ofW [0] Try.func62 (by decide) rfl fun args H K h hB => ?_
  unfold tList at h
  split at h <;> try exact h.elim
  unfold arM at h
  split at h <;> try exact h.elim
  rename_i i _ rd fr nd ct us gn rl
  generalize hS : (⟨us, gn, rl, fr, nd, ct, rd⟩ : Arn) = S at h
  have e : [Chunk.box [At.ptr 1 0, At.slc 2, At.slc 3, vU64 rd], .box [.slc 4, .slc 5, .slc 6, vU fr], .row true EC.node nd, .row true EC.int ct, .row true EC.bool us, .row true EC.u32 gn, .row true EC.u32 rl] = chS S := by rw [← hS]
  refine ⟨aList, ⟨frame C0.ok s_range _, trivial⟩, ?_⟩
  show vc C0 aList _ _ [Chunk.box [At.ptr 1 0, At.slc 2, At.slc 3, vU64 rd], .box [.slc 4, .slc 5, .slc 6, vU fr], .row true EC.node nd, .row true EC.int ct, .row true EC.bool us, .row true EC.u32 gn, .row true EC.u32 rl] (normK 7 (wideK [0] K))
  rw [e]
  exact Eq.mp (show (∃ hs : List Int, (∃ t : Tr, ((Wf S hs) ∧ (Rep S t i) ∧ (t.size ≤ 1000000) ∧ (S.reads + (↑t.size : Int) ≤ 3000000000000000000) ∧ (∀ S' : Arn, (∀ out : List Ent, (((S') = (rdS S (rangeR t (-9223372036854775808) 9223372036854775807 2147483647).snd)) → (((out) = ((rangeR t (-9223372036854775808) 9223372036854775807 2147483647).fst)) → (K (SV.one (TV.at (At.slc 7))) [(Chunk.box [(At.ptr 1 0), (At.slc 2), (At.slc 3), (At.val (Value.int IntKind.u64 (S'.reads)))]), (Chunk.box [(At.slc 4), (At.slc 5), (At.slc 6), (At.val (Value.int IntKind.u32 (S'.fresh)))]), (Chunk.row true (EC.node) (S'.nodes)), (Chunk.row true (EC.int) (S'.counts)), (Chunk.row true (EC.bool) (S'.used)), (Chunk.row true (EC.u32) (S'.gen)), (Chunk.row true (EC.u32) (S'.rel)), (Chunk.row true (EC.ent) (out))] [0])))))))) = _ by kernel_rfl) h
theorem vc_nodeW (S : Arn) (l k v r : Int) (K : KT) (hs : List Int) (tl tr : Tr) (hw : Wf S (l :: r :: hs)) (h1 : Rep S tl l) (h2 : Rep S tr r) (h3 : tl.size + tr.size ≤ 1000000) (h4 : 0 < S.free) (h5 : hs.length ≤ 900000000)
    (h : ∀ S' i, NodeR S hs k v tl tr S' i → K (.one (.at (vU i))) (chS S') W7) :
    vc C0 aNodeW Try.f106 [.at (.ptr 0 0), .at (vU l), .agg [vI k, vI v], .at (vU r)] (chS S) (normK 7 (wideK W7 K)) := by
  refine Eq.mp (show ((exW S) ∧
(live S l) ∧
(live S r) ∧
((mkNode S k v l r).size ≤ maxSize) ∧
(0 < S.free) ∧
(∀ S' : Arn, (∀ i : Int, (((S') = (makeS S k v l r)) → (((i) = (nxt S)) → (∃ hs : List Int, ((Wf S' (l :: hs)) ∧ (((S'.us l) = true) → (1 ≤ S'.indeg l)) ∧ (∀ S'1 : Arn, (((S'1) = (relA S' l)) → (∃ hs1 : List Int, ((Wf S'1 (r :: hs1)) ∧ (((S'1.us r) = true) → (1 ≤ S'1.indeg r)) ∧ (∀ S'2 : Arn, (((S'2) = (relA S'1 r)) → (K (SV.one (TV.at (At.val (Value.int IntKind.u32 (i))))) [(Chunk.box [(At.ptr 1 0), (At.slc 2), (At.slc 3), (At.val (Value.int IntKind.u64 (S'2.reads)))]), (Chunk.box [(At.slc 4), (At.slc 5), (At.slc 6), (At.val (Value.int IntKind.u32 (S'2.fresh)))]), (Chunk.row true (EC.node) (S'2.nodes)), (Chunk.row true (EC.int) (S'2.counts)), (Chunk.row true (EC.bool) (S'2.used)), (Chunk.row true (EC.u32) (S'2.gen)), (Chunk.row true (EC.u32) (S'2.rel))] [0, 1, 2, 3, 4, 5, 6])))))))))))))) = _ by kernel_rfl) ?_
  have hz : (mkNode S k v l r).size ≤ maxSize := by rw [mk_size hw h1 h2]; unfold maxSize; omega
  obtain ⟨t1, t2, t3, t4⟩ := node_two (k := k) (v := v) hw h4 hz (by omega)
  refine ⟨⟨_, hw⟩, hw.held l (by simp), hw.held r (by simp), hz, h4, fun S1 i e1 e2 => ?_⟩
  subst e1
  refine ⟨_, t1, t2, fun S2 e3 => ?_⟩
  subst e3
  refine ⟨_, t3, t4, fun S3 e4 => h S3 i ?_⟩
  rw [e4, e2]
  exact node_ok hw h4 hz (by omega) h1 h2
theorem s_nodeW : SoundT C0 106 tNodeW := by
  refine .ofW W7 Try.func106 (by decide) rfl fun args H K h hB => ?_
  unfold tNodeW at h
  split at h <;> try exact h.elim
  unfold arM at h
  split at h <;> try exact h.elim
  rename_i l k v r _ rd fr nd ct us gn rl
  obtain ⟨hs, tl, tr, h1, h2, h3, h4, h5, h6, h7⟩ := h
  exact ⟨aNodeW, ⟨frame C0.ok s_makeOk _, frame C0.ok s_give _, trivial⟩, vc_nodeW ⟨us, gn, rl, fr, nd, ct, rd⟩ l k v r K hs tl tr h1 h2 h3 h4 h5 h6 h7⟩
theorem vc_bld (n : Nat) (S : Arn) (l : List Ent) (K : KT) (hs : List Int) (hw : Wf S hs) (h1 : l.length < n + 1) (h2 : l.length ≤ 100000) (h3 : (l.length : Int) ≤ S.free) (h4 : hs.length + l.length ≤ 800000000) (h : ∀ S' i, BuildR S hs l S' i → K (.one (.at (vU i))) (chS S' ++ [.row false EC.ent l]) W7) :
    vc C0 (aBld n l (BuildR S hs (l.take (l.length / 2)))) Try.f120 [.at (.ptr 0 0), .at (.slc 7)] (chS S ++ [.row false EC.ent l]) (normK 8 (wideK W7 K)) := by
  generalize hP : BuildR S hs (l.take (l.length / 2)) = P
  refine Eq.mp (show (brS ((↑l.length : Int) == 0) ((K (SV.one (TV.at (At.val (Value.int IntKind.u32 0)))) [(Chunk.box [(At.ptr 1 0), (At.slc 2), (At.slc 3), (At.val (Value.int IntKind.u64 (S.reads)))]), (Chunk.box [(At.slc 4), (At.slc 5), (At.slc 6), (At.val (Value.int IntKind.u32 (S.fresh)))]), (Chunk.row true (EC.node) (S.nodes)), (Chunk.row true (EC.int) (S.counts)), (Chunk.row true (EC.bool) (S.used)), (Chunk.row true (EC.u32) (S.gen)), (Chunk.row true (EC.u32) (S.rel)), (Chunk.row false (EC.ent) (l))] [0, 1, 2, 3, 4, 5, 6])) (((((0 : Int) ≤ 0) ∧ (0 ≤ IntKind.i64.wrap ((↑l.length : Int).tdiv 2)) ∧ (IntKind.i64.wrap ((↑l.length : Int).tdiv 2) ≤ (↑l.length : Int)) ∧ (∃ hs : List Int, ((Wf S hs) ∧ ((List.drop (Int.toNat 0) (List.take (IntKind.i64.wrap ((↑l.length : Int).tdiv 2)).toNat l)).length < n) ∧ ((List.drop (Int.toNat 0) (List.take (IntKind.i64.wrap ((↑l.length : Int).tdiv 2)).toNat l)).length ≤ 100000) ∧ ((↑(List.drop (Int.toNat 0) (List.take (IntKind.i64.wrap ((↑l.length : Int).tdiv 2)).toNat l)).length : Int) ≤ S.free) ∧ (hs.length + (List.drop (Int.toNat 0) (List.take (IntKind.i64.wrap ((↑l.length : Int).tdiv 2)).toNat l)).length ≤ 800000000) ∧ (∀ S' : Arn, (∀ i : Int, ((BuildR S hs (List.drop (Int.toNat 0) (List.take (IntKind.i64.wrap ((↑l.length : Int).tdiv 2)).toNat l)) S' i) → (∃ x : XBld P, (True ∧ (True ∧ True ∧ ((Value.int IntKind.i64 (IntKind.i64.wrap ((↑l.length : Int).tdiv 2))) = (Value.int IntKind.i64 (IntKind.i64.wrap ((↑l.length : Int).tdiv 2)))) ∧
    ((Value.int IntKind.u32 (i)) = (Value.int IntKind.u32 (x.i))) ∧ True) ∧ (True ∧ True ∧ True ∧ ((Value.int IntKind.u64 (S'.reads)) = (Value.int IntKind.u64 (x.S.reads))) ∧ True) ∧ (True ∧ True ∧ True ∧ ((Value.int IntKind.u32 (S'.fresh)) = (Value.int IntKind.u32 (x.S.fresh))) ∧ True) ∧ ((S'.nodes) = (x.S.nodes)) ∧ ((S'.counts) = (x.S.counts)) ∧ ((S'.used) = (x.S.used)) ∧ ((S'.gen) = (x.S.gen)) ∧ ((S'.rel) = (x.S.rel)) ∧ ((l) = (l)) ∧ True)))))))) ∧ (∀ x : XBld P, (True → ((0 ≤ IntKind.i64.wrap ((↑l.length : Int).tdiv 2)) ∧ (IntKind.i64.wrap ((↑l.length : Int).tdiv 2) < (↑l.length : Int)) ∧ (0 ≤ IntKind.i64.wrap (IntKind.i64.wrap ((↑l.length : Int).tdiv 2) + 1)) ∧ (IntKind.i64.wrap (IntKind.i64.wrap ((↑l.length : Int).tdiv 2) + 1) ≤ (↑l.length : Int)) ∧ ((↑l.length : Int) ≤ (↑l.length : Int)) ∧ (∃ hs : List Int, ((Wf x.S hs) ∧ ((List.drop (IntKind.i64.wrap (IntKind.i64.wrap ((↑l.length : Int).tdiv 2) + 1)).toNat (List.take (↑l.length : Int).toNat l)).length < n) ∧ ((List.drop (IntKind.i64.wrap (IntKind.i64.wrap ((↑l.length : Int).tdiv 2) + 1)).toNat (List.take (↑l.length : Int).toNat l)).length ≤ 100000) ∧ ((↑(List.drop (IntKind.i64.wrap (IntKind.i64.wrap ((↑l.length : Int).tdiv 2) + 1)).toNat (List.take (↑l.length : Int).toNat l)).length : Int) ≤ x.S.free) ∧ (hs.length + (List.drop (IntKind.i64.wrap (IntKind.i64.wrap ((↑l.length : Int).tdiv 2) + 1)).toNat (List.take (↑l.length : Int).toNat l)).length ≤ 800000000) ∧ (∀ S' : Arn, (∀ i : Int,
    ((BuildR x.S hs (List.drop (IntKind.i64.wrap (IntKind.i64.wrap ((↑l.length : Int).tdiv 2) + 1)).toNat (List.take (↑l.length : Int).toNat l)) S' i) → (∃ hs1 : List Int, (∃ tl : Tr, (∃ tr : Tr, ((Wf S' (x.i :: i :: hs1)) ∧ (Rep S' tl x.i) ∧ (Rep S' tr i) ∧ (tl.size + tr.size ≤ 1000000) ∧ (0 < S'.free) ∧ (hs1.length ≤ 900000000) ∧ (∀ S'1 : Arn, (∀ i1 : Int, ((NodeR S' hs1 (l.getD (IntKind.i64.wrap ((↑l.length : Int).tdiv 2)).toNat (0, 0)).fst (l.getD (IntKind.i64.wrap ((↑l.length : Int).tdiv 2)).toNat (0, 0)).snd tl tr S'1 i1) → (K (SV.one (TV.at (At.val (Value.int IntKind.u32 (i1))))) [(Chunk.box [(At.ptr 1 0), (At.slc 2), (At.slc 3), (At.val (Value.int IntKind.u64 (S'1.reads)))]), (Chunk.box [(At.slc 4), (At.slc 5), (At.slc 6), (At.val (Value.int IntKind.u32 (S'1.fresh)))]), (Chunk.row true (EC.node) (S'1.nodes)), (Chunk.row true (EC.int) (S'1.counts)), (Chunk.row true (EC.bool) (S'1.used)), (Chunk.row true (EC.u32) (S'1.gen)), (Chunk.row true (EC.u32) (S'1.rel)), (Chunk.row false (EC.ent) (l))] [0, 1, 2, 3, 4, 5, 6]))))))))))))))))))) = _ by kernel_rfl) ?_
  subst hP
  refine brS_of (fun c => ?_) fun c => ?_
  · have e : l = [] := List.length_eq_zero_iff.1 (by simpa using c)
    have hr : BuildR S hs l S 0 := by rw [e]; exact ⟨hw.zero_cons (by omega), ⟨.nil, rfl, rfl⟩, Stay.refl _ _, rfl, rfl, rfl⟩
    exact h S 0 hr
  have c : ¬ (l.length : Int) = 0 := by simpa using c
  have hm : IntKind.i64.wrap ((l.length : Int).tdiv 2) = ((l.length / 2 : Nat) : Int) := by rw [Int.tdiv_eq_ediv_of_nonneg (by omega), wrap_id (by omega) (by omega)]; omega
  have hm1 : IntKind.i64.wrap (((l.length / 2 : Nat) : Int) + 1) = ((l.length / 2 + 1 : Nat) : Int) := by rw [wrap_id (by omega) (by omega)]; omega
  rw [hm, hm1]
  have ea : List.drop (Int.toNat 0) (List.take ((l.length / 2 : Nat) : Int).toNat l) = l.take (l.length / 2) := rfl
  have eb : List.drop ((l.length / 2 + 1 : Nat) : Int).toNat (List.take ((l.length : Nat) : Int).toNat l) = l.drop (l.length / 2 + 1) := by
    rw [show ((l.length : Nat) : Int).toNat = l.length by omega, List.take_length]; rfl
  rw [ea, eb]
  have la : (l.take (l.length / 2)).length = l.length / 2 := by simp; omega
  have lb : (l.drop (l.length / 2 + 1)).length = l.length - (l.length / 2 + 1) := by simp
  have hf := hw.free_nonneg
  refine ⟨⟨by decide, by omega, by omega, hs, hw, by omega, by omega, by omega, by omega, fun S1 i r1 => ⟨⟨S1, i, r1⟩, ?_⟩⟩, fun x _ => ?_⟩
  · (repeat' first | exact trivial | exact rfl | refine And.intro ?_ ?_)
  · have r1 := x.h
    have hf1 := r1.wf.free_nonneg
    have n1 := r1.nu
    have c1 : x.S.cap = S.cap := by unfold Arn.cap; rw [r1.len]
    refine ⟨by omega, by omega, by omega, by omega, by omega, x.i :: hs, r1.wf, by omega, by omega, by omega, by simp; omega, fun S2 ir r2 => ?_⟩
    have hf2 := r2.wf.free_nonneg
    have n2 := r2.nu
    have c2 : S2.cap = x.S.cap := by unfold Arn.cap; rw [r2.len]
    have hw2 : Wf S2 (x.i :: ir :: hs) := r2.wf.perm (List.Perm.swap _ _ _)
    obtain ⟨tl, q1, q2⟩ := r1.rep
    obtain ⟨tr, q3, q4⟩ := r2.rep
    have q1' : Rep S2 tl x.i := q1.held r1.wf r2.stay (.inr (by simp))
    have s1 : tl.size = l.length / 2 := by rw [← tl.list_len, q2.list, la]
    have s2 : tr.size = l.length - (l.length / 2 + 1) := by rw [← tr.list_len, q4.list, lb]
    refine ⟨hs, tl, tr, hw2, q1', q3, by omega, by omega, by omega, fun S3 i nr => h S3 i ⟨nr.wf, ⟨_, nr.rep, by omega, rfl, q2, q4⟩, ?_, ?_, ?_, ?_⟩⟩
    · exact (r1.stay.trans (r2.stay.mono (by simp_all))).trans nr.stay
    · rw [nr.len, r2.len, r1.len]
    · rw [nr.rds, r2.rds, r1.rds]
    · rw [nr.nu, n2, n1]; omega
theorem s_bld : ∀ n, SoundT C0 120 (tBld n) := by
  intro n
  induction n with
  | zero =>
    refine .of Try.func120 (by decide) rfl fun args H K h hB => ?_
    exfalso
    unfold tBld at h
    split at h <;> try exact h.elim
    unfold arMr at h
    split at h <;> try exact h.elim
    split at h <;> try exact h.elim
    obtain ⟨_, _, h1, _⟩ := h
    omega
  | succ n ih =>
    refine .ofW W7 Try.func120 (by decide) rfl fun args H K h hB => ?_
    unfold tBld at h
    split at h <;> try exact h.elim
    unfold arMr at h
    split at h <;> try exact h.elim
    split at h <;> try exact h.elim
    rename_i _ rd fr nd ct us gn rl _ l
    obtain ⟨hs, h1, h2, h3, h4, h5, h6⟩ := h
    refine ⟨_, ?_, vc_bld n ⟨us, gn, rl, fr, nd, ct, rd⟩ l K hs h1 h2 h3 h4 h5 h6⟩
    exact ⟨frame C0.ok ih _, frame C0.ok s_nodeW _, trivial⟩
end Go.Proofs.Ytjbkckcjmmmooaa.Sx
end
section
/- Build, Grow, and the example of the chapter on bulk operations. -/
namespace Go.Proofs.Ytjbkckcjmmmooaa.Sx
open Go

/-KEEP Wf exW inU live Arn.cap Arn.free Rep rdS Tr.size BuildR PlantR rangeR newS ascB-/
def tBldA : Tfm C0 := fun args H K => match args with
  | [.at (.ptr 0 0), .at (.slc 7)] => arMr H fun S rest => match rest with
    | [.row false .ent l] => ∃ hs, Wf S hs ∧ l.length ≤ 100000 ∧ (l.length : Int) ≤ S.free ∧ hs.length + l.length ≤ 800000000 ∧ ∀ S' i, BuildR S hs l S' i → K (.one (.at (vU i))) (chS S' ++ [.row false EC.ent l]) W7
    | _ => False
  | _ => False
theorem s_bldA : SoundT C0 120 tBldA := (s_bld 100001).weak fun args H K h => by
  unfold tBldA at h
  unfold tBld
  split at h <;> try exact h.elim
  unfold arMr at h ⊢
  split at h <;> try exact h.elim
  split at h <;> try exact h.elim
  obtain ⟨hs, h1, h2, h3, h4, h5⟩ := h
  exact ⟨hs, h1, by omega, h2, h3, h4, h5⟩
noncomputable def aBuild (S : Arn) (l : List Ent) : Ann C0 := { Γ := [(22, frameT [] tFree), (120, frameT [] tBldA)], inv := fun n => match n with
  | 2 => some { X := XA l, sl := [6], tf := fun x => [vi .i64 x.i], hf := fun _ => chS S ++ [.row false EC.ent l], μ := fun x => l.length - x.i }
  | _ => none }
def tBuild : Tfm C0 := fun args H K => match args with
  | [.at (.ptr 0 0), .at (.slc 7)] => arMr H fun S rest => match rest with
    | [.row false .ent l] => ∃ hs, Wf S hs ∧ l.length ≤ 100000 ∧ hs.length + l.length ≤ 800000000 ∧ (ascB l = false → K (.tup [.at (vU 0), .at (vI 7)]) (chS S ++ [.row false EC.ent l]) W7) ∧
      (ascB l = true → S.free < l.length → K (.tup [.at (vU 0), .at (vI 2)]) (chS S ++ [.row false EC.ent l]) W7) ∧
      (ascB l = true → (l.length : Int) ≤ S.free → ∀ S' i, BuildR S hs l S' i → K (.tup [.at (vU i), .at (vI 0)]) (chS S' ++ [.row false EC.ent l]) W7)
    | _ => False
  | _ => False
abbrev chSk (k : Nat) (S : Arn) : List (Chunk C0) := [.box [.ptr (k + 1) 0, .slc (k + 2), .slc (k + 3), vU64 S.reads], .box [.slc (k + 4), .slc (k + 5), .slc (k + 6), vU S.fresh], .row true EC.node S.nodes, .row true EC.int S.counts, .row true EC.bool S.used, .row true EC.u32 S.gen, .row true EC.u32 S.rel]
noncomputable def aGrow : Ann C0 := { Γ := [(25, frameT [] tNew), (64, frameT [] tPlantA)] }
def tGrow : Tfm C0 := fun args H K => match args, H with
  | [.at (.slc 0), .at (.val (.int .u64 t)), .at (.val (.int .i64 sp))], [.row false .ent l] => 0 ≤ t ∧ 1 ≤ sp ∧ sp ≤ 30000 ∧ l.length ≤ 30000 ∧ ∀ S' i, PlantR (newS ((l.length : Int) + sp).toNat) [] l S' i → K (.tup [.at (.ptr 1 0), .at (vU i), .at (vB true)]) ([.row false EC.ent l] ++ chSk 1 S') []
  | _, _ => False
noncomputable def aAwake15 : Ann C0 := { Γ := [(25, frameT [] tNew), (93, frameT [] tBuild), (49, frameT [] tNode), (62, frameT [] tList)] }
def tAwake15 : Tfm C0 := fun args H K => match args, H with
  | [], [] => K (.one (.at (vB true))) [] []
  | _, _ => False
theorem vc_build (S : Arn) (l : List Ent) (K : KT) (hs : List Int) (hw : Wf S hs) (h1 : l.length ≤ 100000) (h2 : hs.length + l.length ≤ 800000000) (ha : ascB l = false → K (.tup [.at (vU 0), .at (vI 7)]) (chS S ++ [.row false EC.ent l]) W7)
    (hb : ascB l = true → S.free < l.length → K (.tup [.at (vU 0), .at (vI 2)]) (chS S ++ [.row false EC.ent l]) W7) (hc : ascB l = true → (l.length : Int) ≤ S.free → ∀ S' i, BuildR S hs l S' i → K (.tup [.at (vU i), .at (vI 0)]) (chS S' ++ [.row false EC.ent l]) W7) :
    vc C0 (aBuild S l) Try.f93 [.at (.ptr 0 0), .at (.slc 7)] (chS S ++ [.row false EC.ent l]) (normK 8 (wideK W7 K)) := by
  refine Eq.mp (show ((∃ x : XA l, (True ∧ (True ∧ True ∧ ((Value.int IntKind.i64 1) = (Value.int IntKind.i64 ((↑x.i : Int)))) ∧ True) ∧ (True ∧ True ∧ True ∧ ((Value.int IntKind.u64 (S.reads)) = (Value.int IntKind.u64 (S.reads))) ∧ True) ∧ (True ∧ True ∧ True ∧ ((Value.int IntKind.u32 (S.fresh)) = (Value.int IntKind.u32 (S.fresh))) ∧ True) ∧ ((S.nodes) = (S.nodes)) ∧ ((S.counts) = (S.counts)) ∧ ((S.used) = (S.used)) ∧ ((S.gen) = (S.gen)) ∧ ((S.rel) = (S.rel)) ∧ ((l) = (l)) ∧ True)) ∧
(∀ x : XA l, (True → (brS (decide ((↑x.i : Int) < (↑l.length : Int))) (((0 ≤ (↑x.i : Int)) ∧ ((↑x.i : Int) < (↑l.length : Int)) ∧ (0 ≤ IntKind.i64.wrap ((↑x.i : Int) - 1)) ∧ (IntKind.i64.wrap ((↑x.i : Int) - 1) < (↑l.length : Int)) ∧ (brS (decide ((eA l x.i).fst ≤ (l.getD (IntKind.i64.wrap ((↑x.i : Int) - 1)).toNat (0, 0)).fst)) ((K (SV.tup [(TV.at (At.val (Value.int IntKind.u32 0))), (TV.at (At.val (Value.int IntKind.i64 7)))]) [(Chunk.box [(At.ptr 1 0), (At.slc 2), (At.slc 3), (At.val (Value.int IntKind.u64 (S.reads)))]), (Chunk.box [(At.slc 4), (At.slc 5), (At.slc 6), (At.val (Value.int IntKind.u32 (S.fresh)))]), (Chunk.row true (EC.node) (S.nodes)), (Chunk.row true (EC.int) (S.counts)), (Chunk.row true (EC.bool) (S.used)), (Chunk.row true (EC.u32) (S.gen)), (Chunk.row true (EC.u32) (S.rel)), (Chunk.row false (EC.ent) (l))] [0, 1, 2, 3, 4, 5, 6])) ((∃ x' : XA l, (True ∧ ((True ∧ True ∧ ((Value.int IntKind.i64 (IntKind.i64.wrap ((↑x.i : Int) + 1))) = (Value.int IntKind.i64 ((↑x'.i : Int)))) ∧ True) ∧ (True ∧ True ∧
    True ∧ ((Value.int IntKind.u64 (S.reads)) = (Value.int IntKind.u64 (S.reads))) ∧ True) ∧ (True ∧ True ∧ True ∧ ((Value.int IntKind.u32 (S.fresh)) = (Value.int IntKind.u32 (S.fresh))) ∧ True) ∧ ((S.nodes) = (S.nodes)) ∧ ((S.counts) = (S.counts)) ∧ ((S.used) = (S.used)) ∧ ((S.gen) = (S.gen)) ∧ ((S.rel) = (S.rel)) ∧ ((l) = (l)) ∧ True) ∧ (l.length - x'.i < l.length - x.i))))))) (((exW S) ∧ (brS (decide (S.free < (↑l.length : Int))) ((K (SV.tup [(TV.at (At.val (Value.int IntKind.u32 0))), (TV.at (At.val (Value.int IntKind.i64 2)))]) [(Chunk.box [(At.ptr 1 0), (At.slc 2), (At.slc 3), (At.val (Value.int IntKind.u64 (S.reads)))]), (Chunk.box [(At.slc 4), (At.slc 5), (At.slc 6), (At.val (Value.int IntKind.u32 (S.fresh)))]), (Chunk.row true (EC.node) (S.nodes)), (Chunk.row true (EC.int) (S.counts)), (Chunk.row true (EC.bool) (S.used)), (Chunk.row true (EC.u32) (S.gen)), (Chunk.row true (EC.u32) (S.rel)), (Chunk.row false (EC.ent) (l))] [0, 1, 2, 3, 4, 5, 6])) ((∃ hs : List Int, ((Wf S hs) ∧ (l.length ≤ 100000) ∧ ((↑l.length : Int) ≤ S.free) ∧ (hs.length + l.length ≤ 800000000) ∧ (∀ S' : Arn, (∀ i : Int, ((BuildR S hs l S' i) →
    (K (SV.tup [(TV.at (At.val (Value.int IntKind.u32 (i)))), (TV.at (At.val (Value.int IntKind.i64 0)))]) [(Chunk.box [(At.ptr 1 0), (At.slc 2), (At.slc 3), (At.val (Value.int IntKind.u64 (S'.reads)))]), (Chunk.box [(At.slc 4), (At.slc 5), (At.slc 6), (At.val (Value.int IntKind.u32 (S'.fresh)))]), (Chunk.row true (EC.node) (S'.nodes)), (Chunk.row true (EC.int) (S'.counts)), (Chunk.row true (EC.bool) (S'.used)), (Chunk.row true (EC.u32) (S'.gen)), (Chunk.row true (EC.u32) (S'.rel)), (Chunk.row false (EC.ent) (l))] [0, 1, 2, 3, 4, 5, 6])))))))))))))) = _ by kernel_rfl) ?_
  refine ⟨⟨⟨1, by omega, by omega, by simp⟩, ?_⟩, fun x _ => brS_of (fun hi => ?_) fun hi => ?_⟩
  · (repeat' first | exact trivial | exact rfl | refine And.intro ?_ ?_)
  · have hi : x.i < l.length := by have := of_decide_eq_true hi; omega
    have h1' := x.h.1
    have hs' := x.split hi
    have e : ((x.i : Int) - 1).toNat = x.i - 1 := by omega
    rw [wrap_id (x := (x.i : Int) - 1) (by omega) (by omega), e]
    refine ⟨by omega, by omega, by omega, by omega, brS_of (fun hd => ?_) fun hd => ?_⟩
    · refine ha ?_
      rw [Bool.eq_false_iff]
      intro hh
      have := (hs'.1 hh).1
      have hd := of_decide_eq_true hd
      simp [eA] at hd this
      omega
    · refine ⟨⟨x.i + 1, by omega, by omega, ?_⟩, ?_⟩
      · rw [ascB, decide_eq_true_eq] at hs'
        rw [hs', Nat.add_sub_cancel]
        refine ⟨fun h => h.2, fun h => ⟨?_, h⟩⟩
        have hd := of_decide_eq_false hd
        simp [eA] at hd ⊢
        omega
      · (repeat' first | exact trivial | exact rfl | refine And.intro ?_ ?_)
        · rw [wrap_id (by omega) (by omega)]; congr 1
        · show l.length - (x.i + 1) < l.length - x.i
          omega
  · have e := x.fin (by have := of_decide_eq_false hi; omega)
    refine ⟨⟨_, hw⟩, brS_of (fun d => hb e (of_decide_eq_true d)) fun d => ⟨hs, hw, h1, by have := of_decide_eq_false d; omega, h2, fun S' i hr => hc e (by have := of_decide_eq_false d; omega) S' i hr⟩⟩
theorem s_build : SoundT C0 93 tBuild := by
  refine .ofW W7 Try.func93 (by decide) rfl fun args H K h hB => ?_
  unfold tBuild at h
  split at h <;> try exact h.elim
  unfold arMr at h
  split at h <;> try exact h.elim
  split at h <;> try exact h.elim
  rename_i _ rd fr nd ct us gn rl _ l
  obtain ⟨hs, h1, h2, h3, h4, h5, h6⟩ := h
  exact ⟨aBuild ⟨us, gn, rl, fr, nd, ct, rd⟩ l, ⟨frame C0.ok s_free _, frame C0.ok s_bldA _, trivial⟩, vc_build ⟨us, gn, rl, fr, nd, ct, rd⟩ l K hs h1 h2 h3 h4 h5 h6⟩
theorem new_free {c : Nat} (_ : 1 ≤ c) (_ : c ≤ 65536) : (newS c).free = c := by
  unfold Arn.free Arn.cap newS; simp
theorem vc_grow (l : List Ent) (t sp : Int) (K : KT) (h1 : 0 ≤ t) (h2 : 1 ≤ sp) (h3 : sp ≤ 30000) (h4 : l.length ≤ 30000) (h : ∀ S' i, PlantR (newS ((l.length : Int) + sp).toNat) [] l S' i → K (.tup [.at (.ptr 1 0), .at (vU i), .at (vB true)]) ([.row false EC.ent l] ++ chSk 1 S') []) :
    vc C0 aGrow Try.f17 [.at (.slc 0), .at (vU64 t), .at (vI sp)] [.row false EC.ent l] (normK 1 K) := by
  refine Eq.mp (show (((IntKind.i64.wrap ((↑l.length : Int) + sp) < 1 ∨ 65536 < IntKind.i64.wrap ((↑l.length : Int) + sp)) →
(K (SV.tup [(TV.at (At.val (Value.pointer none))), (TV.at (At.val (Value.int IntKind.u32 0))), (TV.at (At.val (Value.bool false)))]) [(Chunk.row false (EC.ent) (l))] [])) ∧
((1 ≤ IntKind.i64.wrap ((↑l.length : Int) + sp)) →
((IntKind.i64.wrap ((↑l.length : Int) + sp) ≤ 65536) →
(∀ S : Arn, (((S) = (newS (IntKind.i64.wrap ((↑l.length : Int) + sp)).toNat)) → (∃ hs : List Int, ((Wf S hs) ∧ (l.length ≤ 100000) ∧ ((↑l.length : Int) ≤ S.free) ∧ (hs.length + l.length ≤ 900000000) ∧ (0 ≤ t) ∧ (∀ S' : Arn, (∀ i : Int, ((PlantR S hs l S' i) → (K (SV.tup [(TV.at (At.ptr 1 0)), (TV.at (At.val (Value.int IntKind.u32 (i)))), (TV.at (At.val (Value.bool true)))]) [(Chunk.row false (EC.ent) (l)), (Chunk.box [(At.ptr 2 0), (At.slc 3), (At.slc 4), (At.val (Value.int IntKind.u64 (S'.reads)))]), (Chunk.box [(At.slc 5), (At.slc 6), (At.slc 7), (At.val (Value.int IntKind.u32 (S'.fresh)))]), (Chunk.row true (EC.node) (S'.nodes)), (Chunk.row true (EC.int) (S'.counts)), (Chunk.row true (EC.bool) (S'.used)), (Chunk.row true (EC.u32) (S'.gen)), (Chunk.row true (EC.u32) (S'.rel))] []))))))))))) = _ by kernel_rfl) ?_
  rw [wrap_id (x := (l.length : Int) + sp) (by omega) (by omega)]
  refine ⟨fun c => by omega, fun _ _ S hS => ?_⟩
  subst hS
  refine ⟨[], Wf.new (by omega) (by omega), by omega, ?_, by simp; omega, h1, h⟩
  rw [new_free (by omega) (by omega)]; omega
theorem s_grow : SoundT C0 17 tGrow := by
  refine .of Try.func17 (by decide) rfl fun args H K h hB => ?_
  unfold tGrow at h
  split at h <;> try exact h.elim
  rename_i t sp l
  obtain ⟨h1, h2, h3, h4, h5⟩ := h
  exact ⟨aGrow, ⟨frame C0.ok s_new _, frame C0.ok s_plantA _, trivial⟩, vc_grow l t sp K h1 h2 h3 h4 h5⟩
theorem range_all {t : Tr} (ha : Asc t.list) (hk : ∀ x ∈ t.list, -9223372036854775808 ≤ x.1 ∧ x.1 ≤ 9223372036854775807) (hs : t.size ≤ 1000000) : (rangeR t (-9223372036854775808) 9223372036854775807 2147483647).1 = t.list := by
  rw [rangeR, if_neg (by omega), lk_spec t _ _ _ ha, betE_all hk, List.take_of_length_le (by rw [t.list_len]; show t.size ≤ 2147483647; omega)]
theorem vc_awake15 (K : KT) (h : K (.one (.at (vB true))) [] []) : vc C0 aAwake15 Try.f57 [] [] (normK 0 K) := by
  refine Eq.mp (show ((((8 : Int) < 1 ∨ (65536 : Int) < 8) →
(K (SV.one (TV.at (At.val (Value.bool false)))) [] [])) ∧
(((1 : Int) ≤ 8) →
(((8 : Int) ≤ 65536) →
(∀ S : Arn, (((S) = (newS (Int.toNat 8))) → (∃ hs : List Int, ((Wf S hs) ∧ (([(1, 0), (2, 0), (3, 0), (4, 0)] : List Ent).length ≤ 100000) ∧ (hs.length + ([(1, 0), (2, 0), (3, 0), (4, 0)] : List Ent).length ≤ 800000000) ∧ ((true = false) → ((inU 0) ∧ (exW S) ∧ (S.reads < 4000000000000000000) ∧ (∀ S' : Arn, (((S') = (rdS S (S.us 0).toNat)) → (K (SV.one (TV.at (At.val (Value.bool false)))) [] []))))) ∧ ((true = true) → ((S.free < (↑([(1, 0), (2, 0), (3, 0), (4, 0)] : List Ent).length : Int)) → ((inU 0) ∧ (exW S) ∧ (S.reads < 4000000000000000000) ∧ (∀ S' : Arn, (((S') = (rdS S (S.us 0).toNat)) → (K (SV.one (TV.at (At.val (Value.bool false)))) [] [])))))) ∧ ((true = true) → (((↑([(1, 0), (2, 0), (3, 0), (4, 0)] : List Ent).length : Int) ≤ S.free) → (∀ S' : Arn, (∀ i : Int, ((BuildR S hs ([(1, 0), (2, 0), (3, 0), (4, 0)] : List Ent) S' i) → ((inU i) ∧ (exW S') ∧ (S'.reads < 4000000000000000000) ∧ (∀ S'1 : Arn, (((S'1) = (rdS S' (S'.us i).toNat)) → (brS (S'.us i) ((brS ((S'.nd i).key == 3) ((brS ((S'.nd i).size == 4) ((∃ hs1 : List Int, (∃ t : Tr, ((Wf S'1 hs1) ∧ (Rep S'1 t i) ∧ (t.size ≤ 1000000) ∧ (S'1.reads + (↑t.size : Int) ≤ 3000000000000000000) ∧ (∀ S'2 : Arn, (∀ out : List Ent, (((S'2) = (rdS S'1 (rangeR t (-9223372036854775808) 9223372036854775807 2147483647).snd)) →
    (((out) = ((rangeR t (-9223372036854775808) 9223372036854775807 2147483647).fst)) → (K (SV.one (TV.at (At.val (Value.bool ((↑out.length : Int) == 4))))) [] []))))))))) ((K (SV.one (TV.at (At.val (Value.bool false)))) [] [])))) ((K (SV.one (TV.at (At.val (Value.bool false)))) [] [])))) ((K (SV.one (TV.at (At.val (Value.bool false)))) [] [])))))))))))))))))) = _ by kernel_rfl) ?_
  refine ⟨fun c => by omega, fun _ _ S hS => ?_⟩
  have hS : S = newS 8 := hS
  have hw : Wf S [] := by rw [hS]; exact Wf.new (by decide) (by decide)
  have hf : S.free = 8 := by rw [hS]; rfl
  refine ⟨[], hw, by decide, by decide, fun c => (by cases c), fun _ c => ?_, fun _ _ S1 i hr => ?_⟩
  · rw [hf] at c; exact absurd c (by decide)
  · obtain ⟨t, r1, r2⟩ := hr.rep
    have hlist := r2.list
    have hsize : t.size = 4 := by rw [← t.list_len, hlist]; rfl
    have hsz := r1.size hr.wf
    have hrd : S1.reads = 0 := by rw [hr.rds, hS]; rfl
    cases t with
    | nil => simp [Tr.size] at hsize
    | node a k v b =>
      have hu := r1.1
      have hk : (S1.nd i).key = 3 := by
        rw [r1.2.1]
        have := r2.2.1
        exact (congrArg Prod.fst this).symm
      refine ⟨inU_of hr.wf (.inr hu), ⟨_, hr.wf⟩, by rw [hrd]; decide, fun S2 e2 => ?_⟩
      rw [hu] at e2 ⊢
      have e2 : S2 = rdS S1 1 := e2
      refine brS_of (fun _ => ?_) fun c => by cases c
      rw [hk]
      refine brS_of (fun _ => ?_) fun c => by simp at c
      rw [hsz, hsize]
      refine brS_of (fun _ => ?_) fun c => by simp at c
      have hw2 : Wf S2 [i] := by rw [e2]; exact hr.wf.rd (by rw [hrd]; decide)
      refine ⟨_, Tr.node a k v b, hw2, by rw [e2]; exact rep_rd r1 1, by omega, by rw [e2, hsize]; show S1.reads + ((1 : Nat) : Int) + 4 ≤ _; rw [hrd]; decide, fun S3 out e3 e4 => ?_⟩
      rw [range_all (by rw [hlist]; decide) (by rw [hlist]; intro x hx; simp at hx; rcases hx with rfl | rfl | rfl | rfl <;> decide) (by omega), hlist] at e4
      have e5 : ((out.length : Int) == 4) = true := by rw [e4]; rfl
      rw [e5]
      exact h
theorem s_awake15 : SoundT C0 57 tAwake15 := by
  refine .of Try.func57 (by decide) rfl fun args H K h hB => ?_
  unfold tAwake15 at h
  split at h <;> try exact h.elim
  exact ⟨aAwake15, ⟨frame C0.ok s_new _, frame C0.ok s_build _, frame C0.ok s_node _, frame C0.ok s_list _, trivial⟩, vc_awake15 K h⟩
end Go.Proofs.Ytjbkckcjmmmooaa.Sx
end
section
/- What the update laws share: Kept, spare, awake, lengths of dumps. -/
namespace Go.Proofs.Ytjbkckcjmmmooaa.Sx
open Go

/-KEEP Wf exW inU live Arn.cap Arn.free Rep rdS Tr.size Tr.list alcD slotsOf orderOf PlantR newS insE flt getE TrR upM Hn-/
/-- Every slot that is allocated in d is so in e, with the same node and generation. -/
def keptD (d e : List SlotT) : Prop := d.length = e.length ∧ ∀ i : Nat, i < d.length → (eS d i).alloc = true → (eS e i).alloc = true ∧ (eS e i).node = (eS d i).node ∧ (eS e i).gen = (eS d i).gen
structure XKp (d : List SlotT) where
  i : Nat
  h : i ≤ d.length
noncomputable def aKp (d e : List SlotT) (fl gl : List Int) : Ann C0 := { Γ := [], inv := fun n => match n with
  | 4 => some { X := XKp d, sl := [5, 2, 3], tf := fun x => [vi .i64 x.i, .one (.at (.ptr 4 0)), .one (.at (.ptr 5 0))], hf := fun _ => [.row false EC.slot d, .row false EC.u32 fl, .row false EC.slot e, .row false EC.u32 gl, .box [.slc 0, .slc 1], .box [.slc 2, .slc 3]], μ := fun x => d.length - x.i }
  | _ => none }
def tKept : Tfm C0 := fun args H K => match args, H with
  | [.agg [.slc 0, .slc 1], .agg [.slc 2, .slc 3]], [.row false .slot d, .row false .u32 fl, .row false .slot e, .row false .u32 gl] => keptD d e ∧ d.length ≤ 1000000 ∧ K (.one (.at (vB true))) [.row false EC.slot d, .row false EC.u32 fl, .row false EC.slot e, .row false EC.u32 gl] []
  | _, _ => False
def tSpare : Tfm C0 := fun args H K => match args, H with
  | [.at (.val (.int .u16 n)), .at (.val (.int .i64 need))], [] => 0 ≤ n ∧ n ≤ 65535 ∧ 0 ≤ need ∧ need ≤ 60000 ∧ ∀ s, 0 ≤ s → s ≤ need + 8 → K (.one (.at (vI s))) [] []
  | _, _ => False
noncomputable def aAw14 : Ann C0 := { Γ := [(25, frameT [] tNew), (21, frameT [] tUpIn), (20, frameT [] tUpDe), (61, frameT [] tSize)] }
def tAw14 : Tfm C0 := fun args H K => match args, H with
  | [], [] => K (.one (.at (vB true))) [] []
  | _, _ => False
theorem vc_kept (d e : List SlotT) (fl gl : List Int) (K : KT) (hk : keptD d e) (hl : d.length ≤ 1000000) (h : K (.one (.at (vB true))) [.row false EC.slot d, .row false EC.u32 fl, .row false EC.slot e, .row false EC.u32 gl] []) :
    vc C0 (aKp d e fl gl) Try.f39 [.agg [.slc 0, .slc 1], .agg [.slc 2, .slc 3]] [.row false EC.slot d, .row false EC.u32 fl, .row false EC.slot e, .row false EC.u32 gl] (normK 4 K) := by
  refine Eq.mp (show (brS ((↑d.length : Int) != (↑e.length : Int)) ((K (SV.one (TV.at (At.val (Value.bool false)))) [(Chunk.row false (EC.slot) (d)), (Chunk.row false (EC.u32) (fl)), (Chunk.row false (EC.slot) (e)), (Chunk.row false (EC.u32) (gl))] [])) (((∃ x : XKp d, (True ∧ (True ∧ True ∧ ((Value.int IntKind.i64 0) = (Value.int IntKind.i64 ((↑x.i : Int)))) ∧ True) ∧ ((d) = (d)) ∧ ((fl) = (fl)) ∧ ((e) = (e)) ∧ ((gl) = (gl)) ∧ (True ∧ True ∧ True) ∧ (True ∧ True ∧ True) ∧ True)) ∧ (∀ x : XKp d, (True → (brS (decide ((↑x.i : Int) < (↑d.length : Int))) (((0 ≤ (↑x.i : Int)) ∧ ((↑x.i : Int) < (↑d.length : Int)) ∧ (0 ≤ (↑x.i : Int)) ∧ ((↑x.i : Int) < (↑e.length : Int)) ∧ (brS ((eS d (↑x.i : Int).toNat).alloc) ((brS (!(eS e (↑x.i : Int).toNat).alloc) ((K (SV.one (TV.at (At.val (Value.bool false)))) [(Chunk.row false (EC.slot) (d)), (Chunk.row false (EC.u32) (fl)), (Chunk.row false (EC.slot) (e)), (Chunk.row false (EC.u32) (gl))] []))
    ((brS (!((eS d (↑x.i : Int).toNat).node.key == (eS e (↑x.i : Int).toNat).node.key && ((eS d (↑x.i : Int).toNat).node.value == (eS e (↑x.i : Int).toNat).node.value && ((eS d (↑x.i : Int).toNat).node.left == (eS e (↑x.i : Int).toNat).node.left && ((eS d (↑x.i : Int).toNat).node.right == (eS e (↑x.i : Int).toNat).node.right && ((eS d (↑x.i : Int).toNat).node.size == (eS e (↑x.i : Int).toNat).node.size && ((eS d (↑x.i : Int).toNat).node.sum == (eS e (↑x.i : Int).toNat).node.sum && ((eS d (↑x.i : Int).toNat).node.min == (eS e (↑x.i : Int).toNat).node.min && ((eS d (↑x.i : Int).toNat).node.max == (eS e (↑x.i : Int).toNat).node.max && true))))))))) ((K (SV.one (TV.at (At.val (Value.bool false)))) [(Chunk.row false (EC.slot) (d)), (Chunk.row false (EC.u32) (fl)), (Chunk.row false (EC.slot) (e)), (Chunk.row false (EC.u32) (gl))] [])) ((brS ((eS d (↑x.i : Int).toNat).gen != (eS e (↑x.i : Int).toNat).gen) ((K (SV.one (TV.at (At.val (Value.bool false)))) [(Chunk.row false (EC.slot) (d)), (Chunk.row false (EC.u32) (fl)), (Chunk.row false (EC.slot) (e)), (Chunk.row false (EC.u32) (gl))] [])) ((∃ x' : XKp d, (True ∧ ((True ∧ True ∧ ((Value.int IntKind.i64 (IntKind.i64.wrap ((↑x.i : Int) + 1))) = (Value.int IntKind.i64 ((↑x'.i : Int)))) ∧ True) ∧ ((d) = (d)) ∧ ((fl) = (fl)) ∧ ((e) = (e)) ∧ ((gl) = (gl)) ∧ (True ∧ True ∧ True) ∧ (True ∧ True ∧ True) ∧ True) ∧ (d.length - x'.i < d.length - x.i)))))))))) ((∃ x' : XKp d, (True ∧ ((True ∧ True ∧
    ((Value.int IntKind.i64 (IntKind.i64.wrap ((↑x.i : Int) + 1))) = (Value.int IntKind.i64 ((↑x'.i : Int)))) ∧ True) ∧ ((d) = (d)) ∧ ((fl) = (fl)) ∧ ((e) = (e)) ∧ ((gl) = (gl)) ∧ (True ∧ True ∧ True) ∧ (True ∧ True ∧ True) ∧ True) ∧ (d.length - x'.i < d.length - x.i))))) ∧ (brS ((eS d (↑x.i : Int).toNat).alloc) ((brS (!(eS e (↑x.i : Int).toNat).alloc) ((K (SV.one (TV.at (At.val (Value.bool false)))) [(Chunk.row false (EC.slot) (d)), (Chunk.row false (EC.u32) (fl)), (Chunk.row false (EC.slot) (e)), (Chunk.row false (EC.u32) (gl))] [])) ((brS (!((eS d (↑x.i : Int).toNat).node.key == (eS e (↑x.i : Int).toNat).node.key && ((eS d (↑x.i : Int).toNat).node.value == (eS e (↑x.i : Int).toNat).node.value && ((eS d (↑x.i : Int).toNat).node.left == (eS e (↑x.i : Int).toNat).node.left && ((eS d (↑x.i : Int).toNat).node.right == (eS e (↑x.i : Int).toNat).node.right && ((eS d (↑x.i : Int).toNat).node.size == (eS e (↑x.i : Int).toNat).node.size && ((eS d (↑x.i : Int).toNat).node.sum == (eS e (↑x.i : Int).toNat).node.sum && ((eS d (↑x.i : Int).toNat).node.min == (eS e (↑x.i : Int).toNat).node.min && ((eS d (↑x.i : Int).toNat).node.max == (eS e (↑x.i : Int).toNat).node.max && true))))))))) ((K (SV.one (TV.at (At.val (Value.bool false)))) [(Chunk.row false (EC.slot) (d)), (Chunk.row false (EC.u32) (fl)), (Chunk.row false (EC.slot) (e)), (Chunk.row false (EC.u32) (gl))] [])) ((brS ((eS d (↑x.i : Int).toNat).gen != (eS e (↑x.i : Int).toNat).gen)
    ((K (SV.one (TV.at (At.val (Value.bool false)))) [(Chunk.row false (EC.slot) (d)), (Chunk.row false (EC.u32) (fl)), (Chunk.row false (EC.slot) (e)), (Chunk.row false (EC.u32) (gl))] [])) ((∃ x' : XKp d, (True ∧ ((True ∧ True ∧ ((Value.int IntKind.i64 (IntKind.i64.wrap ((↑x.i : Int) + 1))) = (Value.int IntKind.i64 ((↑x'.i : Int)))) ∧ True) ∧ ((d) = (d)) ∧ ((fl) = (fl)) ∧ ((e) = (e)) ∧ ((gl) = (gl)) ∧ (True ∧ True ∧ True) ∧ (True ∧ True ∧ True) ∧ True) ∧ (d.length - x'.i < d.length - x.i)))))))))) ((∃ x' : XKp d, (True ∧ ((True ∧ True ∧ ((Value.int IntKind.i64 (IntKind.i64.wrap ((↑x.i : Int) + 1))) = (Value.int IntKind.i64 ((↑x'.i : Int)))) ∧ True) ∧ ((d) = (d)) ∧ ((fl) = (fl)) ∧ ((e) = (e)) ∧ ((gl) = (gl)) ∧ (True ∧ True ∧ True) ∧ (True ∧ True ∧ True) ∧ True) ∧ (d.length - x'.i < d.length - x.i))))))) ((K (SV.one (TV.at (At.val (Value.bool true)))) [(Chunk.row false (EC.slot) (d)), (Chunk.row false (EC.u32) (fl)), (Chunk.row false (EC.slot) (e)), (Chunk.row false (EC.u32) (gl))] [])))))))) = _ by kernel_rfl) ?_
  obtain ⟨k1, k2⟩ := hk
  refine bf7 (by simp [k1]) ⟨⟨⟨0, Nat.zero_le _⟩, ?_⟩, fun x _ => brS_of (fun c => ?_) fun c => h⟩
  · (repeat' first | exact trivial | exact rfl | refine And.intro ?_ ?_)
  obtain ⟨j, hj⟩ := x
  have c : j < d.length := by have := of_decide_eq_true c; dsimp only at this; omega
  have e0 : ((j : Int)).toNat = j := rfl
  dsimp only
  rw [e0]
  have fin : ∃ x' : XKp d, True ∧ ((True ∧ True ∧ ((Value.int IntKind.i64 (IntKind.i64.wrap ((j : Int) + 1))) = (Value.int IntKind.i64 ((x'.i : Int)))) ∧ True) ∧ (d = d) ∧ (fl = fl) ∧ (e = e) ∧ (gl = gl) ∧ (True ∧ True ∧ True) ∧ (True ∧ True ∧ True) ∧ True) ∧ (d.length - x'.i < d.length - j) := by
    refine ⟨⟨j + 1, c⟩, ?_⟩
    (repeat' first | exact trivial | exact rfl | refine And.intro ?_ ?_)
    · rw [wrap_id (by omega) (by omega)]; congr 1
    · show d.length - (j + 1) < d.length - j; omega
  refine ⟨by omega, by omega, by omega, by omega, ?_, ?_⟩
  all_goals
    refine brS_of (fun a => ?_) fun _ => fin
    obtain ⟨a1, a2, a3⟩ := k2 j c a
    refine bf7 (by rw [a1]; rfl) (bf7 ?_ (bf7 (by rw [a3]; simp) fin))
    rw [a2]; simp
theorem s_kept : SoundT C0 39 tKept := by
  refine .of Try.func39 (by decide) rfl fun args H K h hB => ?_
  unfold tKept at h
  split at h <;> try exact h.elim
  rename_i d fl e gl
  exact ⟨aKp d e fl gl, trivial, vc_kept d e fl gl K h.1 h.2.1 h.2.2⟩
theorem s_spare14 : SoundT C0 37 tSpare := by
  refine .of Try.func37 (by decide) rfl fun args H K h hB => ?_
  unfold tSpare at h
  split at h <;> try exact h.elim
  rename_i n need
  obtain ⟨h1, h2, h3, h4, h⟩ := h
  refine ⟨A0, trivial, Eq.mp (show (brS (n.tmod 4 == 0) (((IntKind.i64.wrap (need + 2) ≠ 0) ∧ (K (SV.one (TV.at (At.val (Value.int IntKind.i64 ((IntKind.i64.wrap n).tmod (IntKind.i64.wrap (need + 2))))))) [] []))) ((K (SV.one (TV.at (At.val (Value.int IntKind.i64 (IntKind.i64.wrap (need + IntKind.i64.wrap (n.tmod 9))))))) [] []))) = _ by kernel_rfl) ?_⟩
  rw [wrap_id (x := need + 2) (by omega) (by omega), wrap_id (x := n) (by omega) (by omega), Int.tmod_eq_emod_of_nonneg (a := n) (b := need + 2) h1, Int.tmod_eq_emod_of_nonneg (a := n) (b := 9) h1]
  refine brS_of (fun _ => ⟨by omega, h _ (Int.emod_nonneg _ (by omega)) ?_⟩) fun _ => ?_
  · have := Int.emod_lt_of_pos n (show 0 < need + 2 by omega); omega
  · rw [wrap_id (x := n % 9) (by omega) (by omega), wrap_id (by omega) (by omega)]
    exact h _ (by omega) (by omega)
theorem newS_free (c : Nat) : (newS c).free = c := by
  unfold Arn.free Arn.cap newS
  simp
theorem order_free {S : Arn} {hs : List Int} (w : Wf S hs) : ((orderOf S).length : Int) = S.free := by
  have h1 := w.n1; have h3 := w.fr
  unfold orderOf orderL upTo Arn.free Arn.cap
  simp
  omega
theorem kept_of {S S' : Arn} {hs : List Int} (w : Wf S hs) (st : Stay S S' hs) (hl : S'.used.length = S.used.length) : keptD (slotsOf S) (slotsOf S') := by
  have e : ncap S' = ncap S := by unfold ncap; rw [hl]
  refine ⟨by rw [slotsOf_len, slotsOf_len, e], fun i hi ha => ?_⟩
  rw [slotsOf_len] at hi
  have g1 : eS (slotsOf S) i = slotAt S i := slotsOf_get S hi
  have g2 : eS (slotsOf S') i = slotAt S' i := slotsOf_get S' (by omega)
  rw [g1] at ha ⊢
  rw [g2]
  have ha : S.us ((i : Int) + 1) = true := ha
  obtain ⟨s1, s2, s3⟩ := st _ (w.reached ha)
  exact ⟨s1, s2, s3⟩
theorem slots_le {S : Arn} {hs : List Int} (w : Wf S hs) : (slotsOf S).length ≤ 65537 := by have := w.n2; rw [slotsOf_len]; unfold ncap; omega
theorem tr_tree {S : Arn} {hs : List Int} {t : Tr} {j : Int} {L : List Ent} (w : Wf S hs) (rp : Rep S t j) (hL : t.list = L) (bal : t.Bal) (asc : Asc L) :
    ∃ t, RepD (slotsOf S) t j ∧ Asc t.list ∧ t.Bal ∧ t.size ≤ 2 * (slotsOf S).length + 2 ∧ t.size ≤ 1000000 ∧ t.list = L := by
  have asc' : Asc t.list := by rw [hL]; exact asc
  have few := rep_few w rp asc'
  have := slots_le w
  exact ⟨t, repD_of w rp, asc', bal, by omega, by omega, hL⟩
theorem plant_free {S : Arn} {hs : List Int} {l : List Ent} {c : Nat} {i : Int} (hp : PlantR (newS c) hs l S i) : S.free = c - l.length := by
  have h1 := hp.wf.free_nonneg.2.2.2
  have h2 : S.cap = c := by unfold Arn.cap; rw [hp.len]; simp [newS]
  have h3 : (newS c).nu = 0 := by simp [Arn.nu, newS, List.countP_replicate]
  have := hp.nu
  omega
theorem plant_up {S : Arn} {l : List Ent} {c : Nat} {i : Int} (hp : PlantR (newS c) [] l S i) (asc : Asc l) (hl : l.length ≤ 60000) : ∃ t, upM S [i] t i ∧ t.list = l ∧ t.size = l.length := by
  obtain ⟨t, r1, r2, r3⟩ := hp.rep
  have sz : t.size = l.length := by rw [← t.list_len, r2]
  have rd : S.reads = 0 := by rw [hp.rds]; rfl
  exact ⟨t, ⟨hp.wf, r1, r3, by rw [r2]; exact asc, by omega, by simp, by omega⟩, r2, sz⟩
theorem vc_aw14 (K : KT) (h : K (.one (.at (vB true))) [] []) : vc C0 aAw14 Try.f18 [] [] (normK 0 K) := by
  refine Eq.mp (show ((((60 : Int) < 1 ∨ (65536 : Int) < 60) →
(K (SV.one (TV.at (At.val (Value.bool false)))) [] [])) ∧
(((1 : Int) ≤ 60) →
(((60 : Int) ≤ 65536) →
(∀ S : Arn, (((S) = (newS (Int.toNat 60))) → (∃ hs : List Int, (∃ t : Tr, ((upM S hs t 0) ∧ (4 * (Hn ((↑t.size : Int) + 1) + 2) ≤ S.free) ∧ (∀ S' : Arn, (∀ j : Int, (∀ o : Option Int, (((o) = (getE t.list 2)) → ((TrR S hs (insE t.list (2, 20)) (iB t.size) (5 * iB t.size + ht t + 1) S' j) → (∃ hs1 : List Int, (∃ t1 : Tr, (∃ v : Int, ((upM S' hs1 t1 j) ∧ ((getE t1.list 2) = (some (v))) ∧ (4 * (Hn (↑t1.size : Int) + 2) ≤ S'.free) ∧ (∀ S'1 : Arn, (∀ j1 : Int, ((TrR S' hs1 (flt (neK 2) t1.list) (dB t1.size) (5 * dB t1.size + ht t1 + 1) S'1 j1) → (brS (!o.isSome) ((brS (j != 0) ((brS (j1 == 0) ((brS (v == 20) (((inU j) ∧ (exW S'1) ∧ (S'1.reads < 4000000000000000000) ∧ (∀ S'2 : Arn, (((S'2) = (rdS S'1 (S'1.us j).toNat)) → (K (SV.one (TV.at (At.val (Value.bool ((S'1.nd j).size == 1))))) [] []))))) ((K (SV.one (TV.at (At.val (Value.bool false)))) [] [])))) ((K (SV.one (TV.at (At.val (Value.bool false)))) [] [])))) ((K (SV.one (TV.at (At.val (Value.bool false)))) [] [])))) ((K (SV.one (TV.at (At.val (Value.bool false)))) [] []))))))))))))))))))))))) = _ by kernel_rfl) ?_
  refine ⟨fun c => by omega, fun _ _ S e => ?_⟩
  have e60 : Int.toNat 60 = 60 := rfl
  rw [e60] at e
  have w : Wf S [] := by rw [e]; exact Wf.new (by omega) (by omega)
  have f : S.free = 60 := by rw [e]; exact newS_free 60
  have rd : S.reads = 0 := by rw [e]; rfl
  have h0 := Hn_rng 0
  have a0 : Hn (0 : Int) = 0 := by decide
  have a1 : Hn (1 : Int) = 1 := by decide
  have i0 : iB 0 = 1 := by have := iB_Hn 0; have : (iB 0 : Int) = 4 * Hn 0 + 1 := this; omega
  refine ⟨[], .nil, ⟨w, rfl, trivial, List.Pairwise.nil, by decide, by simp, by omega⟩, ?_, fun S1 j o eo t1 => ?_⟩
  · show 4 * (Hn 1 + 2) ≤ S.free; omega
  have f1 := t1.got.free w
  have q1 := t1.got.rd
  rw [show Tr.nil.size = 0 from rfl] at f1 q1
  rw [show ht Tr.nil = 0 from rfl] at q1
  obtain ⟨t, rp, lt, bt⟩ := t1.tree
  have lt : t.list = [(2, 20)] := lt
  have sz : t.size = 1 := by rw [← t.list_len, lt]; rfl
  have hj : j ≠ 0 := fun e => by
    rw [e] at rp
    have := rp.zero t1.got.wf
    rw [this] at sz; cases sz
  refine ⟨[j], t, 20, ⟨t1.got.wf, rp, bt, by rw [lt]; exact List.pairwise_singleton _ _, by omega, by simp, by omega⟩, by rw [lt]; rfl, ?_, fun S2 j2 t2 => ?_⟩
  · rw [sz]; show 4 * (Hn 1 + 2) ≤ S1.free; omega
  have q2 := t2.got.rd
  have db : (dB t.size : Int) ≤ 4 * Hn t.size + 4 := dB_Hn _
  rw [sz] at db q2
  have a1' : Hn ((1 : Nat) : Int) = 1 := a1
  have hh := Bal.height bt (by omega)
  rw [sz] at hh
  obtain ⟨u, ru, lu, bu⟩ := t2.tree
  have lu : u.list = [] := by rw [lu, lt]; rfl
  have zu : u.size = 0 := by rw [← u.list_len, lu]; rfl
  have hj2 : j2 = 0 := by
    cases u with
    | nil => exact ru
    | node a k v b => simp [Tr.size] at zu
  have rp2 : Rep S2 t j := rp.held t1.got.wf t2.got.stay (.inr (by simp))
  have eo : o = none := eo
  refine bt7 (by rw [eo]; rfl) (bt7 (by simp [hj]) (bt7 (by simp [hj2]) (bt7 rfl ⟨inU_of t2.got.wf rp2.us, ⟨_, t2.got.wf⟩, by omega, fun S3 _ => ?_⟩)))
  rw [rp2.size t2.got.wf, sz]
  exact h
theorem s_aw14 : SoundT C0 18 tAw14 := by
  refine .of Try.func18 (by decide) rfl fun args H K h hB => ?_
  unfold tAw14 at h
  split at h <;> try exact h.elim
  exact ⟨aAw14, ⟨frame C0.ok s_new _, frame C0.ok s_upIn _, frame C0.ok s_upDe _, frame C0.ok s_size _, trivial⟩, vc_aw14 K h⟩
end Go.Proofs.Ytjbkckcjmmmooaa.Sx
end
section
/- What the join laws share: awake, spare, tree, pair. -/
namespace Go.Proofs.Ytjbkckcjmmmooaa.Sx
open Go

/-KEEP Wf exW inU live Arn.cap Arn.free Rep rdS retL Tr.size Tr.list Tr.Bal balN jB cB gN TrR Got flt ltK gtK getE Asc Hn ht entO List.head? List.getLast? PlantR newS slotsOf orderOf RepD jnM upM ordB-/
noncomputable def aTree13 : Ann C0 := { Γ := [(30, frameT [] tDump), (32, frameT [] tTr7)] }
def tTree13 : Tfm C0 := fun args H K => match args with
  | [.at (.ptr 0 0), .at (.val (.int .u32 i)), .at (.slc 7)] => arMr H fun S rest => match rest with
    | [.row false .ent l] => (∃ hs t, Wf S hs ∧ Rep S t i ∧ t.list = l ∧ t.Bal ∧ Asc l) ∧ K (.one (.at (vB true))) (chS S ++ [.row false EC.ent l]) []
    | _ => False
  | _ => False
noncomputable def aPair13 : Ann C0 := { Γ := [(15, frameT [] tMod), (25, frameT [] tNew), (64, frameT [] tPlantA)] }
noncomputable def aAw13 : Ann C0 := { Γ := [(17, frameT [] tGrow), (43, frameT [] tJjOk), (42, frameT [] tJsOk), (61, frameT [] tSize)] }
def tAw13 : Tfm C0 := fun args H K => match args, H with
  | [], [] => K (.one (.at (vB true))) [] []
  | _, _ => False
theorem mod_rng2 {a n x : Int} (hn : 0 < n) (e : x = a % n) : 0 ≤ x ∧ x < n := ⟨by rw [e]; exact Int.emod_nonneg _ (by omega), by rw [e]; exact Int.emod_lt_of_pos _ hn⟩
theorem s_spare13 : SoundT C0 47 tSpare := by
  refine .of Try.func47 (by decide) rfl fun args H K h hB => ?_
  unfold tSpare at h
  split at h <;> try exact h.elim
  rename_i n need
  obtain ⟨h1, h2, h3, h4, h⟩ := h
  refine ⟨A0, trivial, Eq.mp (show (brS (n.tmod 4 == 0) (((IntKind.i64.wrap (need + 2) ≠ 0) ∧ (K (SV.one (TV.at (At.val (Value.int IntKind.i64 ((IntKind.i64.wrap n).tmod (IntKind.i64.wrap (need + 2))))))) [] []))) ((K (SV.one (TV.at (At.val (Value.int IntKind.i64 (IntKind.i64.wrap (need + IntKind.i64.wrap (n.tmod 9))))))) [] []))) = _ by kernel_rfl) ?_⟩
  rw [wrap_id (x := need + 2) (by omega) (by omega), wrap_id (x := n) (by omega) (by omega), Int.tmod_eq_emod_of_nonneg (a := n) (b := need + 2) h1, Int.tmod_eq_emod_of_nonneg (a := n) (b := 9) h1]
  refine brS_of (fun _ => ⟨by omega, h _ (Int.emod_nonneg _ (by omega)) ?_⟩) fun _ => ?_
  · have := Int.emod_lt_of_pos n (show 0 < need + 2 by omega); omega
  · rw [wrap_id (x := n % 9) (by omega) (by omega), wrap_id (by omega) (by omega)]
    exact h _ (by omega) (by omega)
theorem vc_tree13 (S : Arn) (i : Int) (l : List Ent) (K : KT) (h0 : ∃ hs t, Wf S hs ∧ Rep S t i ∧ t.list = l ∧ t.Bal ∧ Asc l) (h : K (.one (.at (vB true))) (chS S ++ [.row false EC.ent l]) []) :
    vc C0 aTree13 Try.f44 [.at (.ptr 0 0), .at (vU i), .at (.slc 7)] (chS S ++ [.row false EC.ent l]) (normK 8 K) := by
  refine Eq.mp (show ((exW S) ∧
(∀ d : List SlotT, (∀ o : List Int, (((d) = (slotsOf S)) → (((o) = (orderOf S)) → ((d.length ≤ 1000000) ∧ (∃ t : Tr, ((RepD d t i) ∧ (Asc t.list) ∧ (t.Bal) ∧ (t.size ≤ 2 * d.length + 2) ∧ (t.size ≤ 1000000) ∧ ((t.list) = (l)))) ∧ (K (SV.one (TV.at (At.val (Value.bool true)))) [(Chunk.box [(At.ptr 1 0), (At.slc 2), (At.slc 3), (At.val (Value.int IntKind.u64 (S.reads)))]), (Chunk.box [(At.slc 4), (At.slc 5), (At.slc 6), (At.val (Value.int IntKind.u32 (S.fresh)))]), (Chunk.row true (EC.node) (S.nodes)), (Chunk.row true (EC.int) (S.counts)), (Chunk.row true (EC.bool) (S.used)), (Chunk.row true (EC.u32) (S.gen)), (Chunk.row true (EC.u32) (S.rel)), (Chunk.row false (EC.ent) (l))] []))))))) = _ by kernel_rfl) ?_
  obtain ⟨hs, t, w, rp, lt, bal, asc⟩ := h0
  have u := tr_tree w rp lt bal asc
  have sl := slots_le w
  exact ⟨⟨_, w⟩, fun d o ed _ => ⟨by rw [ed]; omega, by rw [ed]; exact u, h⟩⟩
theorem s_tree13 : SoundT C0 44 tTree13 := by
  refine .of Try.func44 (by decide) rfl fun args H K h hB => ?_
  unfold tTree13 at h
  split at h <;> try exact h.elim
  unfold arMr at h
  split at h <;> try exact h.elim
  split at h <;> try exact h.elim
  rename_i i _ rd fr nd ct us gn rl _ l
  exact ⟨aTree13, ⟨frame C0.ok s_dump _, frame C0.ok s_tr7 _, trivial⟩, vc_tree13 ⟨us, gn, rl, fr, nd, ct, rd⟩ i l K h.1 h.2⟩
/-- Two trees in a new arena. -/
structure PairR (c : Nat) (lx ly : List Ent) (S : Arn) (x y : Int) : Prop where
  wf : Wf S [x, y]
  rx : ∃ t, Rep S t x ∧ t.list = lx ∧ t.Bal
  ry : ∃ t, Rep S t y ∧ t.list = ly ∧ t.Bal
  rds : S.reads = 0
  free : S.free = c - lx.length - ly.length
abbrev chPr (raw l lx ly : List Ent) (S : Arn) : List (Chunk C0) := [.row false EC.ent raw, .row false EC.ent l, .box [.ptr 5 0, .slc 6, .slc 7, vU64 S.reads], .row false EC.ent lx, .row false EC.ent ly, .box [.slc 8, .slc 9, .slc 10, vU S.fresh], .row true EC.node S.nodes, .row true EC.int S.counts, .row true EC.bool S.used, .row true EC.u32 S.gen, .row true EC.u32 S.rel]
def tPair13 : Tfm C0 := fun args H K => match args, H with
  | [.at (.slc 1), .at (.val (.int .i64 _)), .at (.val (.int .i64 _)), .at (.val (.int .u64 t)), .at (.val (.int .i64 sp))], [.row false .ent raw, .row true .ent l] => l.length ≤ 1000 ∧ 0 ≤ t ∧ 0 ≤ sp ∧ sp ≤ 20000 ∧
    ∀ S x y p q, p ≤ q → q ≤ l.length → PairR (l.length + 1 + sp).toNat (l.take p) (l.drop q) S x y → K (.tup [.at (.ptr 2 0), .at (vU x), .at (vU y), .at (.slc 3), .at (.slc 4), .at (vB true)]) (chPr raw l (l.take p) (l.drop q) S) []
  | _, _ => False
theorem plant_pair {c : Nat} {lx ly : List Ent} {S S' : Arn} {x y : Int} (h1 : PlantR (newS c) [] lx S x) (h2 : PlantR S [x] ly S' y) : PairR c lx ly S' x y := by
  obtain ⟨t1, r1, l1, b1⟩ := h1.rep
  refine ⟨h2.wf.perm (List.Perm.swap _ _ _), ⟨t1, r1.held h1.wf h2.stay (.inr (by simp)), l1, b1⟩, h2.rep, by rw [h2.rds, h1.rds]; rfl, ?_⟩
  have a := h2.wf.free_nonneg.2.2.2
  have b := h2.nu
  have d := h1.nu
  have e : S'.cap = c := by unfold Arn.cap; rw [h2.len, h1.len]; simp [newS]
  have f : (newS c).nu = 0 := by simp [Arn.nu, newS, List.countP_replicate]
  omega
theorem vc_pair13 (raw l : List Ent) (at' sk t sp : Int) (K : KT) (hl : l.length ≤ 1000) (h0 : 0 ≤ t) (h1 : 0 ≤ sp) (h2 : sp ≤ 20000)
    (h : ∀ S x y p q, p ≤ q → q ≤ l.length → PairR (l.length + 1 + sp).toNat (l.take p) (l.drop q) S x y → K (.tup [.at (.ptr 2 0), .at (vU x), .at (vU y), .at (.slc 3), .at (.slc 4), .at (vB true)]) (chPr raw l (l.take p) (l.drop q) S) []) :
    vc C0 aPair13 Try.f46 [.at (.slc 1), .at (vI at'), .at (vI sk), .at (vU64 t), .at (vI sp)] [.row false EC.ent raw, .row true EC.ent l] (normK 2 K) := by
  refine Eq.mp (show ((0 < IntKind.i64.wrap ((↑l.length : Int) + 1)) ∧
(IntKind.i64.wrap ((↑l.length : Int) + 1) ≤ 9223372036854775807) ∧
(∀ x : Int, (((x) = (at' % IntKind.i64.wrap ((↑l.length : Int) + 1))) → (((0 : Int) < 3) ∧ ((3 : Int) ≤ 9223372036854775807) ∧ (∀ x1 : Int, (((x1) = (sk % 3)) → (((IntKind.i64.wrap (IntKind.i64.wrap ((↑l.length : Int) + 1) + sp) < 1 ∨ 65536 < IntKind.i64.wrap (IntKind.i64.wrap ((↑l.length : Int) + 1) + sp)) → (K (SV.tup [(TV.at (At.val (Value.pointer none))), (TV.at (At.val (Value.int IntKind.u32 0))), (TV.at (At.val (Value.int IntKind.u32 0))), (TV.at (At.slc 2)), (TV.at (At.slc 3)), (TV.at (At.val (Value.bool false)))]) [(Chunk.row false (EC.ent) (raw)), (Chunk.row true (EC.ent) (l)), (Chunk.row true (EC.ent) []), (Chunk.row true (EC.ent) [])] [])) ∧ ((1 ≤ IntKind.i64.wrap (IntKind.i64.wrap ((↑l.length : Int) + 1) + sp)) → ((IntKind.i64.wrap (IntKind.i64.wrap ((↑l.length : Int) + 1) + sp) ≤ 65536) → (∀ S : Arn, (((S) = (newS (IntKind.i64.wrap (IntKind.i64.wrap ((↑l.length : Int) + 1) + sp)).toNat)) → (((0 : Int) ≤ 0) ∧ (0 ≤ x) ∧ (x ≤ (↑l.length : Int)) ∧ (∃ hs : List Int, ((Wf S hs) ∧ ((List.drop (Int.toNat 0) (List.take x.toNat l)).length ≤ 100000) ∧ ((↑(List.drop (Int.toNat 0) (List.take x.toNat l)).length : Int) ≤ S.free) ∧ (hs.length + (List.drop (Int.toNat 0) (List.take x.toNat l)).length ≤ 900000000) ∧ (0 ≤ t) ∧ (∀ S' : Arn, (∀ i : Int, ((PlantR S hs (List.drop (Int.toNat 0) (List.take x.toNat l)) S' i) →
    ((0 ≤ if (↑l.length : Int) < IntKind.i64.wrap (x + x1) then (↑l.length : Int) else IntKind.i64.wrap (x + x1)) ∧ ((if (↑l.length : Int) < IntKind.i64.wrap (x + x1) then (↑l.length : Int) else IntKind.i64.wrap (x + x1)) ≤ (↑l.length : Int)) ∧ ((↑l.length : Int) ≤ (↑l.length : Int)) ∧ (∃ hs1 : List Int, ((Wf S' hs1) ∧ ((List.drop (if (↑l.length : Int) < IntKind.i64.wrap (x + x1) then (↑l.length : Int) else IntKind.i64.wrap (x + x1)).toNat (List.take (↑l.length : Int).toNat l)).length ≤ 100000) ∧ ((↑(List.drop (if (↑l.length : Int) < IntKind.i64.wrap (x + x1) then (↑l.length : Int) else IntKind.i64.wrap (x + x1)).toNat (List.take (↑l.length : Int).toNat l)).length : Int) ≤ S'.free) ∧ (hs1.length + (List.drop (if (↑l.length : Int) < IntKind.i64.wrap (x + x1) then (↑l.length : Int) else IntKind.i64.wrap (x + x1)).toNat (List.take (↑l.length : Int).toNat l)).length ≤ 900000000) ∧ (0 ≤ IntKind.u64.wrap (IntKind.u64.wrap (t * 7) + 3)) ∧ (∀ S'1 : Arn, (∀ i1 : Int, ((PlantR S' hs1 (List.drop (if (↑l.length : Int) < IntKind.i64.wrap (x + x1) then (↑l.length : Int) else IntKind.i64.wrap (x + x1)).toNat (List.take (↑l.length : Int).toNat l)) S'1 i1) → (((0 : Int) ≤ 0) ∧ (0 ≤ x) ∧ (x ≤ (↑l.length : Int)) ∧ (0 ≤ if (↑l.length : Int) < IntKind.i64.wrap (x + x1) then (↑l.length : Int) else IntKind.i64.wrap (x + x1)) ∧ ((if (↑l.length : Int) < IntKind.i64.wrap (x + x1) then (↑l.length : Int) else IntKind.i64.wrap (x + x1)) ≤ (↑l.length : Int)) ∧ ((↑l.length : Int) ≤ (↑l.length : Int)) ∧
    (K (SV.tup [(TV.at (At.ptr 2 0)), (TV.at (At.val (Value.int IntKind.u32 (i)))), (TV.at (At.val (Value.int IntKind.u32 (i1)))), (TV.at (At.slc 3)), (TV.at (At.slc 4)), (TV.at (At.val (Value.bool true)))]) [(Chunk.row false (EC.ent) (raw)), (Chunk.row false (EC.ent) (l)), (Chunk.box [(At.ptr 5 0), (At.slc 6), (At.slc 7), (At.val (Value.int IntKind.u64 (S'1.reads)))]), (Chunk.row false (EC.ent) (List.drop (Int.toNat 0) (List.take x.toNat l))), (Chunk.row false (EC.ent) (List.drop (if (↑l.length : Int) < IntKind.i64.wrap (x + x1) then (↑l.length : Int) else IntKind.i64.wrap (x + x1)).toNat (List.take (↑l.length : Int).toNat l))), (Chunk.box [(At.slc 8), (At.slc 9), (At.slc 10), (At.val (Value.int IntKind.u32 (S'1.fresh)))]), (Chunk.row true (EC.node) (S'1.nodes)), (Chunk.row true (EC.int) (S'1.counts)), (Chunk.row true (EC.bool) (S'1.used)), (Chunk.row true (EC.u32) (S'1.gen)), (Chunk.row true (EC.u32) (S'1.rel))] []))))))))))))))))))))))))) = _ by kernel_rfl) ?_
  rw [wrap_id (x := (l.length : Int) + 1) (by omega) (by omega), wrap_id (x := (l.length : Int) + 1 + sp) (by omega) (by omega)]
  refine ⟨by omega, by omega, fun x ex => ⟨by decide, by decide, fun x1 ex1 => ⟨fun c => by omega, fun _ _ S eS => ?_⟩⟩⟩
  obtain ⟨r1, r2⟩ := mod_rng2 (by omega) ex
  obtain ⟨r3, r4⟩ := mod_rng2 (by omega) ex1
  rw [wrap_id (x := x + x1) (by omega) (by omega)]
  have eq : ∃ q : Nat, (if (l.length : Int) < x + x1 then (l.length : Int) else x + x1) = (q : Int) ∧ x.toNat ≤ q ∧ q ≤ l.length := by
    split
    · exact ⟨l.length, rfl, by omega, Nat.le_refl _⟩
    · exact ⟨(x + x1).toNat, by omega, by omega, by omega⟩
  obtain ⟨q, e, q1, q2⟩ := eq
  rw [e]
  have e1 : List.drop (Int.toNat 0) (List.take x.toNat l) = l.take x.toNat := rfl
  have e2 : (q : Int).toNat = q := rfl
  have e3 : ((l.length : Int)).toNat = l.length := rfl
  rw [e1, e2, e3, List.take_length]
  have n1 : (l.take x.toNat).length ≤ l.length := by simp; omega
  have n2 : (l.drop q).length ≤ l.length - q := by simp
  have n3 : (l.take x.toNat).length = x.toNat := by simp; omega
  have w : Wf S [] := by rw [eS]; exact Wf.new (by omega) (by omega)
  have fr : S.free = (l.length : Int) + 1 + sp := by rw [eS, newS_free]; omega
  refine ⟨by decide, r1, by omega, [], w, by omega, by omega, by simp; omega, h0, fun S1 i hp => ?_⟩
  rw [eS] at hp
  have fr1 := plant_free hp
  refine ⟨by omega, by omega, by omega, [i], hp.wf, by omega, by omega, by simp; omega, ?_, fun S2 j hp2 => ⟨by decide, r1, by omega, by omega, by omega, by omega, ?_⟩⟩
  · unfold IntKind.wrap; simp [IntKind.signed, IntKind.bits]; omega
  · have key : ∀ z : List Ent, z = l.drop q → K (.tup [.at (.ptr 2 0), .at (vU i), .at (vU j), .at (.slc 3), .at (.slc 4), .at (vB true)]) (chPr raw l (l.take x.toNat) z S2) [] := fun z ez => by
      subst ez
      exact h S2 i j x.toNat q q1 q2 (plant_pair hp hp2)
    exact key _ (congrArg (List.drop q) (List.take_length (l := l)))
theorem s_pair13 : SoundT C0 46 tPair13 := by
  refine .of Try.func46 (by decide) rfl fun args H K h hB => ?_
  unfold tPair13 at h
  split at h <;> try exact h.elim
  rename_i at' sk t sp raw l
  exact ⟨aPair13, ⟨frame C0.ok s_mod _, frame C0.ok s_new _, frame C0.ok s_plantA _, trivial⟩, vc_pair13 raw l at' sk t sp K h.1 h.2.1 h.2.2.1 h.2.2.2.1 h.2.2.2.2⟩
theorem vc_aw13 (K : KT) (h : K (.one (.at (vB true))) [] []) : vc C0 aAw13 Try.f41 [] [] (normK 0 K) := by
  refine Eq.mp (show (((0 : Int) ≤ 0) ∧
((1 : Int) ≤ 60) ∧
((60 : Int) ≤ 30000) ∧
(([(1, 10)] : List Ent).length ≤ 30000) ∧
(∀ S' : Arn, (∀ i : Int, ((PlantR (newS ((↑([(1, 10)] : List Ent).length : Int) + 60).toNat) [] ([(1, 10)] : List Ent) S' i) → (∃ hs : List Int, (∃ tl : Tr, (∃ tr : Tr, ((jnM S' hs tl tr i 0) ∧ (S'.reads ≤ 900000000000000000) ∧ ((ordB tl.list 5 tr.list) = false) ∧ (4 * (Hn ((↑tl.size : Int) + (↑tr.size : Int) + 1) + 2) ≤ S'.free) ∧ (∀ S'1 : Arn, (∀ i1 : Int, ((TrR S' hs (tl.list ++ (5, 50) :: tr.list) (jB tl.size tr.size) (4 * jB tl.size tr.size + ht tl + ht tr + 2) S'1 i1) → (∃ hs1 : List Int, (∃ t : Tr, ((upM S'1 hs1 t i1) ∧ (12 * (Hn (↑t.size : Int) + 2) ≤ S'1.free) ∧ (∀ S'2 : Arn, (∀ x : Int, (∀ y : Int, (∀ o : Option Int, ((Got S'1 hs1 (7 * gN (t.size + 1) + 1) (35 * gN (t.size + 1) + 5 + 2 * ht t + 1) S'2 (x :: y :: hs1)) → ((∃ t1 : Tr, ((Rep S'2 t1 x) ∧ ((t1.list) = (flt (ltK 5) t.list)) ∧ (t1.Bal))) → ((∃ t2 : Tr, ((Rep S'2 t2 y) ∧ ((t2.list) = (flt (gtK 5) t.list)) ∧ (t2.Bal))) → (((o) = (getE t.list 5)) → (brS (o.isSome) ((brS (o.getD 0 == 50) ((brS (y == 0) (((inU i1) ∧ (exW S'2) ∧ (S'2.reads < 4000000000000000000) ∧ (∀ S'3 : Arn, (((S'3) = (rdS S'2 (S'2.us i1).toNat)) → (brS ((S'2.nd i1).size == 2) (((inU x) ∧ (exW S'3) ∧ (S'3.reads < 4000000000000000000) ∧ (∀ S'4 : Arn, (((S'4) = (rdS S'3 (S'3.us x).toNat)) → (K (SV.one (TV.at (At.val (Value.bool ((S'3.nd x).size == 1))))) [] []))))) ((K (SV.one (TV.at (At.val (Value.bool false)))) [] [])))))))
    ((K (SV.one (TV.at (At.val (Value.bool false)))) [] [])))) ((K (SV.one (TV.at (At.val (Value.bool false)))) [] [])))) ((K (SV.one (TV.at (At.val (Value.bool false)))) [] []))))))))))))))))))))))))) = _ by kernel_rfl) ?_
  refine ⟨by decide, by decide, by decide, by decide, fun S1 i hp => ?_⟩
  have fr := plant_free hp
  have fr : S1.free = 60 := by rw [fr]; rfl
  obtain ⟨t, r1, l1, b1⟩ := hp.rep
  have z1 : t.size = 1 := by rw [← t.list_len, l1]; rfl
  have rd : S1.reads = 0 := by rw [hp.rds]; rfl
  have a2 : Hn (2 : Int) = 2 := by decide
  have a1 : Hn (1 : Int) = 1 := by decide
  refine ⟨[i], t, .nil, ⟨hp.wf, r1, rfl, b1, trivial, by rw [z1]; decide, by simp, by omega⟩, by omega, by rw [l1]; rfl, ?_, fun S2 j tj => ?_⟩
  · rw [z1]
    have : Hn (((1 : Nat) : Int) + (Tr.nil.size : Int) + 1) = 2 := a2
    omega
  rw [l1] at tj
  have f2 := tj.got.free hp.wf
  have q2 := tj.got.rd
  have q20 := tj.got.rd0
  have jb : jB t.size Tr.nil.size ≤ 7 := by rw [z1]; have := jB_g (a := 1) (b := 0) (by omega); have : gN (1 + 0 + 1) = 1 := by decide
                                            have e : jB 1 Tr.nil.size = jB 1 0 := rfl
                                            omega
  have hb := Bal.height b1 (by omega)
  rw [z1, show ((1 : Nat) : Int) = 1 from rfl, a1] at hb
  have hn : ht Tr.nil = 0 := rfl
  obtain ⟨u, ru, lu, bu⟩ := tj.tree
  have lu : u.list = [(1, 10), (5, 50)] := lu
  have asc2 : Asc [(1, 10), (5, 50)] := List.pairwise_cons.2 ⟨fun x hx => by
    have : x = (5, 50) := by simpa using hx
    rw [this]
    decide, List.pairwise_singleton _ _⟩
  have zu : u.size = 2 := by rw [← u.list_len, lu]; rfl
  refine ⟨[j, i], u, ⟨tj.got.wf, ru, bu, by rw [lu]; exact asc2, by omega, by simp, by omega⟩, ?_, fun S3 x y o g t1 t2 eo => ?_⟩
  · rw [zu]; show 12 * (Hn 2 + 2) ≤ S2.free; omega
  obtain ⟨ta, ra, la, ba⟩ := t1
  obtain ⟨tb, rb, lb, bb⟩ := t2
  have la : ta.list = [(1, 10)] := by rw [la, lu]; rfl
  have lb : tb.list = [] := by rw [lb, lu]; rfl
  have za : ta.size = 1 := by rw [← ta.list_len, la]; rfl
  have zb : tb.size = 0 := by rw [← tb.list_len, lb]; rfl
  have eo : o = some 50 := by rw [eo, lu]; rfl
  have hy : y = 0 := by
    cases tb with
    | nil => exact rb
    | node a k v b => simp [Tr.size] at zb
  have rj : Rep S3 u j := ru.held tj.got.wf g.stay (.inr (by simp))
  have q3 := g.rd
  have q30 := g.rd0
  have hh := Bal.height bu (by omega)
  rw [zu] at q3 hh
  have a2' : Hn ((2 : Nat) : Int) = 2 := a2
  have hgn : gN (2 + 1) ≤ 80 := gN_rng _
  have w3 := g.wf
  have s3 := us_one (S3.us j)
  refine bt7 (by rw [eo]; rfl) (bt7 (by rw [eo]; rfl) (bt7 (by simp [hy]) ⟨inU_of w3 rj.us, ⟨_, w3⟩, by omega, fun S4 e4 => bt7 (by rw [rj.size w3, zu]; rfl) ?_⟩))
  have w4 : Wf S4 (x :: y :: j :: i :: []) := by rw [e4]; exact w3.rd (by omega)
  have ra4 : Rep S4 ta x := by rw [e4]; exact rep_rd ra _
  have q4 : S4.reads = S3.reads + (S3.us j).toNat := by rw [e4]; rfl
  refine ⟨inU_of w4 ra4.us, ⟨_, w4⟩, by omega, fun S5 _ => ?_⟩
  rw [ra4.size w4, za]
  exact h
theorem s_aw13 : SoundT C0 41 tAw13 := by
  refine .of Try.func41 (by decide) rfl fun args H K h hB => ?_
  unfold tAw13 at h
  split at h <;> try exact h.elim
  exact ⟨aAw13, ⟨frame C0.ok s_grow _, frame C0.ok s_jjOk _, frame C0.ok s_jsOk _, frame C0.ok s_size _, trivial⟩, vc_aw13 K h⟩
end Go.Proofs.Ytjbkckcjmmmooaa.Sx
end
