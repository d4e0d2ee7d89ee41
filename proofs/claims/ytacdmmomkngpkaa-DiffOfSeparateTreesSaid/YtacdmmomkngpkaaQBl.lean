/- Range, Slice and List; Build. -/
import Derived.Test.YtacdmmomkngpkaaQBk
namespace Go.Proofs.Ytacdmmomkngpkaa.Sx
open Go

/-KEEP Wf exW inU live Arn.cap Arn.free maxSize mkNode makeS relA nxt NodeR BuildR Rep lk pl rdS Tr.size rangeR sliceR ne0-/
def tLkA : Tfm C0 := fun args H K => match args with
  | [.at (.ptr 0 0), .at (.val (.int .u32 i)), .at (.val (.int .i64 lo)), .at (.val (.int .i64 hi))] => lsM H fun lim S out => ∃ hs t, Wf S hs ∧ Rep S t i ∧ t.size ≤ 1000000 ∧ out.length + t.size ≤ 3000000 ∧ S.reads + t.size ≤ 3000000000000000000 ∧
    ∀ S' out', S' = rdS S (lk t lo hi (room lim out)).2 → out' = out ++ (lk t lo hi (room lim out)).1 → K (.tup []) (chL lim S' out') [0, 1, 2]
  | _ => False
theorem s_lkA : SoundT C0 101 tLkA := (s_lk 1000001).weak fun args H K h => by
  unfold tLkA at h
  unfold tLk
  split at h <;> try exact h.elim
  unfold lsM at h ⊢
  split at h <;> try exact h.elim
  obtain ⟨hs, t, h1, h2, h3, h4⟩ := h
  exact ⟨hs, t, h1, h2, by omega, h3, h4⟩
def tPlA : Tfm C0 := fun args H K => match args with
  | [.at (.ptr 0 0), .at (.val (.int .u32 i)), .at (.val (.int .i64 x)), .at (.val (.int .i64 y))] => lsM H fun lim S out => ∃ hs t, Wf S hs ∧ Rep S t i ∧ t.size ≤ 1000000 ∧ out.length + t.size ≤ 3000000 ∧ S.reads + 2 * t.size ≤ 3000000000000000000 ∧ 0 ≤ x ∧ y ≤ t.size ∧
    ∀ S' out', S' = rdS S (pl t x y).2 → out' = out ++ (pl t x y).1 → K (.tup []) (chL lim S' out') [0, 1, 2]
  | _ => False
theorem s_plA : SoundT C0 103 tPlA := (s_pl 1000001).weak fun args H K h => by
  unfold tPlA at h
  unfold tPl
  split at h <;> try exact h.elim
  unfold lsM at h ⊢
  split at h <;> try exact h.elim
  obtain ⟨hs, t, h1, h2, h3, h4⟩ := h
  exact ⟨hs, t, h1, h2, by omega, h3, h4⟩
def rangeR (t : Tr) (lo hi lim : Int) : List Ent × Nat := if lim ≤ 0 ∨ hi < lo then ([], 0) else lk t lo hi lim.toNat
def sliceR (t : Tr) (x y : Int) : List Ent × Nat := if x < 0 ∨ y < x then ([], 0) else if (t.size : Int) < y then ([], ne0 t) else ((pl t x y).1, ne0 t + (pl t x y).2)
noncomputable def aRange : Ann C0 := { Γ := [(101, frameT [] tLkA)] }
def tRange : Tfm C0 := fun args H K => match args with
  | [.at (.ptr 0 0), .at (.val (.int .u32 i)), .at (.val (.int .i64 lo)), .at (.val (.int .i64 hi)), .at (.val (.int .i64 lim))] => arM H fun S => ∃ hs t, Wf S hs ∧ Rep S t i ∧ t.size ≤ 1000000 ∧ S.reads + t.size ≤ 3000000000000000000 ∧
    ∀ S' (out : List Ent), S' = rdS S (rangeR t lo hi lim).2 → out = (rangeR t lo hi lim).1 → K (.one (.at (.slc 7))) (chS S' ++ [.row true EC.ent out]) [0]
  | _ => False
noncomputable def aSlice : Ann C0 := { Γ := [(103, frameT [] tPlA), (20, frameT [] tSize)] }
def tSlice : Tfm C0 := fun args H K => match args with
  | [.at (.ptr 0 0), .at (.val (.int .u32 i)), .at (.val (.int .i64 x)), .at (.val (.int .i64 y))] => arM H fun S => ∃ hs t, Wf S hs ∧ Rep S t i ∧ t.size ≤ 1000000 ∧ S.reads + 2 * t.size ≤ 2000000000000000000 ∧
    ∀ S' (out : List Ent), S' = rdS S (sliceR t x y).2 → out = (sliceR t x y).1 → K (.one (.at (.slc 7))) (chS S' ++ [.row true EC.ent out]) [0]
  | _ => False
noncomputable def aList : Ann C0 := { Γ := [(54, frameT [] tRange)] }
def tList : Tfm C0 := fun args H K => match args with
  | [.at (.ptr 0 0), .at (.val (.int .u32 i))] => arM H fun S => ∃ hs t, Wf S hs ∧ Rep S t i ∧ t.size ≤ 1000000 ∧ S.reads + t.size ≤ 3000000000000000000 ∧
    ∀ S' (out : List Ent), S' = rdS S (rangeR t (-9223372036854775808) 9223372036854775807 2147483647).2 → out = (rangeR t (-9223372036854775808) 9223372036854775807 2147483647).1 → K (.one (.at (.slc 7))) (chS S' ++ [.row true EC.ent out]) [0]
  | _ => False
def tNodeW : Tfm C0 := fun args H K => match args with
  | [.at (.ptr 0 0), .at (.val (.int .u32 l)), .agg [.val (.int .i64 k), .val (.int .i64 v)], .at (.val (.int .u32 r))] => arM H fun S => ∃ hs tl tr, Wf S (l :: r :: hs) ∧ Rep S tl l ∧ Rep S tr r ∧ tl.size + tr.size ≤ 1000000 ∧ 0 < S.free ∧ hs.length ≤ 900000000 ∧
    ∀ S' i, NodeR S hs k v tl tr S' i → K (.one (.at (vU i))) (chS S') W7
  | _ => False
noncomputable def aNodeW : Ann C0 := { Γ := [(16, frameT [] tMakeOk), (17, frameT [] tGive)] }
def tBld (n : Nat) : Tfm C0 := fun args H K => match args with
  | [.at (.ptr 0 0), .at (.slc 7)] => arMr H fun S rest => match rest with
    | [.row false .ent l] => ∃ hs, Wf S hs ∧ l.length < n ∧ l.length ≤ 100000 ∧ (l.length : Int) ≤ S.free ∧ hs.length + l.length ≤ 800000000 ∧ ∀ S' i, BuildR S hs l S' i → K (.one (.at (vU i))) (chS S' ++ [.row false EC.ent l]) W7
    | _ => False
  | _ => False
structure XBld (P : Arn → Int → Prop) where
  S : Arn
  i : Int
  h : P S i
noncomputable def aBld (n : Nat) (l : List Ent) (P : Arn → Int → Prop) : Ann C0 := { Γ := [(81, frameT [] (tBld n)), (114, frameT [] tNodeW)], inv := fun k => match k with
  | 1005 => some { X := XBld P, sl := [6], tf := fun x => [vi .u32 x.i], hf := fun x => chS x.S ++ [.row false EC.ent l], wr := W7 }
  | _ => none }
theorem vc_range (S : Arn) (i lo hi lim : Int) (K : KT) (hs : List Int) (t : Tr) (hw : Wf S hs) (hr : Rep S t i) (h1 : t.size ≤ 1000000) (h2 : S.reads + t.size ≤ 3000000000000000000)
    (h : ∀ S' (out : List Ent), S' = rdS S (rangeR t lo hi lim).2 → out = (rangeR t lo hi lim).1 → K (.one (.at (.slc 7))) (chS S' ++ [.row true EC.ent out]) [0]) :
    vc C0 aRange Try.f54 [.at (.ptr 0 0), .at (vU i), .at (vI lo), .at (vI hi), .at (vI lim)] (chS S) (normK 7 (wideK [0] K)) := by
  refine Eq.mp (show (brS (decide (lim ≤ 0))
  ((K (SV.one (TV.at (At.slc 7))) [(Chunk.box [(At.ptr 1 0), (At.slc 2), (At.slc 3), (At.val (Value.int IntKind.u64 (S.reads)))]), (Chunk.box [(At.slc 4), (At.slc 5), (At.slc 6), (At.val (Value.int IntKind.u32 (S.fresh)))]), (Chunk.row true (EC.node) (S.nodes)), (Chunk.row true (EC.int) (S.counts)), (Chunk.row true (EC.bool) (S.used)), (Chunk.row true (EC.u32) (S.gen)), (Chunk.row true (EC.u32) (S.rel)), (Chunk.row true (EC.ent) [])] [0]))
  ((brS (decide (lo > hi))
    ((K (SV.one (TV.at (At.slc 7))) [(Chunk.box [(At.ptr 1 0), (At.slc 2), (At.slc 3), (At.val (Value.int IntKind.u64 (S.reads)))]), (Chunk.box [(At.slc 4), (At.slc 5), (At.slc 6), (At.val (Value.int IntKind.u32 (S.fresh)))]), (Chunk.row true (EC.node) (S.nodes)), (Chunk.row true (EC.int) (S.counts)), (Chunk.row true (EC.bool) (S.used)), (Chunk.row true (EC.u32) (S.gen)), (Chunk.row true (EC.u32) (S.rel)), (Chunk.row true (EC.ent) [])] [0]))
    ((∃ hs : List Int,
      (∃ t : Tr,
        ((Wf S hs) ∧
        (Rep S t i) ∧
        (t.size ≤ 1000000) ∧
        (([] : List Ent).length + t.size ≤ 3000000) ∧
        (S.reads + (↑t.size : Int) ≤ 3000000000000000000) ∧
        (∀ S' : Arn,
          (∀ out' : List Ent,
            (((S') = (rdS S (lk t lo hi (room lim [])).snd)) →
            (((out') = ([] ++ (lk t lo hi (room lim [])).fst)) →
            (K (SV.one (TV.at (At.slc 7))) [(Chunk.box [(At.ptr 1 0), (At.slc 2), (At.slc 3), (At.val (Value.int IntKind.u64 (S'.reads)))]), (Chunk.box [(At.slc 4), (At.slc 5), (At.slc 6), (At.val (Value.int IntKind.u32 (S'.fresh)))]), (Chunk.row true (EC.node) (S'.nodes)), (Chunk.row true (EC.int) (S'.counts)), (Chunk.row true (EC.bool) (S'.used)), (Chunk.row true (EC.u32) (S'.gen)), (Chunk.row true (EC.u32) (S'.rel)), (Chunk.row true (EC.ent) (out'))] [0])))))))))))) = _ by kernel_rfl) ?_
  refine brS_of (fun c => ?_) fun c => brS_of (fun d => ?_) fun d => ?_
  · have c : lim ≤ 0 := of_decide_eq_true c
    exact h S [] (by rw [rangeR, if_pos (.inl c)]; exact (rdS_zero S).symm) (by rw [rangeR, if_pos (.inl c)])
  · have d : hi < lo := of_decide_eq_true d
    exact h S [] (by rw [rangeR, if_pos (.inr d)]; exact (rdS_zero S).symm) (by rw [rangeR, if_pos (.inr d)])
  · have c : ¬ lim ≤ 0 := of_decide_eq_false c
    have d : ¬ hi < lo := of_decide_eq_false d
    have e : rangeR t lo hi lim = lk t lo hi (room lim []) := by rw [rangeR, if_neg (by omega)]; unfold room; simp
    rw [e] at h
    exact ⟨hs, t, hw, hr, h1, by simp; omega, h2, fun S' out e1 e2 => h S' out e1 (by simpa using e2)⟩
theorem s_range : SoundT C0 54 tRange := by
  refine .ofW [0] Try.func54 (by decide) rfl fun args H K h hB => ?_
  unfold tRange at h
  split at h <;> try exact h.elim
  unfold arM at h
  split at h <;> try exact h.elim
  rename_i i lo hi lim _ rd fr nd ct us gn rl
  obtain ⟨hs, t, h1, h2, h3, h4, h5⟩ := h
  exact ⟨aRange, ⟨frame C0.ok s_lkA _, trivial⟩, vc_range ⟨us, gn, rl, fr, nd, ct, rd⟩ i lo hi lim K hs t h1 h2 h3 h4 h5⟩
theorem vc_slice (S : Arn) (i x y : Int) (K : KT) (hs : List Int) (t : Tr) (hw : Wf S hs) (hr : Rep S t i) (h1 : t.size ≤ 1000000) (h2 : S.reads + 2 * t.size ≤ 2000000000000000000)
    (h : ∀ S' (out : List Ent), S' = rdS S (sliceR t x y).2 → out = (sliceR t x y).1 → K (.one (.at (.slc 7))) (chS S' ++ [.row true EC.ent out]) [0]) :
    vc C0 aSlice Try.f58 [.at (.ptr 0 0), .at (vU i), .at (vI x), .at (vI y)] (chS S) (normK 7 (wideK [0] K)) := by
  refine Eq.mp (show (brS (decide (x < 0))
  ((K (SV.one (TV.at (At.slc 7))) [(Chunk.box [(At.ptr 1 0), (At.slc 2), (At.slc 3), (At.val (Value.int IntKind.u64 (S.reads)))]), (Chunk.box [(At.slc 4), (At.slc 5), (At.slc 6), (At.val (Value.int IntKind.u32 (S.fresh)))]), (Chunk.row true (EC.node) (S.nodes)), (Chunk.row true (EC.int) (S.counts)), (Chunk.row true (EC.bool) (S.used)), (Chunk.row true (EC.u32) (S.gen)), (Chunk.row true (EC.u32) (S.rel)), (Chunk.row true (EC.ent) [])] [0]))
  ((brS (decide (x > y))
    ((K (SV.one (TV.at (At.slc 7))) [(Chunk.box [(At.ptr 1 0), (At.slc 2), (At.slc 3), (At.val (Value.int IntKind.u64 (S.reads)))]), (Chunk.box [(At.slc 4), (At.slc 5), (At.slc 6), (At.val (Value.int IntKind.u32 (S.fresh)))]), (Chunk.row true (EC.node) (S.nodes)), (Chunk.row true (EC.int) (S.counts)), (Chunk.row true (EC.bool) (S.used)), (Chunk.row true (EC.u32) (S.gen)), (Chunk.row true (EC.u32) (S.rel)), (Chunk.row true (EC.ent) [])] [0]))
    (((inU i) ∧
    (exW S) ∧
    (S.reads < 4000000000000000000) ∧
    (∀ S' : Arn,
      (((S') = (rdS S (S.us i).toNat)) →
      (brS (decide (y > (S.nd i).size))
        ((K (SV.one (TV.at (At.slc 7))) [(Chunk.box [(At.ptr 1 0), (At.slc 2), (At.slc 3), (At.val (Value.int IntKind.u64 (S'.reads)))]), (Chunk.box [(At.slc 4), (At.slc 5), (At.slc 6), (At.val (Value.int IntKind.u32 (S'.fresh)))]), (Chunk.row true (EC.node) (S'.nodes)), (Chunk.row true (EC.int) (S'.counts)), (Chunk.row true (EC.bool) (S'.used)), (Chunk.row true (EC.u32) (S'.gen)), (Chunk.row true (EC.u32) (S'.rel)), (Chunk.row true (EC.ent) [])] [0]))
        ((∃ hs : List Int,
          (∃ t : Tr,
            ((Wf S' hs) ∧
            (Rep S' t i) ∧
            (t.size ≤ 1000000) ∧
            (([] : List Ent).length + t.size ≤ 3000000) ∧
            (S'.reads + 2 * (↑t.size : Int) ≤ 3000000000000000000) ∧
            (0 ≤ x) ∧
            (y ≤ (↑t.size : Int)) ∧
            (∀ S'1 : Arn,
              (∀ out' : List Ent,
                (((S'1) = (rdS S' (pl t x y).snd)) →
                (((out') = ([] ++ (pl t x y).fst)) →
                (K (SV.one (TV.at (At.slc 7))) [(Chunk.box [(At.ptr 1 0), (At.slc 2), (At.slc 3), (At.val (Value.int IntKind.u64 (S'1.reads)))]), (Chunk.box [(At.slc 4), (At.slc 5), (At.slc 6), (At.val (Value.int IntKind.u32 (S'1.fresh)))]), (Chunk.row true (EC.node) (S'1.nodes)), (Chunk.row true (EC.int) (S'1.counts)), (Chunk.row true (EC.bool) (S'1.used)), (Chunk.row true (EC.u32) (S'1.gen)), (Chunk.row true (EC.u32) (S'1.rel)), (Chunk.row true (EC.ent) (out'))] [0]))))))))))))))))) = _ by kernel_rfl) ?_
  have hrd := hw.rds
  have hsz := hr.size hw
  have hus := us_toNat hw hr
  refine brS_of (fun c => ?_) fun c => brS_of (fun d => ?_) fun d => ⟨inU_of hw hr.us, ⟨_, hw⟩, by omega, fun S1 e1 => brS_of (fun e => ?_) fun e => ?_⟩
  · have c : x < 0 := of_decide_eq_true c
    exact h S [] (by rw [sliceR, if_pos (.inl c)]; exact (rdS_zero S).symm) (by rw [sliceR, if_pos (.inl c)])
  · have d : y < x := of_decide_eq_true d
    exact h S [] (by rw [sliceR, if_pos (.inr d)]; exact (rdS_zero S).symm) (by rw [sliceR, if_pos (.inr d)])
  all_goals
    have c : ¬ x < 0 := of_decide_eq_false c
    have d : ¬ y < x := of_decide_eq_false d
    rw [hus] at e1
    rw [hsz] at e
  · have e : (t.size : Int) < y := of_decide_eq_true e
    exact h S1 [] (by rw [sliceR, if_neg (by omega), if_pos e]; exact e1) (by rw [sliceR, if_neg (by omega), if_pos e])
  · have e : ¬ (t.size : Int) < y := of_decide_eq_false e
    have ez : sliceR t x y = ((pl t x y).1, ne0 t + (pl t x y).2) := by rw [sliceR, if_neg (by omega), if_neg e]
    rw [ez] at h
    have hn : ne0 t ≤ 1 := by unfold ne0; split <;> omega
    have hw1 : Wf S1 hs := by rw [e1]; exact hw.rd (by omega)
    refine ⟨hs, t, hw1, by rw [e1]; exact rep_rd hr _, h1, by simp; omega, by rw [e1]; show S.reads + ((ne0 t : Nat) : Int) + _ ≤ _; omega, by omega, by omega, fun S' out e2 e3 => h S' out ?_ (by simpa using e3)⟩
    rw [e2, e1, rdS_rdS]
theorem s_slice : SoundT C0 58 tSlice := by
  refine .ofW [0] Try.func58 (by decide) rfl fun args H K h hB => ?_
  unfold tSlice at h
  split at h <;> try exact h.elim
  unfold arM at h
  split at h <;> try exact h.elim
  rename_i i x y _ rd fr nd ct us gn rl
  obtain ⟨hs, t, h1, h2, h3, h4, h5⟩ := h
  exact ⟨aSlice, ⟨frame C0.ok s_plA _, frame C0.ok s_size _, trivial⟩, vc_slice ⟨us, gn, rl, fr, nd, ct, rd⟩ i x y K hs t h1 h2 h3 h4 h5⟩
theorem s_list : SoundT C0 59 tList := by
  refine .ofW [0] Try.func59 (by decide) rfl fun args H K h hB => ?_
  unfold tList at h
  split at h <;> try exact h.elim
  unfold arM at h
  split at h <;> try exact h.elim
  rename_i i _ rd fr nd ct us gn rl
  generalize hS : (⟨us, gn, rl, fr, nd, ct, rd⟩ : Arn) = S at h
  have e : [Chunk.box [At.ptr 1 0, At.slc 2, At.slc 3, vU64 rd], .box [.slc 4, .slc 5, .slc 6, vU fr], .row true EC.node nd, .row true EC.int ct, .row true EC.bool us, .row true EC.u32 gn, .row true EC.u32 rl] = chS S := by rw [← hS]
  refine ⟨aList, ⟨frame C0.ok s_range _, trivial⟩, ?_⟩
  show vc C0 aList _ _ [Chunk.box [At.ptr 1 0, At.slc 2, At.slc 3, vU64 rd], .box [.slc 4, .slc 5, .slc 6, vU fr], .row true EC.node nd, .row true EC.int ct, .row true EC.bool us, .row true EC.u32 gn, .row true EC.u32 rl] (normK 7 (wideK [0] K))
  rw [e]
  exact Eq.mp (show (∃ hs : List Int,
  (∃ t : Tr,
    ((Wf S hs) ∧
    (Rep S t i) ∧
    (t.size ≤ 1000000) ∧
    (S.reads + (↑t.size : Int) ≤ 3000000000000000000) ∧
    (∀ S' : Arn,
      (∀ out : List Ent,
        (((S') = (rdS S (rangeR t (-9223372036854775808) 9223372036854775807 2147483647).snd)) →
        (((out) = ((rangeR t (-9223372036854775808) 9223372036854775807 2147483647).fst)) →
        (K (SV.one (TV.at (At.slc 7))) [(Chunk.box [(At.ptr 1 0), (At.slc 2), (At.slc 3), (At.val (Value.int IntKind.u64 (S'.reads)))]), (Chunk.box [(At.slc 4), (At.slc 5), (At.slc 6), (At.val (Value.int IntKind.u32 (S'.fresh)))]), (Chunk.row true (EC.node) (S'.nodes)), (Chunk.row true (EC.int) (S'.counts)), (Chunk.row true (EC.bool) (S'.used)), (Chunk.row true (EC.u32) (S'.gen)), (Chunk.row true (EC.u32) (S'.rel)), (Chunk.row true (EC.ent) (out))] [0])))))))) = _ by kernel_rfl) h
theorem vc_nodeW (S : Arn) (l k v r : Int) (K : KT) (hs : List Int) (tl tr : Tr) (hw : Wf S (l :: r :: hs)) (h1 : Rep S tl l) (h2 : Rep S tr r) (h3 : tl.size + tr.size ≤ 1000000) (h4 : 0 < S.free) (h5 : hs.length ≤ 900000000)
    (h : ∀ S' i, NodeR S hs k v tl tr S' i → K (.one (.at (vU i))) (chS S') W7) :
    vc C0 aNodeW Try.f114 [.at (.ptr 0 0), .at (vU l), .agg [vI k, vI v], .at (vU r)] (chS S) (normK 7 (wideK W7 K)) := by
  refine Eq.mp (show ((exW S) ∧
(live S l) ∧
(live S r) ∧
((mkNode S k v l r).size ≤ maxSize) ∧
(0 < S.free) ∧
(∀ S' : Arn,
  (∀ i : Int,
    (((S') = (makeS S k v l r)) →
    (((i) = (nxt S)) →
    (∃ hs : List Int,
      ((Wf S' (l :: hs)) ∧
      (((S'.us l) = true) →
      (1 ≤ S'.indeg l)) ∧
      (∀ S'1 : Arn,
        (((S'1) = (relA S' l)) →
        (∃ hs1 : List Int,
          ((Wf S'1 (r :: hs1)) ∧
          (((S'1.us r) = true) →
          (1 ≤ S'1.indeg r)) ∧
          (∀ S'2 : Arn,
            (((S'2) = (relA S'1 r)) →
            (K (SV.one (TV.at (At.val (Value.int IntKind.u32 (i))))) [(Chunk.box [(At.ptr 1 0), (At.slc 2), (At.slc 3), (At.val (Value.int IntKind.u64 (S'2.reads)))]), (Chunk.box [(At.slc 4), (At.slc 5), (At.slc 6), (At.val (Value.int IntKind.u32 (S'2.fresh)))]), (Chunk.row true (EC.node) (S'2.nodes)), (Chunk.row true (EC.int) (S'2.counts)), (Chunk.row true (EC.bool) (S'2.used)), (Chunk.row true (EC.u32) (S'2.gen)), (Chunk.row true (EC.u32) (S'2.rel))] [0, 1, 2, 3, 4, 5, 6])))))))))))))) = _ by kernel_rfl) ?_
  have hz : (mkNode S k v l r).size ≤ maxSize := by rw [mk_size hw h1 h2]; unfold maxSize; omega
  obtain ⟨t1, t2, t3, t4⟩ := node_two (k := k) (v := v) hw h4 hz (by omega)
  refine ⟨⟨_, hw⟩, hw.held l (by simp), hw.held r (by simp), hz, h4, fun S1 i e1 e2 => ?_⟩
  subst e1
  refine ⟨_, t1, t2, fun S2 e3 => ?_⟩
  subst e3
  refine ⟨_, t3, t4, fun S3 e4 => h S3 i ?_⟩
  rw [e4, e2]
  exact node_ok hw h4 hz (by omega) h1 h2
theorem s_nodeW : SoundT C0 114 tNodeW := by
  refine .ofW W7 Try.func114 (by decide) rfl fun args H K h hB => ?_
  unfold tNodeW at h
  split at h <;> try exact h.elim
  unfold arM at h
  split at h <;> try exact h.elim
  rename_i l k v r _ rd fr nd ct us gn rl
  obtain ⟨hs, tl, tr, h1, h2, h3, h4, h5, h6, h7⟩ := h
  exact ⟨aNodeW, ⟨frame C0.ok s_makeOk _, frame C0.ok s_give _, trivial⟩, vc_nodeW ⟨us, gn, rl, fr, nd, ct, rd⟩ l k v r K hs tl tr h1 h2 h3 h4 h5 h6 h7⟩
theorem vc_bld (n : Nat) (S : Arn) (l : List Ent) (K : KT) (hs : List Int) (hw : Wf S hs) (h1 : l.length < n + 1) (h2 : l.length ≤ 100000) (h3 : (l.length : Int) ≤ S.free) (h4 : hs.length + l.length ≤ 800000000) (h : ∀ S' i, BuildR S hs l S' i → K (.one (.at (vU i))) (chS S' ++ [.row false EC.ent l]) W7) :
    vc C0 (aBld n l (BuildR S hs (l.take (l.length / 2)))) Try.f81 [.at (.ptr 0 0), .at (.slc 7)] (chS S ++ [.row false EC.ent l]) (normK 8 (wideK W7 K)) := by
  generalize hP : BuildR S hs (l.take (l.length / 2)) = P
  refine Eq.mp (show (brS ((↑l.length : Int) == 0)
  ((K (SV.one (TV.at (At.val (Value.int IntKind.u32 0)))) [(Chunk.box [(At.ptr 1 0), (At.slc 2), (At.slc 3), (At.val (Value.int IntKind.u64 (S.reads)))]), (Chunk.box [(At.slc 4), (At.slc 5), (At.slc 6), (At.val (Value.int IntKind.u32 (S.fresh)))]), (Chunk.row true (EC.node) (S.nodes)), (Chunk.row true (EC.int) (S.counts)), (Chunk.row true (EC.bool) (S.used)), (Chunk.row true (EC.u32) (S.gen)), (Chunk.row true (EC.u32) (S.rel)), (Chunk.row false (EC.ent) (l))] [0, 1, 2, 3, 4, 5, 6]))
  (((((0 : Int) ≤ 0) ∧
  (0 ≤ IntKind.i64.wrap ((↑l.length : Int).tdiv 2)) ∧
  (IntKind.i64.wrap ((↑l.length : Int).tdiv 2) ≤ (↑l.length : Int)) ∧
  (∃ hs : List Int,
    ((Wf S hs) ∧
    ((List.drop (Int.toNat 0) (List.take (IntKind.i64.wrap ((↑l.length : Int).tdiv 2)).toNat l)).length < n) ∧
    ((List.drop (Int.toNat 0) (List.take (IntKind.i64.wrap ((↑l.length : Int).tdiv 2)).toNat l)).length ≤ 100000) ∧
    ((↑(List.drop (Int.toNat 0) (List.take (IntKind.i64.wrap ((↑l.length : Int).tdiv 2)).toNat l)).length : Int) ≤ S.free) ∧
    (hs.length + (List.drop (Int.toNat 0) (List.take (IntKind.i64.wrap ((↑l.length : Int).tdiv 2)).toNat l)).length ≤ 800000000) ∧
    (∀ S' : Arn,
      (∀ i : Int,
        ((BuildR S hs (List.drop (Int.toNat 0) (List.take (IntKind.i64.wrap ((↑l.length : Int).tdiv 2)).toNat l)) S' i) →
        (∃ x : XBld P,
          (True ∧
          (True ∧
          True ∧
          ((Value.int IntKind.i64 (IntKind.i64.wrap ((↑l.length : Int).tdiv 2))) = (Value.int IntKind.i64 (IntKind.i64.wrap ((↑l.length : Int).tdiv 2)))) ∧
          ((Value.int IntKind.u32 (i)) = (Value.int IntKind.u32 (x.i))) ∧
          True) ∧
          (True ∧
          True ∧
          True ∧
          ((Value.int IntKind.u64 (S'.reads)) = (Value.int IntKind.u64 (x.S.reads))) ∧
          True) ∧
          (True ∧
          True ∧
          True ∧
          ((Value.int IntKind.u32 (S'.fresh)) = (Value.int IntKind.u32 (x.S.fresh))) ∧
          True) ∧
          ((S'.nodes) = (x.S.nodes)) ∧
          ((S'.counts) = (x.S.counts)) ∧
          ((S'.used) = (x.S.used)) ∧
          ((S'.gen) = (x.S.gen)) ∧
          ((S'.rel) = (x.S.rel)) ∧
          ((l) = (l)) ∧
          True)))))))) ∧
  (∀ x : XBld P,
    (True →
    ((0 ≤ IntKind.i64.wrap ((↑l.length : Int).tdiv 2)) ∧
    (IntKind.i64.wrap ((↑l.length : Int).tdiv 2) < (↑l.length : Int)) ∧
    (0 ≤ IntKind.i64.wrap (IntKind.i64.wrap ((↑l.length : Int).tdiv 2) + 1)) ∧
    (IntKind.i64.wrap (IntKind.i64.wrap ((↑l.length : Int).tdiv 2) + 1) ≤ (↑l.length : Int)) ∧
    ((↑l.length : Int) ≤ (↑l.length : Int)) ∧
    (∃ hs : List Int,
      ((Wf x.S hs) ∧
      ((List.drop (IntKind.i64.wrap (IntKind.i64.wrap ((↑l.length : Int).tdiv 2) + 1)).toNat (List.take (↑l.length : Int).toNat l)).length < n) ∧
      ((List.drop (IntKind.i64.wrap (IntKind.i64.wrap ((↑l.length : Int).tdiv 2) + 1)).toNat (List.take (↑l.length : Int).toNat l)).length ≤ 100000) ∧
      ((↑(List.drop (IntKind.i64.wrap (IntKind.i64.wrap ((↑l.length : Int).tdiv 2) + 1)).toNat (List.take (↑l.length : Int).toNat l)).length : Int) ≤ x.S.free) ∧
      (hs.length + (List.drop (IntKind.i64.wrap (IntKind.i64.wrap ((↑l.length : Int).tdiv 2) + 1)).toNat (List.take (↑l.length : Int).toNat l)).length ≤ 800000000) ∧
      (∀ S' : Arn,
        (∀ i : Int,
          ((BuildR x.S hs (List.drop (IntKind.i64.wrap (IntKind.i64.wrap ((↑l.length : Int).tdiv 2) + 1)).toNat (List.take (↑l.length : Int).toNat l)) S' i) →
          (∃ hs1 : List Int,
            (∃ tl : Tr,
              (∃ tr : Tr,
                ((Wf S' (x.i :: i :: hs1)) ∧
                (Rep S' tl x.i) ∧
                (Rep S' tr i) ∧
                (tl.size + tr.size ≤ 1000000) ∧
                (0 < S'.free) ∧
                (hs1.length ≤ 900000000) ∧
                (∀ S'1 : Arn,
                  (∀ i1 : Int,
                    ((NodeR S' hs1 (l.getD (IntKind.i64.wrap ((↑l.length : Int).tdiv 2)).toNat (0, 0)).fst (l.getD (IntKind.i64.wrap ((↑l.length : Int).tdiv 2)).toNat (0, 0)).snd tl tr S'1 i1) →
                    (K (SV.one (TV.at (At.val (Value.int IntKind.u32 (i1))))) [(Chunk.box [(At.ptr 1 0), (At.slc 2), (At.slc 3), (At.val (Value.int IntKind.u64 (S'1.reads)))]), (Chunk.box [(At.slc 4), (At.slc 5), (At.slc 6), (At.val (Value.int IntKind.u32 (S'1.fresh)))]), (Chunk.row true (EC.node) (S'1.nodes)), (Chunk.row true (EC.int) (S'1.counts)), (Chunk.row true (EC.bool) (S'1.used)), (Chunk.row true (EC.u32) (S'1.gen)), (Chunk.row true (EC.u32) (S'1.rel)), (Chunk.row false (EC.ent) (l))] [0, 1, 2, 3, 4, 5, 6]))))))))))))))))))) = _ by kernel_rfl) ?_
  subst hP
  refine brS_of (fun c => ?_) fun c => ?_
  · have e : l = [] := List.length_eq_zero_iff.1 (by simpa using c)
    have hr : BuildR S hs l S 0 := by rw [e]; exact ⟨hw.zero_cons (by omega), ⟨.nil, rfl, rfl⟩, Stay.refl _ _, rfl, rfl, rfl⟩
    exact h S 0 hr
  have c : ¬ (l.length : Int) = 0 := by simpa using c
  have hm : IntKind.i64.wrap ((l.length : Int).tdiv 2) = ((l.length / 2 : Nat) : Int) := by rw [Int.tdiv_eq_ediv_of_nonneg (by omega), wrap_id (by omega) (by omega)]; omega
  have hm1 : IntKind.i64.wrap (((l.length / 2 : Nat) : Int) + 1) = ((l.length / 2 + 1 : Nat) : Int) := by rw [wrap_id (by omega) (by omega)]; omega
  rw [hm, hm1]
  have ea : List.drop (Int.toNat 0) (List.take ((l.length / 2 : Nat) : Int).toNat l) = l.take (l.length / 2) := rfl
  have eb : List.drop ((l.length / 2 + 1 : Nat) : Int).toNat (List.take ((l.length : Nat) : Int).toNat l) = l.drop (l.length / 2 + 1) := by
    rw [show ((l.length : Nat) : Int).toNat = l.length by omega, List.take_length]; rfl
  rw [ea, eb]
  have la : (l.take (l.length / 2)).length = l.length / 2 := by simp; omega
  have lb : (l.drop (l.length / 2 + 1)).length = l.length - (l.length / 2 + 1) := by simp
  have hf := hw.free_nonneg
  refine ⟨⟨by decide, by omega, by omega, hs, hw, by omega, by omega, by omega, by omega, fun S1 i r1 => ⟨⟨S1, i, r1⟩, ?_⟩⟩, fun x _ => ?_⟩
  · (repeat' first | exact trivial | exact rfl | refine And.intro ?_ ?_)
  · have r1 := x.h
    have hf1 := r1.wf.free_nonneg
    have n1 := r1.nu
    have c1 : x.S.cap = S.cap := by unfold Arn.cap; rw [r1.len]
    refine ⟨by omega, by omega, by omega, by omega, by omega, x.i :: hs, r1.wf, by omega, by omega, by omega, by simp; omega, fun S2 ir r2 => ?_⟩
    have hf2 := r2.wf.free_nonneg
    have n2 := r2.nu
    have c2 : S2.cap = x.S.cap := by unfold Arn.cap; rw [r2.len]
    have hw2 : Wf S2 (x.i :: ir :: hs) := r2.wf.perm (List.Perm.swap _ _ _)
    obtain ⟨tl, q1, q2⟩ := r1.rep
    obtain ⟨tr, q3, q4⟩ := r2.rep
    have q1' : Rep S2 tl x.i := q1.held r1.wf r2.stay (.inr (by simp))
    have s1 : tl.size = l.length / 2 := by rw [← tl.list_len, q2.list, la]
    have s2 : tr.size = l.length - (l.length / 2 + 1) := by rw [← tr.list_len, q4.list, lb]
    refine ⟨hs, tl, tr, hw2, q1', q3, by omega, by omega, by omega, fun S3 i nr => h S3 i ⟨nr.wf, ⟨_, nr.rep, by omega, rfl, q2, q4⟩, ?_, ?_, ?_, ?_⟩⟩
    · exact (r1.stay.trans (r2.stay.mono (by simp_all))).trans nr.stay
    · rw [nr.len, r2.len, r1.len]
    · rw [nr.rds, r2.rds, r1.rds]
    · rw [nr.nu, n2, n1]; omega
theorem s_bld : ∀ n, SoundT C0 81 (tBld n) := by
  intro n
  induction n with
  | zero =>
    refine .of Try.func81 (by decide) rfl fun args H K h hB => ?_
    exfalso
    unfold tBld at h
    split at h <;> try exact h.elim
    unfold arMr at h
    split at h <;> try exact h.elim
    split at h <;> try exact h.elim
    obtain ⟨_, _, h1, _⟩ := h
    omega
  | succ n ih =>
    refine .ofW W7 Try.func81 (by decide) rfl fun args H K h hB => ?_
    unfold tBld at h
    split at h <;> try exact h.elim
    unfold arMr at h
    split at h <;> try exact h.elim
    split at h <;> try exact h.elim
    rename_i _ rd fr nd ct us gn rl _ l
    obtain ⟨hs, h1, h2, h3, h4, h5, h6⟩ := h
    refine ⟨_, ?_, vc_bld n ⟨us, gn, rl, fr, nd, ct, rd⟩ l K hs h1 h2 h3 h4 h5 h6⟩
    exact ⟨frame C0.ok ih _, frame C0.ok s_nodeW _, trivial⟩
end Go.Proofs.Ytacdmmomkngpkaa.Sx
