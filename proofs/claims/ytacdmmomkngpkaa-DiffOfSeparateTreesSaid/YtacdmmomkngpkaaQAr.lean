/- The arena's functions. -/
import Derived.Test.YtacdmmomkngpkaaQSl
namespace Go.Proofs.Ytacdmmomkngpkaa.Sx
open Go

abbrev chS (S : Arn) : List (Chunk C0) := [.box [.ptr 1 0, .slc 2, .slc 3, vU64 S.reads], .box [.slc 4, .slc 5, .slc 6, vU S.fresh], .row true EC.node S.nodes, .row true EC.int S.counts, .row true EC.bool S.used, .row true EC.u32 S.gen, .row true EC.u32 S.rel]
def arM (H : List (Chunk C0)) (k : Arn → Prop) : Prop := match H with
  | [.box [.ptr 1 0, .slc 2, .slc 3, .val (.int .u64 rd)], .box [.slc 4, .slc 5, .slc 6, .val (.int .u32 fr)], .row true .node nd, .row true .int ct, .row true .bool us, .row true .u32 gn, .row true .u32 rl] => k ⟨us, gn, rl, fr, nd, ct, rd⟩
  | _ => False
def arMr (H : List (Chunk C0)) (k : Arn → List (Chunk C0) → Prop) : Prop := match H with
  | .box [.ptr 1 0, .slc 2, .slc 3, .val (.int .u64 rd)] :: .box [.slc 4, .slc 5, .slc 6, .val (.int .u32 fr)] :: .row true .node nd :: .row true .int ct :: .row true .bool us :: .row true .u32 gn :: .row true .u32 rl :: rest => k ⟨us, gn, rl, fr, nd, ct, rd⟩ rest
  | _ => False
abbrev nodeA (n : NodeT) : TV := .agg [vI n.key, vI n.value, vU n.left, vU n.right, vI n.size, vI n.sum, vI n.min, vI n.max]
abbrev W7 : List Nat := [0, 1, 2, 3, 4, 5, 6]
def inU (i : Int) : Prop := 0 ≤ i ∧ i < 4294967296
def exW (S : Arn) : Prop := ∃ hs, Wf S hs
def live (S : Arn) (i : Int) : Prop := i = 0 ∨ S.us i = true

theorem fold_nd (S : Arn) (i : Int) : S.nodes.getD i.toNat ⟨0, 0, 0, 0, 0, 0, 0, 0⟩ = S.nd i := rfl
theorem fold_us (S : Arn) (i : Int) : S.used.getD i.toNat false = S.us i := rfl
theorem fold_ct (S : Arn) (i : Int) : S.counts.getD i.toNat 0 = S.ct i := rfl
theorem fold_gn (S : Arn) (i : Int) : S.gen.getD i.toNat 0 = S.gn i := rfl
noncomputable def aFree : Ann C0 := { Γ := [(77, frameT [] tSlFree)] }
def tFree : Tfm C0 := fun args H K => match args with
  | [.at (.ptr 0 0)] => arM H fun S => exW S ∧ K (.one (.at (vI S.free))) (chS S) []
  | _ => False
noncomputable def aCap : Ann C0 := { Γ := [(111, frameT [] tSlCap)] }
def tCap : Tfm C0 := fun args H K => match args with
  | [.at (.ptr 0 0)] => arM H fun S => exW S ∧ K (.one (.at (vI S.cap))) (chS S) []
  | _ => False
def tReads : Tfm C0 := fun args H K => match args with
  | [.at (.ptr 0 0)] => arM H fun S => K (.one (.at (vU64 S.reads))) (chS S) []
  | _ => False
noncomputable def aAlc : Ann C0 := { Γ := [(71, frameT [] tSlAllocated)] }
def tNode : Tfm C0 := fun args H K => match args with
  | [.at (.ptr 0 0), .at (.val (.int .u32 i))] => arM H fun S => inU i ∧ exW S ∧ S.reads < 4000000000000000000 ∧ ∀ S', S' = rdS S (S.us i).toNat → K (.tup [nodeA (S.nd i), .at (vB (S.us i))]) (chS S') [0]
  | _ => False
def tSize : Tfm C0 := fun args H K => match args with
  | [.at (.ptr 0 0), .at (.val (.int .u32 i))] => arM H fun S => inU i ∧ exW S ∧ S.reads < 4000000000000000000 ∧ ∀ S', S' = rdS S (S.us i).toNat → K (.one (.at (vI (S.nd i).size))) (chS S') [0]
  | _ => False
def tCount : Tfm C0 := fun args H K => match args with
  | [.at (.ptr 0 0), .at (.val (.int .u32 i))] => arM H fun S => inU i ∧ exW S ∧ K (.one (.at (vI (if S.us i then S.ct i else 0)))) (chS S) []
  | _ => False
noncomputable def aGen : Ann C0 := { Γ := [(113, frameT [] tSlGen)] }
def tGen : Tfm C0 := fun args H K => match args with
  | [.at (.ptr 0 0), .at (.val (.int .u32 i))] => arM H fun S => inU i ∧ exW S ∧ K (.one (.at (vU (S.gn i)))) (chS S) []
  | _ => False
def tRetain : Tfm C0 := fun args H K => match args with
  | [.at (.ptr 0 0), .at (.val (.int .u32 i))] => arM H fun S => inU i ∧ exW S ∧ (i = 0 → K (.one (.at (vI 0))) (chS S) [3]) ∧ (i ≠ 0 → S.us i = false → K (.one (.at (vI 3))) (chS S) [3]) ∧ (S.us i = true → ∀ S', S' = retA S i → K (.one (.at (vI 0))) (chS S') [3])
  | _ => False
def newUs (c : Int) : List Bool := List.replicate (c.toNat + 1) false
def newGn (c : Int) : List Int := List.replicate (c.toNat + 1) 0
noncomputable def aSlNew : Ann C0 := { Γ := [] }
def tSlNew : Tfm C0 := fun args H K => match args, H with
  | [.at (.val (.int .i64 c))], [] => (c < 1 ∨ 65536 < c → K (.tup [.at (.val (.pointer none)), .at (vI 1)]) [] []) ∧ (1 ≤ c → c ≤ 65536 → ∀ (us : List Bool) (gn : List Int), us = newUs c → gn = newGn c → K (.tup [.at (.ptr 0 0), .at (vI 0)]) (slC us gn [] 0) [])
  | _, _ => False
noncomputable def aNew : Ann C0 := { Γ := [(70, frameT [] tSlNew)] }
def tNew : Tfm C0 := fun args H K => match args, H with
  | [.at (.val (.int .i64 c))], [] => (c < 1 ∨ 65536 < c → K (.tup [.at (.val (.pointer none)), .at (vI 1)]) [] []) ∧ (1 ≤ c → c ≤ 65536 → ∀ S, S = newS c.toNat → K (.tup [.at (.ptr 0 0), .at (vI 0)]) (chS S) [])
  | _, _ => False
theorem getD_false {l : List Bool} {i : Nat} (h : l.getD i false = true) : i < l.length := by
  rcases Nat.lt_or_ge i l.length with hh | hh
  · exact hh
  · rw [List.getD_eq_getElem?_getD, List.getElem?_eq_none hh] at h; cases h
theorem vc_free (S : Arn) (K : KT) (hw : exW S) (h : K (.one (.at (vI S.free))) (chS S) []) : vc C0 aFree Try.f21 [.at (.ptr 0 0)] (chS S) (normK 7 K) := by
  refine Eq.mp (show ((1 ≤ S.used.length) ∧
(S.used.length ≤ 65537) ∧
(S.rel.length ≤ 65537) ∧
(0 ≤ S.fresh) ∧
(S.fresh ≤ 65537) ∧
(K (SV.one (TV.at (At.val (Value.int IntKind.i64 ((↑S.rel.length : Int) + ((↑S.used.length : Int) - 1) - S.fresh))))) [(Chunk.box [(At.ptr 1 0), (At.slc 2), (At.slc 3), (At.val (Value.int IntKind.u64 (S.reads)))]), (Chunk.box [(At.slc 4), (At.slc 5), (At.slc 6), (At.val (Value.int IntKind.u32 (S.fresh)))]), (Chunk.row true (EC.node) (S.nodes)), (Chunk.row true (EC.int) (S.counts)), (Chunk.row true (EC.bool) (S.used)), (Chunk.row true (EC.u32) (S.gen)), (Chunk.row true (EC.u32) (S.rel))] [])) = _ by kernel_rfl) ?_
  obtain ⟨hs, hw⟩ := hw
  have h1 := hw.n1; have h2 := hw.n2; have h3 := hw.fr; have h4 := hw.free_nonneg
  exact ⟨by omega, by omega, by omega, by omega, by omega, h⟩
theorem s_free : SoundT C0 21 tFree := by
  refine .of Try.func21 (by decide) rfl fun args H K h hB => ?_
  unfold tFree at h
  split at h <;> try exact h.elim
  unfold arM at h
  split at h <;> try exact h.elim
  rename_i rd fr nd ct us gn rl
  exact ⟨aFree, ⟨frame C0.ok s_slFree _, trivial⟩, vc_free ⟨us, gn, rl, fr, nd, ct, rd⟩ K h.1 h.2⟩
theorem vc_cap (S : Arn) (K : KT) (hw : exW S) (h : K (.one (.at (vI S.cap))) (chS S) []) : vc C0 aCap Try.f66 [.at (.ptr 0 0)] (chS S) (normK 7 K) := by
  refine Eq.mp (show ((1 ≤ S.used.length) ∧
(S.used.length ≤ 65537) ∧
(K (SV.one (TV.at (At.val (Value.int IntKind.i64 ((↑S.used.length : Int) - 1))))) [(Chunk.box [(At.ptr 1 0), (At.slc 2), (At.slc 3), (At.val (Value.int IntKind.u64 (S.reads)))]), (Chunk.box [(At.slc 4), (At.slc 5), (At.slc 6), (At.val (Value.int IntKind.u32 (S.fresh)))]), (Chunk.row true (EC.node) (S.nodes)), (Chunk.row true (EC.int) (S.counts)), (Chunk.row true (EC.bool) (S.used)), (Chunk.row true (EC.u32) (S.gen)), (Chunk.row true (EC.u32) (S.rel))] [])) = _ by kernel_rfl) ?_
  obtain ⟨hs, hw⟩ := hw
  have h1 := hw.n1; have h2 := hw.n2
  exact ⟨by omega, by omega, h⟩
theorem s_cap : SoundT C0 66 tCap := by
  refine .of Try.func66 (by decide) rfl fun args H K h hB => ?_
  unfold tCap at h
  split at h <;> try exact h.elim
  unfold arM at h
  split at h <;> try exact h.elim
  rename_i rd fr nd ct us gn rl
  exact ⟨aCap, ⟨frame C0.ok s_slCap _, trivial⟩, vc_cap ⟨us, gn, rl, fr, nd, ct, rd⟩ K h.1 h.2⟩
theorem vc_rds (S : Arn) (K : KT) (h : K (.one (.at (vU64 S.reads))) (chS S) []) : vc C0 A0 Try.f48 [.at (.ptr 0 0)] (chS S) (normK 7 K) :=
  Eq.mp (show (K (SV.one (TV.at (At.val (Value.int IntKind.u64 (S.reads))))) [(Chunk.box [(At.ptr 1 0), (At.slc 2), (At.slc 3), (At.val (Value.int IntKind.u64 (S.reads)))]), (Chunk.box [(At.slc 4), (At.slc 5), (At.slc 6), (At.val (Value.int IntKind.u32 (S.fresh)))]), (Chunk.row true (EC.node) (S.nodes)), (Chunk.row true (EC.int) (S.counts)), (Chunk.row true (EC.bool) (S.used)), (Chunk.row true (EC.u32) (S.gen)), (Chunk.row true (EC.u32) (S.rel))] []) = _ by kernel_rfl) h
theorem s_rds : SoundT C0 48 tReads := by
  refine .of Try.func48 (by decide) rfl fun args H K h hB => ?_
  unfold tReads at h
  split at h <;> try exact h.elim
  unfold arM at h
  split at h <;> try exact h.elim
  rename_i rd fr nd ct us gn rl
  exact ⟨A0, trivial, vc_rds ⟨us, gn, rl, fr, nd, ct, rd⟩ K h⟩
theorem wrap_u64 {x : Int} (h1 : 0 ≤ x) (h2 : x < 18446744073709551616) : IntKind.u64.wrap x = x := by
  unfold IntKind.wrap
  simp [IntKind.signed, IntKind.bits]
  omega
theorem vc_node (S : Arn) (i : Int) (K : KT) (hi : inU i) (hw : exW S) (hr : S.reads < 4000000000000000000) (h : ∀ S', S' = rdS S (S.us i).toNat → K (.tup [nodeA (S.nd i), .at (vB (S.us i))]) (chS S') [0]) :
    vc C0 aAlc Try.f75 [.at (.ptr 0 0), .at (vU i)] (chS S) (normK 7 (wideK [0] K)) := by
  refine Eq.mp (show ((0 ≤ i) ∧
(i < 4294967296) ∧
(S.used.length ≤ 65537) ∧
(brS (!S.us i)
  ((K (SV.tup [(TV.agg [(At.val (Value.int IntKind.i64 0)), (At.val (Value.int IntKind.i64 0)), (At.val (Value.int IntKind.u32 0)), (At.val (Value.int IntKind.u32 0)), (At.val (Value.int IntKind.i64 0)), (At.val (Value.int IntKind.i64 0)), (At.val (Value.int IntKind.i64 0)), (At.val (Value.int IntKind.i64 0))]), (TV.at (At.val (Value.bool false)))]) [(Chunk.box [(At.ptr 1 0), (At.slc 2), (At.slc 3), (At.val (Value.int IntKind.u64 (S.reads)))]), (Chunk.box [(At.slc 4), (At.slc 5), (At.slc 6), (At.val (Value.int IntKind.u32 (S.fresh)))]), (Chunk.row true (EC.node) (S.nodes)), (Chunk.row true (EC.int) (S.counts)), (Chunk.row true (EC.bool) (S.used)), (Chunk.row true (EC.u32) (S.gen)), (Chunk.row true (EC.u32) (S.rel))] [0]))
  (((0 ≤ i) ∧
  (i < (↑S.nodes.length : Int)) ∧
  (K (SV.tup [(TV.agg [(At.val (Value.int IntKind.i64 ((S.nd i).key))), (At.val (Value.int IntKind.i64 ((S.nd i).value))), (At.val (Value.int IntKind.u32 ((S.nd i).left))), (At.val (Value.int IntKind.u32 ((S.nd i).right))), (At.val (Value.int IntKind.i64 ((S.nd i).size))), (At.val (Value.int IntKind.i64 ((S.nd i).sum))), (At.val (Value.int IntKind.i64 ((S.nd i).min))), (At.val (Value.int IntKind.i64 ((S.nd i).max)))]), (TV.at (At.val (Value.bool true)))]) [(Chunk.box [(At.ptr 1 0), (At.slc 2), (At.slc 3), (At.val (Value.int IntKind.u64 (IntKind.u64.wrap (S.reads + 1))))]), (Chunk.box [(At.slc 4), (At.slc 5), (At.slc 6), (At.val (Value.int IntKind.u32 (S.fresh)))]), (Chunk.row true (EC.node) (S.nodes)), (Chunk.row true (EC.int) (S.counts)), (Chunk.row true (EC.bool) (S.used)), (Chunk.row true (EC.u32) (S.gen)), (Chunk.row true (EC.u32) (S.rel))] [0]))))) = _ by kernel_rfl) ?_
  obtain ⟨hs, hw⟩ := hw
  have h2 := hw.n2; have h3 := hw.nnod; have h4 := hw.rds
  rw [wrap_u64 (by omega) (by omega)]
  refine ⟨hi.1, hi.2, by omega, brS_of (fun c => ?_) fun c => ?_⟩
  · have c : S.us i = false := by simpa using c
    have h5 := h _ rfl
    rw [hw.zero i c, c] at h5
    have e : rdS S (false.toNat) = S := by simp [rdS]
    rw [e] at h5
    exact h5
  · have c : S.us i = true := by simpa using c
    have hp := hw.pos c
    have h5 := h _ rfl
    rw [c] at h5
    exact ⟨hi.1, by omega, h5⟩
theorem s_node : SoundT C0 75 tNode := by
  refine .ofW [0] Try.func75 (by decide) rfl fun args H K h hB => ?_
  unfold tNode at h
  split at h <;> try exact h.elim
  unfold arM at h
  split at h <;> try exact h.elim
  rename_i i _ rd fr nd ct us gn rl
  exact ⟨aAlc, ⟨frame C0.ok s_slAllocated _, trivial⟩, vc_node ⟨us, gn, rl, fr, nd, ct, rd⟩ i K h.1 h.2.1 h.2.2.1 h.2.2.2⟩
theorem vc_size (S : Arn) (i : Int) (K : KT) (hi : inU i) (hw : exW S) (hr : S.reads < 4000000000000000000) (h : ∀ S', S' = rdS S (S.us i).toNat → K (.one (.at (vI (S.nd i).size))) (chS S') [0]) :
    vc C0 aAlc Try.f20 [.at (.ptr 0 0), .at (vU i)] (chS S) (normK 7 (wideK [0] K)) := by
  refine Eq.mp (show ((0 ≤ i) ∧
(i < 4294967296) ∧
(S.used.length ≤ 65537) ∧
(brS (!S.us i)
  ((K (SV.one (TV.at (At.val (Value.int IntKind.i64 0)))) [(Chunk.box [(At.ptr 1 0), (At.slc 2), (At.slc 3), (At.val (Value.int IntKind.u64 (S.reads)))]), (Chunk.box [(At.slc 4), (At.slc 5), (At.slc 6), (At.val (Value.int IntKind.u32 (S.fresh)))]), (Chunk.row true (EC.node) (S.nodes)), (Chunk.row true (EC.int) (S.counts)), (Chunk.row true (EC.bool) (S.used)), (Chunk.row true (EC.u32) (S.gen)), (Chunk.row true (EC.u32) (S.rel))] [0]))
  (((0 ≤ i) ∧
  (i < (↑S.nodes.length : Int)) ∧
  (K (SV.one (TV.at (At.val (Value.int IntKind.i64 ((S.nd i).size))))) [(Chunk.box [(At.ptr 1 0), (At.slc 2), (At.slc 3), (At.val (Value.int IntKind.u64 (IntKind.u64.wrap (S.reads + 1))))]), (Chunk.box [(At.slc 4), (At.slc 5), (At.slc 6), (At.val (Value.int IntKind.u32 (S.fresh)))]), (Chunk.row true (EC.node) (S.nodes)), (Chunk.row true (EC.int) (S.counts)), (Chunk.row true (EC.bool) (S.used)), (Chunk.row true (EC.u32) (S.gen)), (Chunk.row true (EC.u32) (S.rel))] [0]))))) = _ by kernel_rfl) ?_
  obtain ⟨hs, hw⟩ := hw
  have h2 := hw.n2; have h3 := hw.nnod; have h4 := hw.rds
  rw [wrap_u64 (by omega) (by omega)]
  refine ⟨hi.1, hi.2, by omega, brS_of (fun c => ?_) fun c => ?_⟩
  · have c : S.us i = false := by simpa using c
    have h5 := h _ rfl
    rw [hw.zero i c, c] at h5
    have e : rdS S (false.toNat) = S := by simp [rdS]
    rw [e] at h5
    exact h5
  · have c : S.us i = true := by simpa using c
    have hp := hw.pos c
    have h5 := h _ rfl
    rw [c] at h5
    exact ⟨hi.1, by omega, h5⟩
theorem s_size : SoundT C0 20 tSize := by
  refine .ofW [0] Try.func20 (by decide) rfl fun args H K h hB => ?_
  unfold tSize at h
  split at h <;> try exact h.elim
  unfold arM at h
  split at h <;> try exact h.elim
  rename_i i _ rd fr nd ct us gn rl
  exact ⟨aAlc, ⟨frame C0.ok s_slAllocated _, trivial⟩, vc_size ⟨us, gn, rl, fr, nd, ct, rd⟩ i K h.1 h.2.1 h.2.2.1 h.2.2.2⟩
theorem vc_count (S : Arn) (i : Int) (K : KT) (hi : inU i) (hw : exW S) (h : K (.one (.at (vI (if S.us i then S.ct i else 0)))) (chS S) []) :
    vc C0 aAlc Try.f22 [.at (.ptr 0 0), .at (vU i)] (chS S) (normK 7 K) := by
  refine Eq.mp (show ((0 ≤ i) ∧
(i < 4294967296) ∧
(S.used.length ≤ 65537) ∧
(brS (!S.us i)
  ((K (SV.one (TV.at (At.val (Value.int IntKind.i64 0)))) [(Chunk.box [(At.ptr 1 0), (At.slc 2), (At.slc 3), (At.val (Value.int IntKind.u64 (S.reads)))]), (Chunk.box [(At.slc 4), (At.slc 5), (At.slc 6), (At.val (Value.int IntKind.u32 (S.fresh)))]), (Chunk.row true (EC.node) (S.nodes)), (Chunk.row true (EC.int) (S.counts)), (Chunk.row true (EC.bool) (S.used)), (Chunk.row true (EC.u32) (S.gen)), (Chunk.row true (EC.u32) (S.rel))] []))
  (((0 ≤ i) ∧
  (i < (↑S.counts.length : Int)) ∧
  (K (SV.one (TV.at (At.val (Value.int IntKind.i64 (S.ct i))))) [(Chunk.box [(At.ptr 1 0), (At.slc 2), (At.slc 3), (At.val (Value.int IntKind.u64 (S.reads)))]), (Chunk.box [(At.slc 4), (At.slc 5), (At.slc 6), (At.val (Value.int IntKind.u32 (S.fresh)))]), (Chunk.row true (EC.node) (S.nodes)), (Chunk.row true (EC.int) (S.counts)), (Chunk.row true (EC.bool) (S.used)), (Chunk.row true (EC.u32) (S.gen)), (Chunk.row true (EC.u32) (S.rel))] []))))) = _ by kernel_rfl) ?_
  obtain ⟨hs, hw⟩ := hw
  have h2 := hw.n2; have h3 := hw.ncnt
  refine ⟨hi.1, hi.2, by omega, brS_of (fun c => ?_) fun c => ?_⟩
  · have c : S.us i = false := by simpa using c
    rw [c] at h
    exact h
  · have c : S.us i = true := by simpa using c
    have hp := hw.pos c
    rw [c] at h
    exact ⟨hi.1, by omega, h⟩
theorem s_count : SoundT C0 22 tCount := by
  refine .of Try.func22 (by decide) rfl fun args H K h hB => ?_
  unfold tCount at h
  split at h <;> try exact h.elim
  unfold arM at h
  split at h <;> try exact h.elim
  rename_i i _ rd fr nd ct us gn rl
  exact ⟨aAlc, ⟨frame C0.ok s_slAllocated _, trivial⟩, vc_count ⟨us, gn, rl, fr, nd, ct, rd⟩ i K h.1 h.2.1 h.2.2⟩
theorem vc_gen (S : Arn) (i : Int) (K : KT) (hi : inU i) (hw : exW S) (h : K (.one (.at (vU (S.gn i)))) (chS S) []) :
    vc C0 aGen Try.f80 [.at (.ptr 0 0), .at (vU i)] (chS S) (normK 7 K) := by
  refine Eq.mp (show ((0 ≤ i) ∧
(i < 4294967296) ∧
(S.gen.length ≤ 65537) ∧
(K (SV.one (TV.at (At.val (Value.int IntKind.u32 (S.gn i))))) [(Chunk.box [(At.ptr 1 0), (At.slc 2), (At.slc 3), (At.val (Value.int IntKind.u64 (S.reads)))]), (Chunk.box [(At.slc 4), (At.slc 5), (At.slc 6), (At.val (Value.int IntKind.u32 (S.fresh)))]), (Chunk.row true (EC.node) (S.nodes)), (Chunk.row true (EC.int) (S.counts)), (Chunk.row true (EC.bool) (S.used)), (Chunk.row true (EC.u32) (S.gen)), (Chunk.row true (EC.u32) (S.rel))] [])) = _ by kernel_rfl) ?_
  obtain ⟨hs, hw⟩ := hw
  have h2 := hw.n2; have h3 := hw.ngen
  exact ⟨hi.1, hi.2, by omega, h⟩
theorem s_gen : SoundT C0 80 tGen := by
  refine .of Try.func80 (by decide) rfl fun args H K h hB => ?_
  unfold tGen at h
  split at h <;> try exact h.elim
  unfold arM at h
  split at h <;> try exact h.elim
  rename_i i _ rd fr nd ct us gn rl
  exact ⟨aGen, ⟨frame C0.ok s_slGen _, trivial⟩, vc_gen ⟨us, gn, rl, fr, nd, ct, rd⟩ i K h.1 h.2.1 h.2.2⟩
theorem vc_retain (S : Arn) (i : Int) (K : KT) (hi : inU i) (hw : exW S) (h0 : i = 0 → K (.one (.at (vI 0))) (chS S) [3]) (h1 : i ≠ 0 → S.us i = false → K (.one (.at (vI 3))) (chS S) [3]) (h : S.us i = true → ∀ S', S' = retA S i → K (.one (.at (vI 0))) (chS S') [3]) :
    vc C0 aAlc Try.f76 [.at (.ptr 0 0), .at (vU i)] (chS S) (normK 7 (wideK [3] K)) := by
  refine Eq.mp (show (brS (i == 0)
  ((K (SV.one (TV.at (At.val (Value.int IntKind.i64 0)))) [(Chunk.box [(At.ptr 1 0), (At.slc 2), (At.slc 3), (At.val (Value.int IntKind.u64 (S.reads)))]), (Chunk.box [(At.slc 4), (At.slc 5), (At.slc 6), (At.val (Value.int IntKind.u32 (S.fresh)))]), (Chunk.row true (EC.node) (S.nodes)), (Chunk.row true (EC.int) (S.counts)), (Chunk.row true (EC.bool) (S.used)), (Chunk.row true (EC.u32) (S.gen)), (Chunk.row true (EC.u32) (S.rel))] [3]))
  (((0 ≤ i) ∧
  (i < 4294967296) ∧
  (S.used.length ≤ 65537) ∧
  (brS (!S.us i)
    ((K (SV.one (TV.at (At.val (Value.int IntKind.i64 3)))) [(Chunk.box [(At.ptr 1 0), (At.slc 2), (At.slc 3), (At.val (Value.int IntKind.u64 (S.reads)))]), (Chunk.box [(At.slc 4), (At.slc 5), (At.slc 6), (At.val (Value.int IntKind.u32 (S.fresh)))]), (Chunk.row true (EC.node) (S.nodes)), (Chunk.row true (EC.int) (S.counts)), (Chunk.row true (EC.bool) (S.used)), (Chunk.row true (EC.u32) (S.gen)), (Chunk.row true (EC.u32) (S.rel))] [3]))
    (((0 ≤ i) ∧
    (i < (↑S.counts.length : Int)) ∧
    (0 ≤ i) ∧
    (i < (↑S.counts.length : Int)) ∧
    (K (SV.one (TV.at (At.val (Value.int IntKind.i64 0)))) [(Chunk.box [(At.ptr 1 0), (At.slc 2), (At.slc 3), (At.val (Value.int IntKind.u64 (S.reads)))]), (Chunk.box [(At.slc 4), (At.slc 5), (At.slc 6), (At.val (Value.int IntKind.u32 (S.fresh)))]), (Chunk.row true (EC.node) (S.nodes)), (Chunk.row true (EC.int) (S.counts.set i.toNat (IntKind.i64.wrap (S.ct i + 1)))), (Chunk.row true (EC.bool) (S.used)), (Chunk.row true (EC.u32) (S.gen)), (Chunk.row true (EC.u32) (S.rel))] [3]))))))) = _ by kernel_rfl) ?_
  obtain ⟨hs, hw⟩ := hw
  have h2 := hw.n2; have h3 := hw.ncnt
  refine brS_of (fun c => h0 (by simpa using c)) fun c => ⟨hi.1, hi.2, by omega, brS_of (fun d => ?_) fun d => ?_⟩
  · exact h1 (by simpa using c) (by simpa using d)
  · have d : S.us i = true := by simpa using d
    have hp := hw.pos d
    exact ⟨hi.1, by omega, hi.1, by omega, h d _ rfl⟩
theorem s_retain : SoundT C0 76 tRetain := by
  refine .ofW [3] Try.func76 (by decide) rfl fun args H K h hB => ?_
  unfold tRetain at h
  split at h <;> try exact h.elim
  unfold arM at h
  split at h <;> try exact h.elim
  rename_i i _ rd fr nd ct us gn rl
  exact ⟨aAlc, ⟨frame C0.ok s_slAllocated _, trivial⟩, vc_retain ⟨us, gn, rl, fr, nd, ct, rd⟩ i K h.1 h.2.1 h.2.2.1 h.2.2.2.1 h.2.2.2.2⟩
theorem vc_slNew (c : Int) (K : KT) (hb : c < 1 ∨ 65536 < c → K (.tup [.at (.val (.pointer none)), .at (vI 1)]) [] []) (h : 1 ≤ c → c ≤ 65536 → ∀ (us : List Bool) (gn : List Int), us = newUs c → gn = newGn c → K (.tup [.at (.ptr 0 0), .at (vI 0)]) (slC us gn [] 0) []) :
    vc C0 aSlNew Try.f70 [.at (vI c)] [] (normK 0 K) := by
  refine Eq.mp (show (brS (decide (c < 1))
  ((K (SV.tup [(TV.at (At.val (Value.pointer none))), (TV.at (At.val (Value.int IntKind.i64 1)))]) [] []))
  ((brS (decide (c > 65536))
    ((K (SV.tup [(TV.at (At.val (Value.pointer none))), (TV.at (At.val (Value.int IntKind.i64 1)))]) [] []))
    ((((0 ≤ IntKind.i64.wrap (c + 1)) ∧
    (IntKind.i64.wrap (c + 1) ≤ IntKind.i64.wrap (c + 1)) ∧
    (IntKind.i64.wrap (c + 1) * (↑(bytesOf C0 EC.bool) : Int) ≤ 140737488355328) ∧
    (0 ≤ IntKind.i64.wrap (c + 1)) ∧
    (IntKind.i64.wrap (c + 1) ≤ IntKind.i64.wrap (c + 1)) ∧
    (IntKind.i64.wrap (c + 1) * (↑(bytesOf C0 EC.u32) : Int) ≤ 140737488355328) ∧
    (K (SV.tup [(TV.at (At.ptr 0 0)), (TV.at (At.val (Value.int IntKind.i64 0)))]) [(Chunk.box [(At.slc 1), (At.slc 2), (At.slc 3), (At.val (Value.int IntKind.u32 0))]), (Chunk.row true (EC.bool) (List.replicate (IntKind.i64.wrap (c + 1)).toNat false)), (Chunk.row true (EC.u32) (List.replicate (IntKind.i64.wrap (c + 1)).toNat (0 : Int))), (Chunk.row true (EC.u32) [])] [])) ∧
    (0 ≤ IntKind.i64.wrap (c + 1)) ∧
    (IntKind.i64.wrap (c + 1) ≤ IntKind.i64.wrap (c + 1)) ∧
    (IntKind.i64.wrap (c + 1) * (↑(bytesOf C0 EC.u32) : Int) ≤ 140737488355328) ∧
    (0 ≤ IntKind.i64.wrap (c + 1)) ∧
    (IntKind.i64.wrap (c + 1) ≤ IntKind.i64.wrap (c + 1)) ∧
    (IntKind.i64.wrap (c + 1) * (↑(bytesOf C0 EC.bool) : Int) ≤ 140737488355328) ∧
    (K (SV.tup [(TV.at (At.ptr 0 0)), (TV.at (At.val (Value.int IntKind.i64 0)))]) [(Chunk.box [(At.slc 1), (At.slc 2), (At.slc 3), (At.val (Value.int IntKind.u32 0))]), (Chunk.row true (EC.bool) (List.replicate (IntKind.i64.wrap (c + 1)).toNat false)), (Chunk.row true (EC.u32) (List.replicate (IntKind.i64.wrap (c + 1)).toNat (0 : Int))), (Chunk.row true (EC.u32) [])] [])))))) = _ by kernel_rfl) ?_
  simp only [bytes_bool, bytes_u32]
  refine brS_of (fun d => hb (.inl (by simpa using d))) fun d => brS_of (fun e => hb (.inr (by simpa using e))) fun e => ?_
  have d : 1 ≤ c := by simp at d; omega
  have e : c ≤ 65536 := by simp at e; omega
  have h := h d e _ _ rfl rfl
  unfold newUs newGn at h
  rw [wrap_id (x := c + 1) (by omega) (by omega), show (c + 1).toNat = c.toNat + 1 by omega]
  exact ⟨⟨by omega, by omega, by omega, by omega, by omega, by omega, h⟩, by omega, by omega, by omega, by omega, by omega, by omega, h⟩
theorem s_slNew : SoundT C0 70 tSlNew := by
  refine .of Try.func70 (by decide) rfl fun args H K h hB => ?_
  unfold tSlNew at h
  split at h <;> try exact h.elim
  rename_i c
  exact ⟨aSlNew, trivial, vc_slNew c K h.1 h.2⟩
theorem vc_new (c : Int) (K : KT) (hb : c < 1 ∨ 65536 < c → K (.tup [.at (.val (.pointer none)), .at (vI 1)]) [] []) (h : 1 ≤ c → c ≤ 65536 → ∀ S, S = newS c.toNat → K (.tup [.at (.ptr 0 0), .at (vI 0)]) (chS S) []) :
    vc C0 aNew Try.f14 [.at (vI c)] [] (normK 0 K) := by
  refine Eq.mp (show (((c < 1 ∨ 65536 < c) →
(K (SV.tup [(TV.at (At.val (Value.pointer none))), (TV.at (At.val (Value.int IntKind.i64 1)))]) [] [])) ∧
((1 ≤ c) →
((c ≤ 65536) →
(∀ us : List Bool,
  (∀ gn : List Int,
    (((us) = (newUs c)) →
    (((gn) = (newGn c)) →
    (((0 ≤ IntKind.i64.wrap (c + 1)) ∧
    (IntKind.i64.wrap (c + 1) ≤ IntKind.i64.wrap (c + 1)) ∧
    (IntKind.i64.wrap (c + 1) * (↑(bytesOf C0 EC.node) : Int) ≤ 140737488355328) ∧
    (0 ≤ IntKind.i64.wrap (c + 1)) ∧
    (IntKind.i64.wrap (c + 1) ≤ IntKind.i64.wrap (c + 1)) ∧
    (IntKind.i64.wrap (c + 1) * (↑(bytesOf C0 EC.int) : Int) ≤ 140737488355328) ∧
    (K (SV.tup [(TV.at (At.ptr 0 0)), (TV.at (At.val (Value.int IntKind.i64 0)))]) [(Chunk.box [(At.ptr 1 0), (At.slc 2), (At.slc 3), (At.val (Value.int IntKind.u64 0))]), (Chunk.box [(At.slc 4), (At.slc 5), (At.slc 6), (At.val (Value.int IntKind.u32 0))]), (Chunk.row true (EC.node) (List.replicate (IntKind.i64.wrap (c + 1)).toNat { key := 0, value := 0, left := 0, right := 0, size := 0, sum := 0, min := 0, max := 0 : NodeT })), (Chunk.row true (EC.int) (List.replicate (IntKind.i64.wrap (c + 1)).toNat (0 : Int))), (Chunk.row true (EC.bool) (us)), (Chunk.row true (EC.u32) (gn)), (Chunk.row true (EC.u32) [])] [])) ∧
    (0 ≤ IntKind.i64.wrap (c + 1)) ∧
    (IntKind.i64.wrap (c + 1) ≤ IntKind.i64.wrap (c + 1)) ∧
    (IntKind.i64.wrap (c + 1) * (↑(bytesOf C0 EC.int) : Int) ≤ 140737488355328) ∧
    (0 ≤ IntKind.i64.wrap (c + 1)) ∧
    (IntKind.i64.wrap (c + 1) ≤ IntKind.i64.wrap (c + 1)) ∧
    (IntKind.i64.wrap (c + 1) * (↑(bytesOf C0 EC.node) : Int) ≤ 140737488355328) ∧
    (K (SV.tup [(TV.at (At.ptr 0 0)), (TV.at (At.val (Value.int IntKind.i64 0)))]) [(Chunk.box [(At.ptr 1 0), (At.slc 2), (At.slc 3), (At.val (Value.int IntKind.u64 0))]), (Chunk.box [(At.slc 4), (At.slc 5), (At.slc 6), (At.val (Value.int IntKind.u32 0))]), (Chunk.row true (EC.node) (List.replicate (IntKind.i64.wrap (c + 1)).toNat { key := 0, value := 0, left := 0, right := 0, size := 0, sum := 0, min := 0, max := 0 : NodeT })), (Chunk.row true (EC.int) (List.replicate (IntKind.i64.wrap (c + 1)).toNat (0 : Int))), (Chunk.row true (EC.bool) (us)), (Chunk.row true (EC.u32) (gn)), (Chunk.row true (EC.u32) [])] []))))))))) = _ by kernel_rfl) ?_
  simp only [bytes_node, bytes_int]
  refine ⟨hb, fun d e us gn hu hg => ?_⟩
  have h := h d e _ rfl
  subst hu hg
  unfold newUs newGn
  rw [wrap_id (x := c + 1) (by omega) (by omega), show (c + 1).toNat = c.toNat + 1 by omega]
  exact ⟨⟨by omega, by omega, by omega, by omega, by omega, by omega, h⟩, by omega, by omega, by omega, by omega, by omega, by omega, h⟩
theorem s_new : SoundT C0 14 tNew := by
  refine .of Try.func14 (by decide) rfl fun args H K h hB => ?_
  unfold tNew at h
  split at h <;> try exact h.elim
  rename_i c
  exact ⟨aNew, ⟨frame C0.ok s_slNew _, trivial⟩, vc_new c K h.1 h.2⟩
end Go.Proofs.Ytacdmmomkngpkaa.Sx
