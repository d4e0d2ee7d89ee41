/- A part of the proof. -/
import Derived.Test.YtmjnoiajenoinaaG4
import Derived.Test.YtmjnoiajenoinaaG1
section
/- The arena's functions. -/
namespace Go.Proofs.Ytmjnoiajenoinaa.Sx
open Go

abbrev chS (S : Arn) : List (Chunk C0) := [.box [.ptr 1 0, .slc 2, .slc 3, vU64 S.reads], .box [.slc 4, .slc 5, .slc 6, vU S.fresh], .row true EC.node S.nodes, .row true EC.int S.counts, .row true EC.bool S.used, .row true EC.u32 S.gen, .row true EC.u32 S.rel]
def arM (H : List (Chunk C0)) (k : Arn → Prop) : Prop := match H with
  | [.box [.ptr 1 0, .slc 2, .slc 3, .val (.int .u64 rd)], .box [.slc 4, .slc 5, .slc 6, .val (.int .u32 fr)], .row true .node nd, .row true .int ct, .row true .bool us, .row true .u32 gn, .row true .u32 rl] => k ⟨us, gn, rl, fr, nd, ct, rd⟩
  | _ => False
def arMr (H : List (Chunk C0)) (k : Arn → List (Chunk C0) → Prop) : Prop := match H with
  | .box [.ptr 1 0, .slc 2, .slc 3, .val (.int .u64 rd)] :: .box [.slc 4, .slc 5, .slc 6, .val (.int .u32 fr)] :: .row true .node nd :: .row true .int ct :: .row true .bool us :: .row true .u32 gn :: .row true .u32 rl :: rest => k ⟨us, gn, rl, fr, nd, ct, rd⟩ rest
  | _ => False
abbrev nodeA (n : NodeT) : TV := .agg [vI n.key, vI n.value, vU n.left, vU n.right, vI n.size, vI n.sum, vI n.min, vI n.max]
abbrev W7 : List Nat := [0, 1, 2, 3, 4, 5, 6]
def inU (i : Int) : Prop := 0 ≤ i ∧ i < 4294967296
def exW (S : Arn) : Prop := ∃ hs, Wf S hs
def live (S : Arn) (i : Int) : Prop := i = 0 ∨ S.us i = true

noncomputable def aFree : Ann C0 := { Γ := [(62, frameT [] tSlFree)] }
def tFree : Tfm C0 := fun args H K => match args with
  | [.at (.ptr 0 0)] => arM H fun S => exW S ∧ K (.one (.at (vI S.free))) (chS S) []
  | _ => False
noncomputable def aCap : Ann C0 := { Γ := [(79, frameT [] tSlCap)] }
def tCap : Tfm C0 := fun args H K => match args with
  | [.at (.ptr 0 0)] => arM H fun S => exW S ∧ K (.one (.at (vI S.cap))) (chS S) []
  | _ => False
noncomputable def aAlc : Ann C0 := { Γ := [(56, frameT [] tSlAllocated)] }
def tNode : Tfm C0 := fun args H K => match args with
  | [.at (.ptr 0 0), .at (.val (.int .u32 i))] => arM H fun S => inU i ∧ exW S ∧ S.reads < 4000000000000000000 ∧ ∀ S', S' = rdS S (S.us i).toNat → K (.tup [nodeA (S.nd i), .at (vB (S.us i))]) (chS S') [0]
  | _ => False
def tSize : Tfm C0 := fun args H K => match args with
  | [.at (.ptr 0 0), .at (.val (.int .u32 i))] => arM H fun S => inU i ∧ exW S ∧ S.reads < 4000000000000000000 ∧ ∀ S', S' = rdS S (S.us i).toNat → K (.one (.at (vI (S.nd i).size))) (chS S') [0]
  | _ => False
def tCount : Tfm C0 := fun args H K => match args with
  | [.at (.ptr 0 0), .at (.val (.int .u32 i))] => arM H fun S => inU i ∧ exW S ∧ K (.one (.at (vI (if S.us i then S.ct i else 0)))) (chS S) []
  | _ => False
noncomputable def aGen : Ann C0 := { Γ := [(112, frameT [] tSlGen)] }
def tGen : Tfm C0 := fun args H K => match args with
  | [.at (.ptr 0 0), .at (.val (.int .u32 i))] => arM H fun S => inU i ∧ exW S ∧ K (.one (.at (vU (S.gn i)))) (chS S) []
  | _ => False
def tRetain : Tfm C0 := fun args H K => match args with
  | [.at (.ptr 0 0), .at (.val (.int .u32 i))] => arM H fun S => inU i ∧ exW S ∧ (i = 0 → K (.one (.at (vI 0))) (chS S) [3]) ∧ (i ≠ 0 → S.us i = false → K (.one (.at (vI 3))) (chS S) [3]) ∧ (S.us i = true → ∀ S', S' = retA S i → K (.one (.at (vI 0))) (chS S') [3])
  | _ => False
def newUs (c : Int) : List Bool := List.replicate (c.toNat + 1) false
def newGn (c : Int) : List Int := List.replicate (c.toNat + 1) 0
noncomputable def aSlNew : Ann C0 := { Γ := [] }
def tSlNew : Tfm C0 := fun args H K => match args, H with
  | [.at (.val (.int .i64 c))], [] => (c < 1 ∨ 65536 < c → K (.tup [.at (.val (.pointer none)), .at (vI 1)]) [] []) ∧ (1 ≤ c → c ≤ 65536 → ∀ (us : List Bool) (gn : List Int), us = newUs c → gn = newGn c → K (.tup [.at (.ptr 0 0), .at (vI 0)]) (slC us gn [] 0) [])
  | _, _ => False
noncomputable def aNew : Ann C0 := { Γ := [(55, frameT [] tSlNew)] }
def tNew : Tfm C0 := fun args H K => match args, H with
  | [.at (.val (.int .i64 c))], [] => (c < 1 ∨ 65536 < c → K (.tup [.at (.val (.pointer none)), .at (vI 1)]) [] []) ∧ (1 ≤ c → c ≤ 65536 → ∀ S, S = newS c.toNat → K (.tup [.at (.ptr 0 0), .at (vI 0)]) (chS S) [])
  | _, _ => False
theorem getD_false {l : List Bool} {i : Nat} (h : l.getD i false = true) : i < l.length := by
  rcases Nat.lt_or_ge i l.length with hh | hh
  · exact hh
  · rw [List.getD_eq_getElem?_getD, List.getElem?_eq_none hh] at h; cases h
theorem vc_free (S : Arn) (K : KT) (hw : exW S) (h : K (.one (.at (vI S.free))) (chS S) []) : vc C0 aFree Try.f18 [.at (.ptr 0 0)] (chS S) (normK 7 K) := by
  refine Eq.mp (show ((1 ≤ S.used.length) ∧
(S.used.length ≤ 65537) ∧
(S.rel.length ≤ 65537) ∧
(0 ≤ S.fresh) ∧
(S.fresh ≤ 65537) ∧
(K (SV.one (TV.at (At.val (Value.int IntKind.i64 ((↑S.rel.length : Int) + ((↑S.used.length : Int) - 1) - S.fresh))))) [(Chunk.box [(At.ptr 1 0), (At.slc 2), (At.slc 3), (At.val (Value.int IntKind.u64 (S.reads)))]), (Chunk.box [(At.slc 4), (At.slc 5), (At.slc 6), (At.val (Value.int IntKind.u32 (S.fresh)))]), (Chunk.row true (EC.node) (S.nodes)), (Chunk.row true (EC.int) (S.counts)), (Chunk.row true (EC.bool) (S.used)), (Chunk.row true (EC.u32) (S.gen)), (Chunk.row true (EC.u32) (S.rel))] [])) = _ by kernel_rfl) ?_
  obtain ⟨hs, hw⟩ := hw
  have h1 := hw.n1; have h2 := hw.n2; have h3 := hw.fr; have h4 := hw.free_nonneg
  exact ⟨by omega, by omega, by omega, by omega, by omega, h⟩
theorem s_free : SoundT C0 18 tFree := by
  refine .of Try.func18 (by decide) rfl fun args H K h hB => ?_
  unfold tFree at h
  split at h <;> try exact h.elim
  unfold arM at h
  split at h <;> try exact h.elim
  rename_i rd fr nd ct us gn rl
  exact ⟨aFree, ⟨frame C0.ok s_slFree _, trivial⟩, vc_free ⟨us, gn, rl, fr, nd, ct, rd⟩ K h.1 h.2⟩
theorem vc_cap (S : Arn) (K : KT) (hw : exW S) (h : K (.one (.at (vI S.cap))) (chS S) []) : vc C0 aCap Try.f35 [.at (.ptr 0 0)] (chS S) (normK 7 K) := by
  refine Eq.mp (show ((1 ≤ S.used.length) ∧
(S.used.length ≤ 65537) ∧
(K (SV.one (TV.at (At.val (Value.int IntKind.i64 ((↑S.used.length : Int) - 1))))) [(Chunk.box [(At.ptr 1 0), (At.slc 2), (At.slc 3), (At.val (Value.int IntKind.u64 (S.reads)))]), (Chunk.box [(At.slc 4), (At.slc 5), (At.slc 6), (At.val (Value.int IntKind.u32 (S.fresh)))]), (Chunk.row true (EC.node) (S.nodes)), (Chunk.row true (EC.int) (S.counts)), (Chunk.row true (EC.bool) (S.used)), (Chunk.row true (EC.u32) (S.gen)), (Chunk.row true (EC.u32) (S.rel))] [])) = _ by kernel_rfl) ?_
  obtain ⟨hs, hw⟩ := hw
  have h1 := hw.n1; have h2 := hw.n2
  exact ⟨by omega, by omega, h⟩
theorem s_cap : SoundT C0 35 tCap := by
  refine .of Try.func35 (by decide) rfl fun args H K h hB => ?_
  unfold tCap at h
  split at h <;> try exact h.elim
  unfold arM at h
  split at h <;> try exact h.elim
  rename_i rd fr nd ct us gn rl
  exact ⟨aCap, ⟨frame C0.ok s_slCap _, trivial⟩, vc_cap ⟨us, gn, rl, fr, nd, ct, rd⟩ K h.1 h.2⟩
theorem wrap_u64 {x : Int} (h1 : 0 ≤ x) (h2 : x < 18446744073709551616) : IntKind.u64.wrap x = x := by
  unfold IntKind.wrap
  simp [IntKind.signed, IntKind.bits]
  omega
theorem vc_node (S : Arn) (i : Int) (K : KT) (hi : inU i) (hw : exW S) (hr : S.reads < 4000000000000000000) (h : ∀ S', S' = rdS S (S.us i).toNat → K (.tup [nodeA (S.nd i), .at (vB (S.us i))]) (chS S') [0]) :
    vc C0 aAlc Try.f60 [.at (.ptr 0 0), .at (vU i)] (chS S) (normK 7 (wideK [0] K)) := by
  refine Eq.mp (show ((0 ≤ i) ∧
(i < 4294967296) ∧
(S.used.length ≤ 65537) ∧
(brS (!S.us i) ((K (SV.tup [(TV.agg [(At.val (Value.int IntKind.i64 0)), (At.val (Value.int IntKind.i64 0)), (At.val (Value.int IntKind.u32 0)), (At.val (Value.int IntKind.u32 0)), (At.val (Value.int IntKind.i64 0)), (At.val (Value.int IntKind.i64 0)), (At.val (Value.int IntKind.i64 0)), (At.val (Value.int IntKind.i64 0))]), (TV.at (At.val (Value.bool false)))]) [(Chunk.box [(At.ptr 1 0), (At.slc 2), (At.slc 3), (At.val (Value.int IntKind.u64 (S.reads)))]), (Chunk.box [(At.slc 4), (At.slc 5), (At.slc 6), (At.val (Value.int IntKind.u32 (S.fresh)))]), (Chunk.row true (EC.node) (S.nodes)), (Chunk.row true (EC.int) (S.counts)), (Chunk.row true (EC.bool) (S.used)), (Chunk.row true (EC.u32) (S.gen)), (Chunk.row true (EC.u32) (S.rel))] [0])) (((0 ≤ i) ∧ (i < (↑S.nodes.length : Int)) ∧
    (K (SV.tup [(TV.agg [(At.val (Value.int IntKind.i64 ((S.nd i).key))), (At.val (Value.int IntKind.i64 ((S.nd i).value))), (At.val (Value.int IntKind.u32 ((S.nd i).left))), (At.val (Value.int IntKind.u32 ((S.nd i).right))), (At.val (Value.int IntKind.i64 ((S.nd i).size))), (At.val (Value.int IntKind.i64 ((S.nd i).sum))), (At.val (Value.int IntKind.i64 ((S.nd i).min))), (At.val (Value.int IntKind.i64 ((S.nd i).max)))]), (TV.at (At.val (Value.bool true)))]) [(Chunk.box [(At.ptr 1 0), (At.slc 2), (At.slc 3), (At.val (Value.int IntKind.u64 (IntKind.u64.wrap (S.reads + 1))))]), (Chunk.box [(At.slc 4), (At.slc 5), (At.slc 6), (At.val (Value.int IntKind.u32 (S.fresh)))]), (Chunk.row true (EC.node) (S.nodes)), (Chunk.row true (EC.int) (S.counts)), (Chunk.row true (EC.bool) (S.used)), (Chunk.row true (EC.u32) (S.gen)), (Chunk.row true (EC.u32) (S.rel))] [0]))))) = _ by kernel_rfl) ?_
  obtain ⟨hs, hw⟩ := hw
  have h2 := hw.n2; have h3 := hw.nnod; have h4 := hw.rds
  rw [wrap_u64 (by omega) (by omega)]
  refine ⟨hi.1, hi.2, by omega, brS_of (fun c => ?_) fun c => ?_⟩
  · have c : S.us i = false := by simpa using c
    have h5 := h _ rfl
    rw [hw.zero i c, c] at h5
    have e : rdS S (false.toNat) = S := by simp [rdS]
    rw [e] at h5
    exact h5
  · have c : S.us i = true := by simpa using c
    have hp := hw.pos c
    have h5 := h _ rfl
    rw [c] at h5
    exact ⟨hi.1, by omega, h5⟩
theorem s_node : SoundT C0 60 tNode := by
  refine .ofW [0] Try.func60 (by decide) rfl fun args H K h hB => ?_
  unfold tNode at h
  split at h <;> try exact h.elim
  unfold arM at h
  split at h <;> try exact h.elim
  rename_i i _ rd fr nd ct us gn rl
  exact ⟨aAlc, ⟨frame C0.ok s_slAllocated _, trivial⟩, vc_node ⟨us, gn, rl, fr, nd, ct, rd⟩ i K h.1 h.2.1 h.2.2.1 h.2.2.2⟩
theorem vc_size (S : Arn) (i : Int) (K : KT) (hi : inU i) (hw : exW S) (hr : S.reads < 4000000000000000000) (h : ∀ S', S' = rdS S (S.us i).toNat → K (.one (.at (vI (S.nd i).size))) (chS S') [0]) :
    vc C0 aAlc Try.f17 [.at (.ptr 0 0), .at (vU i)] (chS S) (normK 7 (wideK [0] K)) := by
  refine Eq.mp (show ((0 ≤ i) ∧
(i < 4294967296) ∧
(S.used.length ≤ 65537) ∧
(brS (!S.us i) ((K (SV.one (TV.at (At.val (Value.int IntKind.i64 0)))) [(Chunk.box [(At.ptr 1 0), (At.slc 2), (At.slc 3), (At.val (Value.int IntKind.u64 (S.reads)))]), (Chunk.box [(At.slc 4), (At.slc 5), (At.slc 6), (At.val (Value.int IntKind.u32 (S.fresh)))]), (Chunk.row true (EC.node) (S.nodes)), (Chunk.row true (EC.int) (S.counts)), (Chunk.row true (EC.bool) (S.used)), (Chunk.row true (EC.u32) (S.gen)), (Chunk.row true (EC.u32) (S.rel))] [0])) (((0 ≤ i) ∧ (i < (↑S.nodes.length : Int)) ∧ (K (SV.one (TV.at (At.val (Value.int IntKind.i64 ((S.nd i).size))))) [(Chunk.box [(At.ptr 1 0), (At.slc 2), (At.slc 3), (At.val (Value.int IntKind.u64 (IntKind.u64.wrap (S.reads + 1))))]), (Chunk.box [(At.slc 4), (At.slc 5), (At.slc 6), (At.val (Value.int IntKind.u32 (S.fresh)))]), (Chunk.row true (EC.node) (S.nodes)), (Chunk.row true (EC.int) (S.counts)), (Chunk.row true (EC.bool) (S.used)), (Chunk.row true (EC.u32) (S.gen)), (Chunk.row true (EC.u32) (S.rel))] [0]))))) = _ by kernel_rfl) ?_
  obtain ⟨hs, hw⟩ := hw
  have h2 := hw.n2; have h3 := hw.nnod; have h4 := hw.rds
  rw [wrap_u64 (by omega) (by omega)]
  refine ⟨hi.1, hi.2, by omega, brS_of (fun c => ?_) fun c => ?_⟩
  · have c : S.us i = false := by simpa using c
    have h5 := h _ rfl
    rw [hw.zero i c, c] at h5
    have e : rdS S (false.toNat) = S := by simp [rdS]
    rw [e] at h5
    exact h5
  · have c : S.us i = true := by simpa using c
    have hp := hw.pos c
    have h5 := h _ rfl
    rw [c] at h5
    exact ⟨hi.1, by omega, h5⟩
theorem s_size : SoundT C0 17 tSize := by
  refine .ofW [0] Try.func17 (by decide) rfl fun args H K h hB => ?_
  unfold tSize at h
  split at h <;> try exact h.elim
  unfold arM at h
  split at h <;> try exact h.elim
  rename_i i _ rd fr nd ct us gn rl
  exact ⟨aAlc, ⟨frame C0.ok s_slAllocated _, trivial⟩, vc_size ⟨us, gn, rl, fr, nd, ct, rd⟩ i K h.1 h.2.1 h.2.2.1 h.2.2.2⟩
theorem vc_count (S : Arn) (i : Int) (K : KT) (hi : inU i) (hw : exW S) (h : K (.one (.at (vI (if S.us i then S.ct i else 0)))) (chS S) []) :
    vc C0 aAlc Try.f19 [.at (.ptr 0 0), .at (vU i)] (chS S) (normK 7 K) := by
  refine Eq.mp (show ((0 ≤ i) ∧
(i < 4294967296) ∧
(S.used.length ≤ 65537) ∧
(brS (!S.us i) ((K (SV.one (TV.at (At.val (Value.int IntKind.i64 0)))) [(Chunk.box [(At.ptr 1 0), (At.slc 2), (At.slc 3), (At.val (Value.int IntKind.u64 (S.reads)))]), (Chunk.box [(At.slc 4), (At.slc 5), (At.slc 6), (At.val (Value.int IntKind.u32 (S.fresh)))]), (Chunk.row true (EC.node) (S.nodes)), (Chunk.row true (EC.int) (S.counts)), (Chunk.row true (EC.bool) (S.used)), (Chunk.row true (EC.u32) (S.gen)), (Chunk.row true (EC.u32) (S.rel))] [])) (((0 ≤ i) ∧ (i < (↑S.counts.length : Int)) ∧ (K (SV.one (TV.at (At.val (Value.int IntKind.i64 (S.ct i))))) [(Chunk.box [(At.ptr 1 0), (At.slc 2), (At.slc 3), (At.val (Value.int IntKind.u64 (S.reads)))]), (Chunk.box [(At.slc 4), (At.slc 5), (At.slc 6), (At.val (Value.int IntKind.u32 (S.fresh)))]), (Chunk.row true (EC.node) (S.nodes)), (Chunk.row true (EC.int) (S.counts)), (Chunk.row true (EC.bool) (S.used)), (Chunk.row true (EC.u32) (S.gen)), (Chunk.row true (EC.u32) (S.rel))] []))))) = _ by kernel_rfl) ?_
  obtain ⟨hs, hw⟩ := hw
  have h2 := hw.n2; have h3 := hw.ncnt
  refine ⟨hi.1, hi.2, by omega, brS_of (fun c => ?_) fun c => ?_⟩
  · have c : S.us i = false := by simpa using c
    rw [c] at h
    exact h
  · have c : S.us i = true := by simpa using c
    have hp := hw.pos c
    rw [c] at h
    exact ⟨hi.1, by omega, h⟩
theorem s_count : SoundT C0 19 tCount := by
  refine .of Try.func19 (by decide) rfl fun args H K h hB => ?_
  unfold tCount at h
  split at h <;> try exact h.elim
  unfold arM at h
  split at h <;> try exact h.elim
  rename_i i _ rd fr nd ct us gn rl
  exact ⟨aAlc, ⟨frame C0.ok s_slAllocated _, trivial⟩, vc_count ⟨us, gn, rl, fr, nd, ct, rd⟩ i K h.1 h.2.1 h.2.2⟩
theorem vc_gen (S : Arn) (i : Int) (K : KT) (hi : inU i) (hw : exW S) (h : K (.one (.at (vU (S.gn i)))) (chS S) []) :
    vc C0 aGen Try.f64 [.at (.ptr 0 0), .at (vU i)] (chS S) (normK 7 K) := by
  refine Eq.mp (show ((0 ≤ i) ∧
(i < 4294967296) ∧
(S.gen.length ≤ 65537) ∧
(K (SV.one (TV.at (At.val (Value.int IntKind.u32 (S.gn i))))) [(Chunk.box [(At.ptr 1 0), (At.slc 2), (At.slc 3), (At.val (Value.int IntKind.u64 (S.reads)))]), (Chunk.box [(At.slc 4), (At.slc 5), (At.slc 6), (At.val (Value.int IntKind.u32 (S.fresh)))]), (Chunk.row true (EC.node) (S.nodes)), (Chunk.row true (EC.int) (S.counts)), (Chunk.row true (EC.bool) (S.used)), (Chunk.row true (EC.u32) (S.gen)), (Chunk.row true (EC.u32) (S.rel))] [])) = _ by kernel_rfl) ?_
  obtain ⟨hs, hw⟩ := hw
  have h2 := hw.n2; have h3 := hw.ngen
  exact ⟨hi.1, hi.2, by omega, h⟩
theorem s_gen : SoundT C0 64 tGen := by
  refine .of Try.func64 (by decide) rfl fun args H K h hB => ?_
  unfold tGen at h
  split at h <;> try exact h.elim
  unfold arM at h
  split at h <;> try exact h.elim
  rename_i i _ rd fr nd ct us gn rl
  exact ⟨aGen, ⟨frame C0.ok s_slGen _, trivial⟩, vc_gen ⟨us, gn, rl, fr, nd, ct, rd⟩ i K h.1 h.2.1 h.2.2⟩
theorem vc_retain (S : Arn) (i : Int) (K : KT) (hi : inU i) (hw : exW S) (h0 : i = 0 → K (.one (.at (vI 0))) (chS S) [3]) (h1 : i ≠ 0 → S.us i = false → K (.one (.at (vI 3))) (chS S) [3]) (h : S.us i = true → ∀ S', S' = retA S i → K (.one (.at (vI 0))) (chS S') [3]) :
    vc C0 aAlc Try.f61 [.at (.ptr 0 0), .at (vU i)] (chS S) (normK 7 (wideK [3] K)) := by
  refine Eq.mp (show (brS (i == 0) ((K (SV.one (TV.at (At.val (Value.int IntKind.i64 0)))) [(Chunk.box [(At.ptr 1 0), (At.slc 2), (At.slc 3), (At.val (Value.int IntKind.u64 (S.reads)))]), (Chunk.box [(At.slc 4), (At.slc 5), (At.slc 6), (At.val (Value.int IntKind.u32 (S.fresh)))]), (Chunk.row true (EC.node) (S.nodes)), (Chunk.row true (EC.int) (S.counts)), (Chunk.row true (EC.bool) (S.used)), (Chunk.row true (EC.u32) (S.gen)), (Chunk.row true (EC.u32) (S.rel))] [3])) (((0 ≤ i) ∧ (i < 4294967296) ∧ (S.used.length ≤ 65537) ∧ (brS (!S.us i) ((K (SV.one (TV.at (At.val (Value.int IntKind.i64 3)))) [(Chunk.box [(At.ptr 1 0), (At.slc 2), (At.slc 3), (At.val (Value.int IntKind.u64 (S.reads)))]), (Chunk.box [(At.slc 4), (At.slc 5), (At.slc 6), (At.val (Value.int IntKind.u32 (S.fresh)))]), (Chunk.row true (EC.node) (S.nodes)), (Chunk.row true (EC.int) (S.counts)), (Chunk.row true (EC.bool) (S.used)), (Chunk.row true (EC.u32) (S.gen)), (Chunk.row true (EC.u32) (S.rel))] [3])) (((0 ≤ i) ∧ (i < (↑S.counts.length : Int)) ∧ (0 ≤ i) ∧ (i < (↑S.counts.length : Int)) ∧
    (K (SV.one (TV.at (At.val (Value.int IntKind.i64 0)))) [(Chunk.box [(At.ptr 1 0), (At.slc 2), (At.slc 3), (At.val (Value.int IntKind.u64 (S.reads)))]), (Chunk.box [(At.slc 4), (At.slc 5), (At.slc 6), (At.val (Value.int IntKind.u32 (S.fresh)))]), (Chunk.row true (EC.node) (S.nodes)), (Chunk.row true (EC.int) (S.counts.set i.toNat (IntKind.i64.wrap (S.ct i + 1)))), (Chunk.row true (EC.bool) (S.used)), (Chunk.row true (EC.u32) (S.gen)), (Chunk.row true (EC.u32) (S.rel))] [3]))))))) = _ by kernel_rfl) ?_
  obtain ⟨hs, hw⟩ := hw
  have h2 := hw.n2; have h3 := hw.ncnt
  refine brS_of (fun c => h0 (by simpa using c)) fun c => ⟨hi.1, hi.2, by omega, brS_of (fun d => ?_) fun d => ?_⟩
  · exact h1 (by simpa using c) (by simpa using d)
  · have d : S.us i = true := by simpa using d
    have hp := hw.pos d
    exact ⟨hi.1, by omega, hi.1, by omega, h d _ rfl⟩
theorem s_retain : SoundT C0 61 tRetain := by
  refine .ofW [3] Try.func61 (by decide) rfl fun args H K h hB => ?_
  unfold tRetain at h
  split at h <;> try exact h.elim
  unfold arM at h
  split at h <;> try exact h.elim
  rename_i i _ rd fr nd ct us gn rl
  exact ⟨aAlc, ⟨frame C0.ok s_slAllocated _, trivial⟩, vc_retain ⟨us, gn, rl, fr, nd, ct, rd⟩ i K h.1 h.2.1 h.2.2.1 h.2.2.2.1 h.2.2.2.2⟩
theorem vc_slNew (c : Int) (K : KT) (hb : c < 1 ∨ 65536 < c → K (.tup [.at (.val (.pointer none)), .at (vI 1)]) [] []) (h : 1 ≤ c → c ≤ 65536 → ∀ (us : List Bool) (gn : List Int), us = newUs c → gn = newGn c → K (.tup [.at (.ptr 0 0), .at (vI 0)]) (slC us gn [] 0) []) :
    vc C0 aSlNew Try.f55 [.at (vI c)] [] (normK 0 K) := by
  refine Eq.mp (show (brS (decide (c < 1)) ((K (SV.tup [(TV.at (At.val (Value.pointer none))), (TV.at (At.val (Value.int IntKind.i64 1)))]) [] [])) ((brS (decide (c > 65536)) ((K (SV.tup [(TV.at (At.val (Value.pointer none))), (TV.at (At.val (Value.int IntKind.i64 1)))]) [] [])) ((((0 ≤ IntKind.i64.wrap (c + 1)) ∧ (IntKind.i64.wrap (c + 1) ≤ IntKind.i64.wrap (c + 1)) ∧ (IntKind.i64.wrap (c + 1) * (↑(bytesOf C0 EC.bool) : Int) ≤ 140737488355328) ∧ (0 ≤ IntKind.i64.wrap (c + 1)) ∧ (IntKind.i64.wrap (c + 1) ≤ IntKind.i64.wrap (c + 1)) ∧ (IntKind.i64.wrap (c + 1) * (↑(bytesOf C0 EC.u32) : Int) ≤ 140737488355328) ∧ (K (SV.tup [(TV.at (At.ptr 0 0)), (TV.at (At.val (Value.int IntKind.i64 0)))]) [(Chunk.box [(At.slc 1), (At.slc 2), (At.slc 3), (At.val (Value.int IntKind.u32 0))]), (Chunk.row true (EC.bool) (List.replicate (IntKind.i64.wrap (c + 1)).toNat false)), (Chunk.row true (EC.u32) (List.replicate (IntKind.i64.wrap (c + 1)).toNat (0 : Int))), (Chunk.row true (EC.u32) [])] [])) ∧ (0 ≤ IntKind.i64.wrap (c + 1)) ∧ (IntKind.i64.wrap (c + 1) ≤ IntKind.i64.wrap (c + 1)) ∧ (IntKind.i64.wrap (c + 1) * (↑(bytesOf C0 EC.u32) : Int) ≤ 140737488355328) ∧ (0 ≤ IntKind.i64.wrap (c + 1)) ∧ (IntKind.i64.wrap (c + 1) ≤ IntKind.i64.wrap (c + 1)) ∧ (IntKind.i64.wrap (c + 1) * (↑(bytesOf C0 EC.bool) : Int) ≤ 140737488355328) ∧
    (K (SV.tup [(TV.at (At.ptr 0 0)), (TV.at (At.val (Value.int IntKind.i64 0)))]) [(Chunk.box [(At.slc 1), (At.slc 2), (At.slc 3), (At.val (Value.int IntKind.u32 0))]), (Chunk.row true (EC.bool) (List.replicate (IntKind.i64.wrap (c + 1)).toNat false)), (Chunk.row true (EC.u32) (List.replicate (IntKind.i64.wrap (c + 1)).toNat (0 : Int))), (Chunk.row true (EC.u32) [])] [])))))) = _ by kernel_rfl) ?_
  simp only [bytes_bool, bytes_u32]
  refine brS_of (fun d => hb (.inl (by simpa using d))) fun d => brS_of (fun e => hb (.inr (by simpa using e))) fun e => ?_
  have d : 1 ≤ c := by simp at d; omega
  have e : c ≤ 65536 := by simp at e; omega
  have h := h d e _ _ rfl rfl
  unfold newUs newGn at h
  rw [wrap_id (x := c + 1) (by omega) (by omega), show (c + 1).toNat = c.toNat + 1 by omega]
  exact ⟨⟨by omega, by omega, by omega, by omega, by omega, by omega, h⟩, by omega, by omega, by omega, by omega, by omega, by omega, h⟩
theorem s_slNew : SoundT C0 55 tSlNew := by
  refine .of Try.func55 (by decide) rfl fun args H K h hB => ?_
  unfold tSlNew at h
  split at h <;> try exact h.elim
  rename_i c
  exact ⟨aSlNew, trivial, vc_slNew c K h.1 h.2⟩
theorem vc_new (c : Int) (K : KT) (hb : c < 1 ∨ 65536 < c → K (.tup [.at (.val (.pointer none)), .at (vI 1)]) [] []) (h : 1 ≤ c → c ≤ 65536 → ∀ S, S = newS c.toNat → K (.tup [.at (.ptr 0 0), .at (vI 0)]) (chS S) []) :
    vc C0 aNew Try.f11 [.at (vI c)] [] (normK 0 K) := by
  refine Eq.mp (show (((c < 1 ∨ 65536 < c) →
(K (SV.tup [(TV.at (At.val (Value.pointer none))), (TV.at (At.val (Value.int IntKind.i64 1)))]) [] [])) ∧
((1 ≤ c) →
((c ≤ 65536) →
(∀ us : List Bool, (∀ gn : List Int, (((us) = (newUs c)) → (((gn) = (newGn c)) → (((0 ≤ IntKind.i64.wrap (c + 1)) ∧ (IntKind.i64.wrap (c + 1) ≤ IntKind.i64.wrap (c + 1)) ∧ (IntKind.i64.wrap (c + 1) * (↑(bytesOf C0 EC.node) : Int) ≤ 140737488355328) ∧ (0 ≤ IntKind.i64.wrap (c + 1)) ∧ (IntKind.i64.wrap (c + 1) ≤ IntKind.i64.wrap (c + 1)) ∧ (IntKind.i64.wrap (c + 1) * (↑(bytesOf C0 EC.int) : Int) ≤ 140737488355328) ∧ (K (SV.tup [(TV.at (At.ptr 0 0)), (TV.at (At.val (Value.int IntKind.i64 0)))]) [(Chunk.box [(At.ptr 1 0), (At.slc 2), (At.slc 3), (At.val (Value.int IntKind.u64 0))]), (Chunk.box [(At.slc 4), (At.slc 5), (At.slc 6), (At.val (Value.int IntKind.u32 0))]), (Chunk.row true (EC.node) (List.replicate (IntKind.i64.wrap (c + 1)).toNat { key := 0, value := 0, left := 0, right := 0, size := 0, sum := 0, min := 0, max := 0 : NodeT })), (Chunk.row true (EC.int) (List.replicate (IntKind.i64.wrap (c + 1)).toNat (0 : Int))), (Chunk.row true (EC.bool) (us)), (Chunk.row true (EC.u32) (gn)), (Chunk.row true (EC.u32) [])] [])) ∧ (0 ≤ IntKind.i64.wrap (c + 1)) ∧ (IntKind.i64.wrap (c + 1) ≤ IntKind.i64.wrap (c + 1)) ∧ (IntKind.i64.wrap (c + 1) * (↑(bytesOf C0 EC.int) : Int) ≤ 140737488355328) ∧ (0 ≤ IntKind.i64.wrap (c + 1)) ∧ (IntKind.i64.wrap (c + 1) ≤ IntKind.i64.wrap (c + 1)) ∧
    (IntKind.i64.wrap (c + 1) * (↑(bytesOf C0 EC.node) : Int) ≤ 140737488355328) ∧ (K (SV.tup [(TV.at (At.ptr 0 0)), (TV.at (At.val (Value.int IntKind.i64 0)))]) [(Chunk.box [(At.ptr 1 0), (At.slc 2), (At.slc 3), (At.val (Value.int IntKind.u64 0))]), (Chunk.box [(At.slc 4), (At.slc 5), (At.slc 6), (At.val (Value.int IntKind.u32 0))]), (Chunk.row true (EC.node) (List.replicate (IntKind.i64.wrap (c + 1)).toNat { key := 0, value := 0, left := 0, right := 0, size := 0, sum := 0, min := 0, max := 0 : NodeT })), (Chunk.row true (EC.int) (List.replicate (IntKind.i64.wrap (c + 1)).toNat (0 : Int))), (Chunk.row true (EC.bool) (us)), (Chunk.row true (EC.u32) (gn)), (Chunk.row true (EC.u32) [])] []))))))))) = _ by kernel_rfl) ?_
  simp only [bytes_node, bytes_int]
  refine ⟨hb, fun d e us gn hu hg => ?_⟩
  have h := h d e _ rfl
  subst hu hg
  unfold newUs newGn
  rw [wrap_id (x := c + 1) (by omega) (by omega), show (c + 1).toNat = c.toNat + 1 by omega]
  exact ⟨⟨by omega, by omega, by omega, by omega, by omega, by omega, h⟩, by omega, by omega, by omega, by omega, by omega, by omega, h⟩
theorem s_new : SoundT C0 11 tNew := by
  refine .of Try.func11 (by decide) rfl fun args H K h hB => ?_
  unfold tNew at h
  split at h <;> try exact h.elim
  rename_i c
  exact ⟨aNew, ⟨frame C0.ok s_slNew _, trivial⟩, vc_new c K h.1 h.2⟩
end Go.Proofs.Ytmjnoiajenoinaa.Sx
end
section
/- Plain laws of patches: what is carried through the loop of a check. No program in sight. -/
namespace Go.Proofs.Ytmjnoiajenoinaa.Sx
open Go

def cA (p : List Chg) (n : Nat) : Chg := p.getD n ⟨0, 0, 0, 0⟩
def eA (p : List Ent) (n : Nat) : Ent := p.getD n (0, 0)
theorem cA_get {p : List Chg} {n : Nat} (h : n < p.length) : p[n]? = some (cA p n) := by simp [cA, List.getD_eq_getElem?_getD, List.getElem?_eq_getElem h]
theorem eA_get {p : List Ent} {n : Nat} (h : n < p.length) : p[n]? = some (eA p n) := by simp [eA, List.getD_eq_getElem?_getD, List.getElem?_eq_getElem h]
theorem drop_cons {α : Type} {l : List α} {n : Nat} {x : α} (h : l[n]? = some x) : l.drop n = x :: l.drop (n + 1) := by
  obtain ⟨h1, h2⟩ := List.getElem?_eq_some_iff.1 h
  rw [List.drop_eq_getElem_cons h1, h2]
theorem take_snoc {α : Type} {l : List α} {n : Nat} {x : α} (h : l[n]? = some x) : l.take (n + 1) = l.take n ++ [x] := by
  rw [List.take_add_one, h]; rfl

/-- What 'change' answers of a change's own values. -/
def CmpR (c d : Chg) (ok : Bool) : Prop := ok = (mkChg c.key c.before c.after).isSome ∧ ∀ e, mkChg c.key c.before c.after = some e → d = e
theorem CmpR.ok {c d : Chg} {ok : Bool} (h : CmpR c d ok) : decide c.ok = (ok && decide (d = c)) := by
  obtain ⟨h1, h2⟩ := h
  cases hm : mkChg c.key c.before c.after with
  | none => rw [hm] at h1; subst h1; simp [Chg.ok, hm]
  | some e => rw [hm] at h1; subst h1; simp [Chg.ok, hm, h2 e hm]
theorem chg_eqB (c d : Chg) : (d.kind == c.kind && (d.key == c.key && (d.old == c.old && (d.new == c.new && true)))) = decide (d = c) := by
  cases c; cases d; simp [Bool.decide_and]; rfl
end Go.Proofs.Ytmjnoiajenoinaa.Sx
end
section
/- The arena's Make and Release. -/
namespace Go.Proofs.Ytmjnoiajenoinaa.Sx
open Go

structure XMk (S : Arn) (k v l r : Int) where
  i : Nat
  n : NodeT
  h : n = if i = 0 then addC S ⟨k, v, l, r, 1, v, v, v⟩ l else mkNode S k v l r
abbrev bxN (n : NodeT) : Chunk C0 := .box [vI n.key, vI n.value, vU n.left, vU n.right, vI n.size, vI n.sum, vI n.min, vI n.max]
noncomputable def aMake (S : Arn) (k v l r : Int) : Ann C0 := { rounds := fun n => if n = 3 then 3 else 0, Γ := [(56, frameT [] tSlAllocated), (57, frameT [] tSlAlloc)], inv := fun n => match n with
  | 1013 => some { X := XMk S k v l r, sl := [12], tf := fun _ => [.one (.at (.ptr 7 0))], hf := fun x => chS S ++ [bxN x.n], rel := fun T _ x => slotI T 29 x.i }
  | _ => none }
def tMake : Tfm C0 := fun args H K => match args with
  | [.at (.ptr 0 0), .at (.val (.int .i64 k)), .at (.val (.int .i64 v)), .at (.val (.int .u32 l)), .at (.val (.int .u32 r))] => arM H fun S => exW S ∧ live S l ∧ live S r ∧
    (maxSize < (mkNode S k v l r).size → K (.tup [.at (vU 0), .at (vI 1)]) (chS S) W7) ∧
    ((mkNode S k v l r).size ≤ maxSize → S.free = 0 → K (.tup [.at (vU 0), .at (vI 2)]) (chS S) W7) ∧
    ((mkNode S k v l r).size ≤ maxSize → 0 < S.free → ∀ S' i, S' = makeS S k v l r → i = nxt S → K (.tup [.at (vU i), .at (vI 0)]) (chS S') W7)
  | _ => False
structure XRel (S : Arn) (hs : List Int) (i : Int) where
  S' : Arn
  work : List Int
  freed : Int
  h : Wf S' (work ++ hs) ∧ Kept S S' ∧ 0 ≤ freed ∧ freed + S'.nu = S.nu ∧ (∀ w ∈ work, S'.us w = true) ∧ (1 < S.ct i → (work = [i] ∧ S' = S) ∨ (work = [] ∧ S' = decS S i))
structure XRelK (S : Arn) (hs : List Int) (i : Int) where
  S' : Arn
  rest : List Int
  k : Int
  freed : Int
  h : Wf S' ((rest ++ [k]) ++ hs) ∧ Kept S S' ∧ 0 ≤ freed ∧ freed + S'.nu = S.nu ∧ (∀ w ∈ rest ++ [k], S'.us w = true) ∧ (1 < S.ct i → rest = [] ∧ k = i ∧ S' = S)
noncomputable def aRelease (S : Arn) (hs : List Int) (i : Int) : Ann C0 := { trunc := fun n => n == 34, Γ := [(56, frameT [] tSlAllocated), (58, frameT [] tSlRelease)], inv := fun n => match n with
  | 7 => some { X := XRel S hs i, sl := [7, 6], tf := fun x => [.one (.at (.slc 7)), vi .i64 x.freed], hf := fun x => chS x.S' ++ [.row true EC.u32 x.work], μ := fun x => 2 * x.S'.nu + x.work.length, wr := W7 }
  | 1010 => some { X := XRelK S hs i, sl := [7, 8], tf := fun x => [.one (.at (.slc 7)), vi .u32 x.k], hf := fun x => chS x.S' ++ [.row true EC.u32 x.rest], wr := W7, rel := fun T _ x => slotI T 6 x.freed ∧ slotI T 22 (x.rest.length + 1) }
  | _ => none }
def tRelease : Tfm C0 := fun args H K => match args with
  | [.at (.ptr 0 0), .at (.val (.int .u32 i))] => arM H fun S => ∃ hs, Wf S (i :: hs) ∧ ∀ S' (fr : Int), Wf S' hs → Kept S S' → fr + S'.nu = S.nu → (1 < S.ct i → S.us i = true → S' = decS S i) → (S.us i = false → S' = S) → K (.tup [.at (vI fr), .at (vI 0)]) (chS S') W7
  | _ => False
theorem list_last {α : Type} {l : List α} {d : α} (h : 0 < l.length) : l.take (l.length - 1) ++ [l.getD (l.length - 1) d] = l := by
  have h1 : l[l.length - 1]? = some (l.getD (l.length - 1) d) := by
    have : l.length - 1 < l.length := by omega
    simp [List.getD_eq_getElem?_getD, List.getElem?_eq_getElem this]
  rw [← take_snoc h1, show l.length - 1 + 1 = l.length by omega, List.take_length]
theorem XRelK.freed' {S : Arn} {hs : List Int} {i : Int} (x : XRelK S hs i) (hc : x.S'.ct x.k = 1) :
    Wf (freeS x.S' x.k) ((x.rest ++ nz (x.S'.nd x.k).right ++ nz (x.S'.nd x.k).left) ++ hs) ∧ Kept S (freeS x.S' x.k) ∧ 0 ≤ x.freed + 1 ∧ (x.freed + 1) + (freeS x.S' x.k).nu = S.nu ∧
    (∀ w ∈ x.rest ++ nz (x.S'.nd x.k).right ++ nz (x.S'.nd x.k).left, (freeS x.S' x.k).us w = true) ∧ (1 < S.ct i → ((x.rest ++ nz (x.S'.nd x.k).right ++ nz (x.S'.nd x.k).left) = [i] ∧ freeS x.S' x.k = S) ∨ ((x.rest ++ nz (x.S'.nd x.k).right ++ nz (x.S'.nd x.k).left) = [] ∧ freeS x.S' x.k = decS S i)) := by
  obtain ⟨h1, h2, h3, h4, h5, h6⟩ := x.h
  have hk : x.S'.us x.k = true := h5 _ (by simp)
  have hw : Wf x.S' (x.k :: (x.rest ++ hs)) := h1.perm (by
    rw [List.append_assoc]
    exact List.perm_middle)
  obtain ⟨f1, f2, f3, f4⟩ := hw.freed hk hc
  have f1' : Wf (freeS x.S' x.k) ((x.rest ++ nz (x.S'.nd x.k).right ++ nz (x.S'.nd x.k).left) ++ hs) := f1.perm (by
    rw [List.append_assoc, List.append_assoc]
    exact ((List.perm_append_comm_assoc _ _ _).append_left _).trans (List.perm_append_comm_assoc _ _ _))
  refine ⟨f1', h2.trans (kept_free hw hk hc), by omega, by omega, fun w hm => ?_, fun hc1 => ?_⟩
  · refine (f1'.held w (List.mem_append_left _ hm)).resolve_left fun e => ?_
    subst e
    rcases List.mem_append.1 hm with hm | hm
    · rcases List.mem_append.1 hm with hm | hm
      · have := h5 0 (by simp [hm])
        rw [h1.us0 (Int.le_refl 0)] at this; cases this
      · unfold nz at hm; split at hm <;> simp at hm; omega
    · unfold nz at hm; split at hm <;> simp at hm; omega
  · obtain ⟨_, e2, e3⟩ := h6 hc1
    rw [e2, e3] at hc
    omega
theorem vc_release (S : Arn) (hs : List Int) (i : Int) (K : KT) (hw : Wf S (i :: hs)) (h : ∀ S' (fr : Int), Wf S' hs → Kept S S' → fr + S'.nu = S.nu → (1 < S.ct i → S.us i = true → S' = decS S i) → (S.us i = false → S' = S) → K (.tup [.at (vI fr), .at (vI 0)]) (chS S') W7) :
    vc C0 (aRelease S hs i) Try.f14 [.at (.ptr 0 0), .at (vU i)] (chS S) (normK 7 (wideK W7 K)) := by
  refine Eq.mp (show (brS (i == 0) ((K (SV.tup [(TV.at (At.val (Value.int IntKind.i64 0))), (TV.at (At.val (Value.int IntKind.i64 0)))]) [(Chunk.box [(At.ptr 1 0), (At.slc 2), (At.slc 3), (At.val (Value.int IntKind.u64 (S.reads)))]), (Chunk.box [(At.slc 4), (At.slc 5), (At.slc 6), (At.val (Value.int IntKind.u32 (S.fresh)))]), (Chunk.row true (EC.node) (S.nodes)), (Chunk.row true (EC.int) (S.counts)), (Chunk.row true (EC.bool) (S.used)), (Chunk.row true (EC.u32) (S.gen)), (Chunk.row true (EC.u32) (S.rel))] [0, 1, 2, 3, 4, 5, 6])) (((0 ≤ i) ∧ (i < 4294967296) ∧ (S.used.length ≤ 65537) ∧ (brS (!S.us i) ((K (SV.tup [(TV.at (At.val (Value.int IntKind.i64 0))), (TV.at (At.val (Value.int IntKind.i64 3)))]) [(Chunk.box [(At.ptr 1 0), (At.slc 2), (At.slc 3), (At.val (Value.int IntKind.u64 (S.reads)))]), (Chunk.box [(At.slc 4), (At.slc 5), (At.slc 6), (At.val (Value.int IntKind.u32 (S.fresh)))]), (Chunk.row true (EC.node) (S.nodes)), (Chunk.row true (EC.int) (S.counts)), (Chunk.row true (EC.bool) (S.used)), (Chunk.row true (EC.u32) (S.gen)), (Chunk.row true (EC.u32) (S.rel))] [0, 1, 2, 3, 4, 5, 6])) (((∃ x : XRel S hs i, (True ∧ (True ∧ ((Value.int IntKind.i64 0) = (Value.int IntKind.i64 (x.freed))) ∧ True ∧ True) ∧ (True ∧ True ∧ True ∧ ((Value.int IntKind.u64 (S.reads)) = (Value.int IntKind.u64 (x.S'.reads))) ∧ True) ∧ (True ∧ True ∧ True ∧ ((Value.int IntKind.u32 (S.fresh)) = (Value.int IntKind.u32 (x.S'.fresh))) ∧ True) ∧ ((S.nodes) = (x.S'.nodes)) ∧ ((S.counts) = (x.S'.counts)) ∧
    ((S.used) = (x.S'.used)) ∧ ((S.gen) = (x.S'.gen)) ∧ ((S.rel) = (x.S'.rel)) ∧ ([(i)] = (x.work)) ∧ True)) ∧ (∀ x : XRel S hs i, (True → (brS (decide ((↑x.work.length : Int) > 0)) (((0 ≤ IntKind.i64.wrap ((↑x.work.length : Int) - 1)) ∧ (IntKind.i64.wrap ((↑x.work.length : Int) - 1) < (↑x.work.length : Int)) ∧ ((0 ≤ IntKind.i64.wrap ((↑x.work.length : Int) - 1)) ∧ (IntKind.i64.wrap ((↑x.work.length : Int) - 1) ≤ (↑x.work.length : Int)) ∧ (∃ x1 : XRelK S hs i, ((((x.freed) = (x1.freed)) ∧ (((↑x.work.length : Int)) = ((↑x1.rest.length : Int) + 1))) ∧ (True ∧ ((Value.int IntKind.i64 (x.freed)) = (Value.int IntKind.i64 (x.freed))) ∧ True ∧ ((Value.int IntKind.u32 (x.work.getD (IntKind.i64.wrap ((↑x.work.length : Int) - 1)).toNat 0)) = (Value.int IntKind.u32 (x1.k))) ∧ True) ∧ (True ∧ True ∧ True ∧ ((Value.int IntKind.u64 (x.S'.reads)) = (Value.int IntKind.u64 (x1.S'.reads))) ∧ True) ∧ (True ∧ True ∧ True ∧ ((Value.int IntKind.u32 (x.S'.fresh)) = (Value.int IntKind.u32 (x1.S'.fresh))) ∧ True) ∧ ((x.S'.nodes) = (x1.S'.nodes)) ∧ ((x.S'.counts) = (x1.S'.counts)) ∧ ((x.S'.used) = (x1.S'.used)) ∧ ((x.S'.gen) = (x1.S'.gen)) ∧ ((x.S'.rel) = (x1.S'.rel)) ∧ ((List.take (IntKind.i64.wrap ((↑x.work.length : Int) - 1)).toNat x.work) = (x1.rest)) ∧ True))) ∧ (∀ x1 : XRelK S hs i, ((((x.freed) = (x1.freed)) ∧ (((↑x.work.length : Int)) = ((↑x1.rest.length : Int) + 1))) → ((0 ≤ x1.k) ∧ (x1.k < (↑x1.S'.counts.length : Int)) ∧ (0 ≤ x1.k) ∧ (x1.k < (↑x1.S'.counts.length : Int)) ∧ (0 ≤ x1.k) ∧
    (x1.k < (↑(x1.S'.counts.set x1.k.toNat (IntKind.i64.wrap (x1.S'.ct x1.k - 1))).length : Int)) ∧ (brS (decide ((x1.S'.counts.set x1.k.toNat (IntKind.i64.wrap (x1.S'.ct x1.k - 1))).getD x1.k.toNat 0 > 0)) ((∃ x' : XRel S hs i, (True ∧ ((True ∧ ((Value.int IntKind.i64 (x.freed)) = (Value.int IntKind.i64 (x'.freed))) ∧ True ∧ True) ∧ (True ∧ True ∧ True ∧ ((Value.int IntKind.u64 (x1.S'.reads)) = (Value.int IntKind.u64 (x'.S'.reads))) ∧ True) ∧ (True ∧ True ∧ True ∧ ((Value.int IntKind.u32 (x1.S'.fresh)) = (Value.int IntKind.u32 (x'.S'.fresh))) ∧ True) ∧ ((x1.S'.nodes) = (x'.S'.nodes)) ∧ ((x1.S'.counts.set x1.k.toNat (IntKind.i64.wrap (x1.S'.ct x1.k - 1))) = (x'.S'.counts)) ∧ ((x1.S'.used) = (x'.S'.used)) ∧ ((x1.S'.gen) = (x'.S'.gen)) ∧ ((x1.S'.rel) = (x'.S'.rel)) ∧ ((x1.rest) = (x'.work)) ∧ True) ∧ (2 * x'.S'.nu + x'.work.length < 2 * x.S'.nu + x.work.length)))) (((0 ≤ x1.k) ∧ (x1.k < (↑x1.S'.nodes.length : Int)) ∧ (0 ≤ x1.k) ∧ (x1.k < (↑x1.S'.nodes.length : Int)) ∧ (0 ≤ x1.k) ∧ (x1.k < 4294967296) ∧ (x1.S'.used.length ≤ 65537) ∧ (x1.S'.rel.length ≤ 65537) ∧ ((x1.S'.us x1.k) = true) ∧ (brS ((x1.S'.nd x1.k).right != 0) ((((x1.rest.length + [(x1.S'.nd x1.k).right].length) * bytesOf C0 EC.u32 ≤ 140737488355328) ∧ (brS ((x1.S'.nd x1.k).left != 0) (((((x1.rest ++ [(x1.S'.nd x1.k).right]).length + [(x1.S'.nd x1.k).left].length) * bytesOf C0 EC.u32 ≤ 140737488355328) ∧ (∃ x' : XRel S hs i, (True ∧ ((True ∧
    ((Value.int IntKind.i64 (IntKind.i64.wrap (x.freed + 1))) = (Value.int IntKind.i64 (x'.freed))) ∧ True ∧ True) ∧ (True ∧ True ∧ True ∧ ((Value.int IntKind.u64 (x1.S'.reads)) = (Value.int IntKind.u64 (x'.S'.reads))) ∧ True) ∧ (True ∧ True ∧ True ∧ ((Value.int IntKind.u32 (x1.S'.fresh)) = (Value.int IntKind.u32 (x'.S'.fresh))) ∧ True) ∧ ((x1.S'.nodes.set x1.k.toNat { key := 0, value := 0, left := 0, right := 0, size := 0, sum := 0, min := 0, max := 0 : NodeT }) = (x'.S'.nodes)) ∧ ((x1.S'.counts.set x1.k.toNat (IntKind.i64.wrap (x1.S'.ct x1.k - 1))) = (x'.S'.counts)) ∧ ((x1.S'.used.set x1.k.toNat false) = (x'.S'.used)) ∧ ((x1.S'.gen) = (x'.S'.gen)) ∧ ((x1.S'.rel ++ [x1.k]) = (x'.S'.rel)) ∧ ((x1.rest ++ [(x1.S'.nd x1.k).right] ++ [(x1.S'.nd x1.k).left]) = (x'.work)) ∧ True) ∧ (2 * x'.S'.nu + x'.work.length < 2 * x.S'.nu + x.work.length))))) ((∃ x' : XRel S hs i, (True ∧ ((True ∧ ((Value.int IntKind.i64 (IntKind.i64.wrap (x.freed + 1))) = (Value.int IntKind.i64 (x'.freed))) ∧ True ∧ True) ∧ (True ∧ True ∧ True ∧ ((Value.int IntKind.u64 (x1.S'.reads)) = (Value.int IntKind.u64 (x'.S'.reads))) ∧ True) ∧ (True ∧ True ∧ True ∧ ((Value.int IntKind.u32 (x1.S'.fresh)) = (Value.int IntKind.u32 (x'.S'.fresh))) ∧ True) ∧ ((x1.S'.nodes.set x1.k.toNat { key := 0, value := 0, left := 0, right := 0, size := 0, sum := 0, min := 0, max := 0 : NodeT }) = (x'.S'.nodes)) ∧ ((x1.S'.counts.set x1.k.toNat (IntKind.i64.wrap (x1.S'.ct x1.k - 1))) = (x'.S'.counts)) ∧
    ((x1.S'.used.set x1.k.toNat false) = (x'.S'.used)) ∧ ((x1.S'.gen) = (x'.S'.gen)) ∧ ((x1.S'.rel ++ [x1.k]) = (x'.S'.rel)) ∧ ((x1.rest ++ [(x1.S'.nd x1.k).right]) = (x'.work)) ∧ True) ∧ (2 * x'.S'.nu + x'.work.length < 2 * x.S'.nu + x.work.length))))))) ((brS ((x1.S'.nd x1.k).left != 0) ((((x1.rest.length + [(x1.S'.nd x1.k).left].length) * bytesOf C0 EC.u32 ≤ 140737488355328) ∧ (∃ x' : XRel S hs i, (True ∧ ((True ∧ ((Value.int IntKind.i64 (IntKind.i64.wrap (x.freed + 1))) = (Value.int IntKind.i64 (x'.freed))) ∧ True ∧ True) ∧ (True ∧ True ∧ True ∧ ((Value.int IntKind.u64 (x1.S'.reads)) = (Value.int IntKind.u64 (x'.S'.reads))) ∧ True) ∧ (True ∧ True ∧ True ∧ ((Value.int IntKind.u32 (x1.S'.fresh)) = (Value.int IntKind.u32 (x'.S'.fresh))) ∧ True) ∧ ((x1.S'.nodes.set x1.k.toNat { key := 0, value := 0, left := 0, right := 0, size := 0, sum := 0, min := 0, max := 0 : NodeT }) = (x'.S'.nodes)) ∧ ((x1.S'.counts.set x1.k.toNat (IntKind.i64.wrap (x1.S'.ct x1.k - 1))) = (x'.S'.counts)) ∧ ((x1.S'.used.set x1.k.toNat false) = (x'.S'.used)) ∧ ((x1.S'.gen) = (x'.S'.gen)) ∧ ((x1.S'.rel ++ [x1.k]) = (x'.S'.rel)) ∧ ((x1.rest ++ [(x1.S'.nd x1.k).left]) = (x'.work)) ∧ True) ∧ (2 * x'.S'.nu + x'.work.length < 2 * x.S'.nu + x.work.length))))) ((∃ x' : XRel S hs i, (True ∧ ((True ∧ ((Value.int IntKind.i64 (IntKind.i64.wrap (x.freed + 1))) = (Value.int IntKind.i64 (x'.freed))) ∧ True ∧ True) ∧ (True ∧ True ∧ True ∧ ((Value.int IntKind.u64 (x1.S'.reads)) = (Value.int IntKind.u64 (x'.S'.reads))) ∧
    True) ∧ (True ∧ True ∧ True ∧ ((Value.int IntKind.u32 (x1.S'.fresh)) = (Value.int IntKind.u32 (x'.S'.fresh))) ∧ True) ∧ ((x1.S'.nodes.set x1.k.toNat { key := 0, value := 0, left := 0, right := 0, size := 0, sum := 0, min := 0, max := 0 : NodeT }) = (x'.S'.nodes)) ∧ ((x1.S'.counts.set x1.k.toNat (IntKind.i64.wrap (x1.S'.ct x1.k - 1))) = (x'.S'.counts)) ∧ ((x1.S'.used.set x1.k.toNat false) = (x'.S'.used)) ∧ ((x1.S'.gen) = (x'.S'.gen)) ∧ ((x1.S'.rel ++ [x1.k]) = (x'.S'.rel)) ∧ ((x1.rest) = (x'.work)) ∧ True) ∧ (2 * x'.S'.nu + x'.work.length < 2 * x.S'.nu + x.work.length))))))))))))))) ((K (SV.tup [(TV.at (At.val (Value.int IntKind.i64 (x.freed)))), (TV.at (At.val (Value.int IntKind.i64 0)))]) [(Chunk.box [(At.ptr 1 0), (At.slc 2), (At.slc 3), (At.val (Value.int IntKind.u64 (x.S'.reads)))]), (Chunk.box [(At.slc 4), (At.slc 5), (At.slc 6), (At.val (Value.int IntKind.u32 (x.S'.fresh)))]), (Chunk.row true (EC.node) (x.S'.nodes)), (Chunk.row true (EC.int) (x.S'.counts)), (Chunk.row true (EC.bool) (x.S'.used)), (Chunk.row true (EC.u32) (x.S'.gen)), (Chunk.row true (EC.u32) (x.S'.rel))] [0, 1, 2, 3, 4, 5, 6]))))))))))) = _ by kernel_rfl) ?_
  simp only [bytes_u32]
  have hin := hw.held i (by simp)
  have hge := hw.ge0 hin
  have h2 := hw.n2
  refine brS_of (fun c => ?_) fun c => ?_
  · have c : i = 0 := by simpa using c
    subst c
    exact h S 0 hw.of_zero (Kept.refl S) (by omega) (fun _ e => by rw [hw.us0 (Int.le_refl 0)] at e; cases e) fun _ => rfl
  have c : i ≠ 0 := by simpa using c
  have hu := hin.resolve_left c
  have hp := hw.pos hu
  refine ⟨hge, by omega, by omega, brS_of (fun d => by rw [hu] at d; cases d) fun _ => ⟨⟨⟨S, [i], 0, hw, Kept.refl S, by omega, by omega, by simpa using hu, fun _ => .inl ⟨rfl, rfl⟩⟩, ?_⟩, fun x _ => brS_of (fun e => ?_) fun e => ?_⟩⟩
  · (repeat' first | exact trivial | exact rfl | refine And.intro ?_ ?_)
  · obtain ⟨g1, g2, g3, g4, g5, g6⟩ := x.h
    have e : 0 < x.work.length := by have := of_decide_eq_true e; omega
    have hl := list_last (d := (0 : Int)) e
    have hn1 := g1.n2
    have hfew := g1.few
    have hfl : x.work.length ≤ 2000000000 := by simp at hfew; omega
    rw [wrap_id (by omega) (by omega), show ((x.work.length : Int) - 1).toNat = x.work.length - 1 by omega]
    refine ⟨by omega, by omega, ⟨by omega, by omega, ⟨x.S', x.work.take (x.work.length - 1), x.work.getD (x.work.length - 1) 0, x.freed, ?_⟩, ?_⟩, fun z rz => ?_⟩
    · rw [hl]
      refine ⟨g1, g2, g3, g4, g5, fun hc => ?_⟩
      rcases g6 hc with ⟨q1, q2⟩ | ⟨q1, _⟩
      · rw [q1]; exact ⟨rfl, rfl, q2⟩
      · rw [q1] at e; simp at e
    · refine ⟨⟨rfl, ?_⟩, ?_⟩
      · have : (x.work.take (x.work.length - 1)).length = x.work.length - 1 := by simp
        show (x.work.length : Int) = ((x.work.take (x.work.length - 1)).length : Int) + 1
        omega
      · (repeat' first | exact trivial | exact rfl | refine And.intro ?_ ?_)
    · obtain ⟨r1, r2⟩ := rz
      obtain ⟨h1, h2, h3, h4, h5, h6⟩ := z.h
      have hk : z.S'.us z.k = true := h5 _ (by simp)
      have hpk := h1.pos hk
      have hcn := h1.ncnt
      have hnn := h1.nnod
      have hn2 := h1.n2
      have hfn := h1.free_nonneg
      have hfrr := h1.fr
      have hct := h1.ct_le hk
      have hw' : Wf z.S' (z.k :: (z.rest ++ hs)) := h1.perm (by rw [List.append_assoc]; exact List.perm_middle)
      refine ⟨by omega, by omega, by omega, by omega, by omega, by rw [List.length_set]; omega, ?_⟩
      rw [getD_set, if_pos ⟨rfl, by omega⟩, wrap_id (by omega) (by omega)]
      refine brS_of (fun d => ?_) fun d => ?_
      · have d : 1 < z.S'.ct z.k := by simp at d; omega
        refine ⟨⟨decS z.S' z.k, z.rest, z.freed, hw'.dec hk d, h2.trans (kept_dec _ _), h3, h4, fun w hm => h5 w (by simp [hm]), fun hc => ?_⟩, ?_⟩
        · obtain ⟨q1, q2, q3⟩ := h6 hc
          exact .inr ⟨q1, by rw [q2, q3]⟩
        · have e1 : (decS z.S' z.k).nu = z.S'.nu := rfl
          have e2 : (z.S'.counts.set z.k.toNat (z.S'.ct z.k - 1)) = (decS z.S' z.k).counts := by
            show _ = z.S'.counts.set z.k.toNat (IntKind.i64.wrap (z.S'.ct z.k - 1))
            rw [wrap_id (by omega) (by omega)]
          refine ⟨trivial, ⟨⟨trivial, by rw [r1], trivial, trivial⟩, ⟨trivial, trivial, trivial, rfl, trivial⟩, ⟨trivial, trivial, trivial, rfl, trivial⟩, rfl, e2, rfl, rfl, rfl, rfl, trivial⟩, ?_⟩
          show 2 * (decS z.S' z.k).nu + z.rest.length < _
          omega
      · have d : z.S'.ct z.k = 1 := by simp at d; omega
        obtain ⟨k1, k2, k3, k4, k5, k6⟩ := z.freed' d
        have hm := (hw'.freed hk d).2.1
        have e2 : (z.S'.counts.set z.k.toNat (z.S'.ct z.k - 1)) = (freeS z.S' z.k).counts := by
          show _ = z.S'.counts.set z.k.toNat (IntKind.i64.wrap (z.S'.ct z.k - 1))
          rw [wrap_id (by omega) (by omega)]
        have hwf : IntKind.i64.wrap (x.freed + 1) = z.freed + 1 := by
          have := h1.nu_le; have := hw.nu_le
          rw [wrap_id (by omega) (by omega), r1]
        have nl : ∀ c, (nz c).length ≤ 1 := fun c => by unfold nz; split <;> simp
        rw [hwf]
        refine ⟨by omega, by omega, by omega, by omega, by omega, by omega, by omega, by omega, hk, brS_of (fun q1 => ⟨by simp; omega, brS_of (fun q2 => ⟨by simp; omega, ⟨⟨freeS z.S' z.k, _, z.freed + 1, k1, k2, k3, k4, k5, k6⟩, ?_⟩⟩) fun q2 => ⟨⟨freeS z.S' z.k, _, z.freed + 1, k1, k2, k3, k4, k5, k6⟩, ?_⟩⟩) fun q1 => brS_of (fun q2 => ⟨by simp; omega, ⟨⟨freeS z.S' z.k, _, z.freed + 1, k1, k2, k3, k4, k5, k6⟩, ?_⟩⟩) fun q2 => ⟨⟨freeS z.S' z.k, _, z.freed + 1, k1, k2, k3, k4, k5, k6⟩, ?_⟩⟩
        all_goals
          refine ⟨trivial, ⟨⟨trivial, rfl, trivial, trivial⟩, ⟨trivial, trivial, trivial, rfl, trivial⟩, ⟨trivial, trivial, trivial, rfl, trivial⟩, rfl, e2, rfl, rfl, rfl, ?_, trivial⟩, ?_⟩
        all_goals (try simp at q1 q2)
        case refine_1.refine_1 => simp [nz, q1, q2]
        all_goals first
          | (show 2 * (freeS z.S' z.k).nu + (z.rest ++ nz _ ++ nz _).length < _; have := nl (z.S'.nd z.k).left; have := nl (z.S'.nd z.k).right; simp only [List.length_append]; omega)
          | simp [nz, q1, q2]
  · have e : x.work = [] := by have := of_decide_eq_false e; exact List.length_eq_zero_iff.1 (by omega)
    obtain ⟨g1, g2, g3, g4, g5, g6⟩ := x.h
    rw [e] at g1
    refine h x.S' x.freed g1 g2 g4 (fun hc _ => ?_) fun hc => by rw [hu] at hc; cases hc
    rcases g6 hc with ⟨q1, _⟩ | ⟨_, q2⟩
    · rw [e] at q1; cases q1
    · exact q2
theorem s_release : SoundT C0 14 tRelease := by
  refine .ofW W7 Try.func14 (by decide) rfl fun args H K h hB => ?_
  unfold tRelease at h
  split at h <;> try exact h.elim
  unfold arM at h
  split at h <;> try exact h.elim
  rename_i i _ rd fr nd ct us gn rl
  obtain ⟨hs, h1, h2⟩ := h
  exact ⟨aRelease ⟨us, gn, rl, fr, nd, ct, rd⟩ hs i, ⟨frame C0.ok s_slAllocated _, frame C0.ok s_slRelease _, trivial⟩, vc_release ⟨us, gn, rl, fr, nd, ct, rd⟩ hs i K h1 h2⟩
theorem vc_make (S : Arn) (k v l r : Int) (K : KT) (hw : exW S) (hl : live S l) (hr : live S r)
    (h1 : maxSize < (mkNode S k v l r).size → K (.tup [.at (vU 0), .at (vI 1)]) (chS S) W7)
    (h2 : (mkNode S k v l r).size ≤ maxSize → S.free = 0 → K (.tup [.at (vU 0), .at (vI 2)]) (chS S) W7)
    (h3 : (mkNode S k v l r).size ≤ maxSize → 0 < S.free → ∀ S' i, S' = makeS S k v l r → i = nxt S → K (.tup [.at (vU i), .at (vI 0)]) (chS S') W7) :
    vc C0 (aMake S k v l r) Try.f13 [.at (.ptr 0 0), .at (vI k), .at (vI v), .at (vU l), .at (vU r)] (chS S) (normK 7 (wideK W7 K)) := by
  refine Eq.mp (show ((((0 : Int) ≤ 0) ∧
(0 < ((2 : Nat) : Int)) ∧
(brS (l == 0) ((∃ x : XMk S k v l r, ((0 = ((↑x.i : Int))) ∧ (True ∧ ((Value.int IntKind.u32 (l)) = (Value.int IntKind.u32 (l))) ∧ ((Value.int IntKind.u32 (r)) = (Value.int IntKind.u32 (r))) ∧ True ∧ (((Value.int IntKind.u32 (l)) = (Value.int IntKind.u32 (l))) ∧ ((Value.int IntKind.u32 (r)) = (Value.int IntKind.u32 (r))) ∧ True) ∧ ((Value.int IntKind.i64 0) = (Value.int IntKind.i64 0)) ∧ True) ∧ (True ∧ True ∧ True ∧ ((Value.int IntKind.u64 (S.reads)) = (Value.int IntKind.u64 (S.reads))) ∧ True) ∧ (True ∧ True ∧ True ∧ ((Value.int IntKind.u32 (S.fresh)) = (Value.int IntKind.u32 (S.fresh))) ∧ True) ∧ ((S.nodes) = (S.nodes)) ∧ ((S.counts) = (S.counts)) ∧ ((S.used) = (S.used)) ∧ ((S.gen) = (S.gen)) ∧ ((S.rel) = (S.rel)) ∧ (((Value.int IntKind.i64 (k)) = (Value.int IntKind.i64 (x.n.key))) ∧ ((Value.int IntKind.i64 (v)) = (Value.int IntKind.i64 (x.n.value))) ∧ ((Value.int IntKind.u32 (l)) = (Value.int IntKind.u32 (x.n.left))) ∧ ((Value.int IntKind.u32 (r)) = (Value.int IntKind.u32 (x.n.right))) ∧ ((Value.int IntKind.i64 1) = (Value.int IntKind.i64 (x.n.size))) ∧ ((Value.int IntKind.i64 (v)) = (Value.int IntKind.i64 (x.n.sum))) ∧ ((Value.int IntKind.i64 (v)) = (Value.int IntKind.i64 (x.n.min))) ∧ ((Value.int IntKind.i64 (v)) = (Value.int IntKind.i64 (x.n.max))) ∧ True) ∧ True))) (((0 ≤ l) ∧ (l < 4294967296) ∧ (S.used.length ≤ 65537) ∧ (brS (!S.us l)
    ((K (SV.tup [(TV.at (At.val (Value.int IntKind.u32 0))), (TV.at (At.val (Value.int IntKind.i64 1)))]) [(Chunk.box [(At.ptr 1 0), (At.slc 2), (At.slc 3), (At.val (Value.int IntKind.u64 (S.reads)))]), (Chunk.box [(At.slc 4), (At.slc 5), (At.slc 6), (At.val (Value.int IntKind.u32 (S.fresh)))]), (Chunk.row true (EC.node) (S.nodes)), (Chunk.row true (EC.int) (S.counts)), (Chunk.row true (EC.bool) (S.used)), (Chunk.row true (EC.u32) (S.gen)), (Chunk.row true (EC.u32) (S.rel))] [0, 1, 2, 3, 4, 5, 6])) (((0 ≤ l) ∧ (l < (↑S.nodes.length : Int)) ∧ (∃ x : XMk S k v l r, ((0 = ((↑x.i : Int))) ∧ (True ∧ ((Value.int IntKind.u32 (l)) = (Value.int IntKind.u32 (l))) ∧ ((Value.int IntKind.u32 (r)) = (Value.int IntKind.u32 (r))) ∧ True ∧ (((Value.int IntKind.u32 (l)) = (Value.int IntKind.u32 (l))) ∧ ((Value.int IntKind.u32 (r)) = (Value.int IntKind.u32 (r))) ∧ True) ∧ ((Value.int IntKind.i64 0) = (Value.int IntKind.i64 0)) ∧ True) ∧ (True ∧ True ∧ True ∧ ((Value.int IntKind.u64 (S.reads)) = (Value.int IntKind.u64 (S.reads))) ∧ True) ∧ (True ∧ True ∧ True ∧ ((Value.int IntKind.u32 (S.fresh)) = (Value.int IntKind.u32 (S.fresh))) ∧ True) ∧ ((S.nodes) = (S.nodes)) ∧ ((S.counts) = (S.counts)) ∧ ((S.used) = (S.used)) ∧ ((S.gen) = (S.gen)) ∧ ((S.rel) = (S.rel)) ∧ (((Value.int IntKind.i64 (k)) = (Value.int IntKind.i64 (x.n.key))) ∧ ((Value.int IntKind.i64 (v)) = (Value.int IntKind.i64 (x.n.value))) ∧ ((Value.int IntKind.u32 (l)) = (Value.int IntKind.u32 (x.n.left))) ∧
    ((Value.int IntKind.u32 (r)) = (Value.int IntKind.u32 (x.n.right))) ∧ ((Value.int IntKind.i64 (IntKind.i64.wrap (1 + (S.nd l).size))) = (Value.int IntKind.i64 (x.n.size))) ∧ ((Value.int IntKind.i64 (IntKind.i64.wrap (v + (S.nd l).sum))) = (Value.int IntKind.i64 (x.n.sum))) ∧ ((Value.int IntKind.i64 (if (S.nd l).min < v then (S.nd l).min else v)) = (Value.int IntKind.i64 (x.n.min))) ∧ ((Value.int IntKind.i64 (if (S.nd l).max > v then (S.nd l).max else v)) = (Value.int IntKind.i64 (x.n.max))) ∧ True) ∧ True))))))))) ∧
(∀ x : XMk S k v l r, ((0 = ((↑x.i : Int))) → (((0 ≤ IntKind.i64.wrap (0 + 1)) ∧ (IntKind.i64.wrap (0 + 1) < ((2 : Nat) : Int)) ∧ (brS (r == 0) ((∃ x1 : XMk S k v l r, ((1 = ((↑x1.i : Int))) ∧ (True ∧ ((Value.int IntKind.u32 (l)) = (Value.int IntKind.u32 (l))) ∧ ((Value.int IntKind.u32 (r)) = (Value.int IntKind.u32 (r))) ∧ True ∧ (((Value.int IntKind.u32 (l)) = (Value.int IntKind.u32 (l))) ∧ ((Value.int IntKind.u32 (r)) = (Value.int IntKind.u32 (r))) ∧ True) ∧ ((Value.int IntKind.i64 1) = (Value.int IntKind.i64 1)) ∧ True) ∧ (True ∧ True ∧ True ∧ ((Value.int IntKind.u64 (S.reads)) = (Value.int IntKind.u64 (S.reads))) ∧ True) ∧ (True ∧ True ∧ True ∧ ((Value.int IntKind.u32 (S.fresh)) = (Value.int IntKind.u32 (S.fresh))) ∧ True) ∧ ((S.nodes) = (S.nodes)) ∧ ((S.counts) = (S.counts)) ∧ ((S.used) = (S.used)) ∧ ((S.gen) = (S.gen)) ∧ ((S.rel) = (S.rel)) ∧ (((Value.int IntKind.i64 (x.n.key)) = (Value.int IntKind.i64 (x1.n.key))) ∧
    ((Value.int IntKind.i64 (x.n.value)) = (Value.int IntKind.i64 (x1.n.value))) ∧ ((Value.int IntKind.u32 (x.n.left)) = (Value.int IntKind.u32 (x1.n.left))) ∧ ((Value.int IntKind.u32 (x.n.right)) = (Value.int IntKind.u32 (x1.n.right))) ∧ ((Value.int IntKind.i64 (x.n.size)) = (Value.int IntKind.i64 (x1.n.size))) ∧ ((Value.int IntKind.i64 (x.n.sum)) = (Value.int IntKind.i64 (x1.n.sum))) ∧ ((Value.int IntKind.i64 (x.n.min)) = (Value.int IntKind.i64 (x1.n.min))) ∧ ((Value.int IntKind.i64 (x.n.max)) = (Value.int IntKind.i64 (x1.n.max))) ∧ True) ∧ True))) (((0 ≤ r) ∧ (r < 4294967296) ∧ (S.used.length ≤ 65537) ∧ (brS (!S.us r) ((K (SV.tup [(TV.at (At.val (Value.int IntKind.u32 0))), (TV.at (At.val (Value.int IntKind.i64 1)))]) [(Chunk.box [(At.ptr 1 0), (At.slc 2), (At.slc 3), (At.val (Value.int IntKind.u64 (S.reads)))]), (Chunk.box [(At.slc 4), (At.slc 5), (At.slc 6), (At.val (Value.int IntKind.u32 (S.fresh)))]), (Chunk.row true (EC.node) (S.nodes)), (Chunk.row true (EC.int) (S.counts)), (Chunk.row true (EC.bool) (S.used)), (Chunk.row true (EC.u32) (S.gen)), (Chunk.row true (EC.u32) (S.rel))] [0, 1, 2, 3, 4, 5, 6])) (((0 ≤ r) ∧ (r < (↑S.nodes.length : Int)) ∧ (∃ x1 : XMk S k v l r, ((1 = ((↑x1.i : Int))) ∧ (True ∧ ((Value.int IntKind.u32 (l)) = (Value.int IntKind.u32 (l))) ∧ ((Value.int IntKind.u32 (r)) = (Value.int IntKind.u32 (r))) ∧ True ∧ (((Value.int IntKind.u32 (l)) = (Value.int IntKind.u32 (l))) ∧ ((Value.int IntKind.u32 (r)) = (Value.int IntKind.u32 (r))) ∧ True) ∧
    ((Value.int IntKind.i64 1) = (Value.int IntKind.i64 1)) ∧ True) ∧ (True ∧ True ∧ True ∧ ((Value.int IntKind.u64 (S.reads)) = (Value.int IntKind.u64 (S.reads))) ∧ True) ∧ (True ∧ True ∧ True ∧ ((Value.int IntKind.u32 (S.fresh)) = (Value.int IntKind.u32 (S.fresh))) ∧ True) ∧ ((S.nodes) = (S.nodes)) ∧ ((S.counts) = (S.counts)) ∧ ((S.used) = (S.used)) ∧ ((S.gen) = (S.gen)) ∧ ((S.rel) = (S.rel)) ∧ (((Value.int IntKind.i64 (x.n.key)) = (Value.int IntKind.i64 (x1.n.key))) ∧ ((Value.int IntKind.i64 (x.n.value)) = (Value.int IntKind.i64 (x1.n.value))) ∧ ((Value.int IntKind.u32 (x.n.left)) = (Value.int IntKind.u32 (x1.n.left))) ∧ ((Value.int IntKind.u32 (x.n.right)) = (Value.int IntKind.u32 (x1.n.right))) ∧ ((Value.int IntKind.i64 (IntKind.i64.wrap (x.n.size + (S.nd r).size))) = (Value.int IntKind.i64 (x1.n.size))) ∧ ((Value.int IntKind.i64 (IntKind.i64.wrap (x.n.sum + (S.nd r).sum))) = (Value.int IntKind.i64 (x1.n.sum))) ∧ ((Value.int IntKind.i64 (if (S.nd r).min < x.n.min then (S.nd r).min else x.n.min)) = (Value.int IntKind.i64 (x1.n.min))) ∧ ((Value.int IntKind.i64 (if (S.nd r).max > x.n.max then (S.nd r).max else x.n.max)) = (Value.int IntKind.i64 (x1.n.max))) ∧ True) ∧ True))))))))) ∧ (∀ x1 : XMk S k v l r, ((1 = ((↑x1.i : Int))) → (brS (decide (x1.n.size > 2147483647))
    ((K (SV.tup [(TV.at (At.val (Value.int IntKind.u32 0))), (TV.at (At.val (Value.int IntKind.i64 1)))]) [(Chunk.box [(At.ptr 1 0), (At.slc 2), (At.slc 3), (At.val (Value.int IntKind.u64 (S.reads)))]), (Chunk.box [(At.slc 4), (At.slc 5), (At.slc 6), (At.val (Value.int IntKind.u32 (S.fresh)))]), (Chunk.row true (EC.node) (S.nodes)), (Chunk.row true (EC.int) (S.counts)), (Chunk.row true (EC.bool) (S.used)), (Chunk.row true (EC.u32) (S.gen)), (Chunk.row true (EC.u32) (S.rel))] [0, 1, 2, 3, 4, 5, 6])) (((1 ≤ S.used.length) ∧ (S.used.length ≤ 65537) ∧ (S.rel.length ≤ 65537) ∧ (0 ≤ S.fresh) ∧ (S.fresh ≤ 65537) ∧ ((S.gen.length) = (S.used.length)) ∧ (relOK S.rel S.used.length) ∧ (0 ≤ (↑S.rel.length : Int) + ((↑S.used.length : Int) - 1) - S.fresh) ∧ ((((↑S.rel.length : Int) + ((↑S.used.length : Int) - 1) - S.fresh) = 0) → (K (SV.tup [(TV.at (At.val (Value.int IntKind.u32 0))), (TV.at (At.val (Value.int IntKind.i64 2)))]) [(Chunk.box [(At.ptr 1 0), (At.slc 2), (At.slc 3), (At.val (Value.int IntKind.u64 (S.reads)))]), (Chunk.box [(At.slc 4), (At.slc 5), (At.slc 6), (At.val (Value.int IntKind.u32 (S.fresh)))]), (Chunk.row true (EC.node) (S.nodes)), (Chunk.row true (EC.int) (S.counts)), (Chunk.row true (EC.bool) (S.used)), (Chunk.row true (EC.u32) (S.gen)), (Chunk.row true (EC.u32) (S.rel))] [0, 1, 2, 3, 4, 5, 6])) ∧ ((0 < (↑S.rel.length : Int) + ((↑S.used.length : Int) - 1) - S.fresh) → (∀ i : Int, (∀ rl' : List Int, (∀ fr' : Int,
    (((Prod.mk (i) (Prod.mk (rl') (fr'))) = (fresh3 S.rel S.fresh)) → ((0 ≤ i) ∧ (i < (↑S.nodes.length : Int)) ∧ (0 ≤ i) ∧ (i < (↑S.counts.length : Int)) ∧ (0 ≤ l) ∧ (l < (↑(S.counts.set i.toNat 1).length : Int)) ∧ (0 ≤ l) ∧ (l < (↑(S.counts.set i.toNat 1).length : Int)) ∧ (0 ≤ r) ∧ (r < (↑((S.counts.set i.toNat 1).set l.toNat (IntKind.i64.wrap ((S.counts.set i.toNat 1).getD l.toNat 0 + 1))).length : Int)) ∧ (0 ≤ r) ∧ (r < (↑((S.counts.set i.toNat 1).set l.toNat (IntKind.i64.wrap ((S.counts.set i.toNat 1).getD l.toNat 0 + 1))).length : Int)) ∧
    (K (SV.tup [(TV.at (At.val (Value.int IntKind.u32 (i)))), (TV.at (At.val (Value.int IntKind.i64 0)))]) [(Chunk.box [(At.ptr 1 0), (At.slc 2), (At.slc 3), (At.val (Value.int IntKind.u64 (S.reads)))]), (Chunk.box [(At.slc 4), (At.slc 5), (At.slc 6), (At.val (Value.int IntKind.u32 (fr')))]), (Chunk.row true (EC.node) (S.nodes.set i.toNat { key := x1.n.key, value := x1.n.value, left := x1.n.left, right := x1.n.right, size := x1.n.size, sum := x1.n.sum, min := x1.n.min, max := x1.n.max : NodeT })), (Chunk.row true (EC.int) (((S.counts.set i.toNat 1).set l.toNat (IntKind.i64.wrap ((S.counts.set i.toNat 1).getD l.toNat 0 + 1))).set r.toNat (IntKind.i64.wrap (((S.counts.set i.toNat 1).set l.toNat (IntKind.i64.wrap ((S.counts.set i.toNat 1).getD l.toNat 0 + 1))).getD r.toNat 0 + 1)))), (Chunk.row true (EC.bool) (S.used.set i.toNat true)), (Chunk.row true (EC.u32) (S.gen.set i.toNat (IntKind.u32.wrap (S.gn i + 1)))), (Chunk.row true (EC.u32) (rl'))] [0, 1, 2, 3, 4, 5, 6])))))))))))))))) = _ by kernel_rfl) ?_
  obtain ⟨hs, hw⟩ := hw
  have hn1 := hw.n1; have hn2 := hw.n2; have hnn := hw.nnod; have hng := hw.ngen; have hnc := hw.ncnt; have hfr := hw.fr; have hfree := hw.free_nonneg
  have hl0 := hw.ge0 hl
  have hr0 := hw.ge0 hr
  have hl1 : l < S.used.length := by rcases hl with e | e; omega; have := hw.pos e; omega
  have hr1 : r < S.used.length := by rcases hr with e | e; omega; have := hw.pos e; omega
  refine ⟨⟨by decide, by decide, brS_of (fun c => ⟨⟨0, ⟨k, v, l, r, 1, v, v, v⟩, ?_⟩, ?_⟩) fun c => ⟨hl0, by omega, by omega, brS_of (fun d => ?_) fun d => ⟨hl0, by omega, ⟨⟨0, addK ⟨k, v, l, r, 1, v, v, v⟩ (S.nd l), ?_⟩, ?_⟩⟩⟩⟩,
    fun x rx => ⟨⟨by decide, by decide, brS_of (fun c => ⟨⟨1, x.n, ?_⟩, ?_⟩) fun c => ⟨hr0, by omega, by omega, brS_of (fun d => ?_) fun d => ⟨hr0, by omega, ⟨⟨1, addK x.n (S.nd r), ?_⟩, ?_⟩⟩⟩⟩, fun x1 r1 => ?_⟩⟩
  · have c : l = 0 := by simpa using c
    rw [if_pos rfl]; unfold addC; rw [if_pos c]
  · (repeat' first | exact trivial | exact rfl | refine And.intro ?_ ?_)
  · have c : l ≠ 0 := by simpa using c
    have := hl.resolve_left c
    rw [this] at d; cases d
  · have c : l ≠ 0 := by simpa using c
    rw [if_pos rfl]; unfold addC; rw [if_neg c]
  · (repeat' first | exact trivial | exact rfl | refine And.intro ?_ ?_)
  · have c : r = 0 := by simpa using c
    have hx := x.h
    rw [if_pos (by omega)] at hx
    rw [if_neg (by decide)]; unfold mkNode; rw [← hx]; unfold addC; rw [if_pos c]
  · (repeat' first | exact trivial | exact rfl | refine And.intro ?_ ?_)
  · have c : r ≠ 0 := by simpa using c
    have := hr.resolve_left c
    rw [this] at d; cases d
  · have c : r ≠ 0 := by simpa using c
    have hx := x.h
    rw [if_pos (by omega)] at hx
    rw [if_neg (by decide)]; unfold mkNode; rw [← hx]; unfold addC; rw [if_neg c]
  · (repeat' first | exact trivial | exact rfl | refine And.intro ?_ ?_)
  · obtain ⟨i1, n1, hx⟩ := x1
    have r1 : i1 = 1 := by have : (1 : Int) = (i1 : Int) := r1; omega
    subst r1
    rw [if_neg (by decide)] at hx
    subst hx
    refine brS_of (fun c => h1 (by have : (mkNode S k v l r).size > 2147483647 := of_decide_eq_true c; unfold maxSize; omega)) fun c => ?_
    have c : (mkNode S k v l r).size ≤ maxSize := by have : ¬ (mkNode S k v l r).size > 2147483647 := of_decide_eq_false c; unfold maxSize; omega
    refine ⟨by omega, hn2, by omega, hfr.1, by omega, hng, fun i hi => by have := hw.rel i hi; omega, by have := hfree.1; unfold Arn.free Arn.cap at this; omega, fun e => h2 c (by unfold Arn.free Arn.cap; omega), fun e i rl' fr' he => ?_⟩
    have e : 0 < S.free := by unfold Arn.free Arn.cap; omega
    have h4 := h3 c e _ _ rfl rfl
    obtain ⟨b1, b2, _⟩ := hw.nxt_spec e
    have e1 : i = nxt S := congrArg Prod.fst he
    have e2 : rl' = (freshS S).2.1 := congrArg (fun p : Int × List Int × Int => p.2.1) he
    have e3 : fr' = (freshS S).2.2 := congrArg (fun p : Int × List Int × Int => p.2.2) he
    subst e1 e2 e3
    refine ⟨by omega, by omega, by omega, by omega, hl0, ?_, hl0, ?_, hr0, ?_, hr0, ?_, h4⟩
    all_goals (simp only [List.length_set]; omega)
theorem s_make : SoundT C0 13 tMake := by
  refine .ofW W7 Try.func13 (by decide) rfl fun args H K h hB => ?_
  unfold tMake at h
  split at h <;> try exact h.elim
  unfold arM at h
  split at h <;> try exact h.elim
  rename_i k v l r _ rd fr nd ct us gn rl
  obtain ⟨h1, h2, h3, h4, h5, h6⟩ := h
  exact ⟨aMake ⟨us, gn, rl, fr, nd, ct, rd⟩ k v l r, ⟨frame C0.ok s_slAllocated _, frame C0.ok s_slAlloc _, trivial⟩, vc_make ⟨us, gn, rl, fr, nd, ct, rd⟩ k v l r K h1 h2 h3 h4 h5 h6⟩
end Go.Proofs.Ytmjnoiajenoinaa.Sx
end
section
/- Making a node of two trees that are handed over; planting a tree. No program in sight. -/
namespace Go.Proofs.Ytmjnoiajenoinaa
open Go

variable {S S' S'' : Arn} {hs : List Int}

theorem indeg_pos (h : Wf S hs) {i j : Int} (hj : S.us j = true) (he : (S.nd j).left = i ∨ (S.nd j).right = i) : 1 ≤ S.indeg i := by
  have hp := h.pos hj
  have hn := h.nnod
  have hm : S.nd j ∈ S.nodes := by
    have : j.toNat < S.nodes.length := by omega
    unfold Arn.nd
    rw [List.getD_eq_getElem?_getD, List.getElem?_eq_getElem this]
    exact List.getElem_mem this
  unfold Arn.indeg
  rcases he with he | he
  · have := (List.countP_pos_iff (p := fun x : NodeT => x.left == i)).2 ⟨S.nd j, hm, by simpa using he⟩
    omega
  · have := (List.countP_pos_iff (p := fun x : NodeT => x.right == i)).2 ⟨S.nd j, hm, by simpa using he⟩
    omega
/-- A reference is given back to a tree that is held otherwise as well. -/
def relA (S : Arn) (i : Int) : Arn := if S.us i then decS S i else S
theorem relA_same (S : Arn) (i j : Int) : (relA S i).us j = S.us j ∧ (relA S i).nd j = S.nd j ∧ (relA S i).gn j = S.gn j ∧ (relA S i).indeg j = S.indeg j := by
  unfold relA; split <;> exact ⟨rfl, rfl, rfl, rfl⟩
theorem relA_flds (S : Arn) (i : Int) : (relA S i).reads = S.reads ∧ (relA S i).used = S.used ∧ (relA S i).nu = S.nu ∧ (relA S i).free = S.free ∧ (relA S i).nodes = S.nodes ∧ (relA S i).rel = S.rel ∧ (relA S i).fresh = S.fresh := by
  unfold relA; split <;> exact ⟨rfl, rfl, rfl, rfl, rfl, rfl, rfl⟩
theorem Wf.two {i : Int} (h : Wf S (i :: hs)) (hi : S.us i = true) (hd : 1 ≤ S.indeg i) : 1 < S.ct i := by
  obtain ⟨h1, _⟩ := h.cnt i hi
  rw [List.count_cons_self] at h1
  omega
theorem Wf.give {i : Int} (h : Wf S (i :: hs)) (hd : S.us i = true → 1 ≤ S.indeg i) : Wf (relA S i) hs := by
  unfold relA
  split
  · rename_i hi
    exact h.dec hi (h.two hi (hd hi))
  · rename_i hi
    have : i = 0 := (h.held i (by simp)).resolve_right hi
    subst this
    exact h.of_zero
theorem Wf.given {i : Int} (h : Wf S (i :: hs)) (hd : S.us i = true → 1 ≤ S.indeg i) (h1 : 1 < S.ct i → S.us i = true → S' = decS S i) (h2 : S.us i = false → S' = S) : S' = relA S i := by
  unfold relA
  cases hi : S.us i with
  | true => rw [if_pos rfl]; exact h1 (h.two hi (hd hi)) hi
  | false => simp; exact h2 hi
theorem Rep.same (hu : ∀ j, S'.us j = S.us j) (hn : ∀ j, S'.nd j = S.nd j) : ∀ {t : Tr} {i : Int}, Rep S t i → Rep S' t i
  | .nil, i, hr => hr
  | .node l k v r, i, hr => by
    obtain ⟨h1, h2, h3, h4, h5⟩ := hr
    exact ⟨(hu i).trans h1, by rw [hn]; exact h2, by rw [hn]; exact h3, by rw [hn]; exact Rep.same hu hn h4, by rw [hn]; exact Rep.same hu hn h5⟩
theorem stay_same (hu : ∀ j, S'.us j = S.us j) (hn : ∀ j, S'.nd j = S.nd j) (hg : ∀ j, S'.gn j = S.gn j) (hs : List Int) : Stay S S' hs := fun i hi => ⟨(hu i).trans hi.us, hn i, hg i⟩
def nodeS (S : Arn) (k v l r : Int) : Arn := relA (relA (makeS S k v l r) l) r
theorem make_flds (h : Wf S hs) (hf : 0 < S.free) {k v l r : Int} : (makeS S k v l r).reads = S.reads ∧ (makeS S k v l r).used.length = S.used.length ∧ (makeS S k v l r).nu = S.nu + 1 := by
  obtain ⟨h1, h2, h3, _⟩ := h.nxt_spec hf
  refine ⟨rfl, by simp [makeS], ?_⟩
  have a := countP_set' id S.used (nxt S).toNat true false (by omega)
  have : S.used.getD (nxt S).toNat false = false := h3
  rw [this] at a
  simp at a
  unfold Arn.nu makeS
  simp
  omega
theorem make_rep (h : Wf S hs) (hf : 0 < S.free) {k v l r : Int} : ∀ {t : Tr} {i : Int}, Rep S t i → Rep (makeS S k v l r) t i
  | .nil, i, hr => hr
  | .node tl kk vv tr, i, hr => by
    obtain ⟨h1, h2, h3, h4, h5⟩ := hr
    have hx := (h.nxt_spec hf).2.2.1
    have e : i ≠ nxt S := fun e => by rw [e, hx] at h1; cases h1
    have en : (makeS S k v l r).nd i = S.nd i := by rw [make_nd h hf, if_neg e]
    exact ⟨(make_us h hf i).2 (.inr h1), by rw [en]; exact h2, by rw [en]; exact h3, by rw [en]; exact make_rep h hf h4, by rw [en]; exact make_rep h hf h5⟩

/-- The steps from a new node to the two references given back, from what the calls promise. -/
structure NodeR (S : Arn) (hs : List Int) (k v : Int) (tl tr : Tr) (S' : Arn) (i : Int) : Prop where
  wf : Wf S' (i :: hs)
  rep : Rep S' (.node tl k v tr) i
  stay : Stay S S' hs
  len : S'.used.length = S.used.length
  rds : S'.reads = S.reads
  nu : S'.nu = S.nu + 1
  pos : 1 ≤ i
theorem node_two {k v l r : Int} (h : Wf S (l :: r :: hs)) (hf : 0 < S.free) (hz : (mkNode S k v l r).size ≤ maxSize) (hl : hs.length ≤ 999999990) :
    Wf (makeS S k v l r) (l :: (nxt S :: r :: hs)) ∧ ((makeS S k v l r).us l = true → 1 ≤ (makeS S k v l r).indeg l) ∧ Wf (relA (makeS S k v l r) l) (r :: (nxt S :: hs)) ∧ ((relA (makeS S k v l r) l).us r = true → 1 ≤ (relA (makeS S k v l r) l).indeg r) := by
  have hl1 := h.held l (by simp)
  have hr1 := h.held r (by simp)
  have hm := h.make (k := k) (v := v) hl1 hr1 hf hz (by simp; omega)
  obtain ⟨h1, h2, h3, _⟩ := h.nxt_spec hf
  have hm1 : Wf (makeS S k v l r) (l :: (nxt S :: r :: hs)) := hm.perm (List.Perm.swap _ _ _)
  have hu : (makeS S k v l r).us (nxt S) = true := (make_us h hf _).2 (.inl rfl)
  have hn : (makeS S k v l r).nd (nxt S) = mkNode S k v l r := by rw [make_nd h hf, if_pos rfl]
  obtain ⟨_, _, m1, m2⟩ := mkNode_flds S k v l r
  have d1 : 1 ≤ (makeS S k v l r).indeg l := indeg_pos hm hu (.inl (by rw [hn, m1]))
  have d2 : 1 ≤ (makeS S k v l r).indeg r := indeg_pos hm hu (.inr (by rw [hn, m2]))
  refine ⟨hm1, fun _ => d1, (hm1.give fun _ => d1).perm (List.Perm.swap _ _ _), fun _ => ?_⟩
  rw [(relA_same _ _ _).2.2.2]; exact d2
theorem node_ok {k v l r : Int} {tl tr : Tr} (h : Wf S (l :: r :: hs)) (hf : 0 < S.free) (hz : (mkNode S k v l r).size ≤ maxSize) (hl : hs.length ≤ 999999990) (h1 : Rep S tl l) (h2 : Rep S tr r) : NodeR S hs k v tl tr (nodeS S k v l r) (nxt S) := by
  obtain ⟨a1, a2, a3, a4⟩ := node_two (k := k) (v := v) h hf hz hl
  obtain ⟨x1, x2, x3, _⟩ := h.nxt_spec hf
  have e1 : ∀ j, (nodeS S k v l r).us j = (makeS S k v l r).us j := fun j => by unfold nodeS; rw [(relA_same _ _ _).1, (relA_same _ _ _).1]
  have e2 : ∀ j, (nodeS S k v l r).nd j = (makeS S k v l r).nd j := fun j => by unfold nodeS; rw [(relA_same _ _ _).2.1, (relA_same _ _ _).2.1]
  have e3 : ∀ j, (nodeS S k v l r).gn j = (makeS S k v l r).gn j := fun j => by unfold nodeS; rw [(relA_same _ _ _).2.2.1, (relA_same _ _ _).2.2.1]
  obtain ⟨f1, f2, f3⟩ := make_flds h hf (k := k) (v := v) (l := l) (r := r)
  obtain ⟨p1, p2, p3, _⟩ := relA_flds (makeS S k v l r) l
  obtain ⟨q1, q2, q3, _⟩ := relA_flds (relA (makeS S k v l r) l) r
  have hn : (makeS S k v l r).nd (nxt S) = mkNode S k v l r := by rw [make_nd h hf, if_pos rfl]
  obtain ⟨m3, m4, m1, m2⟩ := mkNode_flds S k v l r
  refine ⟨a3.give a4, ?_, (stay_make h hf hs).trans (stay_same e1 e2 e3 hs), ?_, ?_, ?_, x1⟩
  · refine ⟨by rw [e1, make_us h hf]; exact .inl rfl, by rw [e2, hn, m3], by rw [e2, hn, m4], ?_, ?_⟩
    · rw [e2, hn, m1]; exact (make_rep h hf h1).same e1 e2
    · rw [e2, hn, m2]; exact (make_rep h hf h2).same e1 e2
  · unfold nodeS; rw [q2, p2]; exact f2
  · unfold nodeS; rw [q1, p1]; exact f1
  · unfold nodeS; rw [q3, p3]; exact f3
theorem mk_size {k v l r : Int} (h : Wf S hs) {tl tr : Tr} (h1 : Rep S tl l) (h2 : Rep S tr r) : (mkNode S k v l r).size = 1 + tl.size + tr.size := by
  rw [h.mkNode_size, h1.size h, h2.size h]

/-! ### Balance -/
def balN (l r : Int) : Prop := l + 1 ≤ 3 * (r + 1) ∧ r + 1 ≤ 3 * (l + 1)
instance (l r : Int) : Decidable (balN l r) := by unfold balN; infer_instance
def Tr.Bal : Tr → Prop
  | .nil => True
  | .node l _ _ r => balN l.size r.size ∧ l.Bal ∧ r.Bal

/-- A tree with the entries of a list is made, and held. -/
structure PlantR (S : Arn) (hs : List Int) (l : List Ent) (S' : Arn) (i : Int) : Prop where
  wf : Wf S' (i :: hs)
  rep : ∃ t, Rep S' t i ∧ t.list = l ∧ t.Bal
  stay : Stay S S' hs
  len : S'.used.length = S.used.length
  rds : S'.reads = S.reads
  nu : S'.nu = S.nu + l.length
theorem PlantR.nil (h : Wf S hs) (hl : hs.length ≤ 1000000000) : PlantR S hs [] S 0 := ⟨h.zero_cons hl, ⟨.nil, rfl, rfl, trivial⟩, Stay.refl _ _, rfl, rfl, rfl⟩
/-- From two planted trees to the tree of both with an entry between. -/
theorem PlantR.node {S1 S2 S3 : Arn} {a b : List Ent} {e : Ent} {il ir i : Int} (h1 : PlantR S hs a S1 il) (h2 : PlantR S1 (il :: hs) b S2 ir) (hb : balN a.length b.length)
    (h3 : ∀ tl tr, Rep S2 tl il → Rep S2 tr ir → NodeR S2 hs e.1 e.2 tl tr S3 i) : PlantR S hs (a ++ e :: b) S3 i := by
  obtain ⟨tl, r1, r2, r3⟩ := h1.rep
  obtain ⟨tr, q1, q2, q3⟩ := h2.rep
  have r1' : Rep S2 tl il := r1.held h1.wf h2.stay (.inr (by simp))
  have n := h3 tl tr r1' q1
  refine ⟨n.wf, ⟨_, n.rep, ?_, ?_, r3, q3⟩, ?_, ?_, ?_, ?_⟩
  · simp [Tr.list, r2, q2]
  · rw [← tl.list_len, ← tr.list_len, r2, q2]; exact hb
  · exact (h1.stay.trans (h2.stay.mono (by simp_all))).trans n.stay
  · rw [n.len, h2.len, h1.len]
  · rw [n.rds, h2.rds, h1.rds]
  · rw [n.nu, h2.nu, h1.nu]; simp; omega
end Go.Proofs.Ytmjnoiajenoinaa
end
section
/- Make where it succeeds, Release where another reference is left. -/
namespace Go.Proofs.Ytmjnoiajenoinaa.Sx
open Go

def tMakeOk : Tfm C0 := fun args H K => match args with
  | [.at (.ptr 0 0), .at (.val (.int .i64 k)), .at (.val (.int .i64 v)), .at (.val (.int .u32 l)), .at (.val (.int .u32 r))] => arM H fun S => exW S ∧ live S l ∧ live S r ∧ (mkNode S k v l r).size ≤ maxSize ∧ 0 < S.free ∧
    ∀ S' i, S' = makeS S k v l r → i = nxt S → K (.tup [.at (vU i), .at (vI 0)]) (chS S') W7
  | _ => False
theorem s_makeOk : SoundT C0 13 tMakeOk := s_make.weak fun args H K h => by
  unfold tMakeOk at h
  unfold tMake
  split at h <;> try exact h.elim
  unfold arM at h ⊢
  split at h <;> try exact h.elim
  obtain ⟨h1, h2, h3, h4, h5, h6⟩ := h
  exact ⟨h1, h2, h3, fun e => absurd h4 (by omega), fun _ e => absurd h5 (by omega), fun _ _ => h6⟩
def tGive : Tfm C0 := fun args H K => match args with
  | [.at (.ptr 0 0), .at (.val (.int .u32 i))] => arM H fun S => ∃ hs, Wf S (i :: hs) ∧ (S.us i = true → 1 ≤ S.indeg i) ∧ ∀ S', S' = relA S i → K (.tup [.at (vI 0), .at (vI 0)]) (chS S') W7
  | _ => False
theorem s_give : SoundT C0 14 tGive := s_release.weak fun args H K h => by
  unfold tGive at h
  unfold tRelease
  split at h <;> try exact h.elim
  unfold arM at h ⊢
  split at h <;> try exact h.elim
  obtain ⟨hs, h1, h2, h3⟩ := h
  refine ⟨hs, h1, fun S' fr _ _ h4 h5 h6 => ?_⟩
  have e := h1.given h2 h5 h6
  have h7 := h3 S' e
  have : fr = 0 := by rw [e, (relA_flds _ _).2.2.1] at h4; omega
  rw [this]
  exact h7
end Go.Proofs.Ytmjnoiajenoinaa.Sx
end
section
/- Listing a tree, and trees of a given shape. No program in sight. -/
namespace Go.Proofs.Ytmjnoiajenoinaa
open Go

/-- What 'keys' of a lister collects where there is room for so many entries, and how many nodes it reads. -/
def lk : Tr → Int → Int → Nat → List Ent × Nat
  | .nil, _, _, _ => ([], 0)
  | .node l k v r, lo, hi, room => if room = 0 then ([], 0) else
    let a := if lo < k then lk l lo hi room else ([], 0)
    let b : List Ent := if lo ≤ k ∧ k ≤ hi ∧ a.1.length < room then [(k, v)] else []
    let c := if k < hi then lk r lo hi (room - (a.1.length + b.length)) else ([], 0)
    (a.1 ++ (b ++ c.1), 1 + a.2 + c.2)
def ne0 (t : Tr) : Nat := match t with
  | .nil => 0
  | .node _ _ _ _ => 1
/-- What 'places' of a lister collects, and how many nodes it reads. -/
def pl : Tr → Int → Int → List Ent × Nat
  | .nil, _, _ => ([], 0)
  | .node l k v r, f, t => if t ≤ f then ([], 0) else
    let s : Int := l.size
    let a := if f < s then pl l f (if s < t then s else t) else ([], 0)
    let b : List Ent := if f ≤ s ∧ s < t then [(k, v)] else []
    let c := if s + 1 < t then pl r (if 0 < f - s - 1 then f - s - 1 else 0) (t - s - 1) else ([], 0)
    (a.1 ++ (b ++ c.1), 1 + ne0 l + a.2 + c.2)
/-- The shape that Build specifies. -/
def ShpT : Tr → List Ent → Prop
  | .nil, l => l = []
  | .node a k v b, l => 0 < l.length ∧ l.getD (l.length / 2) (0, 0) = (k, v) ∧ ShpT a (l.take (l.length / 2)) ∧ ShpT b (l.drop (l.length / 2 + 1))
theorem ShpT.list : ∀ {t : Tr} {l : List Ent}, ShpT t l → t.list = l
  | .nil, l, h => by have : l = [] := h; rw [this]; rfl
  | .node a k v b, l, h => by
    obtain ⟨h1, h2, h3, h4⟩ := h
    simp only [Tr.list]
    rw [h3.list, h4.list, ← h2]
    have hp : l.length / 2 < l.length := by omega
    have e : l[l.length / 2]? = some (l.getD (l.length / 2) (0, 0)) := by simp [List.getD_eq_getElem?_getD, List.getElem?_eq_getElem hp]
    obtain ⟨q1, q2⟩ := List.getElem?_eq_some_iff.1 e
    have e2 : l.drop (l.length / 2) = l.getD (l.length / 2) (0, 0) :: l.drop (l.length / 2 + 1) := by rw [List.drop_eq_getElem_cons q1, q2]
    rw [← e2, List.take_append_drop]
structure BuildR (S : Arn) (hs : List Int) (l : List Ent) (S' : Arn) (i : Int) : Prop where
  wf : Wf S' (i :: hs)
  rep : ∃ t, Rep S' t i ∧ ShpT t l
  stay : Stay S S' hs
  len : S'.used.length = S.used.length
  rds : S'.reads = S.reads
  nu : S'.nu = S.nu + l.length
end Go.Proofs.Ytmjnoiajenoinaa
end
section
/- Small facts on states. -/
namespace Go.Proofs.Ytmjnoiajenoinaa.Sx
open Go

theorem rdS_zero (S : Arn) : rdS S 0 = S := by simp [rdS]
theorem rdS_rdS (S : Arn) (a b : Nat) : rdS (rdS S a) b = rdS S (a + b) := by simp [rdS]; omega
theorem rep_rd {S : Arn} {t : Tr} {i : Int} (h : Rep S t i) (n : Nat) : Rep (rdS S n) t i := Rep.same (S := S) (S' := rdS S n) (fun _ => rfl) (fun _ => rfl) h
theorem inU_of {S : Arn} {hs : List Int} (h : Wf S hs) {i : Int} (hi : live S i) : inU i := by
  have h2 := h.n2
  rcases hi with rfl | hi
  · exact ⟨by decide, by decide⟩
  · have := h.pos hi; exact ⟨by omega, by omega⟩
end Go.Proofs.Ytmjnoiajenoinaa.Sx
end
section
/- Listing trees. -/
namespace Go.Proofs.Ytmjnoiajenoinaa.Sx
open Go

/-KEEP Wf exW inU live Arn.cap Arn.free maxSize mkNode makeS relA nxt NodeR BuildR Rep lk pl rdS Tr.size-/
def room (lim : Int) (out : List Ent) : Nat := (lim - out.length).toNat
structure XSt (P : Arn → List Ent → Prop) where
  S : Arn
  out : List Ent
  h : P S out
end Go.Proofs.Ytmjnoiajenoinaa.Sx
end
section
/- Range, Slice and List; Build. -/
namespace Go.Proofs.Ytmjnoiajenoinaa.Sx
open Go

/-KEEP Wf exW inU live Arn.cap Arn.free maxSize mkNode makeS relA nxt NodeR BuildR Rep lk pl rdS Tr.size rangeR sliceR ne0-/
structure XBld (P : Arn → Int → Prop) where
  S : Arn
  i : Int
  h : P S i
end Go.Proofs.Ytmjnoiajenoinaa.Sx
end
section
/- Plain laws of patches: apply, compose, rebase, invert. No program in sight. -/
namespace Go.Proofs.Ytmjnoiajenoinaa

/-! ### Apply -/
def optE (k : Int) (v : Option Int) : List Ent := (v.map fun v => (k, v)).toList

def appGo : List (Option Ent × Option Chg) → Option (List Ent)
  | [] => some []
  | (x, none) :: t => (appGo t).map (x.toList ++ ·)
  | (x, some c) :: t => if x.map Prod.snd = c.before then (appGo t).map (optE c.key c.after ++ ·) else none

/-- What applying comes to: the list, if the patch fits. -/
def app (l : List Ent) (p : List Chg) : Option (List Ent) := appGo (pEC l p)

/-- What is still to be made, behind what has been made. -/
def AppAt (l : List Ent) (p : List Chg) (i k : Nat) (acc : List Ent) : Prop := app l p = (appGo (pEC (l.drop i) (p.drop k))).map (acc ++ ·)
theorem AppAt.start (l : List Ent) (p : List Chg) : AppAt l p 0 0 [] := by
  unfold AppAt app; rw [List.drop_zero, List.drop_zero]; cases appGo (pEC l p) <;> rfl
theorem appGo_keep {l' : List Ent} {p' : List Chg} {x : Ent} {c : Chg} (h : x.1 < c.key) : appGo (pEC (x :: l') (c :: p')) = (appGo (pEC l' (c :: p'))).map (x :: ·) := by
  show appGo (pairs Prod.fst Chg.key (x :: l') (c :: p')) = _
  rw [pairs, if_pos h]; rfl
theorem AppAt.keep {l : List Ent} {p : List Chg} {i k : Nat} {acc : List Ent} {x : Ent} {c : Chg} (h : AppAt l p i k acc) (hl : l.drop i = x :: l.drop (i + 1)) (hp : p.drop k = c :: p.drop (k + 1)) (hlt : x.1 < c.key) : AppAt l p (i + 1) k (acc ++ [x]) := by
  unfold AppAt at *
  rw [h, hl, hp, appGo_keep hlt, ← hp, Option.map_map]
  congr 1
  funext t; simp
theorem AppAt.take {l : List Ent} {p : List Chg} {i k : Nat} {acc : List Ent} {x : Ent} {c : Chg} (h : AppAt l p i k acc) (hl : l.drop i = x :: l.drop (i + 1)) (hp : p.drop k = c :: p.drop (k + 1)) (he : x.1 = c.key) :
    if some x.2 = c.before then AppAt l p (i + 1) (k + 1) (acc ++ optE c.key c.after) else app l p = none := by
  have e : pEC (x :: l.drop (i + 1)) (c :: p.drop (k + 1)) = (some x, some c) :: pEC (l.drop (i + 1)) (p.drop (k + 1)) := by
    show pairs Prod.fst Chg.key _ _ = _
    rw [pairs, if_neg (by omega), if_neg (by omega)]
  split
  · rename_i hb
    unfold AppAt at *
    rw [h, hl, hp, e]
    simp only [appGo, Option.map_some, hb, if_true, Option.map_map]
    congr 1
    funext t; simp
  · rename_i hb
    unfold AppAt at h
    rw [h, hl, hp, e]
    simp only [appGo, Option.map_some, hb, if_false, Option.map_none]
theorem AppAt.new {l : List Ent} {p : List Chg} {i k : Nat} {acc : List Ent} {c : Chg} (h : AppAt l p i k acc) (hl : l.drop i = [] ∨ ∃ x t, l.drop i = x :: t ∧ c.key < x.1) (hp : p.drop k = c :: p.drop (k + 1)) :
    if none = c.before then AppAt l p i (k + 1) (acc ++ optE c.key c.after) else app l p = none := by
  have e : pEC (l.drop i) (c :: p.drop (k + 1)) = (none, some c) :: pEC (l.drop i) (p.drop (k + 1)) := by
    show pairs Prod.fst Chg.key _ _ = _ :: pairs Prod.fst Chg.key _ _
    rcases hl with hl | ⟨x, t, hl, hlt⟩
    · rw [hl, pairs]
    · rw [hl, pairs, if_neg (by omega), if_pos hlt]
  split
  · rename_i hb
    unfold AppAt at *
    rw [h, hp, e]
    simp only [appGo, Option.map_none, hb, if_true, Option.map_map]
    congr 1
    funext t; simp
  · rename_i hb
    unfold AppAt at h
    rw [h, hp, e]
    simp only [appGo, Option.map_none, hb, if_false]
theorem AppAt.fin {l : List Ent} {p : List Chg} {i k : Nat} {acc : List Ent} (h : AppAt l p i k acc) (hk : p.length ≤ k) : app l p = some (acc ++ l.drop i) := by
  unfold AppAt at h
  rw [h, List.drop_eq_nil_of_le hk]
  have : ∀ m : List Ent, appGo (pEC m []) = some m := by
    intro m
    induction m with
    | nil => simp [pairs, appGo]
    | cons x t ih => simp [pairs, appGo, ih]
  rw [this]; rfl

/-- The value of a key behind a patch. -/
def put (x : Option Int) (c : Option Chg) : Option Int := match c with
  | none => x
  | some c => c.after

/-- The patch fits the list: each change finds the value that it says. -/
def Fits (l : List Ent) (p : List Chg) : Prop := ∀ c ∈ p, getE l c.key = c.before
instance (l : List Ent) (p : List Chg) : Decidable (Fits l p) := by unfold Fits; infer_instance

/-! ### Invert -/
def inv1 (c : Chg) : Chg := (mkChg c.key c.after c.before).getD ⟨0, 0, 0, 0⟩
def inv (p : List Chg) : List Chg := p.map inv1

end Go.Proofs.Ytmjnoiajenoinaa
end
section
/- Plain laws of patches: compose and rebase. No program in sight. -/
namespace Go.Proofs.Ytmjnoiajenoinaa

/-! ### Compose -/
/-! ### Rebase -/
theorem fnd_id (L : List Int) (k : Int) : fnd id L k = if k ∈ L then some k else none := by
  induction L with
  | nil => simp [fnd_nil]
  | cons x t ih =>
    rw [fnd_cons, ih]
    by_cases h : x = k
    · subst h; simp
    · have : ¬ k = x := fun e => h e.symm
      simp [h, this]

/-- A key that both sides changed, differently. -/
def Cf (l m n : List Ent) (k : Int) : Prop := getE m k ≠ getE n k ∧ getE l k ≠ getE m k ∧ getE l k ≠ getE n k
instance (l m n : List Ent) (k : Int) : Decidable (Cf l m n k) := by unfold Cf; infer_instance

end Go.Proofs.Ytmjnoiajenoinaa
end
section
/- Plain laws of insertion into ascending lists, of key lists, of unions. No program in sight. -/
namespace Go.Proofs.Ytmjnoiajenoinaa

def insGo (e : Ent) : Bool → List Ent → List Ent
  | put, [] => if put then [] else [e]
  | put, x :: t => (if !put && decide (e.1 ≤ x.1) then [e] else []) ++ ((if x.1 = e.1 then [] else [x]) ++ insGo e (put || decide (e.1 ≤ x.1)) t)

theorem insGo_len (e : Ent) : ∀ (l : List Ent) (put : Bool), (insGo e put l).length ≤ l.length + (if put then 0 else 1) := by
  intro l
  induction l with
  | nil => intro put; cases put <;> simp [insGo]
  | cons x t ih =>
    intro put
    simp only [insGo, List.length_append, List.length_cons]
    have h1 := ih (put || decide (e.1 ≤ x.1))
    have h2 : (if x.1 = e.1 then ([] : List Ent) else [x]).length ≤ 1 := by split <;> simp
    cases put
    · by_cases h : e.1 ≤ x.1
      · simp [h] at h1 ⊢; omega
      · simp [h] at h1 ⊢; omega
    · simp at h1 ⊢; omega

/-- The list with an entry put in. -/
abbrev insE (l : List Ent) (e : Ent) : List Ent := insGo e false l

theorem insE_len (l : List Ent) (e : Ent) : (insE l e).length ≤ l.length + 1 := by simpa using insGo_len e l false

theorem insGo_true {e : Ent} : ∀ {l : List Ent}, (∀ x ∈ l, e.1 < x.1) → insGo e true l = l := by
  intro l
  induction l with
  | nil => intro _; simp [insGo]
  | cons x t ih =>
    intro h
    have hx := h x List.mem_cons_self
    have : ¬ x.1 = e.1 := by omega
    simp [insGo, this, ih fun y hy => h y (List.mem_cons_of_mem _ hy)]

theorem insE_cons {e x : Ent} {t : List Ent} (h : Asc (x :: t)) : insE (x :: t) e = if e.1 < x.1 then e :: x :: t else if x.1 = e.1 then e :: t else x :: insE t e := by
  have hh := h.head
  rcases Int.lt_trichotomy e.1 x.1 with c | c | c
  · have h1 : e.1 ≤ x.1 := by omega
    have h2 : ¬ x.1 = e.1 := by omega
    simp [insE, insGo, h1, h2, c, insGo_true (e := e) (l := t) fun y hy => by have := hh y hy; omega]
  · have h1 : e.1 ≤ x.1 := by omega
    have h2 : ¬ e.1 < x.1 := by omega
    simp [insE, insGo, c, insGo_true (e := e) (l := t) fun y hy => by have := hh y hy; omega]
  · have h1 : ¬ e.1 ≤ x.1 := by omega
    have h2 : ¬ x.1 = e.1 := by omega
    have h3 : ¬ e.1 < x.1 := by omega
    simp [insE, insGo, h1, h2, h3]

theorem insE_mem {l : List Ent} {e z : Ent} (h : Asc l) (hz : z ∈ insE l e) : z = e ∨ z ∈ l := by
  induction l with
  | nil => simp [insE, insGo] at hz; exact .inl hz
  | cons x t ih =>
    rw [insE_cons h] at hz
    split at hz
    · rcases List.mem_cons.1 hz with rfl | hz
      · exact .inl rfl
      · exact .inr hz
    · split at hz
      · rcases List.mem_cons.1 hz with rfl | hz
        · exact .inl rfl
        · exact .inr (List.mem_cons_of_mem _ hz)
      · rcases List.mem_cons.1 hz with rfl | hz
        · exact .inr List.mem_cons_self
        · rcases ih h.tail hz with rfl | hz
          · exact .inl rfl
          · exact .inr (List.mem_cons_of_mem _ hz)

theorem insE_asc {l : List Ent} (e : Ent) (h : Asc l) : Asc (insE l e) := by
  induction l with
  | nil => simp [insE, insGo, Srt]
  | cons x t ih =>
    rw [insE_cons h]
    split
    · rename_i c
      exact Srt.cons h fun y hy => by
        rcases List.mem_cons.1 hy with rfl | hy
        · exact c
        · have := h.head y hy; omega
    · split
      · rename_i c
        exact Srt.cons h.tail fun y hy => by have := h.head y hy; omega
      · rename_i c1 c2
        refine Srt.cons (ih h.tail) fun y hy => ?_
        rcases insE_mem h.tail hy with rfl | hy
        · omega
        · exact h.head y hy

theorem insE_get {l : List Ent} (e : Ent) (h : Asc l) (q : Int) : getE (insE l e) q = if e.1 = q then some e.2 else getE l q := by
  obtain ⟨k, v⟩ := e
  induction l with
  | nil => simp [insE, insGo, getE]
  | cons x t ih =>
    obtain ⟨a, b⟩ := x
    rw [insE_cons h]
    by_cases c1 : k < a
    · simp only [if_pos c1, getE]
    · rw [if_neg c1]
      by_cases c2 : a = k
      · subst c2; simp [getE]
        split <;> simp_all
      · rw [if_neg c2]
        simp only [getE, ih h.tail]
        by_cases c3 : a = q
        · simp [c3, show ¬ k = q by omega]
        · simp [c3]

/-- The keys of a list of entries, put together. -/
def keysOf (xs : List Int) : List Ent := xs.foldl (fun acc k => insE acc (k, 0)) []

theorem foldl_snoc {α β : Type} (f : β → α → β) (b : β) (l : List α) (x : α) : (l ++ [x]).foldl f b = f (l.foldl f b) x := by simp

theorem keysOf_snoc (xs : List Int) (k : Int) : keysOf (xs ++ [k]) = insE (keysOf xs) (k, 0) := foldl_snoc _ _ _ _

theorem snoc_ind {α : Type} {P : List α → Prop} (h0 : P []) (h1 : ∀ l x, P l → P (l ++ [x])) (l : List α) : P l := by
  have : ∀ n (l : List α), l.length = n → P l := by
    intro n
    induction n with
    | zero => intro l hl; rw [List.eq_nil_of_length_eq_zero hl]; exact h0
    | succ n ih =>
      intro l hl
      rcases List.eq_nil_or_concat l with rfl | ⟨L, b, rfl⟩
      · exact h0
      · rw [List.concat_eq_append]; exact h1 L b (ih L (by simpa using hl))
  exact this _ l rfl

theorem keysOf_spec (xs : List Int) : Asc (keysOf xs) ∧ (keysOf xs).length ≤ xs.length ∧ ∀ q, (getE (keysOf xs) q).isSome = true ↔ q ∈ xs := by
  induction xs using snoc_ind with
  | h0 => exact ⟨Srt.nil, Nat.le_refl _, fun q => by simp [keysOf, getE]⟩
  | h1 xs k ih =>
    obtain ⟨h1, h2, h3⟩ := ih
    rw [keysOf_snoc]
    refine ⟨insE_asc _ h1, ?_, fun q => ?_⟩
    · have := insE_len (keysOf xs) (k, 0); simp; omega
    · rw [insE_get _ h1]
      by_cases e : k = q
      · subst e; simp
      · have : ¬ q = k := fun h => e h.symm
        simp [e, h3, this]

/-- All keys of three lists, ascending. -/
def keys3 (l m n : List Ent) : List Int := (keysOf ((l ++ m ++ n).map Prod.fst)).map Prod.fst

theorem mem_keys {l : List Ent} {q : Int} : (getE l q).isSome = true ↔ q ∈ l.map Prod.fst := by
  induction l with
  | nil => simp [getE]
  | cons x t ih =>
    obtain ⟨a, b⟩ := x
    simp only [getE, List.map_cons, List.mem_cons]
    by_cases e : a = q
    · subst e; simp
    · have : ¬ q = a := fun h => e h.symm
      simp [e, ih, this]

theorem keys3_srt (l m n : List Ent) : Srt id (keys3 l m n) := by
  have h := (keysOf_spec ((l ++ m ++ n).map Prod.fst)).1
  unfold keys3 Srt
  rw [List.pairwise_map]
  exact h
theorem keys3_mem (l m n : List Ent) (q : Int) : q ∈ keys3 l m n ↔ (getE l q).isSome = true ∨ (getE m q).isSome = true ∨ (getE n q).isSome = true := by
  unfold keys3
  rw [← mem_keys, (keysOf_spec _).2.2, mem_keys, mem_keys, mem_keys]
  simp only [List.map_append, List.mem_append, or_assoc]
theorem keys3_len (l m n : List Ent) : (keys3 l m n).length ≤ l.length + m.length + n.length := by
  have := (keysOf_spec ((l ++ m ++ n).map Prod.fst)).2.1
  unfold keys3
  simp at this ⊢; omega

/-- A valid list out of the first entries of a raw one. -/
def listE (raw : List Ent) (most : Nat) : List Ent := (raw.take most).foldl insE []

theorem listE_spec (raw : List Ent) (most : Nat) : Asc (listE raw most) ∧ (listE raw most).length ≤ most := by
  unfold listE
  have h1 : (raw.take most).length ≤ most := List.length_take_le _ _
  generalize raw.take most = xs at h1
  have : ∀ (xs acc : List Ent), Asc acc → Asc (xs.foldl insE acc) ∧ (xs.foldl insE acc).length ≤ acc.length + xs.length := by
    intro xs
    induction xs with
    | nil => intro acc h; exact ⟨h, by simp⟩
    | cons x t ih =>
      intro acc h
      have := ih _ (insE_asc x h)
      have h2 := insE_len acc x
      exact ⟨this.1, by simp only [List.foldl_cons, List.length_cons]; omega⟩
  have := this xs [] Srt.nil
  exact ⟨this.1, by simp at this; omega⟩

end Go.Proofs.Ytmjnoiajenoinaa
end
section
/- The reference's lists: what their functions answer. -/
namespace Go.Proofs.Ytmjnoiajenoinaa.Sx
open Go

theorem wrap_in {x : Int} (h0 : -9223372036854775808 ≤ x) (h1 : x ≤ 9223372036854775807) : IntKind.i64.wrap x = x := by
  rw [IntKind.wrap_i64]; omega
def iA (p : List Int) (n : Nat) : Int := p.getD n 0
theorem iA_get {p : List Int} {n : Nat} (h : n < p.length) : p[n]? = some (iA p n) := by simp [iA, List.getD_eq_getElem?_getD, List.getElem?_eq_getElem h]
theorem drop_eq_iff {α : Type} {l m : List α} {k : Nat} {x y : α} (hl : l[k]? = some x) (hm : m[k]? = some y) : (l.drop k = m.drop k) ↔ x = y ∧ l.drop (k + 1) = m.drop (k + 1) := by
  rw [drop_cons hl, drop_cons hm, List.cons.injEq]
theorem ent_eqB (x y : Ent) : (x.1 == y.1 && (x.2 == y.2 && true)) = decide (x = y) := by
  cases x; cases y; simp [Bool.decide_and, Prod.mk.injEq]; rfl
theorem int_neB (x y : Int) : (x != y) = !decide (x = y) := rfl
def sameB {α : Type} [DecidableEq α] (l m : List α) : Bool := decide (l = m)
structure XS {α : Type} [DecidableEq α] (l m : List α) where
  i : Nat
  h : i ≤ l.length ∧ l.length = m.length ∧ sameB l m = decide (l.drop i = m.drop i)
theorem XS.stop {α : Type} [DecidableEq α] {l m : List α} (z : XS l m) {x y : α} (hx : l[z.i]? = some x) (hy : m[z.i]? = some y) (hne : x ≠ y) : sameB l m = false := by
  rw [z.h.2.2]; apply decide_eq_false; rw [drop_eq_iff hx hy]; exact fun h => hne h.1
theorem XS.next {α : Type} [DecidableEq α] {l m : List α} (z : XS l m) {x y : α} (hx : l[z.i]? = some x) (hy : m[z.i]? = some y) (he : x = y) : ∃ z' : XS l m, z'.i = z.i + 1 := by
  have h1 := (List.getElem?_eq_some_iff.1 hx).1
  refine ⟨⟨z.i + 1, by omega, z.h.2.1, ?_⟩, rfl⟩
  rw [z.h.2.2]
  apply decide_eq_decide.2
  rw [drop_eq_iff hx hy]
  exact ⟨fun h => h.2, fun h => ⟨he, h⟩⟩
theorem XS.fin {α : Type} [DecidableEq α] {l m : List α} (z : XS l m) (h : z.i = l.length) : sameB l m = true := by
  rw [z.h.2.2, h, List.drop_length, z.h.2.1, List.drop_length]; rfl
noncomputable def aSame (e : EC) {α : Type} [DecidableEq α] (l m : List α) (L M : List (C0.α e)) : Ann C0 := { Γ := [], inv := fun n => match n with
  | 4 => some { X := XS l m, sl := [5], tf := fun x => [vi .i64 x.i], hf := fun _ => [.row false e L, .row false e M], μ := fun x => l.length - x.i }
  | _ => none }
def tSame_ent : Tfm C0 := fun args H K => match args, H with
  | [.at (.slc 0), .at (.slc 1)], [.row false .ent l, .row false .ent m] => K (.one (.at (vB (sameB (α := Ent) l m)))) [.row false EC.ent l, .row false EC.ent m] []
  | _, _ => False
theorem vc_same9 (l m : List Ent) (K : KT) (hmax : l.length ≤ 9223372036854775807) (h : K (.one (.at (vB (sameB l m)))) [.row false EC.ent l, .row false EC.ent m] []) :
    vc C0 (aSame EC.ent l m l m) Try.f47 [.at (.slc 0), .at (.slc 1)] [.row false EC.ent l, .row false EC.ent m] (normK 2 K) := by
  refine Eq.mp (show (brS ((↑l.length : Int) != (↑m.length : Int)) ((K (SV.one (TV.at (At.val (Value.bool false)))) [(Chunk.row false (EC.ent) (l)), (Chunk.row false (EC.ent) (m))] [])) (((∃ x : XS l m, (True ∧ (True ∧ True ∧ ((Value.int IntKind.i64 0) = (Value.int IntKind.i64 ((↑x.i : Int)))) ∧ True) ∧ ((l) = (l)) ∧ ((m) = (m)) ∧ True)) ∧ (∀ x : XS l m, (True → (brS (decide ((↑x.i : Int) < (↑l.length : Int))) (((0 ≤ (↑x.i : Int)) ∧ ((↑x.i : Int) < (↑l.length : Int)) ∧ (0 ≤ (↑x.i : Int)) ∧ ((↑x.i : Int) < (↑m.length : Int)) ∧ (brS (!((eA l x.i).fst == (eA m x.i).fst && ((eA l x.i).snd == (eA m x.i).snd && true))) ((K (SV.one (TV.at (At.val (Value.bool false)))) [(Chunk.row false (EC.ent) (l)), (Chunk.row false (EC.ent) (m))] [])) ((∃ x' : XS l m, (True ∧ ((True ∧ True ∧ ((Value.int IntKind.i64 (IntKind.i64.wrap ((↑x.i : Int) + 1))) = (Value.int IntKind.i64 ((↑x'.i : Int)))) ∧ True) ∧ ((l) = (l)) ∧ ((m) = (m)) ∧ True) ∧ (l.length - x'.i < l.length - x.i))))))) ((K (SV.one (TV.at (At.val (Value.bool true)))) [(Chunk.row false (EC.ent) (l)), (Chunk.row false (EC.ent) (m))] [])))))))) = _ by kernel_rfl) ?_
  refine brS_of (fun hl => ?_) fun hl => ⟨⟨⟨0, Nat.zero_le _, by simp at hl; omega, rfl⟩, by simp⟩, fun x _ => brS_of (fun hi => ?_) fun hi => ?_⟩
  · have e : sameB l m = false := by
      apply decide_eq_false
      intro e
      subst e
      simp at hl
    rw [e] at h; exact h
  · have hi : x.i < l.length := by simpa using hi
    have hl := x.h.2.1
    have h1 := eA_get hi
    have h2 := eA_get (p := m) (n := x.i) (by omega)
    simp only [ent_eqB]
    refine ⟨by omega, by omega, by omega, by omega, brS_of (fun hd => ?_) fun hd => ?_⟩
    · have e := x.stop h1 h2 (by simpa using hd)
      rw [e] at h; exact h
    · obtain ⟨z, hz⟩ := x.next h1 h2 (by simpa using hd)
      refine ⟨z, trivial, ?_, ?_⟩
      · rw [wrap_in (by omega) (by omega), hz]; simp
      · show l.length - z.i < l.length - x.i
        omega
  · have hi : x.i = l.length := by have := x.h.1; simp at hi; omega
    have e := x.fin hi
    rw [e] at h; exact h
theorem s_same9 : SoundT C0 47 tSame_ent := by
  refine .of Try.func47 (by decide) rfl fun args H K h hB => ?_
  unfold tSame_ent at h
  split at h <;> try exact h.elim
  rename_i l m
  exact ⟨aSame EC.ent (α := Ent) l m l m, trivial, vc_same9 l m K (hB 0 _ _ _ rfl) h⟩
def tSame_i64 : Tfm C0 := fun args H K => match args, H with
  | [.at (.slc 0), .at (.slc 1)], [.row false .i64 l, .row false .i64 m] => K (.one (.at (vB (sameB (α := Int) l m)))) [.row false EC.i64 l, .row false EC.i64 m] []
  | _, _ => False
theorem vc_sameI (l m : List Int) (K : KT) (hmax : l.length ≤ 9223372036854775807) (h : K (.one (.at (vB (sameB l m)))) [.row false EC.i64 l, .row false EC.i64 m] []) :
    vc C0 (aSame EC.i64 l m l m) Try.f46 [.at (.slc 0), .at (.slc 1)] [.row false EC.i64 l, .row false EC.i64 m] (normK 2 K) := by
  refine Eq.mp (show (brS ((↑l.length : Int) != (↑m.length : Int)) ((K (SV.one (TV.at (At.val (Value.bool false)))) [(Chunk.row false (EC.i64) (l)), (Chunk.row false (EC.i64) (m))] [])) (((∃ x : XS l m, (True ∧ (True ∧ True ∧ ((Value.int IntKind.i64 0) = (Value.int IntKind.i64 ((↑x.i : Int)))) ∧ True) ∧ ((l) = (l)) ∧ ((m) = (m)) ∧ True)) ∧ (∀ x : XS l m, (True → (brS (decide ((↑x.i : Int) < (↑l.length : Int))) (((0 ≤ (↑x.i : Int)) ∧ ((↑x.i : Int) < (↑l.length : Int)) ∧ (0 ≤ (↑x.i : Int)) ∧ ((↑x.i : Int) < (↑m.length : Int)) ∧ (brS (iA l x.i != iA m x.i) ((K (SV.one (TV.at (At.val (Value.bool false)))) [(Chunk.row false (EC.i64) (l)), (Chunk.row false (EC.i64) (m))] [])) ((∃ x' : XS l m, (True ∧ ((True ∧ True ∧ ((Value.int IntKind.i64 (IntKind.i64.wrap ((↑x.i : Int) + 1))) = (Value.int IntKind.i64 ((↑x'.i : Int)))) ∧ True) ∧ ((l) = (l)) ∧ ((m) = (m)) ∧ True) ∧ (l.length - x'.i < l.length - x.i))))))) ((K (SV.one (TV.at (At.val (Value.bool true)))) [(Chunk.row false (EC.i64) (l)), (Chunk.row false (EC.i64) (m))] [])))))))) = _ by kernel_rfl) ?_
  refine brS_of (fun hl => ?_) fun hl => ⟨⟨⟨0, Nat.zero_le _, by simp at hl; omega, rfl⟩, by simp⟩, fun x _ => brS_of (fun hi => ?_) fun hi => ?_⟩
  · have e : sameB l m = false := by
      apply decide_eq_false
      intro e
      subst e
      simp at hl
    rw [e] at h; exact h
  · have hi : x.i < l.length := by simpa using hi
    have hl := x.h.2.1
    have h1 := iA_get hi
    have h2 := iA_get (p := m) (n := x.i) (by omega)
    simp only [int_neB]
    refine ⟨by omega, by omega, by omega, by omega, brS_of (fun hd => ?_) fun hd => ?_⟩
    · have e := x.stop h1 h2 (by simpa using hd)
      rw [e] at h; exact h
    · obtain ⟨z, hz⟩ := x.next h1 h2 (by simpa using hd)
      refine ⟨z, trivial, ?_, ?_⟩
      · rw [wrap_in (by omega) (by omega), hz]; simp
      · show l.length - z.i < l.length - x.i
        omega
  · have hi : x.i = l.length := by have := x.h.1; simp at hi; omega
    have e := x.fin hi
    rw [e] at h; exact h
theorem s_sameI : SoundT C0 46 tSame_i64 := by
  refine .of Try.func46 (by decide) rfl fun args H K h hB => ?_
  unfold tSame_i64 at h
  split at h <;> try exact h.elim
  rename_i l m
  exact ⟨aSame EC.i64 (α := Int) l m l m, trivial, vc_sameI l m K (hB 0 _ _ _ rfl) h⟩
theorem asc_step {l : List Ent} {k : Nat} {x y : Ent} (hx : l[k]? = some x) (hy : l[k + 1]? = some y) : Asc (l.drop k) ↔ x.1 < y.1 ∧ Asc (l.drop (k + 1)) := by
  rw [drop_cons hx, drop_cons hy]
  constructor
  · intro h; exact ⟨h.head _ (by simp), h.tail⟩
  · rintro ⟨h1, h2⟩
    refine h2.cons fun z hz => ?_
    rcases List.mem_cons.1 hz with rfl | hz
    · exact h1
    · have := h2.head z hz; omega
structure XA (l : List Ent) where
  i : Nat
  h : 1 ≤ i ∧ (i ≤ l.length ∨ i = 1) ∧ (Asc l ↔ Asc (l.drop (i - 1)))
theorem XA.split {l : List Ent} (z : XA l) (hi : z.i < l.length) : (ascB l = true ↔ (eA l (z.i - 1)).1 < (eA l z.i).1 ∧ Asc (l.drop z.i)) := by
  obtain ⟨k, hk⟩ : ∃ k, z.i = k + 1 := ⟨z.i - 1, by have := z.h.1; omega⟩
  have h1 := eA_get (p := l) (n := k) (by omega)
  have h2 := eA_get (p := l) (n := k + 1) (by omega)
  have h3 := asc_step h1 h2
  have h4 := z.h.2.2
  rw [hk] at h4 ⊢
  simp only [Nat.add_sub_cancel] at h4 ⊢
  rw [ascB, decide_eq_true_eq, h4, h3]
theorem XA.fin {l : List Ent} (z : XA l) (hi : l.length ≤ z.i) : ascB l = true := by
  rw [ascB, decide_eq_true_eq, z.h.2.2]
  have : (l.drop (z.i - 1)).length ≤ 1 := by simp; omega
  match l.drop (z.i - 1), this with
  | [], _ => exact Srt.nil
  | [x], _ => exact Srt.nil.cons (by simp)
structure XGet (l : List Ent) (q : Int) where
  i : Nat
  h : i ≤ l.length ∧ getE l q = getE (l.drop i) q
structure XOut (l : List Ent) (lo hi : Int) where
  i : Nat
  h : i ≤ l.length
structure XIns (l : List Ent) (e : Ent) where
  i : Nat
  acc : List Ent
  put : Bool
  h : i ≤ l.length ∧ acc.length ≤ i + put.toNat ∧ insE l e = acc ++ insGo e put (l.drop i)
noncomputable def aIns (l : List Ent) (e : Ent) : Ann C0 := { Γ := [], inv := fun n => match n with
  | 4 => some { X := XIns l e, sl := [7, 6, 5, 3], tf := fun x => [vi .i64 x.i, vb x.put, .one (.at (.slc 2)), .one (.at (.ptr 1 0))], hf := fun x => [.row false EC.ent l, .box [vI e.1, vI e.2], .row true EC.ent x.acc], μ := fun x => l.length - x.i }
  | _ => none }
def tIns : Tfm C0 := fun args H K => match args, H with
  | [.at (.slc 0), .agg [.val (.int .i64 k), .val (.int .i64 v)]], [.row false .ent l] => l.length ≤ 1000000 ∧ K (.one (.at (.slc 1))) [.row false EC.ent l, .row true EC.ent (insE l (k, v))] []
  | _, _ => False
theorem insGo_step {e x : Ent} {put : Bool} {l : List Ent} {i : Nat} (h : l[i]? = some x) : insGo e put (l.drop i) = (if !put && decide (e.1 ≤ x.1) then [e] else []) ++ ((if x.1 = e.1 then [] else [x]) ++ insGo e (put || decide (e.1 ≤ x.1)) (l.drop (i + 1))) := by
  rw [drop_cons h, insGo]
theorem XIns.next {l : List Ent} {e : Ent} (z : XIns l e) {x : Ent} (hx : l[z.i]? = some x) {put' : Bool} {acc' : List Ent} (hp : put' = (z.put || decide (e.1 ≤ x.1)))
    (ha : acc' = z.acc ++ ((if !z.put && decide (e.1 ≤ x.1) then [e] else []) ++ (if x.1 = e.1 then [] else [x]))) : ∃ z' : XIns l e, z'.i = z.i + 1 ∧ z'.put = put' ∧ z'.acc = acc' := by
  have h1 := (List.getElem?_eq_some_iff.1 hx).1
  obtain ⟨hi, hl, he⟩ := z.h
  rw [insGo_step hx] at he
  refine ⟨⟨z.i + 1, acc', put', by omega, ?_, ?_⟩, rfl, rfl, rfl⟩
  · subst hp ha
    have h2 : (if x.1 = e.1 then ([] : List Ent) else [x]).length ≤ 1 := by split <;> simp
    cases hz : z.put <;> rw [hz] at hl <;> by_cases hc : e.1 ≤ x.1 <;> simp [hc] at hl ⊢ <;> omega
  · subst hp ha
    rw [he]; simp only [List.append_assoc]
theorem XIns.fin {l : List Ent} {e : Ent} (z : XIns l e) (h : z.i = l.length) : insE l e = z.acc ++ (if z.put then [] else [e]) := by
  rw [z.h.2.2, h, List.drop_length]; rfl
theorem vc_ins (l : List Ent) (k v : Int) (K : KT) (hsm : l.length ≤ 1000000) (h : K (.one (.at (.slc 1))) [.row false EC.ent l, .row true EC.ent (insE l (k, v))] []) :
    vc C0 (aIns l (k, v)) Try.f33 [.at (.slc 0), .agg [.val (.int .i64 k), .val (.int .i64 v)]] [.row false EC.ent l] (normK 1 K) := by
  refine Eq.mp (show ((∃ x : XIns l (k, v), (True ∧ (True ∧ True ∧ True ∧ ((Value.bool false) = (Value.bool (x.put))) ∧ ((Value.int IntKind.i64 0) = (Value.int IntKind.i64 ((↑x.i : Int)))) ∧ True) ∧ ((l) = (l)) ∧ (((Value.int IntKind.i64 (k)) = (Value.int IntKind.i64 (k))) ∧ ((Value.int IntKind.i64 (v)) = (Value.int IntKind.i64 (v))) ∧ True) ∧ ([] = (x.acc)) ∧ True)) ∧
(∀ x : XIns l (k, v), (True → (brS (decide ((↑x.i : Int) < (↑l.length : Int))) ((brS (!x.put) (((0 ≤ (↑x.i : Int)) ∧ ((↑x.i : Int) < (↑l.length : Int)) ∧ (brS (decide ((eA l x.i).fst ≥ k)) ((((x.acc.length + [(k, v)].length) * bytesOf C0 EC.ent ≤ 140737488355328) ∧ (0 ≤ (↑x.i : Int)) ∧ ((↑x.i : Int) < (↑l.length : Int)) ∧ (brS ((eA l x.i).fst != k) (((0 ≤ (↑x.i : Int)) ∧ ((↑x.i : Int) < (↑l.length : Int)) ∧ (((x.acc ++ [(k, v)]).length + [((eA l x.i).fst, (eA l x.i).snd)].length) * bytesOf C0 EC.ent ≤ 140737488355328) ∧ (∃ x' : XIns l (k, v), (True ∧ ((True ∧ True ∧ True ∧ ((Value.bool true) = (Value.bool (x'.put))) ∧ ((Value.int IntKind.i64 (IntKind.i64.wrap ((↑x.i : Int) + 1))) = (Value.int IntKind.i64 ((↑x'.i : Int)))) ∧ True) ∧ ((l) = (l)) ∧ (((Value.int IntKind.i64 (k)) = (Value.int IntKind.i64 (k))) ∧ ((Value.int IntKind.i64 (v)) = (Value.int IntKind.i64 (v))) ∧ True) ∧ ((x.acc ++ [(k, v)] ++ [((eA l x.i).fst, (eA l x.i).snd)]) = (x'.acc)) ∧ True) ∧ (l.length - x'.i < l.length - x.i))))) ((∃ x' : XIns l (k, v), (True ∧ ((True ∧ True ∧ True ∧ ((Value.bool true) = (Value.bool (x'.put))) ∧
    ((Value.int IntKind.i64 (IntKind.i64.wrap ((↑x.i : Int) + 1))) = (Value.int IntKind.i64 ((↑x'.i : Int)))) ∧ True) ∧ ((l) = (l)) ∧ (((Value.int IntKind.i64 (k)) = (Value.int IntKind.i64 (k))) ∧ ((Value.int IntKind.i64 (v)) = (Value.int IntKind.i64 (v))) ∧ True) ∧ ((x.acc ++ [(k, v)]) = (x'.acc)) ∧ True) ∧ (l.length - x'.i < l.length - x.i))))))) (((0 ≤ (↑x.i : Int)) ∧ ((↑x.i : Int) < (↑l.length : Int)) ∧ (brS ((eA l x.i).fst != k) (((0 ≤ (↑x.i : Int)) ∧ ((↑x.i : Int) < (↑l.length : Int)) ∧ ((x.acc.length + [((eA l x.i).fst, (eA l x.i).snd)].length) * bytesOf C0 EC.ent ≤ 140737488355328) ∧ (∃ x' : XIns l (k, v), (True ∧ ((True ∧ True ∧ True ∧ ((Value.bool (x.put)) = (Value.bool (x'.put))) ∧ ((Value.int IntKind.i64 (IntKind.i64.wrap ((↑x.i : Int) + 1))) = (Value.int IntKind.i64 ((↑x'.i : Int)))) ∧ True) ∧ ((l) = (l)) ∧ (((Value.int IntKind.i64 (k)) = (Value.int IntKind.i64 (k))) ∧ ((Value.int IntKind.i64 (v)) = (Value.int IntKind.i64 (v))) ∧ True) ∧ ((x.acc ++ [((eA l x.i).fst, (eA l x.i).snd)]) = (x'.acc)) ∧ True) ∧ (l.length - x'.i < l.length - x.i))))) ((∃ x' : XIns l (k, v), (True ∧ ((True ∧ True ∧ True ∧ ((Value.bool (x.put)) = (Value.bool (x'.put))) ∧ ((Value.int IntKind.i64 (IntKind.i64.wrap ((↑x.i : Int) + 1))) = (Value.int IntKind.i64 ((↑x'.i : Int)))) ∧ True) ∧ ((l) = (l)) ∧ (((Value.int IntKind.i64 (k)) = (Value.int IntKind.i64 (k))) ∧ ((Value.int IntKind.i64 (v)) = (Value.int IntKind.i64 (v))) ∧ True) ∧ ((x.acc) = (x'.acc)) ∧ True) ∧
    (l.length - x'.i < l.length - x.i)))))))))) (((0 ≤ (↑x.i : Int)) ∧ ((↑x.i : Int) < (↑l.length : Int)) ∧ (brS ((eA l x.i).fst != k) (((0 ≤ (↑x.i : Int)) ∧ ((↑x.i : Int) < (↑l.length : Int)) ∧ ((x.acc.length + [((eA l x.i).fst, (eA l x.i).snd)].length) * bytesOf C0 EC.ent ≤ 140737488355328) ∧ (∃ x' : XIns l (k, v), (True ∧ ((True ∧ True ∧ True ∧ ((Value.bool (x.put)) = (Value.bool (x'.put))) ∧ ((Value.int IntKind.i64 (IntKind.i64.wrap ((↑x.i : Int) + 1))) = (Value.int IntKind.i64 ((↑x'.i : Int)))) ∧ True) ∧ ((l) = (l)) ∧ (((Value.int IntKind.i64 (k)) = (Value.int IntKind.i64 (k))) ∧ ((Value.int IntKind.i64 (v)) = (Value.int IntKind.i64 (v))) ∧ True) ∧ ((x.acc ++ [((eA l x.i).fst, (eA l x.i).snd)]) = (x'.acc)) ∧ True) ∧ (l.length - x'.i < l.length - x.i))))) ((∃ x' : XIns l (k, v), (True ∧ ((True ∧ True ∧ True ∧ ((Value.bool (x.put)) = (Value.bool (x'.put))) ∧ ((Value.int IntKind.i64 (IntKind.i64.wrap ((↑x.i : Int) + 1))) = (Value.int IntKind.i64 ((↑x'.i : Int)))) ∧ True) ∧ ((l) = (l)) ∧ (((Value.int IntKind.i64 (k)) = (Value.int IntKind.i64 (k))) ∧ ((Value.int IntKind.i64 (v)) = (Value.int IntKind.i64 (v))) ∧ True) ∧ ((x.acc) = (x'.acc)) ∧ True) ∧ (l.length - x'.i < l.length - x.i))))))))) ((brS (!x.put) ((((x.acc.length + [(k, v)].length) * bytesOf C0 EC.ent ≤ 140737488355328) ∧ (K (SV.one (TV.at (At.slc 1))) [(Chunk.row false (EC.ent) (l)), (Chunk.row true (EC.ent) (x.acc ++ [(k, v)]))] [])))
    ((K (SV.one (TV.at (At.slc 1))) [(Chunk.row false (EC.ent) (l)), (Chunk.row true (EC.ent) (x.acc))] [])))))))) = _ by kernel_rfl) ?_
  refine ⟨⟨⟨0, [], false, Nat.zero_le _, by simp, by simp⟩, by simp⟩, fun x _ => brS_of (fun hi => ?_) fun hi => ?_⟩
  · have hi : x.i < l.length := by simpa using hi
    have hx := eA_get hi
    have hlen := x.h.2.1
    have hpt : x.put.toNat ≤ 1 := by cases x.put <;> decide
    have w1 : IntKind.i64.wrap ((x.i : Int) + 1) = ((x.i + 1 : Nat) : Int) := by rw [wrap_in (by omega) (by omega)]; simp
    simp only [w1, bytes_ent]
    have go : ∀ (put' : Bool) (acc' : List Ent), put' = (x.put || decide (k ≤ (eA l x.i).1)) → acc' = x.acc ++ ((if !x.put && decide (k ≤ (eA l x.i).1) then [(k, v)] else []) ++ (if (eA l x.i).1 = k then [] else [eA l x.i])) →
        ∃ z' : XIns l (k, v), z'.i = x.i + 1 ∧ z'.put = put' ∧ z'.acc = acc' := fun put' acc' hp ha => x.next hx hp ha
    refine brS_of (fun hp => ⟨by omega, by omega, brS_of (fun hc => ⟨?_, by omega, by omega, brS_of (fun hn => ⟨by omega, by omega, ?_, ?_⟩) fun hn => ?_⟩) fun hc => ⟨by omega, by omega, brS_of (fun hn => ⟨by omega, by omega, ?_, ?_⟩) fun hn => ?_⟩⟩) fun hp => ⟨by omega, by omega, brS_of (fun hn => ⟨by omega, by omega, ?_, ?_⟩) fun hn => ?_⟩
    all_goals try simp only [decide_eq_true_eq, decide_eq_false_iff_not, bne_iff_ne, ne_eq, Bool.not_eq_true', Bool.not_eq_false', bne_eq_false_iff_eq, ge_iff_le] at *
    all_goals first
      | (simp; omega)
      | (obtain ⟨z', e1, e2, e3⟩ := go _ _ rfl rfl
         refine ⟨z', ?_⟩
         simp [*]
         omega)
  · have hi : x.i = l.length := by have := x.h.1; simp at hi; omega
    have hf := x.fin hi
    have hlen := x.h.2.1
    have hpt : x.put.toNat ≤ 1 := by cases x.put <;> decide
    refine brS_of (fun hp => ⟨?_, ?_⟩) fun hp => ?_
    · simp [bytes_ent]; omega
    · simp at hp; rw [hp] at hf; simp at hf; rw [hf] at h; exact h
    · simp at hp; rw [hp] at hf; simp at hf; rw [hf] at h; exact h
theorem s_ins : SoundT C0 33 tIns := by
  refine .of Try.func33 (by decide) rfl fun args H K h hB => ?_
  unfold tIns at h
  split at h <;> try exact h.elim
  rename_i k v l
  exact ⟨aIns l (k, v), trivial, vc_ins l k v K h.1 h.2⟩
structure XLst (l : List Ent) (most : Int) where
  i : Nat
  h : i ≤ l.length ∧ (i : Int) ≤ most
noncomputable def aLst (l : List Ent) (most : Int) : Ann C0 := { Γ := [(33, frameT [] tIns)], inv := fun n => match n with
  | 3 => some { X := XLst l most, sl := [6, 5], tf := fun x => [vi .i64 x.i, .one (.at (.slc 1))], hf := fun x => [.row false EC.ent l, .row true EC.ent (listE l x.i)], μ := fun x => l.length - x.i }
  | _ => none }
def tLst : Tfm C0 := fun args H K => match args, H with
  | [.at (.slc 0), .at (.val (.int .i64 most))], [.row false .ent l] => 0 ≤ most ∧ most ≤ 1000000 ∧ K (.one (.at (.slc 1))) [.row false EC.ent l, .row true EC.ent (listE l most.toNat)] []
  | _, _ => False
theorem listE_snoc {l : List Ent} {i : Nat} {x : Ent} (h : l[i]? = some x) : listE l (i + 1) = insE (listE l i) x := by
  unfold listE
  rw [take_snoc h]
  simp
theorem listE_full {l : List Ent} {n : Nat} (h : l.length ≤ n) : listE l n = listE l l.length := by
  unfold listE
  rw [List.take_of_length_le h, List.take_of_length_le (Nat.le_refl _)]
theorem vc_lst (l : List Ent) (most : Int) (K : KT) (hmax : l.length ≤ 9223372036854775807) (h0 : 0 ≤ most) (h1 : most ≤ 1000000) (h : K (.one (.at (.slc 1))) [.row false EC.ent l, .row true EC.ent (listE l most.toNat)] []) :
    vc C0 (aLst l most) Try.f36 [.at (.slc 0), .at (.val (.int .i64 most))] [.row false EC.ent l] (normK 1 K) := by
  refine Eq.mp (show ((∃ x : XLst l most, (True ∧ (True ∧ ((Value.int IntKind.i64 (most)) = (Value.int IntKind.i64 (most))) ∧ True ∧ ((Value.int IntKind.i64 0) = (Value.int IntKind.i64 ((↑x.i : Int)))) ∧ True) ∧ ((l) = (l)) ∧ ([] = (listE l x.i)) ∧ True)) ∧
(∀ x : XLst l most, (True → (brS (decide ((↑x.i : Int) < (↑l.length : Int))) ((brS (decide ((↑x.i : Int) < most)) (((0 ≤ (↑x.i : Int)) ∧ ((↑x.i : Int) < (↑l.length : Int)) ∧ ((listE l x.i).length ≤ 1000000) ∧ (∃ x' : XLst l most, (True ∧ ((True ∧ ((Value.int IntKind.i64 (most)) = (Value.int IntKind.i64 (most))) ∧ True ∧ ((Value.int IntKind.i64 (IntKind.i64.wrap ((↑x.i : Int) + 1))) = (Value.int IntKind.i64 ((↑x'.i : Int)))) ∧ True) ∧ ((l) = (l)) ∧ ((insE (listE l x.i) ((eA l x.i).fst, (eA l x.i).snd)) = (listE l x'.i)) ∧ True) ∧ (l.length - x'.i < l.length - x.i))))) ((K (SV.one (TV.at (At.slc 1))) [(Chunk.row false (EC.ent) (l)), (Chunk.row true (EC.ent) (listE l x.i))] [])))) ((K (SV.one (TV.at (At.slc 1))) [(Chunk.row false (EC.ent) (l)), (Chunk.row true (EC.ent) (listE l x.i))] [])))))) = _ by kernel_rfl) ?_
  refine ⟨⟨⟨0, Nat.zero_le _, h0⟩, by simp [listE]⟩, fun x _ => brS_of (fun hi => brS_of (fun hm => ?_) fun hm => ?_) fun hi => ?_⟩
  · have hi : x.i < l.length := by simpa using hi
    have hm : (x.i : Int) < most := by simpa using hm
    have hs := listE_snoc (eA_get hi)
    have hlen := (listE_spec l x.i).2
    have w1 : IntKind.i64.wrap ((x.i : Int) + 1) = ((x.i + 1 : Nat) : Int) := by rw [wrap_in (by omega) (by omega)]; simp
    simp only [w1]
    refine ⟨by omega, by omega, by omega, ⟨x.i + 1, by omega, by omega⟩, ?_⟩
    simp [hs]; omega
  · have e : most.toNat = x.i := by have := x.h.2; simp at hm; omega
    rw [e] at h; exact h
  · have hi : x.i = l.length := by have := x.h.1; simp at hi; omega
    have := x.h.2
    rw [listE_full (n := most.toNat) (by omega), ← hi] at h; exact h
theorem s_lst : SoundT C0 36 tLst := by
  refine .of Try.func36 (by decide) rfl fun args H K h hB => ?_
  unfold tLst at h
  split at h <;> try exact h.elim
  rename_i most l
  exact ⟨aLst l most, ⟨frame C0.ok s_ins _, trivial⟩, vc_lst l most K (hB 0 _ _ _ rfl) h.1 h.2.1 h.2.2⟩
def tMod : Tfm C0 := fun args H K => match args, H with
  | [.at (.val (.int .i64 k)), .at (.val (.int .i64 n))], [] => 0 < n ∧ n ≤ 9223372036854775807 ∧ ∀ x, x = k % n → K (.one (.at (vI x))) [] []
  | _, _ => False
theorem s_mod : SoundT C0 10 tMod := by
  refine .of Try.func10 (by decide) rfl fun args H K h hB => ⟨A0, trivial, ?_⟩
  unfold tMod at h
  split at h <;> try exact h.elim
  rename_i k n
  obtain ⟨h0, h1, h⟩ := h
  have h := h _ rfl
  refine Eq.mp (show ((n ≠ 0) ∧
(brS (decide (k.tmod n < 0)) ((K (SV.one (TV.at (At.val (Value.int IntKind.i64 (IntKind.i64.wrap (k.tmod n + n)))))) [] [])) ((K (SV.one (TV.at (At.val (Value.int IntKind.i64 (k.tmod n))))) [] [])))) = _ by kernel_rfl) ⟨by omega, brS_of (fun e => ?_) fun e => ?_⟩
  all_goals simp only [decide_eq_true_eq, decide_eq_false_iff_not] at e
  · have e1 : k.tmod n + n = k % n := by
      rw [Int.tmod_eq_emod] at e ⊢
      split at e <;> rename_i hc
      · have := Int.emod_nonneg k (show n ≠ 0 by omega); omega
      · rw [if_neg hc]
        have : (n.natAbs : Int) = n := by omega
        omega
    have h2 := Int.emod_nonneg k (show n ≠ 0 by omega)
    have h3 := Int.emod_lt_of_pos k h0
    rw [e1, wrap_in (by omega) (by omega)]; exact h
  · have e1 : k.tmod n = k % n := by
      rw [Int.tmod_eq_emod] at e ⊢
      split at e <;> rename_i hc
      · rw [if_pos hc]; omega
      · have h3 := Int.emod_lt_of_pos k h0
        have : (n.natAbs : Int) = n := by omega
        omega
    rw [e1]; exact h
structure XN (n : Nat) where
  i : Nat
  h : i ≤ n
set_option maxHeartbeats 1000000 in
structure XU (l m : List Ent) (p : Int) where
  i : Nat
  h : i ≤ m.length
def difD (k : Int) (a b : Option Int) : List Chg := match a with
  | none => [⟨1, k, 0, b.getD 0⟩]
  | some v => match b with
    | none => [⟨2, k, v, 0⟩]
    | some w => if v = w then [] else [⟨3, k, v, w⟩]
def dif1 (l m : List Ent) (k : Int) : List Chg := difD k (getE l k) (getE m k)
def difE (l m : List Ent) : List Chg := (keys3 l m []).flatMap (dif1 l m)
theorem dif1_len (l m : List Ent) (k : Int) : (dif1 l m k).length ≤ 1 := by
  unfold dif1 difD; repeat' split
  all_goals simp
theorem flatMap1_len {α β : Type} {f : α → List β} (h : ∀ x, (f x).length ≤ 1) (l : List α) : (l.flatMap f).length ≤ l.length := by
  induction l with
  | nil => simp
  | cons x l ih => have := h x; rw [List.flatMap_cons, List.length_append, List.length_cons]; omega
theorem difE_len (l m : List Ent) : (difE l m).length ≤ l.length + m.length := by
  have h1 := flatMap1_len (dif1_len l m) (keys3 l m [])
  have h2 := keys3_len l m []
  unfold difE
  rw [List.length_nil] at h2
  omega
theorem dif1_mk {l m : List Ent} {k : Int} (h : (getE l k).isSome = true ∨ (getE m k).isSome = true) : dif1 l m k = (mkChg k (getE l k) (getE m k)).toList := by
  unfold dif1 difD
  cases h1 : getE l k <;> cases h2 : getE m k <;> simp_all [mkChg]
  split <;> simp_all
theorem flatMap_congr' {α β : Type} {f g : α → List β} {l : List α} (h : ∀ x ∈ l, f x = g x) : l.flatMap f = l.flatMap g := by
  induction l with
  | nil => rfl
  | cons x l ih => rw [List.flatMap_cons, List.flatMap_cons, h x (by simp), ih fun y hy => h y (by simp [hy])]
theorem difE_btw {l m : List Ent} (hl : Asc l) (hm : Asc m) : difE l m = btw l m := by
  have hk := keys3_srt l m []
  have e : difE l m = (keys3 l m []).flatMap fun k => (mkChg k (getE l k) (getE m k)).toList := by
    unfold difE
    refine flatMap_congr' fun k hk => ?_
    rcases (keys3_mem l m [] k).1 hk with h | h | h
    · exact dif1_mk (.inl h)
    · exact dif1_mk (.inr h)
    · simp [getE] at h
  have hf : ∀ (x : Int) (y : Chg), mkChg x (getE l x) (getE m x) = some y → y.key = id x := fun x y h => (mkChg_some h).1
  refine Srt.ext (key := Chg.key) ?_ (btw_srt hl hm) fun k => ?_
  · rw [e]; exact flatOpt_srt (ka := id) (kb := Chg.key) _ hf hk
  · rw [e, flatOpt_fnd (ka := id) (kb := Chg.key) _ hf hk, btw_fnd hl hm, fnd_id]
    split
    · rfl
    · rename_i hn
      rw [keys3_mem] at hn
      have h1 : getE l k = none := by cases h : getE l k <;> simp_all
      have h2 : getE m k = none := by cases h : getE m k <;> simp_all
      rw [h1, h2]; rfl
structure XDif (l m : List Ent) where
  i : Nat
  h : i ≤ (keys3 l m []).length
theorem wrap_next {i n : Nat} (h1 : i < n) (h2 : n ≤ 1000000) : IntKind.i64.wrap ((i : Int) + 1) = ((i + 1 : Nat) : Int) := by rw [wrap_in (by omega) (by omega)]; simp
end Go.Proofs.Ytmjnoiajenoinaa.Sx
end
