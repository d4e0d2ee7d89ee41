/- A part of the proof. -/
import Derived.Test.YtmjnoiajenoinaaG5
import Derived.Test.YtmjnoiajenoinaaG1
import Derived.Test.YtmjnoiajenoinaaG2
section
/- The arena's functions. -/
namespace Go.Proofs.Ytmjnoiajenoinaa.Sx
open Go

abbrev chS (S : Arn) : List (Chunk C0) := [.box [.ptr 1 0, .slc 2, .slc 3, vU64 S.reads], .box [.slc 4, .slc 5, .slc 6, vU S.fresh], .row true EC.node S.nodes, .row true EC.int S.counts, .row true EC.bool S.used, .row true EC.u32 S.gen, .row true EC.u32 S.rel]
def arM (H : List (Chunk C0)) (k : Arn → Prop) : Prop := match H with
  | [.box [.ptr 1 0, .slc 2, .slc 3, .val (.int .u64 rd)], .box [.slc 4, .slc 5, .slc 6, .val (.int .u32 fr)], .row true .node nd, .row true .int ct, .row true .bool us, .row true .u32 gn, .row true .u32 rl] => k ⟨us, gn, rl, fr, nd, ct, rd⟩
  | _ => False
def arMr (H : List (Chunk C0)) (k : Arn → List (Chunk C0) → Prop) : Prop := match H with
  | .box [.ptr 1 0, .slc 2, .slc 3, .val (.int .u64 rd)] :: .box [.slc 4, .slc 5, .slc 6, .val (.int .u32 fr)] :: .row true .node nd :: .row true .int ct :: .row true .bool us :: .row true .u32 gn :: .row true .u32 rl :: rest => k ⟨us, gn, rl, fr, nd, ct, rd⟩ rest
  | _ => False
abbrev nodeA (n : NodeT) : TV := .agg [vI n.key, vI n.value, vU n.left, vU n.right, vI n.size, vI n.sum, vI n.min, vI n.max]
abbrev W7 : List Nat := [0, 1, 2, 3, 4, 5, 6]
def inU (i : Int) : Prop := 0 ≤ i ∧ i < 4294967296
def exW (S : Arn) : Prop := ∃ hs, Wf S hs
def live (S : Arn) (i : Int) : Prop := i = 0 ∨ S.us i = true

noncomputable def aFree : Ann C0 := { Γ := [(62, frameT [] tSlFree)] }
def tFree : Tfm C0 := fun args H K => match args with
  | [.at (.ptr 0 0)] => arM H fun S => exW S ∧ K (.one (.at (vI S.free))) (chS S) []
  | _ => False
noncomputable def aCap : Ann C0 := { Γ := [(79, frameT [] tSlCap)] }
def tCap : Tfm C0 := fun args H K => match args with
  | [.at (.ptr 0 0)] => arM H fun S => exW S ∧ K (.one (.at (vI S.cap))) (chS S) []
  | _ => False
def tReads : Tfm C0 := fun args H K => match args with
  | [.at (.ptr 0 0)] => arM H fun S => K (.one (.at (vU64 S.reads))) (chS S) []
  | _ => False
noncomputable def aAlc : Ann C0 := { Γ := [(56, frameT [] tSlAllocated)] }
def tNode : Tfm C0 := fun args H K => match args with
  | [.at (.ptr 0 0), .at (.val (.int .u32 i))] => arM H fun S => inU i ∧ exW S ∧ S.reads < 4000000000000000000 ∧ ∀ S', S' = rdS S (S.us i).toNat → K (.tup [nodeA (S.nd i), .at (vB (S.us i))]) (chS S') [0]
  | _ => False
def tSize : Tfm C0 := fun args H K => match args with
  | [.at (.ptr 0 0), .at (.val (.int .u32 i))] => arM H fun S => inU i ∧ exW S ∧ S.reads < 4000000000000000000 ∧ ∀ S', S' = rdS S (S.us i).toNat → K (.one (.at (vI (S.nd i).size))) (chS S') [0]
  | _ => False
def tCount : Tfm C0 := fun args H K => match args with
  | [.at (.ptr 0 0), .at (.val (.int .u32 i))] => arM H fun S => inU i ∧ exW S ∧ K (.one (.at (vI (if S.us i then S.ct i else 0)))) (chS S) []
  | _ => False
noncomputable def aGen : Ann C0 := { Γ := [(112, frameT [] tSlGen)] }
def tGen : Tfm C0 := fun args H K => match args with
  | [.at (.ptr 0 0), .at (.val (.int .u32 i))] => arM H fun S => inU i ∧ exW S ∧ K (.one (.at (vU (S.gn i)))) (chS S) []
  | _ => False
def tRetain : Tfm C0 := fun args H K => match args with
  | [.at (.ptr 0 0), .at (.val (.int .u32 i))] => arM H fun S => inU i ∧ exW S ∧ (i = 0 → K (.one (.at (vI 0))) (chS S) [3]) ∧ (i ≠ 0 → S.us i = false → K (.one (.at (vI 3))) (chS S) [3]) ∧ (S.us i = true → ∀ S', S' = retA S i → K (.one (.at (vI 0))) (chS S') [3])
  | _ => False
def newUs (c : Int) : List Bool := List.replicate (c.toNat + 1) false
def newGn (c : Int) : List Int := List.replicate (c.toNat + 1) 0
noncomputable def aSlNew : Ann C0 := { Γ := [] }
def tSlNew : Tfm C0 := fun args H K => match args, H with
  | [.at (.val (.int .i64 c))], [] => (c < 1 ∨ 65536 < c → K (.tup [.at (.val (.pointer none)), .at (vI 1)]) [] []) ∧ (1 ≤ c → c ≤ 65536 → ∀ (us : List Bool) (gn : List Int), us = newUs c → gn = newGn c → K (.tup [.at (.ptr 0 0), .at (vI 0)]) (slC us gn [] 0) [])
  | _, _ => False
noncomputable def aNew : Ann C0 := { Γ := [(55, frameT [] tSlNew)] }
def tNew : Tfm C0 := fun args H K => match args, H with
  | [.at (.val (.int .i64 c))], [] => (c < 1 ∨ 65536 < c → K (.tup [.at (.val (.pointer none)), .at (vI 1)]) [] []) ∧ (1 ≤ c → c ≤ 65536 → ∀ S, S = newS c.toNat → K (.tup [.at (.ptr 0 0), .at (vI 0)]) (chS S) [])
  | _, _ => False
theorem vc_free (S : Arn) (K : KT) (hw : exW S) (h : K (.one (.at (vI S.free))) (chS S) []) : vc C0 aFree Try.f18 [.at (.ptr 0 0)] (chS S) (normK 7 K) := by
  refine Eq.mp (show ((1 ≤ S.used.length) ∧
(S.used.length ≤ 65537) ∧
(S.rel.length ≤ 65537) ∧
(0 ≤ S.fresh) ∧
(S.fresh ≤ 65537) ∧
(K (SV.one (TV.at (At.val (Value.int IntKind.i64 ((↑S.rel.length : Int) + ((↑S.used.length : Int) - 1) - S.fresh))))) [(Chunk.box [(At.ptr 1 0), (At.slc 2), (At.slc 3), (At.val (Value.int IntKind.u64 (S.reads)))]), (Chunk.box [(At.slc 4), (At.slc 5), (At.slc 6), (At.val (Value.int IntKind.u32 (S.fresh)))]), (Chunk.row true (EC.node) (S.nodes)), (Chunk.row true (EC.int) (S.counts)), (Chunk.row true (EC.bool) (S.used)), (Chunk.row true (EC.u32) (S.gen)), (Chunk.row true (EC.u32) (S.rel))] [])) = _ by kernel_rfl) ?_
  obtain ⟨hs, hw⟩ := hw
  have h1 := hw.n1; have h2 := hw.n2; have h3 := hw.fr; have h4 := hw.free_nonneg
  exact ⟨by omega, by omega, by omega, by omega, by omega, h⟩
theorem s_free : SoundT C0 18 tFree := by
  refine .of Try.func18 (by decide) rfl fun args H K h hB => ?_
  unfold tFree at h
  split at h <;> try exact h.elim
  unfold arM at h
  split at h <;> try exact h.elim
  rename_i rd fr nd ct us gn rl
  exact ⟨aFree, ⟨frame C0.ok s_slFree _, trivial⟩, vc_free ⟨us, gn, rl, fr, nd, ct, rd⟩ K h.1 h.2⟩
theorem wrap_u64 {x : Int} (h1 : 0 ≤ x) (h2 : x < 18446744073709551616) : IntKind.u64.wrap x = x := by
  unfold IntKind.wrap
  simp [IntKind.signed, IntKind.bits]
  omega
theorem vc_node (S : Arn) (i : Int) (K : KT) (hi : inU i) (hw : exW S) (hr : S.reads < 4000000000000000000) (h : ∀ S', S' = rdS S (S.us i).toNat → K (.tup [nodeA (S.nd i), .at (vB (S.us i))]) (chS S') [0]) :
    vc C0 aAlc Try.f60 [.at (.ptr 0 0), .at (vU i)] (chS S) (normK 7 (wideK [0] K)) := by
  refine Eq.mp (show ((0 ≤ i) ∧
(i < 4294967296) ∧
(S.used.length ≤ 65537) ∧
(brS (!S.us i) ((K (SV.tup [(TV.agg [(At.val (Value.int IntKind.i64 0)), (At.val (Value.int IntKind.i64 0)), (At.val (Value.int IntKind.u32 0)), (At.val (Value.int IntKind.u32 0)), (At.val (Value.int IntKind.i64 0)), (At.val (Value.int IntKind.i64 0)), (At.val (Value.int IntKind.i64 0)), (At.val (Value.int IntKind.i64 0))]), (TV.at (At.val (Value.bool false)))]) [(Chunk.box [(At.ptr 1 0), (At.slc 2), (At.slc 3), (At.val (Value.int IntKind.u64 (S.reads)))]), (Chunk.box [(At.slc 4), (At.slc 5), (At.slc 6), (At.val (Value.int IntKind.u32 (S.fresh)))]), (Chunk.row true (EC.node) (S.nodes)), (Chunk.row true (EC.int) (S.counts)), (Chunk.row true (EC.bool) (S.used)), (Chunk.row true (EC.u32) (S.gen)), (Chunk.row true (EC.u32) (S.rel))] [0])) (((0 ≤ i) ∧ (i < (↑S.nodes.length : Int)) ∧
    (K (SV.tup [(TV.agg [(At.val (Value.int IntKind.i64 ((S.nd i).key))), (At.val (Value.int IntKind.i64 ((S.nd i).value))), (At.val (Value.int IntKind.u32 ((S.nd i).left))), (At.val (Value.int IntKind.u32 ((S.nd i).right))), (At.val (Value.int IntKind.i64 ((S.nd i).size))), (At.val (Value.int IntKind.i64 ((S.nd i).sum))), (At.val (Value.int IntKind.i64 ((S.nd i).min))), (At.val (Value.int IntKind.i64 ((S.nd i).max)))]), (TV.at (At.val (Value.bool true)))]) [(Chunk.box [(At.ptr 1 0), (At.slc 2), (At.slc 3), (At.val (Value.int IntKind.u64 (IntKind.u64.wrap (S.reads + 1))))]), (Chunk.box [(At.slc 4), (At.slc 5), (At.slc 6), (At.val (Value.int IntKind.u32 (S.fresh)))]), (Chunk.row true (EC.node) (S.nodes)), (Chunk.row true (EC.int) (S.counts)), (Chunk.row true (EC.bool) (S.used)), (Chunk.row true (EC.u32) (S.gen)), (Chunk.row true (EC.u32) (S.rel))] [0]))))) = _ by kernel_rfl) ?_
  obtain ⟨hs, hw⟩ := hw
  have h2 := hw.n2; have h3 := hw.nnod; have h4 := hw.rds
  rw [wrap_u64 (by omega) (by omega)]
  refine ⟨hi.1, hi.2, by omega, brS_of (fun c => ?_) fun c => ?_⟩
  · have c : S.us i = false := by simpa using c
    have h5 := h _ rfl
    rw [hw.zero i c, c] at h5
    have e : rdS S (false.toNat) = S := by simp [rdS]
    rw [e] at h5
    exact h5
  · have c : S.us i = true := by simpa using c
    have hp := hw.pos c
    have h5 := h _ rfl
    rw [c] at h5
    exact ⟨hi.1, by omega, h5⟩
theorem s_node : SoundT C0 60 tNode := by
  refine .ofW [0] Try.func60 (by decide) rfl fun args H K h hB => ?_
  unfold tNode at h
  split at h <;> try exact h.elim
  unfold arM at h
  split at h <;> try exact h.elim
  rename_i i _ rd fr nd ct us gn rl
  exact ⟨aAlc, ⟨frame C0.ok s_slAllocated _, trivial⟩, vc_node ⟨us, gn, rl, fr, nd, ct, rd⟩ i K h.1 h.2.1 h.2.2.1 h.2.2.2⟩
theorem vc_size (S : Arn) (i : Int) (K : KT) (hi : inU i) (hw : exW S) (hr : S.reads < 4000000000000000000) (h : ∀ S', S' = rdS S (S.us i).toNat → K (.one (.at (vI (S.nd i).size))) (chS S') [0]) :
    vc C0 aAlc Try.f17 [.at (.ptr 0 0), .at (vU i)] (chS S) (normK 7 (wideK [0] K)) := by
  refine Eq.mp (show ((0 ≤ i) ∧
(i < 4294967296) ∧
(S.used.length ≤ 65537) ∧
(brS (!S.us i) ((K (SV.one (TV.at (At.val (Value.int IntKind.i64 0)))) [(Chunk.box [(At.ptr 1 0), (At.slc 2), (At.slc 3), (At.val (Value.int IntKind.u64 (S.reads)))]), (Chunk.box [(At.slc 4), (At.slc 5), (At.slc 6), (At.val (Value.int IntKind.u32 (S.fresh)))]), (Chunk.row true (EC.node) (S.nodes)), (Chunk.row true (EC.int) (S.counts)), (Chunk.row true (EC.bool) (S.used)), (Chunk.row true (EC.u32) (S.gen)), (Chunk.row true (EC.u32) (S.rel))] [0])) (((0 ≤ i) ∧ (i < (↑S.nodes.length : Int)) ∧ (K (SV.one (TV.at (At.val (Value.int IntKind.i64 ((S.nd i).size))))) [(Chunk.box [(At.ptr 1 0), (At.slc 2), (At.slc 3), (At.val (Value.int IntKind.u64 (IntKind.u64.wrap (S.reads + 1))))]), (Chunk.box [(At.slc 4), (At.slc 5), (At.slc 6), (At.val (Value.int IntKind.u32 (S.fresh)))]), (Chunk.row true (EC.node) (S.nodes)), (Chunk.row true (EC.int) (S.counts)), (Chunk.row true (EC.bool) (S.used)), (Chunk.row true (EC.u32) (S.gen)), (Chunk.row true (EC.u32) (S.rel))] [0]))))) = _ by kernel_rfl) ?_
  obtain ⟨hs, hw⟩ := hw
  have h2 := hw.n2; have h3 := hw.nnod; have h4 := hw.rds
  rw [wrap_u64 (by omega) (by omega)]
  refine ⟨hi.1, hi.2, by omega, brS_of (fun c => ?_) fun c => ?_⟩
  · have c : S.us i = false := by simpa using c
    have h5 := h _ rfl
    rw [hw.zero i c, c] at h5
    have e : rdS S (false.toNat) = S := by simp [rdS]
    rw [e] at h5
    exact h5
  · have c : S.us i = true := by simpa using c
    have hp := hw.pos c
    have h5 := h _ rfl
    rw [c] at h5
    exact ⟨hi.1, by omega, h5⟩
theorem s_size : SoundT C0 17 tSize := by
  refine .ofW [0] Try.func17 (by decide) rfl fun args H K h hB => ?_
  unfold tSize at h
  split at h <;> try exact h.elim
  unfold arM at h
  split at h <;> try exact h.elim
  rename_i i _ rd fr nd ct us gn rl
  exact ⟨aAlc, ⟨frame C0.ok s_slAllocated _, trivial⟩, vc_size ⟨us, gn, rl, fr, nd, ct, rd⟩ i K h.1 h.2.1 h.2.2.1 h.2.2.2⟩
theorem vc_retain (S : Arn) (i : Int) (K : KT) (hi : inU i) (hw : exW S) (h0 : i = 0 → K (.one (.at (vI 0))) (chS S) [3]) (h1 : i ≠ 0 → S.us i = false → K (.one (.at (vI 3))) (chS S) [3]) (h : S.us i = true → ∀ S', S' = retA S i → K (.one (.at (vI 0))) (chS S') [3]) :
    vc C0 aAlc Try.f61 [.at (.ptr 0 0), .at (vU i)] (chS S) (normK 7 (wideK [3] K)) := by
  refine Eq.mp (show (brS (i == 0) ((K (SV.one (TV.at (At.val (Value.int IntKind.i64 0)))) [(Chunk.box [(At.ptr 1 0), (At.slc 2), (At.slc 3), (At.val (Value.int IntKind.u64 (S.reads)))]), (Chunk.box [(At.slc 4), (At.slc 5), (At.slc 6), (At.val (Value.int IntKind.u32 (S.fresh)))]), (Chunk.row true (EC.node) (S.nodes)), (Chunk.row true (EC.int) (S.counts)), (Chunk.row true (EC.bool) (S.used)), (Chunk.row true (EC.u32) (S.gen)), (Chunk.row true (EC.u32) (S.rel))] [3])) (((0 ≤ i) ∧ (i < 4294967296) ∧ (S.used.length ≤ 65537) ∧ (brS (!S.us i) ((K (SV.one (TV.at (At.val (Value.int IntKind.i64 3)))) [(Chunk.box [(At.ptr 1 0), (At.slc 2), (At.slc 3), (At.val (Value.int IntKind.u64 (S.reads)))]), (Chunk.box [(At.slc 4), (At.slc 5), (At.slc 6), (At.val (Value.int IntKind.u32 (S.fresh)))]), (Chunk.row true (EC.node) (S.nodes)), (Chunk.row true (EC.int) (S.counts)), (Chunk.row true (EC.bool) (S.used)), (Chunk.row true (EC.u32) (S.gen)), (Chunk.row true (EC.u32) (S.rel))] [3])) (((0 ≤ i) ∧ (i < (↑S.counts.length : Int)) ∧ (0 ≤ i) ∧ (i < (↑S.counts.length : Int)) ∧
    (K (SV.one (TV.at (At.val (Value.int IntKind.i64 0)))) [(Chunk.box [(At.ptr 1 0), (At.slc 2), (At.slc 3), (At.val (Value.int IntKind.u64 (S.reads)))]), (Chunk.box [(At.slc 4), (At.slc 5), (At.slc 6), (At.val (Value.int IntKind.u32 (S.fresh)))]), (Chunk.row true (EC.node) (S.nodes)), (Chunk.row true (EC.int) (S.counts.set i.toNat (IntKind.i64.wrap (S.ct i + 1)))), (Chunk.row true (EC.bool) (S.used)), (Chunk.row true (EC.u32) (S.gen)), (Chunk.row true (EC.u32) (S.rel))] [3]))))))) = _ by kernel_rfl) ?_
  obtain ⟨hs, hw⟩ := hw
  have h2 := hw.n2; have h3 := hw.ncnt
  refine brS_of (fun c => h0 (by simpa using c)) fun c => ⟨hi.1, hi.2, by omega, brS_of (fun d => ?_) fun d => ?_⟩
  · exact h1 (by simpa using c) (by simpa using d)
  · have d : S.us i = true := by simpa using d
    have hp := hw.pos d
    exact ⟨hi.1, by omega, hi.1, by omega, h d _ rfl⟩
theorem s_retain : SoundT C0 61 tRetain := by
  refine .ofW [3] Try.func61 (by decide) rfl fun args H K h hB => ?_
  unfold tRetain at h
  split at h <;> try exact h.elim
  unfold arM at h
  split at h <;> try exact h.elim
  rename_i i _ rd fr nd ct us gn rl
  exact ⟨aAlc, ⟨frame C0.ok s_slAllocated _, trivial⟩, vc_retain ⟨us, gn, rl, fr, nd, ct, rd⟩ i K h.1 h.2.1 h.2.2.1 h.2.2.2.1 h.2.2.2.2⟩
theorem vc_slNew (c : Int) (K : KT) (hb : c < 1 ∨ 65536 < c → K (.tup [.at (.val (.pointer none)), .at (vI 1)]) [] []) (h : 1 ≤ c → c ≤ 65536 → ∀ (us : List Bool) (gn : List Int), us = newUs c → gn = newGn c → K (.tup [.at (.ptr 0 0), .at (vI 0)]) (slC us gn [] 0) []) :
    vc C0 aSlNew Try.f55 [.at (vI c)] [] (normK 0 K) := by
  refine Eq.mp (show (brS (decide (c < 1)) ((K (SV.tup [(TV.at (At.val (Value.pointer none))), (TV.at (At.val (Value.int IntKind.i64 1)))]) [] [])) ((brS (decide (c > 65536)) ((K (SV.tup [(TV.at (At.val (Value.pointer none))), (TV.at (At.val (Value.int IntKind.i64 1)))]) [] [])) ((((0 ≤ IntKind.i64.wrap (c + 1)) ∧ (IntKind.i64.wrap (c + 1) ≤ IntKind.i64.wrap (c + 1)) ∧ (IntKind.i64.wrap (c + 1) * (↑(bytesOf C0 EC.bool) : Int) ≤ 140737488355328) ∧ (0 ≤ IntKind.i64.wrap (c + 1)) ∧ (IntKind.i64.wrap (c + 1) ≤ IntKind.i64.wrap (c + 1)) ∧ (IntKind.i64.wrap (c + 1) * (↑(bytesOf C0 EC.u32) : Int) ≤ 140737488355328) ∧ (K (SV.tup [(TV.at (At.ptr 0 0)), (TV.at (At.val (Value.int IntKind.i64 0)))]) [(Chunk.box [(At.slc 1), (At.slc 2), (At.slc 3), (At.val (Value.int IntKind.u32 0))]), (Chunk.row true (EC.bool) (List.replicate (IntKind.i64.wrap (c + 1)).toNat false)), (Chunk.row true (EC.u32) (List.replicate (IntKind.i64.wrap (c + 1)).toNat (0 : Int))), (Chunk.row true (EC.u32) [])] [])) ∧ (0 ≤ IntKind.i64.wrap (c + 1)) ∧ (IntKind.i64.wrap (c + 1) ≤ IntKind.i64.wrap (c + 1)) ∧ (IntKind.i64.wrap (c + 1) * (↑(bytesOf C0 EC.u32) : Int) ≤ 140737488355328) ∧ (0 ≤ IntKind.i64.wrap (c + 1)) ∧ (IntKind.i64.wrap (c + 1) ≤ IntKind.i64.wrap (c + 1)) ∧ (IntKind.i64.wrap (c + 1) * (↑(bytesOf C0 EC.bool) : Int) ≤ 140737488355328) ∧
    (K (SV.tup [(TV.at (At.ptr 0 0)), (TV.at (At.val (Value.int IntKind.i64 0)))]) [(Chunk.box [(At.slc 1), (At.slc 2), (At.slc 3), (At.val (Value.int IntKind.u32 0))]), (Chunk.row true (EC.bool) (List.replicate (IntKind.i64.wrap (c + 1)).toNat false)), (Chunk.row true (EC.u32) (List.replicate (IntKind.i64.wrap (c + 1)).toNat (0 : Int))), (Chunk.row true (EC.u32) [])] [])))))) = _ by kernel_rfl) ?_
  simp only [bytes_bool, bytes_u32]
  refine brS_of (fun d => hb (.inl (by simpa using d))) fun d => brS_of (fun e => hb (.inr (by simpa using e))) fun e => ?_
  have d : 1 ≤ c := by simp at d; omega
  have e : c ≤ 65536 := by simp at e; omega
  have h := h d e _ _ rfl rfl
  unfold newUs newGn at h
  rw [wrap_id (x := c + 1) (by omega) (by omega), show (c + 1).toNat = c.toNat + 1 by omega]
  exact ⟨⟨by omega, by omega, by omega, by omega, by omega, by omega, h⟩, by omega, by omega, by omega, by omega, by omega, by omega, h⟩
theorem s_slNew : SoundT C0 55 tSlNew := by
  refine .of Try.func55 (by decide) rfl fun args H K h hB => ?_
  unfold tSlNew at h
  split at h <;> try exact h.elim
  rename_i c
  exact ⟨aSlNew, trivial, vc_slNew c K h.1 h.2⟩
theorem vc_new (c : Int) (K : KT) (hb : c < 1 ∨ 65536 < c → K (.tup [.at (.val (.pointer none)), .at (vI 1)]) [] []) (h : 1 ≤ c → c ≤ 65536 → ∀ S, S = newS c.toNat → K (.tup [.at (.ptr 0 0), .at (vI 0)]) (chS S) []) :
    vc C0 aNew Try.f11 [.at (vI c)] [] (normK 0 K) := by
  refine Eq.mp (show (((c < 1 ∨ 65536 < c) →
(K (SV.tup [(TV.at (At.val (Value.pointer none))), (TV.at (At.val (Value.int IntKind.i64 1)))]) [] [])) ∧
((1 ≤ c) →
((c ≤ 65536) →
(∀ us : List Bool, (∀ gn : List Int, (((us) = (newUs c)) → (((gn) = (newGn c)) → (((0 ≤ IntKind.i64.wrap (c + 1)) ∧ (IntKind.i64.wrap (c + 1) ≤ IntKind.i64.wrap (c + 1)) ∧ (IntKind.i64.wrap (c + 1) * (↑(bytesOf C0 EC.node) : Int) ≤ 140737488355328) ∧ (0 ≤ IntKind.i64.wrap (c + 1)) ∧ (IntKind.i64.wrap (c + 1) ≤ IntKind.i64.wrap (c + 1)) ∧ (IntKind.i64.wrap (c + 1) * (↑(bytesOf C0 EC.int) : Int) ≤ 140737488355328) ∧ (K (SV.tup [(TV.at (At.ptr 0 0)), (TV.at (At.val (Value.int IntKind.i64 0)))]) [(Chunk.box [(At.ptr 1 0), (At.slc 2), (At.slc 3), (At.val (Value.int IntKind.u64 0))]), (Chunk.box [(At.slc 4), (At.slc 5), (At.slc 6), (At.val (Value.int IntKind.u32 0))]), (Chunk.row true (EC.node) (List.replicate (IntKind.i64.wrap (c + 1)).toNat { key := 0, value := 0, left := 0, right := 0, size := 0, sum := 0, min := 0, max := 0 : NodeT })), (Chunk.row true (EC.int) (List.replicate (IntKind.i64.wrap (c + 1)).toNat (0 : Int))), (Chunk.row true (EC.bool) (us)), (Chunk.row true (EC.u32) (gn)), (Chunk.row true (EC.u32) [])] [])) ∧ (0 ≤ IntKind.i64.wrap (c + 1)) ∧ (IntKind.i64.wrap (c + 1) ≤ IntKind.i64.wrap (c + 1)) ∧ (IntKind.i64.wrap (c + 1) * (↑(bytesOf C0 EC.int) : Int) ≤ 140737488355328) ∧ (0 ≤ IntKind.i64.wrap (c + 1)) ∧ (IntKind.i64.wrap (c + 1) ≤ IntKind.i64.wrap (c + 1)) ∧
    (IntKind.i64.wrap (c + 1) * (↑(bytesOf C0 EC.node) : Int) ≤ 140737488355328) ∧ (K (SV.tup [(TV.at (At.ptr 0 0)), (TV.at (At.val (Value.int IntKind.i64 0)))]) [(Chunk.box [(At.ptr 1 0), (At.slc 2), (At.slc 3), (At.val (Value.int IntKind.u64 0))]), (Chunk.box [(At.slc 4), (At.slc 5), (At.slc 6), (At.val (Value.int IntKind.u32 0))]), (Chunk.row true (EC.node) (List.replicate (IntKind.i64.wrap (c + 1)).toNat { key := 0, value := 0, left := 0, right := 0, size := 0, sum := 0, min := 0, max := 0 : NodeT })), (Chunk.row true (EC.int) (List.replicate (IntKind.i64.wrap (c + 1)).toNat (0 : Int))), (Chunk.row true (EC.bool) (us)), (Chunk.row true (EC.u32) (gn)), (Chunk.row true (EC.u32) [])] []))))))))) = _ by kernel_rfl) ?_
  simp only [bytes_node, bytes_int]
  refine ⟨hb, fun d e us gn hu hg => ?_⟩
  have h := h d e _ rfl
  subst hu hg
  unfold newUs newGn
  rw [wrap_id (x := c + 1) (by omega) (by omega), show (c + 1).toNat = c.toNat + 1 by omega]
  exact ⟨⟨by omega, by omega, by omega, by omega, by omega, by omega, h⟩, by omega, by omega, by omega, by omega, by omega, by omega, h⟩
theorem s_new : SoundT C0 11 tNew := by
  refine .of Try.func11 (by decide) rfl fun args H K h hB => ?_
  unfold tNew at h
  split at h <;> try exact h.elim
  rename_i c
  exact ⟨aNew, ⟨frame C0.ok s_slNew _, trivial⟩, vc_new c K h.1 h.2⟩
end Go.Proofs.Ytmjnoiajenoinaa.Sx
end
section
/- The greatest height of a balanced tree, and few reads. -/
namespace Go.Proofs.Ytmjnoiajenoinaa.Sx
open Go

/-KEEP Wf exW inU wtsL-/
noncomputable def aWts : Ann C0 := { Γ := [], rounds := fun n => if n = 4 then 82 else 0 }
def tWts : Tfm C0 := fun args H K => match args, H with
  | [], [] => K (.one (.agg (wtsL.map fun n => vI n))) [] []
  | _, _ => False
def wC : Nat → Int → Prop → Prop
  | 0, _, Q => Q
  | n + 1, h, Q => (0 ≤ IntKind.i64.wrap (h - 1)) ∧ (IntKind.i64.wrap (h - 1) < ((81 : Nat) : Int)) ∧ (0 ≤ IntKind.i64.wrap (h - 1)) ∧ (IntKind.i64.wrap (h - 1) < ((81 : Nat) : Int)) ∧ (0 ≤ h) ∧ (h < ((81 : Nat) : Int)) ∧ wC n (IntKind.i64.wrap (h + 1)) Q
theorem wC_of : ∀ (n : Nat) (h : Int) (Q : Prop), 1 ≤ h → h + n ≤ 81 → Q → wC n h Q
  | 0, _, _, _, _, q => q
  | n + 1, h, Q, h1, h2, q => by
    have e1 := wrap_id (x := h - 1) (by omega) (by omega)
    have e2 := wrap_id (x := h + 1) (by omega) (by omega)
    unfold wC
    rw [e1, e2]
    exact ⟨by omega, by omega, by omega, by omega, by omega, by omega, wC_of n (h + 1) Q (by omega) (by omega) q⟩
theorem s_wts : SoundT C0 146 tWts := by
  refine .of Try.func146 (by decide) rfl fun args H K h hB => ?_
  unfold tWts at h
  split at h <;> try exact h.elim
  refine ⟨aWts, trivial, Eq.mp (show ((0 : Int) ≤ 0 ∧ (0 : Int) < ((81 : Nat) : Int) ∧ wC 80 1 (K (.one (.agg (wtsL.map fun n => vI n))) [] [])) = _ by kernel_rfl) ?_⟩
  exact ⟨by decide, by decide, wC_of 80 1 _ (by decide) (by decide) h⟩
noncomputable def aMh : Ann C0 := { Γ := [(146, frameT [] tWts)], rounds := fun n => if n = 5 then 82 else 0 }
def mhC (k : Int) (Q : Int → Prop) : List Int → Int → Prop
  | [], h => Q h
  | w :: l, h => (0 ≤ IntKind.i64.wrap (h + 1)) ∧ (IntKind.i64.wrap (h + 1) < ((81 : Nat) : Int)) ∧ brS (decide (IntKind.i64.wrap (w - 1) ≤ k)) (mhC k Q l (IntKind.i64.wrap (h + 1))) (Q h)
theorem mhC_of {k : Int} {Q : Int → Prop} : ∀ (l : List Int) (h : Int), 0 ≤ h → h + l.length ≤ 80 → (∀ w ∈ l, 0 ≤ w ∧ w ≤ 1000000000000) → Q (hnC l h k) → mhC k Q l h
  | [], _, _, _, _, q => q
  | w :: l, h, h1, h2, h3, q => by
    have hw := h3 w (by simp)
    have hl : (w :: l).length = l.length + 1 := rfl
    unfold mhC
    rw [wrap_id (x := h + 1) (by omega) (by omega), wrap_id (x := w - 1) (by omega) (by omega)]
    unfold hnC at q
    refine ⟨by omega, by omega, brS_of (fun c => ?_) fun c => ?_⟩
    · rw [if_pos (of_decide_eq_true c)] at q
      exact mhC_of l (h + 1) (by omega) (by omega) (fun x hx => h3 x (by simp [hx])) q
    · rw [if_neg (of_decide_eq_false c)] at q; exact q
def tMh : Tfm C0 := fun args H K => match args, H with
  | [.at (.val (.int .i64 k))], [] => 0 ≤ k ∧ k ≤ 2147483647 ∧ ∀ h, h = Hn k → K (.one (.at (vI h))) [] []
  | _, _ => False
theorem s_mh : SoundT C0 124 tMh := by
  refine .of Try.func124 (by decide) rfl fun args H K h hB => ?_
  unfold tMh at h
  split at h <;> try exact h.elim
  rename_i k
  obtain ⟨h1, h2, h⟩ := h
  refine ⟨aMh, ⟨frame C0.ok s_wts _, trivial⟩, Eq.mp (show (brS (decide (k < 0)) (K (.one (.at (vI (-1)))) [] []) (brS (decide (k > 2147483647)) (K (.one (.at (vI (-1)))) [] []) (mhC k (fun h => K (.one (.at (vI h))) [] []) (wtsL.drop 1) 0))) = _ by kernel_rfl) ?_⟩
  refine brS_of (fun c => by have := of_decide_eq_true c; omega) fun _ => brS_of (fun c => by have := of_decide_eq_true c; omega) fun _ => mhC_of _ 0 (by decide) (by decide) (by decide) (h _ rfl)
noncomputable def aHt : Ann C0 := { Γ := [(124, frameT [] tMh)] }
def tWi : Tfm C0 := fun args H K => match args with
  | [.at (.ptr 0 0), .at (.val (.int .u64 r)), .at (.val (.int .i64 m))] => arM H fun S => 0 ≤ r ∧ r ≤ S.reads ∧ S.reads ≤ 4000000000000000000 ∧ S.reads - r ≤ m ∧ m ≤ 4000000000000000000 ∧ K (.one (.at (vB true))) (chS S) []
  | _ => False
end Go.Proofs.Ytmjnoiajenoinaa.Sx
end
section
/- The arena's Make and Release. -/
namespace Go.Proofs.Ytmjnoiajenoinaa.Sx
open Go

structure XMk (S : Arn) (k v l r : Int) where
  i : Nat
  n : NodeT
  h : n = if i = 0 then addC S ⟨k, v, l, r, 1, v, v, v⟩ l else mkNode S k v l r
abbrev bxN (n : NodeT) : Chunk C0 := .box [vI n.key, vI n.value, vU n.left, vU n.right, vI n.size, vI n.sum, vI n.min, vI n.max]
noncomputable def aMake (S : Arn) (k v l r : Int) : Ann C0 := { rounds := fun n => if n = 3 then 3 else 0, Γ := [(56, frameT [] tSlAllocated), (57, frameT [] tSlAlloc)], inv := fun n => match n with
  | 1013 => some { X := XMk S k v l r, sl := [12], tf := fun _ => [.one (.at (.ptr 7 0))], hf := fun x => chS S ++ [bxN x.n], rel := fun T _ x => slotI T 29 x.i }
  | _ => none }
def tMake : Tfm C0 := fun args H K => match args with
  | [.at (.ptr 0 0), .at (.val (.int .i64 k)), .at (.val (.int .i64 v)), .at (.val (.int .u32 l)), .at (.val (.int .u32 r))] => arM H fun S => exW S ∧ live S l ∧ live S r ∧
    (maxSize < (mkNode S k v l r).size → K (.tup [.at (vU 0), .at (vI 1)]) (chS S) W7) ∧
    ((mkNode S k v l r).size ≤ maxSize → S.free = 0 → K (.tup [.at (vU 0), .at (vI 2)]) (chS S) W7) ∧
    ((mkNode S k v l r).size ≤ maxSize → 0 < S.free → ∀ S' i, S' = makeS S k v l r → i = nxt S → K (.tup [.at (vU i), .at (vI 0)]) (chS S') W7)
  | _ => False
structure XRel (S : Arn) (hs : List Int) (i : Int) where
  S' : Arn
  work : List Int
  freed : Int
  h : Wf S' (work ++ hs) ∧ Kept S S' ∧ 0 ≤ freed ∧ freed + S'.nu = S.nu ∧ (∀ w ∈ work, S'.us w = true) ∧ (1 < S.ct i → (work = [i] ∧ S' = S) ∨ (work = [] ∧ S' = decS S i))
structure XRelK (S : Arn) (hs : List Int) (i : Int) where
  S' : Arn
  rest : List Int
  k : Int
  freed : Int
  h : Wf S' ((rest ++ [k]) ++ hs) ∧ Kept S S' ∧ 0 ≤ freed ∧ freed + S'.nu = S.nu ∧ (∀ w ∈ rest ++ [k], S'.us w = true) ∧ (1 < S.ct i → rest = [] ∧ k = i ∧ S' = S)
noncomputable def aRelease (S : Arn) (hs : List Int) (i : Int) : Ann C0 := { trunc := fun n => n == 34, Γ := [(56, frameT [] tSlAllocated), (58, frameT [] tSlRelease)], inv := fun n => match n with
  | 7 => some { X := XRel S hs i, sl := [7, 6], tf := fun x => [.one (.at (.slc 7)), vi .i64 x.freed], hf := fun x => chS x.S' ++ [.row true EC.u32 x.work], μ := fun x => 2 * x.S'.nu + x.work.length, wr := W7 }
  | 1010 => some { X := XRelK S hs i, sl := [7, 8], tf := fun x => [.one (.at (.slc 7)), vi .u32 x.k], hf := fun x => chS x.S' ++ [.row true EC.u32 x.rest], wr := W7, rel := fun T _ x => slotI T 6 x.freed ∧ slotI T 22 (x.rest.length + 1) }
  | _ => none }
def tRelease : Tfm C0 := fun args H K => match args with
  | [.at (.ptr 0 0), .at (.val (.int .u32 i))] => arM H fun S => ∃ hs, Wf S (i :: hs) ∧ ∀ S' (fr : Int), Wf S' hs → Kept S S' → fr + S'.nu = S.nu → (1 < S.ct i → S.us i = true → S' = decS S i) → (S.us i = false → S' = S) → K (.tup [.at (vI fr), .at (vI 0)]) (chS S') W7
  | _ => False
theorem list_last {α : Type} {l : List α} {d : α} (h : 0 < l.length) : l.take (l.length - 1) ++ [l.getD (l.length - 1) d] = l := by
  have h1 : l[l.length - 1]? = some (l.getD (l.length - 1) d) := by
    have : l.length - 1 < l.length := by omega
    simp [List.getD_eq_getElem?_getD, List.getElem?_eq_getElem this]
  rw [← take_snoc h1, show l.length - 1 + 1 = l.length by omega, List.take_length]
theorem XRelK.freed' {S : Arn} {hs : List Int} {i : Int} (x : XRelK S hs i) (hc : x.S'.ct x.k = 1) :
    Wf (freeS x.S' x.k) ((x.rest ++ nz (x.S'.nd x.k).right ++ nz (x.S'.nd x.k).left) ++ hs) ∧ Kept S (freeS x.S' x.k) ∧ 0 ≤ x.freed + 1 ∧ (x.freed + 1) + (freeS x.S' x.k).nu = S.nu ∧
    (∀ w ∈ x.rest ++ nz (x.S'.nd x.k).right ++ nz (x.S'.nd x.k).left, (freeS x.S' x.k).us w = true) ∧ (1 < S.ct i → ((x.rest ++ nz (x.S'.nd x.k).right ++ nz (x.S'.nd x.k).left) = [i] ∧ freeS x.S' x.k = S) ∨ ((x.rest ++ nz (x.S'.nd x.k).right ++ nz (x.S'.nd x.k).left) = [] ∧ freeS x.S' x.k = decS S i)) := by
  obtain ⟨h1, h2, h3, h4, h5, h6⟩ := x.h
  have hk : x.S'.us x.k = true := h5 _ (by simp)
  have hw : Wf x.S' (x.k :: (x.rest ++ hs)) := h1.perm (by
    rw [List.append_assoc]
    exact List.perm_middle)
  obtain ⟨f1, f2, f3, f4⟩ := hw.freed hk hc
  have f1' : Wf (freeS x.S' x.k) ((x.rest ++ nz (x.S'.nd x.k).right ++ nz (x.S'.nd x.k).left) ++ hs) := f1.perm (by
    rw [List.append_assoc, List.append_assoc]
    exact ((List.perm_append_comm_assoc _ _ _).append_left _).trans (List.perm_append_comm_assoc _ _ _))
  refine ⟨f1', h2.trans (kept_free hw hk hc), by omega, by omega, fun w hm => ?_, fun hc1 => ?_⟩
  · refine (f1'.held w (List.mem_append_left _ hm)).resolve_left fun e => ?_
    subst e
    rcases List.mem_append.1 hm with hm | hm
    · rcases List.mem_append.1 hm with hm | hm
      · have := h5 0 (by simp [hm])
        rw [h1.us0 (Int.le_refl 0)] at this; cases this
      · unfold nz at hm; split at hm <;> simp at hm; omega
    · unfold nz at hm; split at hm <;> simp at hm; omega
  · obtain ⟨_, e2, e3⟩ := h6 hc1
    rw [e2, e3] at hc
    omega
theorem vc_release (S : Arn) (hs : List Int) (i : Int) (K : KT) (hw : Wf S (i :: hs)) (h : ∀ S' (fr : Int), Wf S' hs → Kept S S' → fr + S'.nu = S.nu → (1 < S.ct i → S.us i = true → S' = decS S i) → (S.us i = false → S' = S) → K (.tup [.at (vI fr), .at (vI 0)]) (chS S') W7) :
    vc C0 (aRelease S hs i) Try.f14 [.at (.ptr 0 0), .at (vU i)] (chS S) (normK 7 (wideK W7 K)) := by
  refine Eq.mp (show (brS (i == 0) ((K (SV.tup [(TV.at (At.val (Value.int IntKind.i64 0))), (TV.at (At.val (Value.int IntKind.i64 0)))]) [(Chunk.box [(At.ptr 1 0), (At.slc 2), (At.slc 3), (At.val (Value.int IntKind.u64 (S.reads)))]), (Chunk.box [(At.slc 4), (At.slc 5), (At.slc 6), (At.val (Value.int IntKind.u32 (S.fresh)))]), (Chunk.row true (EC.node) (S.nodes)), (Chunk.row true (EC.int) (S.counts)), (Chunk.row true (EC.bool) (S.used)), (Chunk.row true (EC.u32) (S.gen)), (Chunk.row true (EC.u32) (S.rel))] [0, 1, 2, 3, 4, 5, 6])) (((0 ≤ i) ∧ (i < 4294967296) ∧ (S.used.length ≤ 65537) ∧ (brS (!S.us i) ((K (SV.tup [(TV.at (At.val (Value.int IntKind.i64 0))), (TV.at (At.val (Value.int IntKind.i64 3)))]) [(Chunk.box [(At.ptr 1 0), (At.slc 2), (At.slc 3), (At.val (Value.int IntKind.u64 (S.reads)))]), (Chunk.box [(At.slc 4), (At.slc 5), (At.slc 6), (At.val (Value.int IntKind.u32 (S.fresh)))]), (Chunk.row true (EC.node) (S.nodes)), (Chunk.row true (EC.int) (S.counts)), (Chunk.row true (EC.bool) (S.used)), (Chunk.row true (EC.u32) (S.gen)), (Chunk.row true (EC.u32) (S.rel))] [0, 1, 2, 3, 4, 5, 6])) (((∃ x : XRel S hs i, (True ∧ (True ∧ ((Value.int IntKind.i64 0) = (Value.int IntKind.i64 (x.freed))) ∧ True ∧ True) ∧ (True ∧ True ∧ True ∧ ((Value.int IntKind.u64 (S.reads)) = (Value.int IntKind.u64 (x.S'.reads))) ∧ True) ∧ (True ∧ True ∧ True ∧ ((Value.int IntKind.u32 (S.fresh)) = (Value.int IntKind.u32 (x.S'.fresh))) ∧ True) ∧ ((S.nodes) = (x.S'.nodes)) ∧ ((S.counts) = (x.S'.counts)) ∧
    ((S.used) = (x.S'.used)) ∧ ((S.gen) = (x.S'.gen)) ∧ ((S.rel) = (x.S'.rel)) ∧ ([(i)] = (x.work)) ∧ True)) ∧ (∀ x : XRel S hs i, (True → (brS (decide ((↑x.work.length : Int) > 0)) (((0 ≤ IntKind.i64.wrap ((↑x.work.length : Int) - 1)) ∧ (IntKind.i64.wrap ((↑x.work.length : Int) - 1) < (↑x.work.length : Int)) ∧ ((0 ≤ IntKind.i64.wrap ((↑x.work.length : Int) - 1)) ∧ (IntKind.i64.wrap ((↑x.work.length : Int) - 1) ≤ (↑x.work.length : Int)) ∧ (∃ x1 : XRelK S hs i, ((((x.freed) = (x1.freed)) ∧ (((↑x.work.length : Int)) = ((↑x1.rest.length : Int) + 1))) ∧ (True ∧ ((Value.int IntKind.i64 (x.freed)) = (Value.int IntKind.i64 (x.freed))) ∧ True ∧ ((Value.int IntKind.u32 (x.work.getD (IntKind.i64.wrap ((↑x.work.length : Int) - 1)).toNat 0)) = (Value.int IntKind.u32 (x1.k))) ∧ True) ∧ (True ∧ True ∧ True ∧ ((Value.int IntKind.u64 (x.S'.reads)) = (Value.int IntKind.u64 (x1.S'.reads))) ∧ True) ∧ (True ∧ True ∧ True ∧ ((Value.int IntKind.u32 (x.S'.fresh)) = (Value.int IntKind.u32 (x1.S'.fresh))) ∧ True) ∧ ((x.S'.nodes) = (x1.S'.nodes)) ∧ ((x.S'.counts) = (x1.S'.counts)) ∧ ((x.S'.used) = (x1.S'.used)) ∧ ((x.S'.gen) = (x1.S'.gen)) ∧ ((x.S'.rel) = (x1.S'.rel)) ∧ ((List.take (IntKind.i64.wrap ((↑x.work.length : Int) - 1)).toNat x.work) = (x1.rest)) ∧ True))) ∧ (∀ x1 : XRelK S hs i, ((((x.freed) = (x1.freed)) ∧ (((↑x.work.length : Int)) = ((↑x1.rest.length : Int) + 1))) → ((0 ≤ x1.k) ∧ (x1.k < (↑x1.S'.counts.length : Int)) ∧ (0 ≤ x1.k) ∧ (x1.k < (↑x1.S'.counts.length : Int)) ∧ (0 ≤ x1.k) ∧
    (x1.k < (↑(x1.S'.counts.set x1.k.toNat (IntKind.i64.wrap (x1.S'.ct x1.k - 1))).length : Int)) ∧ (brS (decide ((x1.S'.counts.set x1.k.toNat (IntKind.i64.wrap (x1.S'.ct x1.k - 1))).getD x1.k.toNat 0 > 0)) ((∃ x' : XRel S hs i, (True ∧ ((True ∧ ((Value.int IntKind.i64 (x.freed)) = (Value.int IntKind.i64 (x'.freed))) ∧ True ∧ True) ∧ (True ∧ True ∧ True ∧ ((Value.int IntKind.u64 (x1.S'.reads)) = (Value.int IntKind.u64 (x'.S'.reads))) ∧ True) ∧ (True ∧ True ∧ True ∧ ((Value.int IntKind.u32 (x1.S'.fresh)) = (Value.int IntKind.u32 (x'.S'.fresh))) ∧ True) ∧ ((x1.S'.nodes) = (x'.S'.nodes)) ∧ ((x1.S'.counts.set x1.k.toNat (IntKind.i64.wrap (x1.S'.ct x1.k - 1))) = (x'.S'.counts)) ∧ ((x1.S'.used) = (x'.S'.used)) ∧ ((x1.S'.gen) = (x'.S'.gen)) ∧ ((x1.S'.rel) = (x'.S'.rel)) ∧ ((x1.rest) = (x'.work)) ∧ True) ∧ (2 * x'.S'.nu + x'.work.length < 2 * x.S'.nu + x.work.length)))) (((0 ≤ x1.k) ∧ (x1.k < (↑x1.S'.nodes.length : Int)) ∧ (0 ≤ x1.k) ∧ (x1.k < (↑x1.S'.nodes.length : Int)) ∧ (0 ≤ x1.k) ∧ (x1.k < 4294967296) ∧ (x1.S'.used.length ≤ 65537) ∧ (x1.S'.rel.length ≤ 65537) ∧ ((x1.S'.us x1.k) = true) ∧ (brS ((x1.S'.nd x1.k).right != 0) ((((x1.rest.length + [(x1.S'.nd x1.k).right].length) * bytesOf C0 EC.u32 ≤ 140737488355328) ∧ (brS ((x1.S'.nd x1.k).left != 0) (((((x1.rest ++ [(x1.S'.nd x1.k).right]).length + [(x1.S'.nd x1.k).left].length) * bytesOf C0 EC.u32 ≤ 140737488355328) ∧ (∃ x' : XRel S hs i, (True ∧ ((True ∧
    ((Value.int IntKind.i64 (IntKind.i64.wrap (x.freed + 1))) = (Value.int IntKind.i64 (x'.freed))) ∧ True ∧ True) ∧ (True ∧ True ∧ True ∧ ((Value.int IntKind.u64 (x1.S'.reads)) = (Value.int IntKind.u64 (x'.S'.reads))) ∧ True) ∧ (True ∧ True ∧ True ∧ ((Value.int IntKind.u32 (x1.S'.fresh)) = (Value.int IntKind.u32 (x'.S'.fresh))) ∧ True) ∧ ((x1.S'.nodes.set x1.k.toNat { key := 0, value := 0, left := 0, right := 0, size := 0, sum := 0, min := 0, max := 0 : NodeT }) = (x'.S'.nodes)) ∧ ((x1.S'.counts.set x1.k.toNat (IntKind.i64.wrap (x1.S'.ct x1.k - 1))) = (x'.S'.counts)) ∧ ((x1.S'.used.set x1.k.toNat false) = (x'.S'.used)) ∧ ((x1.S'.gen) = (x'.S'.gen)) ∧ ((x1.S'.rel ++ [x1.k]) = (x'.S'.rel)) ∧ ((x1.rest ++ [(x1.S'.nd x1.k).right] ++ [(x1.S'.nd x1.k).left]) = (x'.work)) ∧ True) ∧ (2 * x'.S'.nu + x'.work.length < 2 * x.S'.nu + x.work.length))))) ((∃ x' : XRel S hs i, (True ∧ ((True ∧ ((Value.int IntKind.i64 (IntKind.i64.wrap (x.freed + 1))) = (Value.int IntKind.i64 (x'.freed))) ∧ True ∧ True) ∧ (True ∧ True ∧ True ∧ ((Value.int IntKind.u64 (x1.S'.reads)) = (Value.int IntKind.u64 (x'.S'.reads))) ∧ True) ∧ (True ∧ True ∧ True ∧ ((Value.int IntKind.u32 (x1.S'.fresh)) = (Value.int IntKind.u32 (x'.S'.fresh))) ∧ True) ∧ ((x1.S'.nodes.set x1.k.toNat { key := 0, value := 0, left := 0, right := 0, size := 0, sum := 0, min := 0, max := 0 : NodeT }) = (x'.S'.nodes)) ∧ ((x1.S'.counts.set x1.k.toNat (IntKind.i64.wrap (x1.S'.ct x1.k - 1))) = (x'.S'.counts)) ∧
    ((x1.S'.used.set x1.k.toNat false) = (x'.S'.used)) ∧ ((x1.S'.gen) = (x'.S'.gen)) ∧ ((x1.S'.rel ++ [x1.k]) = (x'.S'.rel)) ∧ ((x1.rest ++ [(x1.S'.nd x1.k).right]) = (x'.work)) ∧ True) ∧ (2 * x'.S'.nu + x'.work.length < 2 * x.S'.nu + x.work.length))))))) ((brS ((x1.S'.nd x1.k).left != 0) ((((x1.rest.length + [(x1.S'.nd x1.k).left].length) * bytesOf C0 EC.u32 ≤ 140737488355328) ∧ (∃ x' : XRel S hs i, (True ∧ ((True ∧ ((Value.int IntKind.i64 (IntKind.i64.wrap (x.freed + 1))) = (Value.int IntKind.i64 (x'.freed))) ∧ True ∧ True) ∧ (True ∧ True ∧ True ∧ ((Value.int IntKind.u64 (x1.S'.reads)) = (Value.int IntKind.u64 (x'.S'.reads))) ∧ True) ∧ (True ∧ True ∧ True ∧ ((Value.int IntKind.u32 (x1.S'.fresh)) = (Value.int IntKind.u32 (x'.S'.fresh))) ∧ True) ∧ ((x1.S'.nodes.set x1.k.toNat { key := 0, value := 0, left := 0, right := 0, size := 0, sum := 0, min := 0, max := 0 : NodeT }) = (x'.S'.nodes)) ∧ ((x1.S'.counts.set x1.k.toNat (IntKind.i64.wrap (x1.S'.ct x1.k - 1))) = (x'.S'.counts)) ∧ ((x1.S'.used.set x1.k.toNat false) = (x'.S'.used)) ∧ ((x1.S'.gen) = (x'.S'.gen)) ∧ ((x1.S'.rel ++ [x1.k]) = (x'.S'.rel)) ∧ ((x1.rest ++ [(x1.S'.nd x1.k).left]) = (x'.work)) ∧ True) ∧ (2 * x'.S'.nu + x'.work.length < 2 * x.S'.nu + x.work.length))))) ((∃ x' : XRel S hs i, (True ∧ ((True ∧ ((Value.int IntKind.i64 (IntKind.i64.wrap (x.freed + 1))) = (Value.int IntKind.i64 (x'.freed))) ∧ True ∧ True) ∧ (True ∧ True ∧ True ∧ ((Value.int IntKind.u64 (x1.S'.reads)) = (Value.int IntKind.u64 (x'.S'.reads))) ∧
    True) ∧ (True ∧ True ∧ True ∧ ((Value.int IntKind.u32 (x1.S'.fresh)) = (Value.int IntKind.u32 (x'.S'.fresh))) ∧ True) ∧ ((x1.S'.nodes.set x1.k.toNat { key := 0, value := 0, left := 0, right := 0, size := 0, sum := 0, min := 0, max := 0 : NodeT }) = (x'.S'.nodes)) ∧ ((x1.S'.counts.set x1.k.toNat (IntKind.i64.wrap (x1.S'.ct x1.k - 1))) = (x'.S'.counts)) ∧ ((x1.S'.used.set x1.k.toNat false) = (x'.S'.used)) ∧ ((x1.S'.gen) = (x'.S'.gen)) ∧ ((x1.S'.rel ++ [x1.k]) = (x'.S'.rel)) ∧ ((x1.rest) = (x'.work)) ∧ True) ∧ (2 * x'.S'.nu + x'.work.length < 2 * x.S'.nu + x.work.length))))))))))))))) ((K (SV.tup [(TV.at (At.val (Value.int IntKind.i64 (x.freed)))), (TV.at (At.val (Value.int IntKind.i64 0)))]) [(Chunk.box [(At.ptr 1 0), (At.slc 2), (At.slc 3), (At.val (Value.int IntKind.u64 (x.S'.reads)))]), (Chunk.box [(At.slc 4), (At.slc 5), (At.slc 6), (At.val (Value.int IntKind.u32 (x.S'.fresh)))]), (Chunk.row true (EC.node) (x.S'.nodes)), (Chunk.row true (EC.int) (x.S'.counts)), (Chunk.row true (EC.bool) (x.S'.used)), (Chunk.row true (EC.u32) (x.S'.gen)), (Chunk.row true (EC.u32) (x.S'.rel))] [0, 1, 2, 3, 4, 5, 6]))))))))))) = _ by kernel_rfl) ?_
  simp only [bytes_u32]
  have hin := hw.held i (by simp)
  have hge := hw.ge0 hin
  have h2 := hw.n2
  refine brS_of (fun c => ?_) fun c => ?_
  · have c : i = 0 := by simpa using c
    subst c
    exact h S 0 hw.of_zero (Kept.refl S) (by omega) (fun _ e => by rw [hw.us0 (Int.le_refl 0)] at e; cases e) fun _ => rfl
  have c : i ≠ 0 := by simpa using c
  have hu := hin.resolve_left c
  have hp := hw.pos hu
  refine ⟨hge, by omega, by omega, brS_of (fun d => by rw [hu] at d; cases d) fun _ => ⟨⟨⟨S, [i], 0, hw, Kept.refl S, by omega, by omega, by simpa using hu, fun _ => .inl ⟨rfl, rfl⟩⟩, ?_⟩, fun x _ => brS_of (fun e => ?_) fun e => ?_⟩⟩
  · (repeat' first | exact trivial | exact rfl | refine And.intro ?_ ?_)
  · obtain ⟨g1, g2, g3, g4, g5, g6⟩ := x.h
    have e : 0 < x.work.length := by have := of_decide_eq_true e; omega
    have hl := list_last (d := (0 : Int)) e
    have hn1 := g1.n2
    have hfew := g1.few
    have hfl : x.work.length ≤ 2000000000 := by simp at hfew; omega
    rw [wrap_id (by omega) (by omega), show ((x.work.length : Int) - 1).toNat = x.work.length - 1 by omega]
    refine ⟨by omega, by omega, ⟨by omega, by omega, ⟨x.S', x.work.take (x.work.length - 1), x.work.getD (x.work.length - 1) 0, x.freed, ?_⟩, ?_⟩, fun z rz => ?_⟩
    · rw [hl]
      refine ⟨g1, g2, g3, g4, g5, fun hc => ?_⟩
      rcases g6 hc with ⟨q1, q2⟩ | ⟨q1, _⟩
      · rw [q1]; exact ⟨rfl, rfl, q2⟩
      · rw [q1] at e; simp at e
    · refine ⟨⟨rfl, ?_⟩, ?_⟩
      · have : (x.work.take (x.work.length - 1)).length = x.work.length - 1 := by simp
        show (x.work.length : Int) = ((x.work.take (x.work.length - 1)).length : Int) + 1
        omega
      · (repeat' first | exact trivial | exact rfl | refine And.intro ?_ ?_)
    · obtain ⟨r1, r2⟩ := rz
      obtain ⟨h1, h2, h3, h4, h5, h6⟩ := z.h
      have hk : z.S'.us z.k = true := h5 _ (by simp)
      have hpk := h1.pos hk
      have hcn := h1.ncnt
      have hnn := h1.nnod
      have hn2 := h1.n2
      have hfn := h1.free_nonneg
      have hfrr := h1.fr
      have hct := h1.ct_le hk
      have hw' : Wf z.S' (z.k :: (z.rest ++ hs)) := h1.perm (by rw [List.append_assoc]; exact List.perm_middle)
      refine ⟨by omega, by omega, by omega, by omega, by omega, by rw [List.length_set]; omega, ?_⟩
      rw [getD_set, if_pos ⟨rfl, by omega⟩, wrap_id (by omega) (by omega)]
      refine brS_of (fun d => ?_) fun d => ?_
      · have d : 1 < z.S'.ct z.k := by simp at d; omega
        refine ⟨⟨decS z.S' z.k, z.rest, z.freed, hw'.dec hk d, h2.trans (kept_dec _ _), h3, h4, fun w hm => h5 w (by simp [hm]), fun hc => ?_⟩, ?_⟩
        · obtain ⟨q1, q2, q3⟩ := h6 hc
          exact .inr ⟨q1, by rw [q2, q3]⟩
        · have e1 : (decS z.S' z.k).nu = z.S'.nu := rfl
          have e2 : (z.S'.counts.set z.k.toNat (z.S'.ct z.k - 1)) = (decS z.S' z.k).counts := by
            show _ = z.S'.counts.set z.k.toNat (IntKind.i64.wrap (z.S'.ct z.k - 1))
            rw [wrap_id (by omega) (by omega)]
          refine ⟨trivial, ⟨⟨trivial, by rw [r1], trivial, trivial⟩, ⟨trivial, trivial, trivial, rfl, trivial⟩, ⟨trivial, trivial, trivial, rfl, trivial⟩, rfl, e2, rfl, rfl, rfl, rfl, trivial⟩, ?_⟩
          show 2 * (decS z.S' z.k).nu + z.rest.length < _
          omega
      · have d : z.S'.ct z.k = 1 := by simp at d; omega
        obtain ⟨k1, k2, k3, k4, k5, k6⟩ := z.freed' d
        have hm := (hw'.freed hk d).2.1
        have e2 : (z.S'.counts.set z.k.toNat (z.S'.ct z.k - 1)) = (freeS z.S' z.k).counts := by
          show _ = z.S'.counts.set z.k.toNat (IntKind.i64.wrap (z.S'.ct z.k - 1))
          rw [wrap_id (by omega) (by omega)]
        have hwf : IntKind.i64.wrap (x.freed + 1) = z.freed + 1 := by
          have := h1.nu_le; have := hw.nu_le
          rw [wrap_id (by omega) (by omega), r1]
        have nl : ∀ c, (nz c).length ≤ 1 := fun c => by unfold nz; split <;> simp
        rw [hwf]
        refine ⟨by omega, by omega, by omega, by omega, by omega, by omega, by omega, by omega, hk, brS_of (fun q1 => ⟨by simp; omega, brS_of (fun q2 => ⟨by simp; omega, ⟨⟨freeS z.S' z.k, _, z.freed + 1, k1, k2, k3, k4, k5, k6⟩, ?_⟩⟩) fun q2 => ⟨⟨freeS z.S' z.k, _, z.freed + 1, k1, k2, k3, k4, k5, k6⟩, ?_⟩⟩) fun q1 => brS_of (fun q2 => ⟨by simp; omega, ⟨⟨freeS z.S' z.k, _, z.freed + 1, k1, k2, k3, k4, k5, k6⟩, ?_⟩⟩) fun q2 => ⟨⟨freeS z.S' z.k, _, z.freed + 1, k1, k2, k3, k4, k5, k6⟩, ?_⟩⟩
        all_goals
          refine ⟨trivial, ⟨⟨trivial, rfl, trivial, trivial⟩, ⟨trivial, trivial, trivial, rfl, trivial⟩, ⟨trivial, trivial, trivial, rfl, trivial⟩, rfl, e2, rfl, rfl, rfl, ?_, trivial⟩, ?_⟩
        all_goals (try simp at q1 q2)
        case refine_1.refine_1 => simp [nz, q1, q2]
        all_goals first
          | (show 2 * (freeS z.S' z.k).nu + (z.rest ++ nz _ ++ nz _).length < _; have := nl (z.S'.nd z.k).left; have := nl (z.S'.nd z.k).right; simp only [List.length_append]; omega)
          | simp [nz, q1, q2]
  · have e : x.work = [] := by have := of_decide_eq_false e; exact List.length_eq_zero_iff.1 (by omega)
    obtain ⟨g1, g2, g3, g4, g5, g6⟩ := x.h
    rw [e] at g1
    refine h x.S' x.freed g1 g2 g4 (fun hc _ => ?_) fun hc => by rw [hu] at hc; cases hc
    rcases g6 hc with ⟨q1, _⟩ | ⟨_, q2⟩
    · rw [e] at q1; cases q1
    · exact q2
theorem s_release : SoundT C0 14 tRelease := by
  refine .ofW W7 Try.func14 (by decide) rfl fun args H K h hB => ?_
  unfold tRelease at h
  split at h <;> try exact h.elim
  unfold arM at h
  split at h <;> try exact h.elim
  rename_i i _ rd fr nd ct us gn rl
  obtain ⟨hs, h1, h2⟩ := h
  exact ⟨aRelease ⟨us, gn, rl, fr, nd, ct, rd⟩ hs i, ⟨frame C0.ok s_slAllocated _, frame C0.ok s_slRelease _, trivial⟩, vc_release ⟨us, gn, rl, fr, nd, ct, rd⟩ hs i K h1 h2⟩
theorem vc_make (S : Arn) (k v l r : Int) (K : KT) (hw : exW S) (hl : live S l) (hr : live S r)
    (h1 : maxSize < (mkNode S k v l r).size → K (.tup [.at (vU 0), .at (vI 1)]) (chS S) W7)
    (h2 : (mkNode S k v l r).size ≤ maxSize → S.free = 0 → K (.tup [.at (vU 0), .at (vI 2)]) (chS S) W7)
    (h3 : (mkNode S k v l r).size ≤ maxSize → 0 < S.free → ∀ S' i, S' = makeS S k v l r → i = nxt S → K (.tup [.at (vU i), .at (vI 0)]) (chS S') W7) :
    vc C0 (aMake S k v l r) Try.f13 [.at (.ptr 0 0), .at (vI k), .at (vI v), .at (vU l), .at (vU r)] (chS S) (normK 7 (wideK W7 K)) := by
  refine Eq.mp (show ((((0 : Int) ≤ 0) ∧
(0 < ((2 : Nat) : Int)) ∧
(brS (l == 0) ((∃ x : XMk S k v l r, ((0 = ((↑x.i : Int))) ∧ (True ∧ ((Value.int IntKind.u32 (l)) = (Value.int IntKind.u32 (l))) ∧ ((Value.int IntKind.u32 (r)) = (Value.int IntKind.u32 (r))) ∧ True ∧ (((Value.int IntKind.u32 (l)) = (Value.int IntKind.u32 (l))) ∧ ((Value.int IntKind.u32 (r)) = (Value.int IntKind.u32 (r))) ∧ True) ∧ ((Value.int IntKind.i64 0) = (Value.int IntKind.i64 0)) ∧ True) ∧ (True ∧ True ∧ True ∧ ((Value.int IntKind.u64 (S.reads)) = (Value.int IntKind.u64 (S.reads))) ∧ True) ∧ (True ∧ True ∧ True ∧ ((Value.int IntKind.u32 (S.fresh)) = (Value.int IntKind.u32 (S.fresh))) ∧ True) ∧ ((S.nodes) = (S.nodes)) ∧ ((S.counts) = (S.counts)) ∧ ((S.used) = (S.used)) ∧ ((S.gen) = (S.gen)) ∧ ((S.rel) = (S.rel)) ∧ (((Value.int IntKind.i64 (k)) = (Value.int IntKind.i64 (x.n.key))) ∧ ((Value.int IntKind.i64 (v)) = (Value.int IntKind.i64 (x.n.value))) ∧ ((Value.int IntKind.u32 (l)) = (Value.int IntKind.u32 (x.n.left))) ∧ ((Value.int IntKind.u32 (r)) = (Value.int IntKind.u32 (x.n.right))) ∧ ((Value.int IntKind.i64 1) = (Value.int IntKind.i64 (x.n.size))) ∧ ((Value.int IntKind.i64 (v)) = (Value.int IntKind.i64 (x.n.sum))) ∧ ((Value.int IntKind.i64 (v)) = (Value.int IntKind.i64 (x.n.min))) ∧ ((Value.int IntKind.i64 (v)) = (Value.int IntKind.i64 (x.n.max))) ∧ True) ∧ True))) (((0 ≤ l) ∧ (l < 4294967296) ∧ (S.used.length ≤ 65537) ∧ (brS (!S.us l)
    ((K (SV.tup [(TV.at (At.val (Value.int IntKind.u32 0))), (TV.at (At.val (Value.int IntKind.i64 1)))]) [(Chunk.box [(At.ptr 1 0), (At.slc 2), (At.slc 3), (At.val (Value.int IntKind.u64 (S.reads)))]), (Chunk.box [(At.slc 4), (At.slc 5), (At.slc 6), (At.val (Value.int IntKind.u32 (S.fresh)))]), (Chunk.row true (EC.node) (S.nodes)), (Chunk.row true (EC.int) (S.counts)), (Chunk.row true (EC.bool) (S.used)), (Chunk.row true (EC.u32) (S.gen)), (Chunk.row true (EC.u32) (S.rel))] [0, 1, 2, 3, 4, 5, 6])) (((0 ≤ l) ∧ (l < (↑S.nodes.length : Int)) ∧ (∃ x : XMk S k v l r, ((0 = ((↑x.i : Int))) ∧ (True ∧ ((Value.int IntKind.u32 (l)) = (Value.int IntKind.u32 (l))) ∧ ((Value.int IntKind.u32 (r)) = (Value.int IntKind.u32 (r))) ∧ True ∧ (((Value.int IntKind.u32 (l)) = (Value.int IntKind.u32 (l))) ∧ ((Value.int IntKind.u32 (r)) = (Value.int IntKind.u32 (r))) ∧ True) ∧ ((Value.int IntKind.i64 0) = (Value.int IntKind.i64 0)) ∧ True) ∧ (True ∧ True ∧ True ∧ ((Value.int IntKind.u64 (S.reads)) = (Value.int IntKind.u64 (S.reads))) ∧ True) ∧ (True ∧ True ∧ True ∧ ((Value.int IntKind.u32 (S.fresh)) = (Value.int IntKind.u32 (S.fresh))) ∧ True) ∧ ((S.nodes) = (S.nodes)) ∧ ((S.counts) = (S.counts)) ∧ ((S.used) = (S.used)) ∧ ((S.gen) = (S.gen)) ∧ ((S.rel) = (S.rel)) ∧ (((Value.int IntKind.i64 (k)) = (Value.int IntKind.i64 (x.n.key))) ∧ ((Value.int IntKind.i64 (v)) = (Value.int IntKind.i64 (x.n.value))) ∧ ((Value.int IntKind.u32 (l)) = (Value.int IntKind.u32 (x.n.left))) ∧
    ((Value.int IntKind.u32 (r)) = (Value.int IntKind.u32 (x.n.right))) ∧ ((Value.int IntKind.i64 (IntKind.i64.wrap (1 + (S.nd l).size))) = (Value.int IntKind.i64 (x.n.size))) ∧ ((Value.int IntKind.i64 (IntKind.i64.wrap (v + (S.nd l).sum))) = (Value.int IntKind.i64 (x.n.sum))) ∧ ((Value.int IntKind.i64 (if (S.nd l).min < v then (S.nd l).min else v)) = (Value.int IntKind.i64 (x.n.min))) ∧ ((Value.int IntKind.i64 (if (S.nd l).max > v then (S.nd l).max else v)) = (Value.int IntKind.i64 (x.n.max))) ∧ True) ∧ True))))))))) ∧
(∀ x : XMk S k v l r, ((0 = ((↑x.i : Int))) → (((0 ≤ IntKind.i64.wrap (0 + 1)) ∧ (IntKind.i64.wrap (0 + 1) < ((2 : Nat) : Int)) ∧ (brS (r == 0) ((∃ x1 : XMk S k v l r, ((1 = ((↑x1.i : Int))) ∧ (True ∧ ((Value.int IntKind.u32 (l)) = (Value.int IntKind.u32 (l))) ∧ ((Value.int IntKind.u32 (r)) = (Value.int IntKind.u32 (r))) ∧ True ∧ (((Value.int IntKind.u32 (l)) = (Value.int IntKind.u32 (l))) ∧ ((Value.int IntKind.u32 (r)) = (Value.int IntKind.u32 (r))) ∧ True) ∧ ((Value.int IntKind.i64 1) = (Value.int IntKind.i64 1)) ∧ True) ∧ (True ∧ True ∧ True ∧ ((Value.int IntKind.u64 (S.reads)) = (Value.int IntKind.u64 (S.reads))) ∧ True) ∧ (True ∧ True ∧ True ∧ ((Value.int IntKind.u32 (S.fresh)) = (Value.int IntKind.u32 (S.fresh))) ∧ True) ∧ ((S.nodes) = (S.nodes)) ∧ ((S.counts) = (S.counts)) ∧ ((S.used) = (S.used)) ∧ ((S.gen) = (S.gen)) ∧ ((S.rel) = (S.rel)) ∧ (((Value.int IntKind.i64 (x.n.key)) = (Value.int IntKind.i64 (x1.n.key))) ∧
    ((Value.int IntKind.i64 (x.n.value)) = (Value.int IntKind.i64 (x1.n.value))) ∧ ((Value.int IntKind.u32 (x.n.left)) = (Value.int IntKind.u32 (x1.n.left))) ∧ ((Value.int IntKind.u32 (x.n.right)) = (Value.int IntKind.u32 (x1.n.right))) ∧ ((Value.int IntKind.i64 (x.n.size)) = (Value.int IntKind.i64 (x1.n.size))) ∧ ((Value.int IntKind.i64 (x.n.sum)) = (Value.int IntKind.i64 (x1.n.sum))) ∧ ((Value.int IntKind.i64 (x.n.min)) = (Value.int IntKind.i64 (x1.n.min))) ∧ ((Value.int IntKind.i64 (x.n.max)) = (Value.int IntKind.i64 (x1.n.max))) ∧ True) ∧ True))) (((0 ≤ r) ∧ (r < 4294967296) ∧ (S.used.length ≤ 65537) ∧ (brS (!S.us r) ((K (SV.tup [(TV.at (At.val (Value.int IntKind.u32 0))), (TV.at (At.val (Value.int IntKind.i64 1)))]) [(Chunk.box [(At.ptr 1 0), (At.slc 2), (At.slc 3), (At.val (Value.int IntKind.u64 (S.reads)))]), (Chunk.box [(At.slc 4), (At.slc 5), (At.slc 6), (At.val (Value.int IntKind.u32 (S.fresh)))]), (Chunk.row true (EC.node) (S.nodes)), (Chunk.row true (EC.int) (S.counts)), (Chunk.row true (EC.bool) (S.used)), (Chunk.row true (EC.u32) (S.gen)), (Chunk.row true (EC.u32) (S.rel))] [0, 1, 2, 3, 4, 5, 6])) (((0 ≤ r) ∧ (r < (↑S.nodes.length : Int)) ∧ (∃ x1 : XMk S k v l r, ((1 = ((↑x1.i : Int))) ∧ (True ∧ ((Value.int IntKind.u32 (l)) = (Value.int IntKind.u32 (l))) ∧ ((Value.int IntKind.u32 (r)) = (Value.int IntKind.u32 (r))) ∧ True ∧ (((Value.int IntKind.u32 (l)) = (Value.int IntKind.u32 (l))) ∧ ((Value.int IntKind.u32 (r)) = (Value.int IntKind.u32 (r))) ∧ True) ∧
    ((Value.int IntKind.i64 1) = (Value.int IntKind.i64 1)) ∧ True) ∧ (True ∧ True ∧ True ∧ ((Value.int IntKind.u64 (S.reads)) = (Value.int IntKind.u64 (S.reads))) ∧ True) ∧ (True ∧ True ∧ True ∧ ((Value.int IntKind.u32 (S.fresh)) = (Value.int IntKind.u32 (S.fresh))) ∧ True) ∧ ((S.nodes) = (S.nodes)) ∧ ((S.counts) = (S.counts)) ∧ ((S.used) = (S.used)) ∧ ((S.gen) = (S.gen)) ∧ ((S.rel) = (S.rel)) ∧ (((Value.int IntKind.i64 (x.n.key)) = (Value.int IntKind.i64 (x1.n.key))) ∧ ((Value.int IntKind.i64 (x.n.value)) = (Value.int IntKind.i64 (x1.n.value))) ∧ ((Value.int IntKind.u32 (x.n.left)) = (Value.int IntKind.u32 (x1.n.left))) ∧ ((Value.int IntKind.u32 (x.n.right)) = (Value.int IntKind.u32 (x1.n.right))) ∧ ((Value.int IntKind.i64 (IntKind.i64.wrap (x.n.size + (S.nd r).size))) = (Value.int IntKind.i64 (x1.n.size))) ∧ ((Value.int IntKind.i64 (IntKind.i64.wrap (x.n.sum + (S.nd r).sum))) = (Value.int IntKind.i64 (x1.n.sum))) ∧ ((Value.int IntKind.i64 (if (S.nd r).min < x.n.min then (S.nd r).min else x.n.min)) = (Value.int IntKind.i64 (x1.n.min))) ∧ ((Value.int IntKind.i64 (if (S.nd r).max > x.n.max then (S.nd r).max else x.n.max)) = (Value.int IntKind.i64 (x1.n.max))) ∧ True) ∧ True))))))))) ∧ (∀ x1 : XMk S k v l r, ((1 = ((↑x1.i : Int))) → (brS (decide (x1.n.size > 2147483647))
    ((K (SV.tup [(TV.at (At.val (Value.int IntKind.u32 0))), (TV.at (At.val (Value.int IntKind.i64 1)))]) [(Chunk.box [(At.ptr 1 0), (At.slc 2), (At.slc 3), (At.val (Value.int IntKind.u64 (S.reads)))]), (Chunk.box [(At.slc 4), (At.slc 5), (At.slc 6), (At.val (Value.int IntKind.u32 (S.fresh)))]), (Chunk.row true (EC.node) (S.nodes)), (Chunk.row true (EC.int) (S.counts)), (Chunk.row true (EC.bool) (S.used)), (Chunk.row true (EC.u32) (S.gen)), (Chunk.row true (EC.u32) (S.rel))] [0, 1, 2, 3, 4, 5, 6])) (((1 ≤ S.used.length) ∧ (S.used.length ≤ 65537) ∧ (S.rel.length ≤ 65537) ∧ (0 ≤ S.fresh) ∧ (S.fresh ≤ 65537) ∧ ((S.gen.length) = (S.used.length)) ∧ (relOK S.rel S.used.length) ∧ (0 ≤ (↑S.rel.length : Int) + ((↑S.used.length : Int) - 1) - S.fresh) ∧ ((((↑S.rel.length : Int) + ((↑S.used.length : Int) - 1) - S.fresh) = 0) → (K (SV.tup [(TV.at (At.val (Value.int IntKind.u32 0))), (TV.at (At.val (Value.int IntKind.i64 2)))]) [(Chunk.box [(At.ptr 1 0), (At.slc 2), (At.slc 3), (At.val (Value.int IntKind.u64 (S.reads)))]), (Chunk.box [(At.slc 4), (At.slc 5), (At.slc 6), (At.val (Value.int IntKind.u32 (S.fresh)))]), (Chunk.row true (EC.node) (S.nodes)), (Chunk.row true (EC.int) (S.counts)), (Chunk.row true (EC.bool) (S.used)), (Chunk.row true (EC.u32) (S.gen)), (Chunk.row true (EC.u32) (S.rel))] [0, 1, 2, 3, 4, 5, 6])) ∧ ((0 < (↑S.rel.length : Int) + ((↑S.used.length : Int) - 1) - S.fresh) → (∀ i : Int, (∀ rl' : List Int, (∀ fr' : Int,
    (((Prod.mk (i) (Prod.mk (rl') (fr'))) = (fresh3 S.rel S.fresh)) → ((0 ≤ i) ∧ (i < (↑S.nodes.length : Int)) ∧ (0 ≤ i) ∧ (i < (↑S.counts.length : Int)) ∧ (0 ≤ l) ∧ (l < (↑(S.counts.set i.toNat 1).length : Int)) ∧ (0 ≤ l) ∧ (l < (↑(S.counts.set i.toNat 1).length : Int)) ∧ (0 ≤ r) ∧ (r < (↑((S.counts.set i.toNat 1).set l.toNat (IntKind.i64.wrap ((S.counts.set i.toNat 1).getD l.toNat 0 + 1))).length : Int)) ∧ (0 ≤ r) ∧ (r < (↑((S.counts.set i.toNat 1).set l.toNat (IntKind.i64.wrap ((S.counts.set i.toNat 1).getD l.toNat 0 + 1))).length : Int)) ∧
    (K (SV.tup [(TV.at (At.val (Value.int IntKind.u32 (i)))), (TV.at (At.val (Value.int IntKind.i64 0)))]) [(Chunk.box [(At.ptr 1 0), (At.slc 2), (At.slc 3), (At.val (Value.int IntKind.u64 (S.reads)))]), (Chunk.box [(At.slc 4), (At.slc 5), (At.slc 6), (At.val (Value.int IntKind.u32 (fr')))]), (Chunk.row true (EC.node) (S.nodes.set i.toNat { key := x1.n.key, value := x1.n.value, left := x1.n.left, right := x1.n.right, size := x1.n.size, sum := x1.n.sum, min := x1.n.min, max := x1.n.max : NodeT })), (Chunk.row true (EC.int) (((S.counts.set i.toNat 1).set l.toNat (IntKind.i64.wrap ((S.counts.set i.toNat 1).getD l.toNat 0 + 1))).set r.toNat (IntKind.i64.wrap (((S.counts.set i.toNat 1).set l.toNat (IntKind.i64.wrap ((S.counts.set i.toNat 1).getD l.toNat 0 + 1))).getD r.toNat 0 + 1)))), (Chunk.row true (EC.bool) (S.used.set i.toNat true)), (Chunk.row true (EC.u32) (S.gen.set i.toNat (IntKind.u32.wrap (S.gn i + 1)))), (Chunk.row true (EC.u32) (rl'))] [0, 1, 2, 3, 4, 5, 6])))))))))))))))) = _ by kernel_rfl) ?_
  obtain ⟨hs, hw⟩ := hw
  have hn1 := hw.n1; have hn2 := hw.n2; have hnn := hw.nnod; have hng := hw.ngen; have hnc := hw.ncnt; have hfr := hw.fr; have hfree := hw.free_nonneg
  have hl0 := hw.ge0 hl
  have hr0 := hw.ge0 hr
  have hl1 : l < S.used.length := by rcases hl with e | e; omega; have := hw.pos e; omega
  have hr1 : r < S.used.length := by rcases hr with e | e; omega; have := hw.pos e; omega
  refine ⟨⟨by decide, by decide, brS_of (fun c => ⟨⟨0, ⟨k, v, l, r, 1, v, v, v⟩, ?_⟩, ?_⟩) fun c => ⟨hl0, by omega, by omega, brS_of (fun d => ?_) fun d => ⟨hl0, by omega, ⟨⟨0, addK ⟨k, v, l, r, 1, v, v, v⟩ (S.nd l), ?_⟩, ?_⟩⟩⟩⟩,
    fun x rx => ⟨⟨by decide, by decide, brS_of (fun c => ⟨⟨1, x.n, ?_⟩, ?_⟩) fun c => ⟨hr0, by omega, by omega, brS_of (fun d => ?_) fun d => ⟨hr0, by omega, ⟨⟨1, addK x.n (S.nd r), ?_⟩, ?_⟩⟩⟩⟩, fun x1 r1 => ?_⟩⟩
  · have c : l = 0 := by simpa using c
    rw [if_pos rfl]; unfold addC; rw [if_pos c]
  · (repeat' first | exact trivial | exact rfl | refine And.intro ?_ ?_)
  · have c : l ≠ 0 := by simpa using c
    have := hl.resolve_left c
    rw [this] at d; cases d
  · have c : l ≠ 0 := by simpa using c
    rw [if_pos rfl]; unfold addC; rw [if_neg c]
  · (repeat' first | exact trivial | exact rfl | refine And.intro ?_ ?_)
  · have c : r = 0 := by simpa using c
    have hx := x.h
    rw [if_pos (by omega)] at hx
    rw [if_neg (by decide)]; unfold mkNode; rw [← hx]; unfold addC; rw [if_pos c]
  · (repeat' first | exact trivial | exact rfl | refine And.intro ?_ ?_)
  · have c : r ≠ 0 := by simpa using c
    have := hr.resolve_left c
    rw [this] at d; cases d
  · have c : r ≠ 0 := by simpa using c
    have hx := x.h
    rw [if_pos (by omega)] at hx
    rw [if_neg (by decide)]; unfold mkNode; rw [← hx]; unfold addC; rw [if_neg c]
  · (repeat' first | exact trivial | exact rfl | refine And.intro ?_ ?_)
  · obtain ⟨i1, n1, hx⟩ := x1
    have r1 : i1 = 1 := by have : (1 : Int) = (i1 : Int) := r1; omega
    subst r1
    rw [if_neg (by decide)] at hx
    subst hx
    refine brS_of (fun c => h1 (by have : (mkNode S k v l r).size > 2147483647 := of_decide_eq_true c; unfold maxSize; omega)) fun c => ?_
    have c : (mkNode S k v l r).size ≤ maxSize := by have : ¬ (mkNode S k v l r).size > 2147483647 := of_decide_eq_false c; unfold maxSize; omega
    refine ⟨by omega, hn2, by omega, hfr.1, by omega, hng, fun i hi => by have := hw.rel i hi; omega, by have := hfree.1; unfold Arn.free Arn.cap at this; omega, fun e => h2 c (by unfold Arn.free Arn.cap; omega), fun e i rl' fr' he => ?_⟩
    have e : 0 < S.free := by unfold Arn.free Arn.cap; omega
    have h4 := h3 c e _ _ rfl rfl
    obtain ⟨b1, b2, _⟩ := hw.nxt_spec e
    have e1 : i = nxt S := congrArg Prod.fst he
    have e2 : rl' = (freshS S).2.1 := congrArg (fun p : Int × List Int × Int => p.2.1) he
    have e3 : fr' = (freshS S).2.2 := congrArg (fun p : Int × List Int × Int => p.2.2) he
    subst e1 e2 e3
    refine ⟨by omega, by omega, by omega, by omega, hl0, ?_, hl0, ?_, hr0, ?_, hr0, ?_, h4⟩
    all_goals (simp only [List.length_set]; omega)
theorem s_make : SoundT C0 13 tMake := by
  refine .ofW W7 Try.func13 (by decide) rfl fun args H K h hB => ?_
  unfold tMake at h
  split at h <;> try exact h.elim
  unfold arM at h
  split at h <;> try exact h.elim
  rename_i k v l r _ rd fr nd ct us gn rl
  obtain ⟨h1, h2, h3, h4, h5, h6⟩ := h
  exact ⟨aMake ⟨us, gn, rl, fr, nd, ct, rd⟩ k v l r, ⟨frame C0.ok s_slAllocated _, frame C0.ok s_slAlloc _, trivial⟩, vc_make ⟨us, gn, rl, fr, nd, ct, rd⟩ k v l r K h1 h2 h3 h4 h5 h6⟩
end Go.Proofs.Ytmjnoiajenoinaa.Sx
end
section
/- Make where it succeeds, Release where another reference is left. -/
namespace Go.Proofs.Ytmjnoiajenoinaa.Sx
open Go

def tMakeOk : Tfm C0 := fun args H K => match args with
  | [.at (.ptr 0 0), .at (.val (.int .i64 k)), .at (.val (.int .i64 v)), .at (.val (.int .u32 l)), .at (.val (.int .u32 r))] => arM H fun S => exW S ∧ live S l ∧ live S r ∧ (mkNode S k v l r).size ≤ maxSize ∧ 0 < S.free ∧
    ∀ S' i, S' = makeS S k v l r → i = nxt S → K (.tup [.at (vU i), .at (vI 0)]) (chS S') W7
  | _ => False
theorem s_makeOk : SoundT C0 13 tMakeOk := s_make.weak fun args H K h => by
  unfold tMakeOk at h
  unfold tMake
  split at h <;> try exact h.elim
  unfold arM at h ⊢
  split at h <;> try exact h.elim
  obtain ⟨h1, h2, h3, h4, h5, h6⟩ := h
  exact ⟨h1, h2, h3, fun e => absurd h4 (by omega), fun _ e => absurd h5 (by omega), fun _ _ => h6⟩
def tGive : Tfm C0 := fun args H K => match args with
  | [.at (.ptr 0 0), .at (.val (.int .u32 i))] => arM H fun S => ∃ hs, Wf S (i :: hs) ∧ (S.us i = true → 1 ≤ S.indeg i) ∧ ∀ S', S' = relA S i → K (.tup [.at (vI 0), .at (vI 0)]) (chS S') W7
  | _ => False
theorem s_give : SoundT C0 14 tGive := s_release.weak fun args H K h => by
  unfold tGive at h
  unfold tRelease
  split at h <;> try exact h.elim
  unfold arM at h ⊢
  split at h <;> try exact h.elim
  obtain ⟨hs, h1, h2, h3⟩ := h
  refine ⟨hs, h1, fun S' fr _ _ h4 h5 h6 => ?_⟩
  have e := h1.given h2 h5 h6
  have h7 := h3 S' e
  have : fr = 0 := by rw [e, (relA_flds _ _).2.2.1] at h4; omega
  rw [this]
  exact h7
end Go.Proofs.Ytmjnoiajenoinaa.Sx
end
section
/- Small facts on states. -/
namespace Go.Proofs.Ytmjnoiajenoinaa.Sx
open Go

theorem rdS_zero (S : Arn) : rdS S 0 = S := by simp [rdS]
theorem rdS_rdS (S : Arn) (a b : Nat) : rdS (rdS S a) b = rdS S (a + b) := by simp [rdS]; omega
theorem rep_rd {S : Arn} {t : Tr} {i : Int} (h : Rep S t i) (n : Nat) : Rep (rdS S n) t i := Rep.same (S := S) (S' := rdS S n) (fun _ => rfl) (fun _ => rfl) h
theorem inU_of {S : Arn} {hs : List Int} (h : Wf S hs) {i : Int} (hi : live S i) : inU i := by
  have h2 := h.n2
  rcases hi with rfl | hi
  · exact ⟨by decide, by decide⟩
  · have := h.pos hi; exact ⟨by omega, by omega⟩
end Go.Proofs.Ytmjnoiajenoinaa.Sx
end
section
/- reserve, ref8: how many slots an operation may need; lookup.Get. -/
namespace Go.Proofs.Ytmjnoiajenoinaa.Sx
open Go

/-KEEP okI Wf exW inU live Rep rdS Tr.size Tr.list getE Asc ht wt Hn-/
theorem htr_size : ∀ t : Tr, ht t ≤ t.size
  | .nil => Nat.le_refl _
  | .node l k v r => by
    have h1 := htr_size l
    have h2 := htr_size r
    rw [ht, Tr.size]
    split <;> omega
structure XGe (S : Arn) (t : Tr) (q : Int) where
  i : Int
  t' : Tr
  m : Nat
  h : Rep S t' i ∧ getE t.list q = getE t'.list q ∧ Asc t'.list ∧ m + ht t' ≤ ht t ∧ t'.size ≤ t.size
noncomputable def aGetT (S : Arn) (t : Tr) (q : Int) : Ann C0 := { Γ := [(60, frameT [] tNode)], inv := fun n => match n with
  | 2 => some { X := XGe S t q, sl := [8], tf := fun x => [vi .u32 x.i], hf := fun x => chS (rdS S x.m), μ := fun x => x.t'.size, wr := [0] }
  | _ => none }
def tGetT : Tfm C0 := fun args H K => match args with
  | [.at (.ptr 0 0), .at (.val (.int .u32 i)), .at (.val (.int .i64 q))] => arM H fun S => ∃ hs t, Wf S hs ∧ Rep S t i ∧ Asc t.list ∧ t.size ≤ 1000000 ∧ S.reads + t.size ≤ 3000000000000000000 ∧
    ∀ S' m o, S' = rdS S m → m ≤ ht t → o = getE t.list q → K (.tup [.at (vI (o.getD 0)), .at (vB o.isSome)]) (chS S') [0]
  | _ => False
structure XMx (n : Int) where
  h : Nat
  p : h ≤ 80 ∧ wt h ≤ n + 1
noncomputable def aMxh (n : Int) : Ann C0 := { Γ := [], inv := fun k => match k with
  | 4 => some { X := XMx n, sl := [3, 4], tf := fun x => [vi .i64 x.h, vi .i64 (wt x.h)], hf := fun _ => [], μ := fun x => 80 - x.h }
  | _ => none }
def tMxh : Tfm C0 := fun args H K => match args, H with
  | [.at (.val (.int .i64 n))], [] => 0 ≤ n ∧ n ≤ 1000000 ∧ ∀ h, h = Hn n → K (.one (.at (vI h))) [] []
  | _, _ => False
def okI (l : List Int) : Prop := ∀ i : Nat, i < l.length → 0 ≤ l.getD i 0 ∧ l.getD i 0 ≤ 65536
structure XVd (l : List Int) where
  i : Nat
  h : i ≤ l.length
noncomputable def aVld (l : List Int) : Ann C0 := { Γ := [], inv := fun k => match k with
  | 2 => some { X := XVd l, sl := [7], tf := fun x => [vi .i64 x.i], hf := fun _ => [.row false EC.int l], μ := fun x => l.length - x.i }
  | _ => none }
def tVld : Tfm C0 := fun args H K => match args, H with
  | [.at (.slc 0)], [.row false .int l] => okI l ∧ l.length ≤ 100 ∧ K (.one (.at (vB true))) [.row false EC.int l] []
  | _, _ => False
noncomputable def aPath : Ann C0 := { Γ := [(140, frameT [] tMxh)] }
def tPath : Tfm C0 := fun args H K => match args, H with
  | [.at (.val (.int .i64 f)), .at (.val (.int .i64 n))], [] => 0 ≤ f ∧ f ≤ 100 ∧ 0 ≤ n ∧ n ≤ 1000000 ∧ ∀ p, p = f * (Hn n + 2) → K (.one (.at (vI p))) [] []
  | _, _ => False
noncomputable def aRes : Ann C0 := { Γ := [(115, frameT [] tVld), (116, frameT [] tPath)] }
def tRes1 (f d : Int) : Tfm C0 := fun args H K => match args, H with
  | [.at (.val (.int .i64 n))], [] => 0 ≤ n ∧ n ≤ 65536 ∧ ∀ p, p = f * (Hn (n + d) + 2) → K (.one (.at (vI p))) [] []
  | _, _ => False
def tRes2 : Tfm C0 := fun args H K => match args, H with
  | [.at (.val (.int .i64 n)), .at (.val (.int .i64 m))], [] => 0 ≤ n ∧ n ≤ 65536 ∧ 0 ≤ m ∧ m ≤ 65536 ∧ ∀ p, p = 4 * (Hn (n + m + 1) + 2) → K (.one (.at (vI p))) [] []
  | _, _ => False
noncomputable def aNeed : Ann C0 := { Γ := [(124, frameT [] tMh)] }
def tNeed : Tfm C0 := fun args H K => match args, H with
  | [.at (.val (.int .i64 a)), .at (.val (.int .i64 b)), .at (.val (.int .i64 c)), .at (.val (.int .i64 m)), .at (.val (.int .i64 e)), .at (.val (.int .i64 f))], [] => 0 ≤ a ∧ a ≤ 65536 ∧ 0 ≤ b ∧ b ≤ 65536 ∧ 0 ≤ c ∧ c ≤ 65536 ∧ 0 ≤ m ∧ m ≤ 10 ∧ 0 ≤ e ∧ e ≤ 200000 ∧ 0 ≤ f ∧ f ≤ 100 ∧ ∀ p, p = e + f * (Hn (a + b + c + m) + 2) → K (.one (.at (vI p))) [] []
  | _, _ => False
noncomputable def aN8 : Ann C0 := { Γ := [(81, frameT [] tNeed)] }
theorem vc_getT (S : Arn) (i q : Int) (K : KT) (hs : List Int) (t : Tr) (hw : Wf S hs) (hr : Rep S t i) (ha : Asc t.list) (_ : t.size ≤ 1000000) (h2 : S.reads + t.size ≤ 3000000000000000000)
    (h : ∀ S' m o, S' = rdS S m → m ≤ ht t → o = getE t.list q → K (.tup [.at (vI (o.getD 0)), .at (vB o.isSome)]) (chS S') [0]) :
    vc C0 (aGetT S t q) Try.f69 [.at (.ptr 0 0), .at (vU i), .at (vI q)] (chS S) (normK 7 (wideK [0] K)) := by
  refine Eq.mp (show ((∃ x : XGe S t q, (True ∧ (True ∧ ((Value.int IntKind.i64 (q)) = (Value.int IntKind.i64 (q))) ∧ ((Value.int IntKind.u32 (i)) = (Value.int IntKind.u32 (x.i))) ∧ True) ∧ (True ∧ True ∧ True ∧ ((Value.int IntKind.u64 (S.reads)) = (Value.int IntKind.u64 ((rdS S x.m).reads))) ∧ True) ∧ (True ∧ True ∧ True ∧ ((Value.int IntKind.u32 (S.fresh)) = (Value.int IntKind.u32 ((rdS S x.m).fresh))) ∧ True) ∧ ((S.nodes) = ((rdS S x.m).nodes)) ∧ ((S.counts) = ((rdS S x.m).counts)) ∧ ((S.used) = ((rdS S x.m).used)) ∧ ((S.gen) = ((rdS S x.m).gen)) ∧ ((S.rel) = ((rdS S x.m).rel)) ∧ True)) ∧
(∀ x : XGe S t q, (True → (brS (x.i != 0) (((inU x.i) ∧ (exW (rdS S x.m)) ∧ ((rdS S x.m).reads < 4000000000000000000) ∧ (∀ S' : Arn, (((S') = (rdS (rdS S x.m) ((rdS S x.m).us x.i).toNat)) → (brS (!(rdS S x.m).us x.i) ((K (SV.tup [(TV.at (At.val (Value.int IntKind.i64 0))), (TV.at (At.val (Value.bool false)))]) [(Chunk.box [(At.ptr 1 0), (At.slc 2), (At.slc 3), (At.val (Value.int IntKind.u64 (S'.reads)))]), (Chunk.box [(At.slc 4), (At.slc 5), (At.slc 6), (At.val (Value.int IntKind.u32 (S'.fresh)))]), (Chunk.row true (EC.node) (S'.nodes)), (Chunk.row true (EC.int) (S'.counts)), (Chunk.row true (EC.bool) (S'.used)), (Chunk.row true (EC.u32) (S'.gen)), (Chunk.row true (EC.u32) (S'.rel))] [0])) ((brS (decide (q < ((rdS S x.m).nd x.i).key)) ((∃ x' : XGe S t q, (True ∧ ((True ∧ ((Value.int IntKind.i64 (q)) = (Value.int IntKind.i64 (q))) ∧
    ((Value.int IntKind.u32 (((rdS S x.m).nd x.i).left)) = (Value.int IntKind.u32 (x'.i))) ∧ True) ∧ (True ∧ True ∧ True ∧ ((Value.int IntKind.u64 (S'.reads)) = (Value.int IntKind.u64 ((rdS S x'.m).reads))) ∧ True) ∧ (True ∧ True ∧ True ∧ ((Value.int IntKind.u32 (S'.fresh)) = (Value.int IntKind.u32 ((rdS S x'.m).fresh))) ∧ True) ∧ ((S'.nodes) = ((rdS S x'.m).nodes)) ∧ ((S'.counts) = ((rdS S x'.m).counts)) ∧ ((S'.used) = ((rdS S x'.m).used)) ∧ ((S'.gen) = ((rdS S x'.m).gen)) ∧ ((S'.rel) = ((rdS S x'.m).rel)) ∧ True) ∧ (x'.t'.size < x.t'.size)))) ((brS (decide (q > ((rdS S x.m).nd x.i).key)) ((∃ x' : XGe S t q, (True ∧ ((True ∧ ((Value.int IntKind.i64 (q)) = (Value.int IntKind.i64 (q))) ∧ ((Value.int IntKind.u32 (((rdS S x.m).nd x.i).right)) = (Value.int IntKind.u32 (x'.i))) ∧ True) ∧ (True ∧ True ∧ True ∧ ((Value.int IntKind.u64 (S'.reads)) = (Value.int IntKind.u64 ((rdS S x'.m).reads))) ∧ True) ∧ (True ∧ True ∧ True ∧ ((Value.int IntKind.u32 (S'.fresh)) = (Value.int IntKind.u32 ((rdS S x'.m).fresh))) ∧ True) ∧ ((S'.nodes) = ((rdS S x'.m).nodes)) ∧ ((S'.counts) = ((rdS S x'.m).counts)) ∧ ((S'.used) = ((rdS S x'.m).used)) ∧ ((S'.gen) = ((rdS S x'.m).gen)) ∧ ((S'.rel) = ((rdS S x'.m).rel)) ∧ True) ∧ (x'.t'.size < x.t'.size))))
    ((K (SV.tup [(TV.at (At.val (Value.int IntKind.i64 (((rdS S x.m).nd x.i).value)))), (TV.at (At.val (Value.bool true)))]) [(Chunk.box [(At.ptr 1 0), (At.slc 2), (At.slc 3), (At.val (Value.int IntKind.u64 (S'.reads)))]), (Chunk.box [(At.slc 4), (At.slc 5), (At.slc 6), (At.val (Value.int IntKind.u32 (S'.fresh)))]), (Chunk.row true (EC.node) (S'.nodes)), (Chunk.row true (EC.int) (S'.counts)), (Chunk.row true (EC.bool) (S'.used)), (Chunk.row true (EC.u32) (S'.gen)), (Chunk.row true (EC.u32) (S'.rel))] [0]))))))))))) ((K (SV.tup [(TV.at (At.val (Value.int IntKind.i64 0))), (TV.at (At.val (Value.bool false)))]) [(Chunk.box [(At.ptr 1 0), (At.slc 2), (At.slc 3), (At.val (Value.int IntKind.u64 ((rdS S x.m).reads)))]), (Chunk.box [(At.slc 4), (At.slc 5), (At.slc 6), (At.val (Value.int IntKind.u32 ((rdS S x.m).fresh)))]), (Chunk.row true (EC.node) ((rdS S x.m).nodes)), (Chunk.row true (EC.int) ((rdS S x.m).counts)), (Chunk.row true (EC.bool) ((rdS S x.m).used)), (Chunk.row true (EC.u32) ((rdS S x.m).gen)), (Chunk.row true (EC.u32) ((rdS S x.m).rel))] [0])))))) = _ by kernel_rfl) ?_
  have hrd := hw.rds
  have hts := htr_size t
  refine ⟨⟨⟨i, t, 0, hr, rfl, ha, by omega, Nat.le_refl _⟩, ?_⟩, fun x _ => ?_⟩
  · (repeat' first | exact trivial | exact rfl | refine And.intro ?_ ?_)
    rw [rdS_zero]
  obtain ⟨xi, xt, xm, h1', h2', h3', h4', h5'⟩ := x
  dsimp only
  have hwx : Wf (rdS S xm) hs := hw.rd (by omega)
  refine brS_of (fun c => ?_) fun c => ?_
  · have c : xi ≠ 0 := by simpa using c
    cases xt with
    | nil => exact absurd h1' c
    | node l k v r =>
      obtain ⟨r1, r2, r3, r4, r5⟩ := h1'
      have q1 := ht_l l r k v
      have q2 := ht_r l r k v
      have hsz : l.size + r.size + 1 = (Tr.node l k v r).size := by simp [Tr.size]; omega
      have asc' : Asc (l.list ++ (k, v) :: r.list) := h3'
      obtain ⟨al, ar, _, _⟩ := asc_parts asc'
      refine ⟨inU_of hw (.inr r1), ⟨_, hwx⟩, by show S.reads + (xm : Int) < _; omega, fun S1 e1 => brS_of (fun d => ?_) fun _ => ?_⟩
      · have d : (!S.us xi) = true := d
        rw [r1] at d; cases d
      have e1 : S1 = rdS S (xm + 1) := by rw [e1, rdS_rdS]; show rdS S (xm + (S.us xi).toNat) = _; rw [r1]; rfl
      subst e1
      have ek : ((rdS S xm).nd xi).key = k := r2
      have ev : ((rdS S xm).nd xi).value = v := r3
      rw [ek]
      refine brS_of (fun d => ?_) fun d => brS_of (fun d2 => ?_) fun d2 => ?_
      · have d : q < k := of_decide_eq_true d
        refine ⟨⟨(S.nd xi).left, l, xm + 1, r4, by rw [h2']; exact getE_left asc' d, al, by omega, by omega⟩, ?_⟩
        (repeat' first | exact trivial | exact rfl | refine And.intro ?_ ?_)
        show l.size < (Tr.node l k v r).size; omega
      · have d2 : k < q := of_decide_eq_true d2
        refine ⟨⟨(S.nd xi).right, r, xm + 1, r5, by rw [h2']; exact getE_right asc' d2, ar, by omega, by omega⟩, ?_⟩
        (repeat' first | exact trivial | exact rfl | refine And.intro ?_ ?_)
        show r.size < (Tr.node l k v r).size; omega
      · have d : ¬ q < k := of_decide_eq_false d
        have d2 : ¬ k < q := of_decide_eq_false d2
        have eq : k = q := by omega
        subst eq
        rw [ev]
        exact h _ (xm + 1) (some v) rfl (by omega) (by rw [h2']; exact (getE_at asc').symm)
  · have c : xi = 0 := by simpa using c
    subst c
    have e := h1'.zero hw
    subst e
    exact h _ xm none rfl (by omega) (by rw [h2']; rfl)
theorem s_getT : SoundT C0 69 tGetT := by
  refine .ofW [0] Try.func69 (by decide) rfl fun args H K h hB => ?_
  unfold tGetT at h
  split at h <;> try exact h.elim
  unfold arM at h
  split at h <;> try exact h.elim
  rename_i i q _ rd fr nd ct us gn rl
  obtain ⟨hs, t, h1, h2, h3, h4, h5, h6⟩ := h
  exact ⟨aGetT ⟨us, gn, rl, fr, nd, ct, rd⟩ t q, ⟨frame C0.ok s_node _, trivial⟩, vc_getT ⟨us, gn, rl, fr, nd, ct, rd⟩ i q K hs t h1 h2 h3 h4 h5 h6⟩
theorem tdiv3 {x : Int} (h : 0 ≤ x) : x.tdiv 3 = x / 3 := Int.tdiv_eq_ediv_of_nonneg h
theorem Hn_top {n : Int} (h : 0 ≤ n) {k : Nat} (h1 : k ≤ 80) (h2 : wt k ≤ n + 1) (h3 : k = 80 ∨ n + 1 < wt (k + 1)) : (k : Int) = Hn n := by
  have e := gN_size n.toNat
  rw [show ((n.toNat : Nat) : Int) = n by omega] at e
  have a := gN_le (w := n.toNat + 1) h1 (by omega)
  have b := gN_wt (w := n.toNat + 1) (by omega)
  have c := gN_rng (n.toNat + 1)
  rcases h3 with h3 | h3
  · omega
  · by_cases d : k + 1 ≤ gN (n.toNat + 1)
    · have := wt_mono d c; omega
    · omega
theorem vc_mxh (n : Int) (K : KT) (h1 : 0 ≤ n) (h2 : n ≤ 1000000) (h : ∀ h, h = Hn n → K (.one (.at (vI h))) [] []) : vc C0 (aMxh n) Try.f140 [.at (vI n)] [] (normK 0 K) := by
  refine Eq.mp (show (brS (decide (n < 0)) ((K (SV.one (TV.at (At.val (Value.int IntKind.i64 (-1))))) [] [])) ((brS (decide (n > 2147483647)) ((K (SV.one (TV.at (At.val (Value.int IntKind.i64 (-1))))) [] [])) (((∃ x : XMx n, (True ∧ (((Value.int IntKind.i64 (n)) = (Value.int IntKind.i64 (n))) ∧ ((Value.int IntKind.i64 0) = (Value.int IntKind.i64 ((↑x.h : Int)))) ∧ ((Value.int IntKind.i64 1) = (Value.int IntKind.i64 (wt x.h))) ∧ True) ∧ True)) ∧ (∀ x : XMx n, (True → (brS (decide ((↑x.h : Int) < 80)) ((brS (decide (IntKind.i64.wrap (IntKind.i64.wrap (wt x.h + IntKind.i64.wrap ((IntKind.i64.wrap (wt x.h + 2)).tdiv 3)) - 1) > n)) ((K (SV.one (TV.at (At.val (Value.int IntKind.i64 ((↑x.h : Int)))))) [] [])) ((∃ x' : XMx n, (True ∧ ((((Value.int IntKind.i64 (n)) = (Value.int IntKind.i64 (n))) ∧ ((Value.int IntKind.i64 (IntKind.i64.wrap ((↑x.h : Int) + 1))) = (Value.int IntKind.i64 ((↑x'.h : Int)))) ∧ ((Value.int IntKind.i64 (IntKind.i64.wrap (wt x.h + IntKind.i64.wrap ((IntKind.i64.wrap (wt x.h + 2)).tdiv 3)))) = (Value.int IntKind.i64 (wt x'.h))) ∧ True) ∧ True) ∧ (80 - x'.h < 80 - x.h)))))) ((K (SV.one (TV.at (At.val (Value.int IntKind.i64 ((↑x.h : Int)))))) [] [])))))))))) = _ by kernel_rfl) ?_
  refine brS_of (fun c => by have := of_decide_eq_true c; omega) fun _ => brS_of (fun c => by have : n > 2147483647 := of_decide_eq_true c; omega) fun _ => ⟨⟨⟨0, by decide, by rw [w0]; omega⟩, ?_⟩, fun x _ => brS_of (fun c => ?_) fun c => ?_⟩
  · (repeat' first | exact trivial | exact rfl | refine And.intro ?_ ?_)
  · obtain ⟨k, p1, p2⟩ := x
    have c : (k : Int) < 80 := of_decide_eq_true c
    have c : k < 80 := by omega
    have st := wt_step k c
    have lo : 1 ≤ wt k := by have := wt_mono (Nat.zero_le k) p1; rw [w0] at this; exact this
    dsimp only
    rw [wrap_id (x := wt k + 2) (by omega) (by omega), tdiv3 (by omega), wrap_id (x := (wt k + 2) / 3) (by omega) (by omega), wrap_id (x := wt k + (wt k + 2) / 3) (by omega) (by omega), wrap_id (x := wt k + (wt k + 2) / 3 - 1) (by omega) (by omega), ← st]
    refine brS_of (fun d => ?_) fun d => ?_
    · have d : wt (k + 1) - 1 > n := of_decide_eq_true d
      exact h _ (Hn_top h1 p1 p2 (.inr (by omega)))
    · have d : ¬ wt (k + 1) - 1 > n := of_decide_eq_false d
      refine ⟨⟨k + 1, c, by omega⟩, ?_⟩
      (repeat' first | exact trivial | exact rfl | refine And.intro ?_ ?_)
      · rw [wrap_id (x := (k : Int) + 1) (by omega) (by omega)]; congr 1
      · show 80 - (k + 1) < 80 - k; omega
  · obtain ⟨k, p1, p2⟩ := x
    have c : ¬ (k : Int) < 80 := of_decide_eq_false c
    have c : k = 80 := by omega
    exact h _ (Hn_top h1 p1 p2 (.inl c))
theorem s_mxh : SoundT C0 140 tMxh := by
  refine .of Try.func140 (by decide) rfl fun args H K h hB => ?_
  unfold tMxh at h
  split at h <;> try exact h.elim
  rename_i n
  exact ⟨aMxh n, trivial, vc_mxh n K h.1 h.2.1 h.2.2⟩
theorem vc_vld (l : List Int) (K : KT) (h1 : okI l) (h2 : l.length ≤ 100) (h : K (.one (.at (vB true))) [.row false EC.int l] []) : vc C0 (aVld l) Try.f115 [.at (.slc 0)] [.row false EC.int l] (normK 1 K) := by
  refine Eq.mp (show ((∃ x : XVd l, (True ∧ (True ∧ ((Value.int IntKind.i64 ((↑l.length : Int))) = (Value.int IntKind.i64 ((↑l.length : Int)))) ∧ ((Value.int IntKind.i64 0) = (Value.int IntKind.i64 ((↑x.i : Int)))) ∧ True) ∧ ((l) = (l)) ∧ True)) ∧
(∀ x : XVd l, (True → (brS (decide ((↑x.i : Int) < (↑l.length : Int))) (((0 ≤ (↑x.i : Int)) ∧ ((↑x.i : Int) < (↑l.length : Int)) ∧ (brS (decide (l.getD (↑x.i : Int).toNat 0 < 0)) ((K (SV.one (TV.at (At.val (Value.bool false)))) [(Chunk.row false (EC.int) (l))] [])) ((brS (decide (l.getD (↑x.i : Int).toNat 0 > 65536)) ((K (SV.one (TV.at (At.val (Value.bool false)))) [(Chunk.row false (EC.int) (l))] [])) ((∃ x' : XVd l, (True ∧ ((True ∧ ((Value.int IntKind.i64 ((↑l.length : Int))) = (Value.int IntKind.i64 ((↑l.length : Int)))) ∧ ((Value.int IntKind.i64 (IntKind.i64.wrap ((↑x.i : Int) + 1))) = (Value.int IntKind.i64 ((↑x'.i : Int)))) ∧ True) ∧ ((l) = (l)) ∧ True) ∧ (l.length - x'.i < l.length - x.i))))))))) ((K (SV.one (TV.at (At.val (Value.bool true)))) [(Chunk.row false (EC.int) (l))] [])))))) = _ by kernel_rfl) ?_
  refine ⟨⟨⟨0, Nat.zero_le _⟩, ?_⟩, fun x _ => brS_of (fun c => ?_) fun c => h⟩
  · (repeat' first | exact trivial | exact rfl | refine And.intro ?_ ?_)
  · obtain ⟨i, hi⟩ := x
    have c : (i : Int) < l.length := of_decide_eq_true c
    have c : i < l.length := by omega
    obtain ⟨a, b⟩ := h1 i c
    refine ⟨by omega, by omega, brS_of (fun d => ?_) fun _ => brS_of (fun d => ?_) fun _ => ⟨⟨i + 1, c⟩, ?_⟩⟩
    · have d : l.getD i 0 < 0 := of_decide_eq_true d
      omega
    · have d : l.getD i 0 > 65536 := of_decide_eq_true d
      omega
    · (repeat' first | exact trivial | exact rfl | refine And.intro ?_ ?_)
      · rw [wrap_id (x := (i : Int) + 1) (by omega) (by omega)]; congr 1
      · show l.length - (i + 1) < l.length - i; omega
theorem s_vld : SoundT C0 115 tVld := by
  refine .of Try.func115 (by decide) rfl fun args H K h hB => ?_
  unfold tVld at h
  split at h <;> try exact h.elim
  rename_i l
  exact ⟨aVld l, trivial, vc_vld l K h.1 h.2.1 h.2.2⟩
theorem s_path : SoundT C0 116 tPath := by
  refine .of Try.func116 (by decide) rfl fun args H K h hB => ?_
  unfold tPath at h
  split at h <;> try exact h.elim
  rename_i f n
  obtain ⟨h1, h2, h3, h4, h5⟩ := h
  refine ⟨aPath, ⟨frame C0.ok s_mxh _, trivial⟩, Eq.mp (show ((0 ≤ n) ∧
(n ≤ 1000000) ∧
(∀ h : Int, (((h) = (Hn n)) → (K (SV.one (TV.at (At.val (Value.int IntKind.i64 (IntKind.i64.wrap (f * IntKind.i64.wrap (h + 2))))))) [] [])))) = _ by kernel_rfl) ⟨h3, h4, fun p e => ?_⟩⟩
  have r := Hn_rng n
  subst e
  have hb : f * (Hn n + 2) ≤ 100 * 82 := Int.mul_le_mul h2 (by omega) (by omega) (by omega)
  have ha : 0 ≤ f * (Hn n + 2) := Int.mul_nonneg h1 (by omega)
  rw [wrap_id (x := Hn n + 2) (by omega) (by omega), wrap_id (x := f * (Hn n + 2)) (by omega) (by omega)]
  exact h5 _ rfl
theorem okI_one {n : Int} (h1 : 0 ≤ n) (h2 : n ≤ 65536) : okI [n] := by
  intro i hi
  have : i = 0 := by simpa using hi
  subst this
  exact ⟨h1, h2⟩
theorem okI_two {n m : Int} (h1 : 0 ≤ n) (h2 : n ≤ 65536) (h3 : 0 ≤ m) (h4 : m ≤ 65536) : okI [n, m] := by
  intro i hi
  match i, hi with
  | 0, _ => exact ⟨h1, h2⟩
  | 1, _ => exact ⟨h3, h4⟩
  | i + 2, hi => simp at hi; omega
theorem s_rIns : SoundT C0 75 (tRes1 4 1) := by
  refine .of Try.func75 (by decide) rfl fun args H K h hB => ?_
  unfold tRes1 at h
  split at h <;> try exact h.elim
  rename_i n
  obtain ⟨h1, h2, h3⟩ := h
  refine ⟨aRes, ⟨frame C0.ok s_vld _, frame C0.ok s_path _, trivial⟩, Eq.mp (show ((okI [n]) ∧
([n].length ≤ 100) ∧
((0 : Int) ≤ 4) ∧
((4 : Int) ≤ 100) ∧
(0 ≤ IntKind.i64.wrap (n + 1)) ∧
(IntKind.i64.wrap (n + 1) ≤ 1000000) ∧
(∀ p : Int, (((p) = (4 * (Hn (IntKind.i64.wrap (n + 1)) + 2))) → (K (SV.one (TV.at (At.val (Value.int IntKind.i64 (p))))) [] [])))) = _ by kernel_rfl) ?_⟩
  rw [wrap_id (x := n + 1) (by omega) (by omega)]
  exact ⟨okI_one h1 h2, by simp, by decide, by decide, by omega, by omega, h3⟩
theorem s_rDel : SoundT C0 71 (tRes1 4 0) := by
  refine .of Try.func71 (by decide) rfl fun args H K h hB => ?_
  unfold tRes1 at h
  split at h <;> try exact h.elim
  rename_i n
  obtain ⟨h1, h2, h3⟩ := h
  refine ⟨aRes, ⟨frame C0.ok s_vld _, frame C0.ok s_path _, trivial⟩, Eq.mp (show ((okI [n]) ∧
([n].length ≤ 100) ∧
((0 : Int) ≤ 4) ∧
((4 : Int) ≤ 100) ∧
(0 ≤ n) ∧
(n ≤ 1000000) ∧
(∀ p : Int, (((p) = (4 * (Hn n + 2))) → (K (SV.one (TV.at (At.val (Value.int IntKind.i64 (p))))) [] [])))) = _ by kernel_rfl) ?_⟩
  exact ⟨okI_one h1 h2, by simp, by decide, by decide, by omega, by omega, fun p e => h3 p (by rw [e, Int.add_zero])⟩
theorem s_need : SoundT C0 81 tNeed := by
  refine .of Try.func81 (by decide) rfl fun args H K h hB => ?_
  unfold tNeed at h
  split at h <;> try exact h.elim
  rename_i a b c m e f
  obtain ⟨a1, a2, b1, b2, c1, c2, m1, m2, e1, e2, f1, f2, h⟩ := h
  refine ⟨aNeed, ⟨frame C0.ok s_mh _, trivial⟩, Eq.mp (show (brS (decide (a < 0)) ((K (SV.one (TV.at (At.val (Value.int IntKind.i64 (-1))))) [] [])) ((brS (decide (a > 65536)) ((K (SV.one (TV.at (At.val (Value.int IntKind.i64 (-1))))) [] [])) ((brS (decide (b < 0)) ((K (SV.one (TV.at (At.val (Value.int IntKind.i64 (-1))))) [] [])) ((brS (decide (b > 65536)) ((K (SV.one (TV.at (At.val (Value.int IntKind.i64 (-1))))) [] [])) ((brS (decide (c < 0)) ((K (SV.one (TV.at (At.val (Value.int IntKind.i64 (-1))))) [] [])) ((brS (decide (c > 65536)) ((K (SV.one (TV.at (At.val (Value.int IntKind.i64 (-1))))) [] [])) (((0 ≤ IntKind.i64.wrap (IntKind.i64.wrap (IntKind.i64.wrap (a + b) + c) + m)) ∧ (IntKind.i64.wrap (IntKind.i64.wrap (IntKind.i64.wrap (a + b) + c) + m) ≤ 2147483647) ∧ (∀ h : Int, (((h) = (Hn (IntKind.i64.wrap (IntKind.i64.wrap (IntKind.i64.wrap (a + b) + c) + m)))) → (K (SV.one (TV.at (At.val (Value.int IntKind.i64 (IntKind.i64.wrap (e + IntKind.i64.wrap (f * IntKind.i64.wrap (h + 2)))))))) [] [])))))))))))))))) = _ by kernel_rfl) ?_⟩
  rw [wrap_id (x := a + b) (by omega) (by omega), wrap_id (x := a + b + c) (by omega) (by omega), wrap_id (x := a + b + c + m) (by omega) (by omega)]
  refine brS_of (fun q => by have := of_decide_eq_true q; omega) fun _ => brS_of (fun q => by have : a > 65536 := of_decide_eq_true q; omega) fun _ => brS_of (fun q => by have := of_decide_eq_true q; omega) fun _ => brS_of (fun q => by have : b > 65536 := of_decide_eq_true q; omega) fun _ =>
    brS_of (fun q => by have := of_decide_eq_true q; omega) fun _ => brS_of (fun q => by have : c > 65536 := of_decide_eq_true q; omega) fun _ => ⟨by omega, by omega, fun p ep => ?_⟩
  have r := Hn_rng (a + b + c + m)
  subst ep
  have hb : f * (Hn (a + b + c + m) + 2) ≤ 100 * 82 := Int.mul_le_mul f2 (by omega) (by omega) (by omega)
  have ha : 0 ≤ f * (Hn (a + b + c + m) + 2) := Int.mul_nonneg f1 (by omega)
  rw [wrap_id (x := Hn (a + b + c + m) + 2) (by omega) (by omega), wrap_id (x := f * (Hn (a + b + c + m) + 2)) (by omega) (by omega), wrap_id (by omega) (by omega)]
  exact h _ rfl
theorem s_nIns : SoundT C0 38 (tRes1 4 1) := by
  refine .of Try.func38 (by decide) rfl fun args H K h hB => ?_
  unfold tRes1 at h
  split at h <;> try exact h.elim
  rename_i n
  obtain ⟨h1, h2, h3⟩ := h
  refine ⟨aN8, ⟨frame C0.ok s_need _, trivial⟩, Eq.mp (show ((0 ≤ n) ∧
(n ≤ 65536) ∧
((0 : Int) ≤ 0) ∧
((0 : Int) ≤ 65536) ∧
((0 : Int) ≤ 0) ∧
((0 : Int) ≤ 65536) ∧
((0 : Int) ≤ 1) ∧
((1 : Int) ≤ 10) ∧
((0 : Int) ≤ 0) ∧
((0 : Int) ≤ 200000) ∧
((0 : Int) ≤ 4) ∧
((4 : Int) ≤ 100) ∧
(∀ p : Int, (((p) = (0 + 4 * (Hn (n + 0 + 0 + 1) + 2))) → (K (SV.one (TV.at (At.val (Value.int IntKind.i64 (p))))) [] [])))) = _ by kernel_rfl) ?_⟩
  exact ⟨h1, h2, by decide, by decide, by decide, by decide, by decide, by decide, by decide, by decide, by decide, by decide, fun p e => h3 p (by rw [e]; simp)⟩
end Go.Proofs.Ytmjnoiajenoinaa.Sx
end
section
/- The reference's lists: what their functions answer. -/
namespace Go.Proofs.Ytmjnoiajenoinaa.Sx
open Go

theorem wrap_in {x : Int} (h0 : -9223372036854775808 ≤ x) (h1 : x ≤ 9223372036854775807) : IntKind.i64.wrap x = x := by
  rw [IntKind.wrap_i64]; omega
def iA (p : List Int) (n : Nat) : Int := p.getD n 0
theorem iA_get {p : List Int} {n : Nat} (h : n < p.length) : p[n]? = some (iA p n) := by simp [iA, List.getD_eq_getElem?_getD, List.getElem?_eq_getElem h]
theorem drop_eq_iff {α : Type} {l m : List α} {k : Nat} {x y : α} (hl : l[k]? = some x) (hm : m[k]? = some y) : (l.drop k = m.drop k) ↔ x = y ∧ l.drop (k + 1) = m.drop (k + 1) := by
  rw [drop_cons hl, drop_cons hm, List.cons.injEq]
theorem ent_eqB (x y : Ent) : (x.1 == y.1 && (x.2 == y.2 && true)) = decide (x = y) := by
  cases x; cases y; simp [Bool.decide_and, Prod.mk.injEq]; rfl
theorem int_neB (x y : Int) : (x != y) = !decide (x = y) := rfl
def sameB {α : Type} [DecidableEq α] (l m : List α) : Bool := decide (l = m)
structure XS {α : Type} [DecidableEq α] (l m : List α) where
  i : Nat
  h : i ≤ l.length ∧ l.length = m.length ∧ sameB l m = decide (l.drop i = m.drop i)
theorem XS.stop {α : Type} [DecidableEq α] {l m : List α} (z : XS l m) {x y : α} (hx : l[z.i]? = some x) (hy : m[z.i]? = some y) (hne : x ≠ y) : sameB l m = false := by
  rw [z.h.2.2]; apply decide_eq_false; rw [drop_eq_iff hx hy]; exact fun h => hne h.1
theorem XS.next {α : Type} [DecidableEq α] {l m : List α} (z : XS l m) {x y : α} (hx : l[z.i]? = some x) (hy : m[z.i]? = some y) (he : x = y) : ∃ z' : XS l m, z'.i = z.i + 1 := by
  have h1 := (List.getElem?_eq_some_iff.1 hx).1
  refine ⟨⟨z.i + 1, by omega, z.h.2.1, ?_⟩, rfl⟩
  rw [z.h.2.2]
  apply decide_eq_decide.2
  rw [drop_eq_iff hx hy]
  exact ⟨fun h => h.2, fun h => ⟨he, h⟩⟩
theorem XS.fin {α : Type} [DecidableEq α] {l m : List α} (z : XS l m) (h : z.i = l.length) : sameB l m = true := by
  rw [z.h.2.2, h, List.drop_length, z.h.2.1, List.drop_length]; rfl
noncomputable def aSame (e : EC) {α : Type} [DecidableEq α] (l m : List α) (L M : List (C0.α e)) : Ann C0 := { Γ := [], inv := fun n => match n with
  | 4 => some { X := XS l m, sl := [5], tf := fun x => [vi .i64 x.i], hf := fun _ => [.row false e L, .row false e M], μ := fun x => l.length - x.i }
  | _ => none }
def tSame_chg : Tfm C0 := fun args H K => match args, H with
  | [.at (.slc 0), .at (.slc 1)], [.row false .chg l, .row false .chg m] => K (.one (.at (vB (sameB (α := Chg) l m)))) [.row false EC.chg l, .row false EC.chg m] []
  | _, _ => False
def tSame_ent : Tfm C0 := fun args H K => match args, H with
  | [.at (.slc 0), .at (.slc 1)], [.row false .ent l, .row false .ent m] => K (.one (.at (vB (sameB (α := Ent) l m)))) [.row false EC.ent l, .row false EC.ent m] []
  | _, _ => False
theorem vc_same9 (l m : List Ent) (K : KT) (hmax : l.length ≤ 9223372036854775807) (h : K (.one (.at (vB (sameB l m)))) [.row false EC.ent l, .row false EC.ent m] []) :
    vc C0 (aSame EC.ent l m l m) Try.f47 [.at (.slc 0), .at (.slc 1)] [.row false EC.ent l, .row false EC.ent m] (normK 2 K) := by
  refine Eq.mp (show (brS ((↑l.length : Int) != (↑m.length : Int)) ((K (SV.one (TV.at (At.val (Value.bool false)))) [(Chunk.row false (EC.ent) (l)), (Chunk.row false (EC.ent) (m))] [])) (((∃ x : XS l m, (True ∧ (True ∧ True ∧ ((Value.int IntKind.i64 0) = (Value.int IntKind.i64 ((↑x.i : Int)))) ∧ True) ∧ ((l) = (l)) ∧ ((m) = (m)) ∧ True)) ∧ (∀ x : XS l m, (True → (brS (decide ((↑x.i : Int) < (↑l.length : Int))) (((0 ≤ (↑x.i : Int)) ∧ ((↑x.i : Int) < (↑l.length : Int)) ∧ (0 ≤ (↑x.i : Int)) ∧ ((↑x.i : Int) < (↑m.length : Int)) ∧ (brS (!((eA l x.i).fst == (eA m x.i).fst && ((eA l x.i).snd == (eA m x.i).snd && true))) ((K (SV.one (TV.at (At.val (Value.bool false)))) [(Chunk.row false (EC.ent) (l)), (Chunk.row false (EC.ent) (m))] [])) ((∃ x' : XS l m, (True ∧ ((True ∧ True ∧ ((Value.int IntKind.i64 (IntKind.i64.wrap ((↑x.i : Int) + 1))) = (Value.int IntKind.i64 ((↑x'.i : Int)))) ∧ True) ∧ ((l) = (l)) ∧ ((m) = (m)) ∧ True) ∧ (l.length - x'.i < l.length - x.i))))))) ((K (SV.one (TV.at (At.val (Value.bool true)))) [(Chunk.row false (EC.ent) (l)), (Chunk.row false (EC.ent) (m))] [])))))))) = _ by kernel_rfl) ?_
  refine brS_of (fun hl => ?_) fun hl => ⟨⟨⟨0, Nat.zero_le _, by simp at hl; omega, rfl⟩, by simp⟩, fun x _ => brS_of (fun hi => ?_) fun hi => ?_⟩
  · have e : sameB l m = false := by
      apply decide_eq_false
      intro e
      subst e
      simp at hl
    rw [e] at h; exact h
  · have hi : x.i < l.length := by simpa using hi
    have hl := x.h.2.1
    have h1 := eA_get hi
    have h2 := eA_get (p := m) (n := x.i) (by omega)
    simp only [ent_eqB]
    refine ⟨by omega, by omega, by omega, by omega, brS_of (fun hd => ?_) fun hd => ?_⟩
    · have e := x.stop h1 h2 (by simpa using hd)
      rw [e] at h; exact h
    · obtain ⟨z, hz⟩ := x.next h1 h2 (by simpa using hd)
      refine ⟨z, trivial, ?_, ?_⟩
      · rw [wrap_in (by omega) (by omega), hz]; simp
      · show l.length - z.i < l.length - x.i
        omega
  · have hi : x.i = l.length := by have := x.h.1; simp at hi; omega
    have e := x.fin hi
    rw [e] at h; exact h
theorem s_same9 : SoundT C0 47 tSame_ent := by
  refine .of Try.func47 (by decide) rfl fun args H K h hB => ?_
  unfold tSame_ent at h
  split at h <;> try exact h.elim
  rename_i l m
  exact ⟨aSame EC.ent (α := Ent) l m l m, trivial, vc_same9 l m K (hB 0 _ _ _ rfl) h⟩
def tSame_i64 : Tfm C0 := fun args H K => match args, H with
  | [.at (.slc 0), .at (.slc 1)], [.row false .i64 l, .row false .i64 m] => K (.one (.at (vB (sameB (α := Int) l m)))) [.row false EC.i64 l, .row false EC.i64 m] []
  | _, _ => False
theorem vc_sameI (l m : List Int) (K : KT) (hmax : l.length ≤ 9223372036854775807) (h : K (.one (.at (vB (sameB l m)))) [.row false EC.i64 l, .row false EC.i64 m] []) :
    vc C0 (aSame EC.i64 l m l m) Try.f46 [.at (.slc 0), .at (.slc 1)] [.row false EC.i64 l, .row false EC.i64 m] (normK 2 K) := by
  refine Eq.mp (show (brS ((↑l.length : Int) != (↑m.length : Int)) ((K (SV.one (TV.at (At.val (Value.bool false)))) [(Chunk.row false (EC.i64) (l)), (Chunk.row false (EC.i64) (m))] [])) (((∃ x : XS l m, (True ∧ (True ∧ True ∧ ((Value.int IntKind.i64 0) = (Value.int IntKind.i64 ((↑x.i : Int)))) ∧ True) ∧ ((l) = (l)) ∧ ((m) = (m)) ∧ True)) ∧ (∀ x : XS l m, (True → (brS (decide ((↑x.i : Int) < (↑l.length : Int))) (((0 ≤ (↑x.i : Int)) ∧ ((↑x.i : Int) < (↑l.length : Int)) ∧ (0 ≤ (↑x.i : Int)) ∧ ((↑x.i : Int) < (↑m.length : Int)) ∧ (brS (iA l x.i != iA m x.i) ((K (SV.one (TV.at (At.val (Value.bool false)))) [(Chunk.row false (EC.i64) (l)), (Chunk.row false (EC.i64) (m))] [])) ((∃ x' : XS l m, (True ∧ ((True ∧ True ∧ ((Value.int IntKind.i64 (IntKind.i64.wrap ((↑x.i : Int) + 1))) = (Value.int IntKind.i64 ((↑x'.i : Int)))) ∧ True) ∧ ((l) = (l)) ∧ ((m) = (m)) ∧ True) ∧ (l.length - x'.i < l.length - x.i))))))) ((K (SV.one (TV.at (At.val (Value.bool true)))) [(Chunk.row false (EC.i64) (l)), (Chunk.row false (EC.i64) (m))] [])))))))) = _ by kernel_rfl) ?_
  refine brS_of (fun hl => ?_) fun hl => ⟨⟨⟨0, Nat.zero_le _, by simp at hl; omega, rfl⟩, by simp⟩, fun x _ => brS_of (fun hi => ?_) fun hi => ?_⟩
  · have e : sameB l m = false := by
      apply decide_eq_false
      intro e
      subst e
      simp at hl
    rw [e] at h; exact h
  · have hi : x.i < l.length := by simpa using hi
    have hl := x.h.2.1
    have h1 := iA_get hi
    have h2 := iA_get (p := m) (n := x.i) (by omega)
    simp only [int_neB]
    refine ⟨by omega, by omega, by omega, by omega, brS_of (fun hd => ?_) fun hd => ?_⟩
    · have e := x.stop h1 h2 (by simpa using hd)
      rw [e] at h; exact h
    · obtain ⟨z, hz⟩ := x.next h1 h2 (by simpa using hd)
      refine ⟨z, trivial, ?_, ?_⟩
      · rw [wrap_in (by omega) (by omega), hz]; simp
      · show l.length - z.i < l.length - x.i
        omega
  · have hi : x.i = l.length := by have := x.h.1; simp at hi; omega
    have e := x.fin hi
    rw [e] at h; exact h
theorem s_sameI : SoundT C0 46 tSame_i64 := by
  refine .of Try.func46 (by decide) rfl fun args H K h hB => ?_
  unfold tSame_i64 at h
  split at h <;> try exact h.elim
  rename_i l m
  exact ⟨aSame EC.i64 (α := Int) l m l m, trivial, vc_sameI l m K (hB 0 _ _ _ rfl) h⟩
theorem asc_step {l : List Ent} {k : Nat} {x y : Ent} (hx : l[k]? = some x) (hy : l[k + 1]? = some y) : Asc (l.drop k) ↔ x.1 < y.1 ∧ Asc (l.drop (k + 1)) := by
  rw [drop_cons hx, drop_cons hy]
  constructor
  · intro h; exact ⟨h.head _ (by simp), h.tail⟩
  · rintro ⟨h1, h2⟩
    refine h2.cons fun z hz => ?_
    rcases List.mem_cons.1 hz with rfl | hz
    · exact h1
    · have := h2.head z hz; omega
structure XA (l : List Ent) where
  i : Nat
  h : 1 ≤ i ∧ (i ≤ l.length ∨ i = 1) ∧ (Asc l ↔ Asc (l.drop (i - 1)))
theorem XA.split {l : List Ent} (z : XA l) (hi : z.i < l.length) : (ascB l = true ↔ (eA l (z.i - 1)).1 < (eA l z.i).1 ∧ Asc (l.drop z.i)) := by
  obtain ⟨k, hk⟩ : ∃ k, z.i = k + 1 := ⟨z.i - 1, by have := z.h.1; omega⟩
  have h1 := eA_get (p := l) (n := k) (by omega)
  have h2 := eA_get (p := l) (n := k + 1) (by omega)
  have h3 := asc_step h1 h2
  have h4 := z.h.2.2
  rw [hk] at h4 ⊢
  simp only [Nat.add_sub_cancel] at h4 ⊢
  rw [ascB, decide_eq_true_eq, h4, h3]
theorem XA.fin {l : List Ent} (z : XA l) (hi : l.length ≤ z.i) : ascB l = true := by
  rw [ascB, decide_eq_true_eq, z.h.2.2]
  have : (l.drop (z.i - 1)).length ≤ 1 := by simp; omega
  match l.drop (z.i - 1), this with
  | [], _ => exact Srt.nil
  | [x], _ => exact Srt.nil.cons (by simp)
def tAsc : Tfm C0 := fun args H K => match args, H with
  | [.at (.slc 0)], [.row false .ent l] => K (.one (.at (vB (ascB l)))) [.row false EC.ent l] []
  | _, _ => False
noncomputable def aAsc (l : List Ent) : Ann C0 := { Γ := [], inv := fun n => match n with
  | 2 => some { X := XA l, sl := [3], tf := fun x => [vi .i64 x.i], hf := fun _ => [.row false EC.ent l], μ := fun x => l.length - x.i }
  | _ => none }
structure XGet (l : List Ent) (q : Int) where
  i : Nat
  h : i ≤ l.length ∧ getE l q = getE (l.drop i) q
noncomputable def aGet (l : List Ent) (q : Int) : Ann C0 := { Γ := [], inv := fun n => match n with
  | 2 => some { X := XGet l q, sl := [6], tf := fun x => [vi .i64 x.i], hf := fun _ => [.row false EC.ent l], μ := fun x => l.length - x.i }
  | _ => none }
def tGet : Tfm C0 := fun args H K => match args, H with
  | [.at (.slc 0), .at (.val (.int .i64 q))], [.row false .ent l] => ∀ x : Option Int, x = getE l q → K (.tup [.at (vI (x.getD 0)), .at (vB x.isSome)]) [.row false EC.ent l] []
  | _, _ => False
def outE (l : List Ent) (lo hi : Int) : List Ent := l.filter fun x => decide (x.1 < lo) || decide (hi < x.1)
structure XOut (l : List Ent) (lo hi : Int) where
  i : Nat
  h : i ≤ l.length
noncomputable def aOut (l : List Ent) (lo hi : Int) : Ann C0 := { Γ := [], inv := fun n => match n with
  | 3 => some { X := XOut l lo hi, sl := [8, 7], tf := fun x => [vi .i64 x.i, .one (.at (.slc 1))], hf := fun x => [.row false EC.ent l, .row true EC.ent (outE (l.take x.i) lo hi)], μ := fun x => l.length - x.i }
  | _ => none }
def tOut : Tfm C0 := fun args H K => match args, H with
  | [.at (.slc 0), .at (.val (.int .i64 lo)), .at (.val (.int .i64 hi))], [.row false .ent l] => l.length ≤ 1000000 ∧ K (.one (.at (.slc 1))) [.row false EC.ent l, .row true EC.ent (outE l lo hi)] []
  | _, _ => False
theorem outE_snoc {l : List Ent} {lo hi : Int} {i : Nat} {x : Ent} (h : l[i]? = some x) : outE (l.take (i + 1)) lo hi = outE (l.take i) lo hi ++ (if (decide (x.1 < lo) || decide (hi < x.1)) = true then [x] else []) := by
  rw [take_snoc h]
  unfold outE
  rw [List.filter_append]
  simp only [List.filter_cons, List.filter_nil]
theorem outE_len (l : List Ent) (lo hi : Int) (i : Nat) : (outE (l.take i) lo hi).length ≤ i := by
  unfold outE
  exact Nat.le_trans (List.length_filter_le _ _) (List.length_take_le _ _)
theorem vc_out (l : List Ent) (lo hi : Int) (K : KT) (hsm : l.length ≤ 1000000) (h : K (.one (.at (.slc 1))) [.row false EC.ent l, .row true EC.ent (outE l lo hi)] []) :
    vc C0 (aOut l lo hi) Try.f74 [.at (.slc 0), .at (.val (.int .i64 lo)), .at (.val (.int .i64 hi))] [.row false EC.ent l] (normK 1 K) := by
  refine Eq.mp (show ((∃ x : XOut l lo hi, (True ∧ (True ∧ ((Value.int IntKind.i64 (lo)) = (Value.int IntKind.i64 (lo))) ∧ ((Value.int IntKind.i64 (hi)) = (Value.int IntKind.i64 (hi))) ∧ True ∧ ((Value.int IntKind.i64 0) = (Value.int IntKind.i64 ((↑x.i : Int)))) ∧ True) ∧ ((l) = (l)) ∧ ([] = (outE (List.take x.i l) lo hi)) ∧ True)) ∧
(∀ x : XOut l lo hi, (True → (brS (decide ((↑x.i : Int) < (↑l.length : Int))) (((0 ≤ (↑x.i : Int)) ∧ ((↑x.i : Int) < (↑l.length : Int)) ∧ (brS (decide ((eA l x.i).fst < lo)) (((0 ≤ (↑x.i : Int)) ∧ ((↑x.i : Int) < (↑l.length : Int)) ∧ (((outE (List.take x.i l) lo hi).length + [((eA l x.i).fst, (eA l x.i).snd)].length) * bytesOf C0 EC.ent ≤ 140737488355328) ∧ (∃ x' : XOut l lo hi, (True ∧ ((True ∧ ((Value.int IntKind.i64 (lo)) = (Value.int IntKind.i64 (lo))) ∧ ((Value.int IntKind.i64 (hi)) = (Value.int IntKind.i64 (hi))) ∧ True ∧ ((Value.int IntKind.i64 (IntKind.i64.wrap ((↑x.i : Int) + 1))) = (Value.int IntKind.i64 ((↑x'.i : Int)))) ∧ True) ∧ ((l) = (l)) ∧ ((outE (List.take x.i l) lo hi ++ [((eA l x.i).fst, (eA l x.i).snd)]) = (outE (List.take x'.i l) lo hi)) ∧ True) ∧ (l.length - x'.i < l.length - x.i))))) (((0 ≤ (↑x.i : Int)) ∧ ((↑x.i : Int) < (↑l.length : Int)) ∧ (brS (decide ((eA l x.i).fst > hi)) (((0 ≤ (↑x.i : Int)) ∧ ((↑x.i : Int) < (↑l.length : Int)) ∧ (((outE (List.take x.i l) lo hi).length + [((eA l x.i).fst, (eA l x.i).snd)].length) * bytesOf C0 EC.ent ≤ 140737488355328) ∧ (∃ x' : XOut l lo hi, (True ∧ ((True ∧
    ((Value.int IntKind.i64 (lo)) = (Value.int IntKind.i64 (lo))) ∧ ((Value.int IntKind.i64 (hi)) = (Value.int IntKind.i64 (hi))) ∧ True ∧ ((Value.int IntKind.i64 (IntKind.i64.wrap ((↑x.i : Int) + 1))) = (Value.int IntKind.i64 ((↑x'.i : Int)))) ∧ True) ∧ ((l) = (l)) ∧ ((outE (List.take x.i l) lo hi ++ [((eA l x.i).fst, (eA l x.i).snd)]) = (outE (List.take x'.i l) lo hi)) ∧ True) ∧ (l.length - x'.i < l.length - x.i))))) ((∃ x' : XOut l lo hi, (True ∧ ((True ∧ ((Value.int IntKind.i64 (lo)) = (Value.int IntKind.i64 (lo))) ∧ ((Value.int IntKind.i64 (hi)) = (Value.int IntKind.i64 (hi))) ∧ True ∧ ((Value.int IntKind.i64 (IntKind.i64.wrap ((↑x.i : Int) + 1))) = (Value.int IntKind.i64 ((↑x'.i : Int)))) ∧ True) ∧ ((l) = (l)) ∧ ((outE (List.take x.i l) lo hi) = (outE (List.take x'.i l) lo hi)) ∧ True) ∧ (l.length - x'.i < l.length - x.i)))))))))) ((K (SV.one (TV.at (At.slc 1))) [(Chunk.row false (EC.ent) (l)), (Chunk.row true (EC.ent) (outE (List.take x.i l) lo hi))] [])))))) = _ by kernel_rfl) ?_
  refine ⟨⟨⟨0, Nat.zero_le _⟩, by simp [outE]⟩, fun x _ => brS_of (fun hi' => ?_) fun hi' => ?_⟩
  · have hi' : x.i < l.length := by simpa using hi'
    have hx := eA_get hi'
    have hs := outE_snoc (lo := lo) (hi := hi) hx
    have hlen := outE_len l lo hi x.i
    have nx : XOut l lo hi := ⟨x.i + 1, by omega⟩
    have w1 : IntKind.i64.wrap ((x.i : Int) + 1) = ((x.i + 1 : Nat) : Int) := by rw [wrap_in (by omega) (by omega)]; simp
    simp only [w1, bytes_ent]
    refine ⟨by omega, by omega, brS_of (fun h1 => ⟨by omega, by omega, ?_, ⟨⟨x.i + 1, by omega⟩, ?_⟩⟩) fun h1 => ⟨by omega, by omega, brS_of (fun h2 => ⟨by omega, by omega, ?_, ⟨⟨x.i + 1, by omega⟩, ?_⟩⟩) fun h2 => ⟨⟨x.i + 1, by omega⟩, ?_⟩⟩⟩
    · simp; omega
    · rw [if_pos (by simp only [decide_eq_true_eq] at h1; simp [h1])] at hs
      simp [hs]; omega
    · simp; omega
    · rw [if_pos (by simp only [decide_eq_true_eq] at h2; simp; omega)] at hs
      simp [hs]; omega
    · rw [if_neg (by simp only [decide_eq_false_iff_not] at h1 h2; simp; omega)] at hs
      simp [hs]; omega
  · have hi' : x.i = l.length := by have := x.h; simp at hi'; omega
    rw [hi', List.take_length]
    exact h
theorem s_out : SoundT C0 74 tOut := by
  refine .of Try.func74 (by decide) rfl fun args H K h hB => ?_
  unfold tOut at h
  split at h <;> try exact h.elim
  rename_i lo hi l
  exact ⟨aOut l lo hi, trivial, vc_out l lo hi K h.1 h.2⟩
structure XIns (l : List Ent) (e : Ent) where
  i : Nat
  acc : List Ent
  put : Bool
  h : i ≤ l.length ∧ acc.length ≤ i + put.toNat ∧ insE l e = acc ++ insGo e put (l.drop i)
noncomputable def aIns (l : List Ent) (e : Ent) : Ann C0 := { Γ := [], inv := fun n => match n with
  | 4 => some { X := XIns l e, sl := [7, 6, 5, 3], tf := fun x => [vi .i64 x.i, vb x.put, .one (.at (.slc 2)), .one (.at (.ptr 1 0))], hf := fun x => [.row false EC.ent l, .box [vI e.1, vI e.2], .row true EC.ent x.acc], μ := fun x => l.length - x.i }
  | _ => none }
def tIns : Tfm C0 := fun args H K => match args, H with
  | [.at (.slc 0), .agg [.val (.int .i64 k), .val (.int .i64 v)]], [.row false .ent l] => l.length ≤ 1000000 ∧ K (.one (.at (.slc 1))) [.row false EC.ent l, .row true EC.ent (insE l (k, v))] []
  | _, _ => False
theorem insGo_step {e x : Ent} {put : Bool} {l : List Ent} {i : Nat} (h : l[i]? = some x) : insGo e put (l.drop i) = (if !put && decide (e.1 ≤ x.1) then [e] else []) ++ ((if x.1 = e.1 then [] else [x]) ++ insGo e (put || decide (e.1 ≤ x.1)) (l.drop (i + 1))) := by
  rw [drop_cons h, insGo]
theorem XIns.next {l : List Ent} {e : Ent} (z : XIns l e) {x : Ent} (hx : l[z.i]? = some x) {put' : Bool} {acc' : List Ent} (hp : put' = (z.put || decide (e.1 ≤ x.1)))
    (ha : acc' = z.acc ++ ((if !z.put && decide (e.1 ≤ x.1) then [e] else []) ++ (if x.1 = e.1 then [] else [x]))) : ∃ z' : XIns l e, z'.i = z.i + 1 ∧ z'.put = put' ∧ z'.acc = acc' := by
  have h1 := (List.getElem?_eq_some_iff.1 hx).1
  obtain ⟨hi, hl, he⟩ := z.h
  rw [insGo_step hx] at he
  refine ⟨⟨z.i + 1, acc', put', by omega, ?_, ?_⟩, rfl, rfl, rfl⟩
  · subst hp ha
    have h2 : (if x.1 = e.1 then ([] : List Ent) else [x]).length ≤ 1 := by split <;> simp
    cases hz : z.put <;> rw [hz] at hl <;> by_cases hc : e.1 ≤ x.1 <;> simp [hc] at hl ⊢ <;> omega
  · subst hp ha
    rw [he]; simp only [List.append_assoc]
theorem XIns.fin {l : List Ent} {e : Ent} (z : XIns l e) (h : z.i = l.length) : insE l e = z.acc ++ (if z.put then [] else [e]) := by
  rw [z.h.2.2, h, List.drop_length]; rfl
theorem vc_ins (l : List Ent) (k v : Int) (K : KT) (hsm : l.length ≤ 1000000) (h : K (.one (.at (.slc 1))) [.row false EC.ent l, .row true EC.ent (insE l (k, v))] []) :
    vc C0 (aIns l (k, v)) Try.f33 [.at (.slc 0), .agg [.val (.int .i64 k), .val (.int .i64 v)]] [.row false EC.ent l] (normK 1 K) := by
  refine Eq.mp (show ((∃ x : XIns l (k, v), (True ∧ (True ∧ True ∧ True ∧ ((Value.bool false) = (Value.bool (x.put))) ∧ ((Value.int IntKind.i64 0) = (Value.int IntKind.i64 ((↑x.i : Int)))) ∧ True) ∧ ((l) = (l)) ∧ (((Value.int IntKind.i64 (k)) = (Value.int IntKind.i64 (k))) ∧ ((Value.int IntKind.i64 (v)) = (Value.int IntKind.i64 (v))) ∧ True) ∧ ([] = (x.acc)) ∧ True)) ∧
(∀ x : XIns l (k, v), (True → (brS (decide ((↑x.i : Int) < (↑l.length : Int))) ((brS (!x.put) (((0 ≤ (↑x.i : Int)) ∧ ((↑x.i : Int) < (↑l.length : Int)) ∧ (brS (decide ((eA l x.i).fst ≥ k)) ((((x.acc.length + [(k, v)].length) * bytesOf C0 EC.ent ≤ 140737488355328) ∧ (0 ≤ (↑x.i : Int)) ∧ ((↑x.i : Int) < (↑l.length : Int)) ∧ (brS ((eA l x.i).fst != k) (((0 ≤ (↑x.i : Int)) ∧ ((↑x.i : Int) < (↑l.length : Int)) ∧ (((x.acc ++ [(k, v)]).length + [((eA l x.i).fst, (eA l x.i).snd)].length) * bytesOf C0 EC.ent ≤ 140737488355328) ∧ (∃ x' : XIns l (k, v), (True ∧ ((True ∧ True ∧ True ∧ ((Value.bool true) = (Value.bool (x'.put))) ∧ ((Value.int IntKind.i64 (IntKind.i64.wrap ((↑x.i : Int) + 1))) = (Value.int IntKind.i64 ((↑x'.i : Int)))) ∧ True) ∧ ((l) = (l)) ∧ (((Value.int IntKind.i64 (k)) = (Value.int IntKind.i64 (k))) ∧ ((Value.int IntKind.i64 (v)) = (Value.int IntKind.i64 (v))) ∧ True) ∧ ((x.acc ++ [(k, v)] ++ [((eA l x.i).fst, (eA l x.i).snd)]) = (x'.acc)) ∧ True) ∧ (l.length - x'.i < l.length - x.i))))) ((∃ x' : XIns l (k, v), (True ∧ ((True ∧ True ∧ True ∧ ((Value.bool true) = (Value.bool (x'.put))) ∧
    ((Value.int IntKind.i64 (IntKind.i64.wrap ((↑x.i : Int) + 1))) = (Value.int IntKind.i64 ((↑x'.i : Int)))) ∧ True) ∧ ((l) = (l)) ∧ (((Value.int IntKind.i64 (k)) = (Value.int IntKind.i64 (k))) ∧ ((Value.int IntKind.i64 (v)) = (Value.int IntKind.i64 (v))) ∧ True) ∧ ((x.acc ++ [(k, v)]) = (x'.acc)) ∧ True) ∧ (l.length - x'.i < l.length - x.i))))))) (((0 ≤ (↑x.i : Int)) ∧ ((↑x.i : Int) < (↑l.length : Int)) ∧ (brS ((eA l x.i).fst != k) (((0 ≤ (↑x.i : Int)) ∧ ((↑x.i : Int) < (↑l.length : Int)) ∧ ((x.acc.length + [((eA l x.i).fst, (eA l x.i).snd)].length) * bytesOf C0 EC.ent ≤ 140737488355328) ∧ (∃ x' : XIns l (k, v), (True ∧ ((True ∧ True ∧ True ∧ ((Value.bool (x.put)) = (Value.bool (x'.put))) ∧ ((Value.int IntKind.i64 (IntKind.i64.wrap ((↑x.i : Int) + 1))) = (Value.int IntKind.i64 ((↑x'.i : Int)))) ∧ True) ∧ ((l) = (l)) ∧ (((Value.int IntKind.i64 (k)) = (Value.int IntKind.i64 (k))) ∧ ((Value.int IntKind.i64 (v)) = (Value.int IntKind.i64 (v))) ∧ True) ∧ ((x.acc ++ [((eA l x.i).fst, (eA l x.i).snd)]) = (x'.acc)) ∧ True) ∧ (l.length - x'.i < l.length - x.i))))) ((∃ x' : XIns l (k, v), (True ∧ ((True ∧ True ∧ True ∧ ((Value.bool (x.put)) = (Value.bool (x'.put))) ∧ ((Value.int IntKind.i64 (IntKind.i64.wrap ((↑x.i : Int) + 1))) = (Value.int IntKind.i64 ((↑x'.i : Int)))) ∧ True) ∧ ((l) = (l)) ∧ (((Value.int IntKind.i64 (k)) = (Value.int IntKind.i64 (k))) ∧ ((Value.int IntKind.i64 (v)) = (Value.int IntKind.i64 (v))) ∧ True) ∧ ((x.acc) = (x'.acc)) ∧ True) ∧
    (l.length - x'.i < l.length - x.i)))))))))) (((0 ≤ (↑x.i : Int)) ∧ ((↑x.i : Int) < (↑l.length : Int)) ∧ (brS ((eA l x.i).fst != k) (((0 ≤ (↑x.i : Int)) ∧ ((↑x.i : Int) < (↑l.length : Int)) ∧ ((x.acc.length + [((eA l x.i).fst, (eA l x.i).snd)].length) * bytesOf C0 EC.ent ≤ 140737488355328) ∧ (∃ x' : XIns l (k, v), (True ∧ ((True ∧ True ∧ True ∧ ((Value.bool (x.put)) = (Value.bool (x'.put))) ∧ ((Value.int IntKind.i64 (IntKind.i64.wrap ((↑x.i : Int) + 1))) = (Value.int IntKind.i64 ((↑x'.i : Int)))) ∧ True) ∧ ((l) = (l)) ∧ (((Value.int IntKind.i64 (k)) = (Value.int IntKind.i64 (k))) ∧ ((Value.int IntKind.i64 (v)) = (Value.int IntKind.i64 (v))) ∧ True) ∧ ((x.acc ++ [((eA l x.i).fst, (eA l x.i).snd)]) = (x'.acc)) ∧ True) ∧ (l.length - x'.i < l.length - x.i))))) ((∃ x' : XIns l (k, v), (True ∧ ((True ∧ True ∧ True ∧ ((Value.bool (x.put)) = (Value.bool (x'.put))) ∧ ((Value.int IntKind.i64 (IntKind.i64.wrap ((↑x.i : Int) + 1))) = (Value.int IntKind.i64 ((↑x'.i : Int)))) ∧ True) ∧ ((l) = (l)) ∧ (((Value.int IntKind.i64 (k)) = (Value.int IntKind.i64 (k))) ∧ ((Value.int IntKind.i64 (v)) = (Value.int IntKind.i64 (v))) ∧ True) ∧ ((x.acc) = (x'.acc)) ∧ True) ∧ (l.length - x'.i < l.length - x.i))))))))) ((brS (!x.put) ((((x.acc.length + [(k, v)].length) * bytesOf C0 EC.ent ≤ 140737488355328) ∧ (K (SV.one (TV.at (At.slc 1))) [(Chunk.row false (EC.ent) (l)), (Chunk.row true (EC.ent) (x.acc ++ [(k, v)]))] [])))
    ((K (SV.one (TV.at (At.slc 1))) [(Chunk.row false (EC.ent) (l)), (Chunk.row true (EC.ent) (x.acc))] [])))))))) = _ by kernel_rfl) ?_
  refine ⟨⟨⟨0, [], false, Nat.zero_le _, by simp, by simp⟩, by simp⟩, fun x _ => brS_of (fun hi => ?_) fun hi => ?_⟩
  · have hi : x.i < l.length := by simpa using hi
    have hx := eA_get hi
    have hlen := x.h.2.1
    have hpt : x.put.toNat ≤ 1 := by cases x.put <;> decide
    have w1 : IntKind.i64.wrap ((x.i : Int) + 1) = ((x.i + 1 : Nat) : Int) := by rw [wrap_in (by omega) (by omega)]; simp
    simp only [w1, bytes_ent]
    have go : ∀ (put' : Bool) (acc' : List Ent), put' = (x.put || decide (k ≤ (eA l x.i).1)) → acc' = x.acc ++ ((if !x.put && decide (k ≤ (eA l x.i).1) then [(k, v)] else []) ++ (if (eA l x.i).1 = k then [] else [eA l x.i])) →
        ∃ z' : XIns l (k, v), z'.i = x.i + 1 ∧ z'.put = put' ∧ z'.acc = acc' := fun put' acc' hp ha => x.next hx hp ha
    refine brS_of (fun hp => ⟨by omega, by omega, brS_of (fun hc => ⟨?_, by omega, by omega, brS_of (fun hn => ⟨by omega, by omega, ?_, ?_⟩) fun hn => ?_⟩) fun hc => ⟨by omega, by omega, brS_of (fun hn => ⟨by omega, by omega, ?_, ?_⟩) fun hn => ?_⟩⟩) fun hp => ⟨by omega, by omega, brS_of (fun hn => ⟨by omega, by omega, ?_, ?_⟩) fun hn => ?_⟩
    all_goals try simp only [decide_eq_true_eq, decide_eq_false_iff_not, bne_iff_ne, ne_eq, Bool.not_eq_true', Bool.not_eq_false', bne_eq_false_iff_eq, ge_iff_le] at *
    all_goals first
      | (simp; omega)
      | (obtain ⟨z', e1, e2, e3⟩ := go _ _ rfl rfl
         refine ⟨z', ?_⟩
         simp [*]
         omega)
  · have hi : x.i = l.length := by have := x.h.1; simp at hi; omega
    have hf := x.fin hi
    have hlen := x.h.2.1
    have hpt : x.put.toNat ≤ 1 := by cases x.put <;> decide
    refine brS_of (fun hp => ⟨?_, ?_⟩) fun hp => ?_
    · simp [bytes_ent]; omega
    · simp at hp; rw [hp] at hf; simp at hf; rw [hf] at h; exact h
    · simp at hp; rw [hp] at hf; simp at hf; rw [hf] at h; exact h
theorem s_ins : SoundT C0 33 tIns := by
  refine .of Try.func33 (by decide) rfl fun args H K h hB => ?_
  unfold tIns at h
  split at h <;> try exact h.elim
  rename_i k v l
  exact ⟨aIns l (k, v), trivial, vc_ins l k v K h.1 h.2⟩
noncomputable def aDel : Ann C0 := { Γ := [(74, frameT [] tOut)] }
def tDel : Tfm C0 := fun args H K => match args, H with
  | [.at (.slc 0), .at (.val (.int .i64 q))], [.row false .ent l] => l.length ≤ 1000000 ∧ K (.one (.at (.slc 1))) [.row false EC.ent l, .row true EC.ent (outE l q q)] []
  | _, _ => False
theorem vc_del (l : List Ent) (q : Int) (K : KT) (h1 : l.length ≤ 1000000) (h2 : K (.one (.at (.slc 1))) [.row false EC.ent l, .row true EC.ent (outE l q q)] []) :
    vc C0 aDel Try.f30 [.at (.slc 0), .at (.val (.int .i64 q))] [.row false EC.ent l] (normK 1 K) := by
  have e : ((l.length ≤ 1000000) ∧
(K (SV.one (TV.at (At.slc 1))) [(Chunk.row false (EC.ent) (l)), (Chunk.row true (EC.ent) (outE l q q))] [])) = vc C0 aDel Try.f30 [.at (.slc 0), .at (.val (.int .i64 q))] [.row false EC.ent l] (normK 1 K) := by kernel_rfl
  rw [← e]
  exact ⟨h1, h2⟩
theorem s_del : SoundT C0 30 tDel := by
  refine .of Try.func30 (by decide) rfl fun args H K h hB => ?_
  unfold tDel at h
  split at h <;> try exact h.elim
  rename_i q l
  have hG : GOK C0 aDel.Γ := ⟨frame C0.ok s_out _, trivial⟩
  exact ⟨aDel, hG, vc_del l q K h.1 h.2⟩
structure XLst (l : List Ent) (most : Int) where
  i : Nat
  h : i ≤ l.length ∧ (i : Int) ≤ most
noncomputable def aLst (l : List Ent) (most : Int) : Ann C0 := { Γ := [(33, frameT [] tIns)], inv := fun n => match n with
  | 3 => some { X := XLst l most, sl := [6, 5], tf := fun x => [vi .i64 x.i, .one (.at (.slc 1))], hf := fun x => [.row false EC.ent l, .row true EC.ent (listE l x.i)], μ := fun x => l.length - x.i }
  | _ => none }
def tLst : Tfm C0 := fun args H K => match args, H with
  | [.at (.slc 0), .at (.val (.int .i64 most))], [.row false .ent l] => 0 ≤ most ∧ most ≤ 1000000 ∧ K (.one (.at (.slc 1))) [.row false EC.ent l, .row true EC.ent (listE l most.toNat)] []
  | _, _ => False
theorem listE_snoc {l : List Ent} {i : Nat} {x : Ent} (h : l[i]? = some x) : listE l (i + 1) = insE (listE l i) x := by
  unfold listE
  rw [take_snoc h]
  simp
theorem listE_full {l : List Ent} {n : Nat} (h : l.length ≤ n) : listE l n = listE l l.length := by
  unfold listE
  rw [List.take_of_length_le h, List.take_of_length_le (Nat.le_refl _)]
theorem vc_lst (l : List Ent) (most : Int) (K : KT) (hmax : l.length ≤ 9223372036854775807) (h0 : 0 ≤ most) (h1 : most ≤ 1000000) (h : K (.one (.at (.slc 1))) [.row false EC.ent l, .row true EC.ent (listE l most.toNat)] []) :
    vc C0 (aLst l most) Try.f36 [.at (.slc 0), .at (.val (.int .i64 most))] [.row false EC.ent l] (normK 1 K) := by
  refine Eq.mp (show ((∃ x : XLst l most, (True ∧ (True ∧ ((Value.int IntKind.i64 (most)) = (Value.int IntKind.i64 (most))) ∧ True ∧ ((Value.int IntKind.i64 0) = (Value.int IntKind.i64 ((↑x.i : Int)))) ∧ True) ∧ ((l) = (l)) ∧ ([] = (listE l x.i)) ∧ True)) ∧
(∀ x : XLst l most, (True → (brS (decide ((↑x.i : Int) < (↑l.length : Int))) ((brS (decide ((↑x.i : Int) < most)) (((0 ≤ (↑x.i : Int)) ∧ ((↑x.i : Int) < (↑l.length : Int)) ∧ ((listE l x.i).length ≤ 1000000) ∧ (∃ x' : XLst l most, (True ∧ ((True ∧ ((Value.int IntKind.i64 (most)) = (Value.int IntKind.i64 (most))) ∧ True ∧ ((Value.int IntKind.i64 (IntKind.i64.wrap ((↑x.i : Int) + 1))) = (Value.int IntKind.i64 ((↑x'.i : Int)))) ∧ True) ∧ ((l) = (l)) ∧ ((insE (listE l x.i) ((eA l x.i).fst, (eA l x.i).snd)) = (listE l x'.i)) ∧ True) ∧ (l.length - x'.i < l.length - x.i))))) ((K (SV.one (TV.at (At.slc 1))) [(Chunk.row false (EC.ent) (l)), (Chunk.row true (EC.ent) (listE l x.i))] [])))) ((K (SV.one (TV.at (At.slc 1))) [(Chunk.row false (EC.ent) (l)), (Chunk.row true (EC.ent) (listE l x.i))] [])))))) = _ by kernel_rfl) ?_
  refine ⟨⟨⟨0, Nat.zero_le _, h0⟩, by simp [listE]⟩, fun x _ => brS_of (fun hi => brS_of (fun hm => ?_) fun hm => ?_) fun hi => ?_⟩
  · have hi : x.i < l.length := by simpa using hi
    have hm : (x.i : Int) < most := by simpa using hm
    have hs := listE_snoc (eA_get hi)
    have hlen := (listE_spec l x.i).2
    have w1 : IntKind.i64.wrap ((x.i : Int) + 1) = ((x.i + 1 : Nat) : Int) := by rw [wrap_in (by omega) (by omega)]; simp
    simp only [w1]
    refine ⟨by omega, by omega, by omega, ⟨x.i + 1, by omega, by omega⟩, ?_⟩
    simp [hs]; omega
  · have e : most.toNat = x.i := by have := x.h.2; simp at hm; omega
    rw [e] at h; exact h
  · have hi : x.i = l.length := by have := x.h.1; simp at hi; omega
    have := x.h.2
    rw [listE_full (n := most.toNat) (by omega), ← hi] at h; exact h
theorem s_lst : SoundT C0 36 tLst := by
  refine .of Try.func36 (by decide) rfl fun args H K h hB => ?_
  unfold tLst at h
  split at h <;> try exact h.elim
  rename_i most l
  exact ⟨aLst l most, ⟨frame C0.ok s_ins _, trivial⟩, vc_lst l most K (hB 0 _ _ _ rfl) h.1 h.2.1 h.2.2⟩
def tChoose : Tfm C0 := fun args H K => match args, H with
  | [.at (.val (.int .i64 p)), .at (.val (.int .i64 v)), .at (.val (.int .i64 w))], [] => ∀ x, x = chooseP p v w → K (.one (.at (vI x))) [] []
  | _, _ => False
def tMod : Tfm C0 := fun args H K => match args, H with
  | [.at (.val (.int .i64 k)), .at (.val (.int .i64 n))], [] => 0 < n ∧ n ≤ 9223372036854775807 ∧ ∀ x, x = k % n → K (.one (.at (vI x))) [] []
  | _, _ => False
theorem s_mod : SoundT C0 10 tMod := by
  refine .of Try.func10 (by decide) rfl fun args H K h hB => ⟨A0, trivial, ?_⟩
  unfold tMod at h
  split at h <;> try exact h.elim
  rename_i k n
  obtain ⟨h0, h1, h⟩ := h
  have h := h _ rfl
  refine Eq.mp (show ((n ≠ 0) ∧
(brS (decide (k.tmod n < 0)) ((K (SV.one (TV.at (At.val (Value.int IntKind.i64 (IntKind.i64.wrap (k.tmod n + n)))))) [] [])) ((K (SV.one (TV.at (At.val (Value.int IntKind.i64 (k.tmod n))))) [] [])))) = _ by kernel_rfl) ⟨by omega, brS_of (fun e => ?_) fun e => ?_⟩
  all_goals simp only [decide_eq_true_eq, decide_eq_false_iff_not] at e
  · have e1 : k.tmod n + n = k % n := by
      rw [Int.tmod_eq_emod] at e ⊢
      split at e <;> rename_i hc
      · have := Int.emod_nonneg k (show n ≠ 0 by omega); omega
      · rw [if_neg hc]
        have : (n.natAbs : Int) = n := by omega
        omega
    have h2 := Int.emod_nonneg k (show n ≠ 0 by omega)
    have h3 := Int.emod_lt_of_pos k h0
    rw [e1, wrap_in (by omega) (by omega)]; exact h
  · have e1 : k.tmod n = k % n := by
      rw [Int.tmod_eq_emod] at e ⊢
      split at e <;> rename_i hc
      · rw [if_pos hc]; omega
      · have h3 := Int.emod_lt_of_pos k h0
        have : (n.natAbs : Int) = n := by omega
        omega
    rw [e1]; exact h
structure XN (n : Nat) where
  i : Nat
  h : i ≤ n
def kF (xs : List Int) (l : List Ent) (i : Nat) : List Ent := keysOf (xs ++ (l.take i).map Prod.fst)
def tKeys : Tfm C0 := fun args H K => match args, H with
  | [.at (.slc 0), .at (.slc 1), .at (.slc 2)], [.row false .ent l, .row false .ent m, .row false .ent n] => l.length + m.length + n.length ≤ 1000000 ∧ K (.one (.at (.slc 3))) [.row false EC.ent l, .row false EC.ent m, .row false EC.ent n, .row true EC.i64 (keys3 l m n)] []
  | _, _ => False
set_option maxHeartbeats 1000000 in
structure XU (l m : List Ent) (p : Int) where
  i : Nat
  h : i ≤ m.length
def tUni : Tfm C0 := fun args H K => match args, H with
  | [.at (.slc 0), .at (.slc 1), .at (.val (.int .i64 p))], [.row false .ent l, .row false .ent m] => l.length + m.length ≤ 1000000 ∧ (m.length = 0 → K (.one (.at (.slc 0))) [.row false EC.ent l, .row false EC.ent m] []) ∧ K (.one (.at (.slc 2))) [.row false EC.ent l, .row false EC.ent m, .row true EC.ent (uniE l m p)] []
  | _, _ => False
def difD (k : Int) (a b : Option Int) : List Chg := match a with
  | none => [⟨1, k, 0, b.getD 0⟩]
  | some v => match b with
    | none => [⟨2, k, v, 0⟩]
    | some w => if v = w then [] else [⟨3, k, v, w⟩]
def dif1 (l m : List Ent) (k : Int) : List Chg := difD k (getE l k) (getE m k)
def difE (l m : List Ent) : List Chg := (keys3 l m []).flatMap (dif1 l m)
theorem dif1_len (l m : List Ent) (k : Int) : (dif1 l m k).length ≤ 1 := by
  unfold dif1 difD; repeat' split
  all_goals simp
theorem flatMap1_len {α β : Type} {f : α → List β} (h : ∀ x, (f x).length ≤ 1) (l : List α) : (l.flatMap f).length ≤ l.length := by
  induction l with
  | nil => simp
  | cons x l ih => have := h x; rw [List.flatMap_cons, List.length_append, List.length_cons]; omega
theorem difE_len (l m : List Ent) : (difE l m).length ≤ l.length + m.length := by
  have h1 := flatMap1_len (dif1_len l m) (keys3 l m [])
  have h2 := keys3_len l m []
  unfold difE
  rw [List.length_nil] at h2
  omega
theorem dif1_mk {l m : List Ent} {k : Int} (h : (getE l k).isSome = true ∨ (getE m k).isSome = true) : dif1 l m k = (mkChg k (getE l k) (getE m k)).toList := by
  unfold dif1 difD
  cases h1 : getE l k <;> cases h2 : getE m k <;> simp_all [mkChg]
  split <;> simp_all
theorem flatMap_congr' {α β : Type} {f g : α → List β} {l : List α} (h : ∀ x ∈ l, f x = g x) : l.flatMap f = l.flatMap g := by
  induction l with
  | nil => rfl
  | cons x l ih => rw [List.flatMap_cons, List.flatMap_cons, h x (by simp), ih fun y hy => h y (by simp [hy])]
theorem difE_btw {l m : List Ent} (hl : Asc l) (hm : Asc m) : difE l m = btw l m := by
  have hk := keys3_srt l m []
  have e : difE l m = (keys3 l m []).flatMap fun k => (mkChg k (getE l k) (getE m k)).toList := by
    unfold difE
    refine flatMap_congr' fun k hk => ?_
    rcases (keys3_mem l m [] k).1 hk with h | h | h
    · exact dif1_mk (.inl h)
    · exact dif1_mk (.inr h)
    · simp [getE] at h
  have hf : ∀ (x : Int) (y : Chg), mkChg x (getE l x) (getE m x) = some y → y.key = id x := fun x y h => (mkChg_some h).1
  refine Srt.ext (key := Chg.key) ?_ (btw_srt hl hm) fun k => ?_
  · rw [e]; exact flatOpt_srt (ka := id) (kb := Chg.key) _ hf hk
  · rw [e, flatOpt_fnd (ka := id) (kb := Chg.key) _ hf hk, btw_fnd hl hm, fnd_id]
    split
    · rfl
    · rename_i hn
      rw [keys3_mem] at hn
      have h1 : getE l k = none := by cases h : getE l k <;> simp_all
      have h2 : getE m k = none := by cases h : getE m k <;> simp_all
      rw [h1, h2]; rfl
structure XDif (l m : List Ent) where
  i : Nat
  h : i ≤ (keys3 l m []).length
theorem wrap_next {i n : Nat} (h1 : i < n) (h2 : n ≤ 1000000) : IntKind.i64.wrap ((i : Int) + 1) = ((i + 1 : Nat) : Int) := by rw [wrap_in (by omega) (by omega)]; simp
end Go.Proofs.Ytmjnoiajenoinaa.Sx
end
