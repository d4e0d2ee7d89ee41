/- A part of the proof. -/
import Derived.Test.YtbonbaccmlomhaaGreatG4
import Derived.Test.YtbonbaccmlomhaaGreatG1
import Derived.Test.YtbonbaccmlomhaaGreatG2
section
/- The slots of an arena. -/
namespace Go.Proofs.YtbonbaccmlomhaaGreat.Sx
open Go

def relOK (rl : List Int) (n : Nat) : Prop := ∀ i ∈ rl, 0 ≤ i ∧ i < (n : Int)
def slM (H : List (Chunk C0)) (k : List Bool → List Int → List Int → Int → Prop) : Prop := match H with
  | [.box [.slc 1, .slc 2, .slc 3, .val (.int .u32 fr)], .row true .bool us, .row true .u32 gn, .row true .u32 rl] => k us gn rl fr
  | _ => False
abbrev slC (us : List Bool) (gn rl : List Int) (fr : Int) : List (Chunk C0) := [.box [.slc 1, .slc 2, .slc 3, vU fr], .row true EC.bool us, .row true EC.u32 gn, .row true EC.u32 rl]
def tSlCap : Tfm C0 := fun args H K => match args with
  | [.at (.ptr 0 0)] => slM H fun us gn rl fr => 1 ≤ us.length ∧ us.length ≤ 65537 ∧ K (.one (.at (vI (us.length - 1)))) (slC us gn rl fr) []
  | _ => False
def tSlAllocated : Tfm C0 := fun args H K => match args with
  | [.at (.ptr 0 0), .at (.val (.int .u32 i))] => slM H fun us gn rl fr => 0 ≤ i ∧ i < 4294967296 ∧ us.length ≤ 65537 ∧ K (.one (.at (vB (us.getD i.toNat false)))) (slC us gn rl fr) []
  | _ => False
def tSlGen : Tfm C0 := fun args H K => match args with
  | [.at (.ptr 0 0), .at (.val (.int .u32 i))] => slM H fun us gn rl fr => 0 ≤ i ∧ i < 4294967296 ∧ gn.length ≤ 65537 ∧ K (.one (.at (vU (gn.getD i.toNat 0)))) (slC us gn rl fr) []
  | _ => False
noncomputable def aSlFree : Ann C0 := { Γ := [(66, frameT [] tSlCap)], quiet := [66] }
def tSlFree : Tfm C0 := fun args H K => match args with
  | [.at (.ptr 0 0)] => slM H fun us gn rl fr => 1 ≤ us.length ∧ us.length ≤ 65537 ∧ rl.length ≤ 65537 ∧ 0 ≤ fr ∧ fr ≤ 65537 ∧ K (.one (.at (vI (rl.length + (us.length - 1) - fr)))) (slC us gn rl fr) []
  | _ => False
noncomputable def aSlAlloc : Ann C0 := { trunc := fun n => n == 30, Γ := [(64, frameT [] tSlFree)] }
def tSlAlloc : Tfm C0 := fun args H K => match args with
  | [.at (.ptr 0 0)] => slM H fun us gn rl fr => 1 ≤ us.length ∧ us.length ≤ 65537 ∧ rl.length ≤ 65537 ∧ 0 ≤ fr ∧ fr ≤ 65537 ∧ gn.length = us.length ∧ relOK rl us.length ∧ 0 ≤ (rl.length : Int) + (us.length - 1) - fr ∧
    ((rl.length : Int) + (us.length - 1) - fr = 0 → K (.tup [.at (vU 0), .at (vI 2)]) (slC us gn rl fr) [0, 1, 2, 3]) ∧
    (0 < (rl.length : Int) + (us.length - 1) - fr → ∀ i rl' fr', (i, rl', fr') = fresh3 rl fr → K (.tup [.at (vU i), .at (vI 0)]) (slC (us.set i.toNat true) (gn.set i.toNat (IntKind.u32.wrap (gn.getD i.toNat 0 + 1))) rl' fr') [0, 1, 2, 3])
  | _ => False
noncomputable def aSlRelease : Ann C0 := { Γ := [(34, frameT [] tSlAllocated)] }
def tSlRelease : Tfm C0 := fun args H K => match args with
  | [.at (.ptr 0 0), .at (.val (.int .u32 i))] => slM H fun us gn rl fr => 0 ≤ i ∧ i < 4294967296 ∧ us.length ≤ 65537 ∧ rl.length ≤ 65537 ∧ us.getD i.toNat false = true ∧ K (.one (.at (vI 0))) (slC (us.set i.toNat false) gn (rl ++ [i]) fr) [0, 1, 3]
  | _ => False
theorem vc_slCap (us : List Bool) (gn rl : List Int) (fr : Int) (K : KT) (h1 : 1 ≤ us.length) (h2 : us.length ≤ 65537) (h : K (.one (.at (vI (us.length - 1)))) (slC us gn rl fr) []) :
    vc C0 A0 Tryz.f66 [.at (.ptr 0 0)] (slC us gn rl fr) (normK 4 K) := by
  refine Eq.mp (show (K (SV.one (TV.at (At.val (Value.int IntKind.i64 (IntKind.i64.wrap ((↑us.length : Int) - 1)))))) [(Chunk.box [(At.slc 1), (At.slc 2), (At.slc 3), (At.val (Value.int IntKind.u32 (fr)))]), (Chunk.row true (EC.bool) (us)), (Chunk.row true (EC.u32) (gn)), (Chunk.row true (EC.u32) (rl))] []) = _ by kernel_rfl) ?_
  rw [wrap_id (by omega) (by omega)]
  exact h
theorem s_slCap : SoundT C0 66 tSlCap := by
  refine .of Tryz.func66 (by decide) rfl fun args H K h hB => ?_
  unfold tSlCap at h
  split at h <;> try exact h.elim
  unfold slM at h
  split at h <;> try exact h.elim
  rename_i fr us gn rl
  exact ⟨A0, trivial, vc_slCap us gn rl _ K h.1 h.2.1 h.2.2⟩
theorem vc_slAllocated (us : List Bool) (gn rl : List Int) (fr i : Int) (K : KT) (h1 : 0 ≤ i) (h2 : i < 4294967296) (h3 : us.length ≤ 65537) (h : K (.one (.at (vB (us.getD i.toNat false)))) (slC us gn rl fr) []) :
    vc C0 A0 Tryz.f34 [.at (.ptr 0 0), .at (vU i)] (slC us gn rl fr) (normK 4 K) := by
  refine Eq.mp (show (brS (decide (IntKind.i64.wrap i < (↑us.length : Int))) (((0 ≤ i) ∧ (i < (↑us.length : Int)) ∧ (K (SV.one (TV.at (At.val (Value.bool (us.getD i.toNat false))))) [(Chunk.box [(At.slc 1), (At.slc 2), (At.slc 3), (At.val (Value.int IntKind.u32 (fr)))]), (Chunk.row true (EC.bool) (us)), (Chunk.row true (EC.u32) (gn)), (Chunk.row true (EC.u32) (rl))] []))) ((K (SV.one (TV.at (At.val (Value.bool false)))) [(Chunk.box [(At.slc 1), (At.slc 2), (At.slc 3), (At.val (Value.int IntKind.u32 (fr)))]), (Chunk.row true (EC.bool) (us)), (Chunk.row true (EC.u32) (gn)), (Chunk.row true (EC.u32) (rl))] []))) = _ by kernel_rfl) ?_
  rw [wrap_id (by omega) (by omega)]
  refine brS_of (fun c => ⟨h1, by simpa using c, h⟩) fun c => ?_
  have e : us.getD i.toNat false = false := by
    have c : ¬ i < (us.length : Int) := by simpa using c
    rw [List.getD_eq_getElem?_getD, List.getElem?_eq_none (by omega)]; rfl
  rw [e] at h
  exact h
theorem s_slAllocated : SoundT C0 34 tSlAllocated := by
  refine .of Tryz.func34 (by decide) rfl fun args H K h hB => ?_
  unfold tSlAllocated at h
  split at h <;> try exact h.elim
  unfold slM at h
  split at h <;> try exact h.elim
  rename_i i _ fr us gn rl
  exact ⟨A0, trivial, vc_slAllocated us gn rl fr i K h.1 h.2.1 h.2.2.1 h.2.2.2⟩
theorem vc_slGen (us : List Bool) (gn rl : List Int) (fr i : Int) (K : KT) (h1 : 0 ≤ i) (h2 : i < 4294967296) (h3 : gn.length ≤ 65537) (h : K (.one (.at (vU (gn.getD i.toNat 0)))) (slC us gn rl fr) []) :
    vc C0 A0 Tryz.f67 [.at (.ptr 0 0), .at (vU i)] (slC us gn rl fr) (normK 4 K) := by
  refine Eq.mp (show (brS (decide (IntKind.i64.wrap i ≥ (↑gn.length : Int))) ((K (SV.one (TV.at (At.val (Value.int IntKind.u32 0)))) [(Chunk.box [(At.slc 1), (At.slc 2), (At.slc 3), (At.val (Value.int IntKind.u32 (fr)))]), (Chunk.row true (EC.bool) (us)), (Chunk.row true (EC.u32) (gn)), (Chunk.row true (EC.u32) (rl))] [])) (((0 ≤ i) ∧ (i < (↑gn.length : Int)) ∧ (K (SV.one (TV.at (At.val (Value.int IntKind.u32 (gn.getD i.toNat 0))))) [(Chunk.box [(At.slc 1), (At.slc 2), (At.slc 3), (At.val (Value.int IntKind.u32 (fr)))]), (Chunk.row true (EC.bool) (us)), (Chunk.row true (EC.u32) (gn)), (Chunk.row true (EC.u32) (rl))] [])))) = _ by kernel_rfl) ?_
  rw [wrap_id (by omega) (by omega)]
  refine brS_of (fun c => ?_) fun c => ⟨h1, by simp at c; omega, h⟩
  have e : gn.getD i.toNat 0 = 0 := by
    have c : (gn.length : Int) ≤ i := by simpa using c
    rw [List.getD_eq_getElem?_getD, List.getElem?_eq_none (by omega)]; rfl
  rw [e] at h
  exact h
theorem s_slGen : SoundT C0 67 tSlGen := by
  refine .of Tryz.func67 (by decide) rfl fun args H K h hB => ?_
  unfold tSlGen at h
  split at h <;> try exact h.elim
  unfold slM at h
  split at h <;> try exact h.elim
  rename_i i _ fr us gn rl
  exact ⟨A0, trivial, vc_slGen us gn rl fr i K h.1 h.2.1 h.2.2.1 h.2.2.2⟩
theorem vc_slFree (us : List Bool) (gn rl : List Int) (fr : Int) (K : KT) (h1 : 1 ≤ us.length) (h2 : us.length ≤ 65537) (h3 : rl.length ≤ 65537) (h4 : 0 ≤ fr) (h5 : fr ≤ 65537) (h : K (.one (.at (vI (rl.length + (us.length - 1) - fr)))) (slC us gn rl fr) []) :
    vc C0 aSlFree Tryz.f64 [.at (.ptr 0 0)] (slC us gn rl fr) (normK 4 K) := by
  refine Eq.mp (show ((1 ≤ us.length) ∧
(us.length ≤ 65537) ∧
(K (SV.one (TV.at (At.val (Value.int IntKind.i64 (IntKind.i64.wrap (IntKind.i64.wrap ((↑rl.length : Int) + ((↑us.length : Int) - 1)) - IntKind.i64.wrap fr)))))) [(Chunk.box [(At.slc 1), (At.slc 2), (At.slc 3), (At.val (Value.int IntKind.u32 (fr)))]), (Chunk.row true (EC.bool) (us)), (Chunk.row true (EC.u32) (gn)), (Chunk.row true (EC.u32) (rl))] [])) = _ by kernel_rfl) ?_
  refine ⟨h1, h2, ?_⟩
  rw [wrap_id (x := fr) (by omega) (by omega), wrap_id (x := (rl.length : Int) + ((us.length : Int) - 1)) (by omega) (by omega), wrap_id (by omega) (by omega)]
  exact h
theorem s_slFree : SoundT C0 64 tSlFree := by
  refine .of Tryz.func64 (by decide) rfl fun args H K h hB => ?_
  unfold tSlFree at h
  split at h <;> try exact h.elim
  unfold slM at h
  split at h <;> try exact h.elim
  rename_i fr us gn rl
  exact ⟨aSlFree, ⟨frame C0.ok s_slCap _, trivial⟩, vc_slFree us gn rl fr K h.1 h.2.1 h.2.2.1 h.2.2.2.1 h.2.2.2.2.1 h.2.2.2.2.2⟩
theorem wrap_u32 {x : Int} (h1 : 0 ≤ x) (h2 : x < 4294967296) : IntKind.u32.wrap x = x := by
  unfold IntKind.wrap
  simp [IntKind.signed, IntKind.bits]
  omega
theorem vc_slAlloc (us : List Bool) (gn rl : List Int) (fr : Int) (K : KT) (h1 : 1 ≤ us.length) (h2 : us.length ≤ 65537) (h3 : rl.length ≤ 65537) (h4 : 0 ≤ fr) (h5 : fr ≤ 65537) (h6 : gn.length = us.length) (h7 : relOK rl us.length)
    (h8 : 0 ≤ (rl.length : Int) + (us.length - 1) - fr)
    (ha : (rl.length : Int) + (us.length - 1) - fr = 0 → K (.tup [.at (vU 0), .at (vI 2)]) (slC us gn rl fr) [0, 1, 2, 3])
    (hb : 0 < (rl.length : Int) + (us.length - 1) - fr → ∀ i rl' fr', (i, rl', fr') = fresh3 rl fr → K (.tup [.at (vU i), .at (vI 0)]) (slC (us.set i.toNat true) (gn.set i.toNat (IntKind.u32.wrap (gn.getD i.toNat 0 + 1))) rl' fr') [0, 1, 2, 3]) :
    vc C0 aSlAlloc Tryz.f65 [.at (.ptr 0 0)] (slC us gn rl fr) (normK 4 (wideK [0, 1, 2, 3] K)) := by
  refine Eq.mp (show ((1 ≤ us.length) ∧
(us.length ≤ 65537) ∧
(rl.length ≤ 65537) ∧
(0 ≤ fr) ∧
(fr ≤ 65537) ∧
(brS ((↑rl.length : Int) + ((↑us.length : Int) - 1) - fr == 0) ((K (SV.tup [(TV.at (At.val (Value.int IntKind.u32 0))), (TV.at (At.val (Value.int IntKind.i64 2)))]) [(Chunk.box [(At.slc 1), (At.slc 2), (At.slc 3), (At.val (Value.int IntKind.u32 (fr)))]), (Chunk.row true (EC.bool) (us)), (Chunk.row true (EC.u32) (gn)), (Chunk.row true (EC.u32) (rl))] [0, 1, 2, 3])) ((brS (decide (IntKind.i64.wrap ((↑rl.length : Int) - 1) ≥ 0)) (((0 ≤ IntKind.i64.wrap ((↑rl.length : Int) - 1)) ∧ (IntKind.i64.wrap ((↑rl.length : Int) - 1) < (↑rl.length : Int)) ∧ (0 ≤ IntKind.i64.wrap ((↑rl.length : Int) - 1)) ∧ (IntKind.i64.wrap ((↑rl.length : Int) - 1) ≤ (↑rl.length : Int)) ∧ (0 ≤ rl.getD (IntKind.i64.wrap ((↑rl.length : Int) - 1)).toNat 0) ∧ (rl.getD (IntKind.i64.wrap ((↑rl.length : Int) - 1)).toNat 0 < (↑us.length : Int)) ∧ (0 ≤ rl.getD (IntKind.i64.wrap ((↑rl.length : Int) - 1)).toNat 0) ∧ (rl.getD (IntKind.i64.wrap ((↑rl.length : Int) - 1)).toNat 0 < (↑gn.length : Int)) ∧ (0 ≤ rl.getD (IntKind.i64.wrap ((↑rl.length : Int) - 1)).toNat 0) ∧ (rl.getD (IntKind.i64.wrap ((↑rl.length : Int) - 1)).toNat 0 < (↑gn.length : Int)) ∧
    (K (SV.tup [(TV.at (At.val (Value.int IntKind.u32 (rl.getD (IntKind.i64.wrap ((↑rl.length : Int) - 1)).toNat 0)))), (TV.at (At.val (Value.int IntKind.i64 0)))]) [(Chunk.box [(At.slc 1), (At.slc 2), (At.slc 3), (At.val (Value.int IntKind.u32 (fr)))]), (Chunk.row true (EC.bool) (us.set (rl.getD (IntKind.i64.wrap ((↑rl.length : Int) - 1)).toNat 0).toNat true)), (Chunk.row true (EC.u32) (gn.set (rl.getD (IntKind.i64.wrap ((↑rl.length : Int) - 1)).toNat 0).toNat (IntKind.u32.wrap (gn.getD (rl.getD (IntKind.i64.wrap ((↑rl.length : Int) - 1)).toNat 0).toNat 0 + 1)))), (Chunk.row true (EC.u32) (List.take (IntKind.i64.wrap ((↑rl.length : Int) - 1)).toNat rl))] [0, 1, 2, 3]))) (((0 ≤ IntKind.u32.wrap (fr + 1)) ∧ (IntKind.u32.wrap (fr + 1) < (↑us.length : Int)) ∧ (0 ≤ IntKind.u32.wrap (fr + 1)) ∧ (IntKind.u32.wrap (fr + 1) < (↑gn.length : Int)) ∧ (0 ≤ IntKind.u32.wrap (fr + 1)) ∧ (IntKind.u32.wrap (fr + 1) < (↑gn.length : Int)) ∧ (K (SV.tup [(TV.at (At.val (Value.int IntKind.u32 (IntKind.u32.wrap (fr + 1))))), (TV.at (At.val (Value.int IntKind.i64 0)))]) [(Chunk.box [(At.slc 1), (At.slc 2), (At.slc 3), (At.val (Value.int IntKind.u32 (IntKind.u32.wrap (fr + 1))))]), (Chunk.row true (EC.bool) (us.set (IntKind.u32.wrap (fr + 1)).toNat true)), (Chunk.row true (EC.u32) (gn.set (IntKind.u32.wrap (fr + 1)).toNat (IntKind.u32.wrap (gn.getD (IntKind.u32.wrap (fr + 1)).toNat 0 + 1)))), (Chunk.row true (EC.u32) (rl))] [0, 1, 2, 3]))))))) = _ by kernel_rfl) ?_
  rw [wrap_id (x := (rl.length : Int) - 1) (by omega) (by omega), wrap_u32 (x := fr + 1) (by omega) (by omega)]
  refine ⟨h1, h2, h3, h4, h5, brS_of (fun c => ha (by simpa using c)) fun c => ?_⟩
  have c : ¬ (rl.length : Int) + (us.length - 1) - fr = 0 := by simpa using c
  have hb := hb (by omega)
  refine brS_of (fun d => ?_) fun d => ?_
  · have d : 0 ≤ (rl.length : Int) - 1 := by simpa using d
    have e : ((rl.length : Int) - 1).toNat = rl.length - 1 := by omega
    rw [e]
    have hm : rl.getD (rl.length - 1) 0 ∈ rl := by
      have : rl.length - 1 < rl.length := by omega
      rw [List.getD_eq_getElem?_getD, List.getElem?_eq_getElem this]
      exact List.getElem_mem this
    have hr := h7 _ hm
    exact ⟨by omega, by omega, by omega, by omega, hr.1, hr.2, hr.1, by omega, hr.1, by omega, hb _ _ _ (by unfold fresh3; rw [if_pos (by omega)]; rfl)⟩
  · have d : ¬ 0 ≤ (rl.length : Int) - 1 := by simpa using d
    exact ⟨by omega, by omega, by omega, by omega, by omega, by omega, hb _ _ _ (by unfold fresh3; rw [if_neg (by omega)])⟩
theorem s_slAlloc : SoundT C0 65 tSlAlloc := by
  refine .ofW [0, 1, 2, 3] Tryz.func65 (by decide) rfl fun args H K h hB => ?_
  unfold tSlAlloc at h
  split at h <;> try exact h.elim
  unfold slM at h
  split at h <;> try exact h.elim
  rename_i fr us gn rl
  exact ⟨aSlAlloc, ⟨frame C0.ok s_slFree _, trivial⟩, vc_slAlloc us gn rl fr K h.1 h.2.1 h.2.2.1 h.2.2.2.1 h.2.2.2.2.1 h.2.2.2.2.2.1 h.2.2.2.2.2.2.1 h.2.2.2.2.2.2.2.1 h.2.2.2.2.2.2.2.2.1 h.2.2.2.2.2.2.2.2.2⟩
theorem vc_slRelease (us : List Bool) (gn rl : List Int) (fr i : Int) (K : KT) (h1 : 0 ≤ i) (h2 : i < 4294967296) (h3 : us.length ≤ 65537) (h4 : rl.length ≤ 65537) (h5 : us.getD i.toNat false = true) (h : K (.one (.at (vI 0))) (slC (us.set i.toNat false) gn (rl ++ [i]) fr) [0, 1, 3]) :
    vc C0 aSlRelease Tryz.f82 [.at (.ptr 0 0), .at (vU i)] (slC us gn rl fr) (normK 4 K) := by
  refine Eq.mp (show ((0 ≤ i) ∧
(i < 4294967296) ∧
(us.length ≤ 65537) ∧
(brS (!us.getD i.toNat false) ((K (SV.one (TV.at (At.val (Value.int IntKind.i64 3)))) [(Chunk.box [(At.slc 1), (At.slc 2), (At.slc 3), (At.val (Value.int IntKind.u32 (fr)))]), (Chunk.row true (EC.bool) (us)), (Chunk.row true (EC.u32) (gn)), (Chunk.row true (EC.u32) (rl))] [])) (((0 ≤ i) ∧ (i < (↑us.length : Int)) ∧ ((rl.length + [i].length) * bytesOf C0 EC.u32 ≤ 140737488355328) ∧ (K (SV.one (TV.at (At.val (Value.int IntKind.i64 0)))) [(Chunk.box [(At.slc 1), (At.slc 2), (At.slc 3), (At.val (Value.int IntKind.u32 (fr)))]), (Chunk.row true (EC.bool) (us.set i.toNat false)), (Chunk.row true (EC.u32) (gn)), (Chunk.row true (EC.u32) (rl ++ [i]))] [0, 1, 3]))))) = _ by kernel_rfl) ?_
  simp only [bytes_u32]
  refine ⟨h1, h2, h3, brS_of (fun c => ?_) fun c => ⟨h1, ?_, ?_, h⟩⟩
  · rw [h5] at c; cases c
  · rcases Nat.lt_or_ge i.toNat us.length with hh | hh
    · omega
    · rw [List.getD_eq_getElem?_getD, List.getElem?_eq_none hh] at h5; cases h5
  · simp; omega
theorem s_slRelease : SoundT C0 82 tSlRelease := by
  refine .of Tryz.func82 (by decide) rfl fun args H K h hB => ?_
  unfold tSlRelease at h
  split at h <;> try exact h.elim
  unfold slM at h
  split at h <;> try exact h.elim
  rename_i i _ fr us gn rl
  exact ⟨aSlRelease, ⟨frame C0.ok s_slAllocated _, trivial⟩, vc_slRelease us gn rl fr i K h.1 h.2.1 h.2.2.1 h.2.2.2.1 h.2.2.2.2.1 h.2.2.2.2.2⟩
end Go.Proofs.YtbonbaccmlomhaaGreat.Sx
end
section
/- The arena's functions. -/
namespace Go.Proofs.YtbonbaccmlomhaaGreat.Sx
open Go

abbrev chS (S : Arn) : List (Chunk C0) := [.box [.ptr 1 0, .slc 2, .slc 3, vU64 S.reads], .box [.slc 4, .slc 5, .slc 6, vU S.fresh], .row true EC.node S.nodes, .row true EC.int S.counts, .row true EC.bool S.used, .row true EC.u32 S.gen, .row true EC.u32 S.rel]
def arM (H : List (Chunk C0)) (k : Arn → Prop) : Prop := match H with
  | [.box [.ptr 1 0, .slc 2, .slc 3, .val (.int .u64 rd)], .box [.slc 4, .slc 5, .slc 6, .val (.int .u32 fr)], .row true .node nd, .row true .int ct, .row true .bool us, .row true .u32 gn, .row true .u32 rl] => k ⟨us, gn, rl, fr, nd, ct, rd⟩
  | _ => False
def arMr (H : List (Chunk C0)) (k : Arn → List (Chunk C0) → Prop) : Prop := match H with
  | .box [.ptr 1 0, .slc 2, .slc 3, .val (.int .u64 rd)] :: .box [.slc 4, .slc 5, .slc 6, .val (.int .u32 fr)] :: .row true .node nd :: .row true .int ct :: .row true .bool us :: .row true .u32 gn :: .row true .u32 rl :: rest => k ⟨us, gn, rl, fr, nd, ct, rd⟩ rest
  | _ => False
abbrev nodeA (n : NodeT) : TV := .agg [vI n.key, vI n.value, vU n.left, vU n.right, vI n.size, vI n.sum, vI n.min, vI n.max]
abbrev W7 : List Nat := [0, 1, 2, 3, 4, 5, 6]
def inU (i : Int) : Prop := 0 ≤ i ∧ i < 4294967296
def exW (S : Arn) : Prop := ∃ hs, Wf S hs
def live (S : Arn) (i : Int) : Prop := i = 0 ∨ S.us i = true

noncomputable def aFree : Ann C0 := { Γ := [(64, frameT [] tSlFree)] }
def tFree : Tfm C0 := fun args H K => match args with
  | [.at (.ptr 0 0)] => arM H fun S => exW S ∧ K (.one (.at (vI S.free))) (chS S) []
  | _ => False
noncomputable def aCap : Ann C0 := { Γ := [(66, frameT [] tSlCap)] }
def tCap : Tfm C0 := fun args H K => match args with
  | [.at (.ptr 0 0)] => arM H fun S => exW S ∧ K (.one (.at (vI S.cap))) (chS S) []
  | _ => False
def tReads : Tfm C0 := fun args H K => match args with
  | [.at (.ptr 0 0)] => arM H fun S => K (.one (.at (vU64 S.reads))) (chS S) []
  | _ => False
noncomputable def aAlc : Ann C0 := { Γ := [(34, frameT [] tSlAllocated)] }
def tNode : Tfm C0 := fun args H K => match args with
  | [.at (.ptr 0 0), .at (.val (.int .u32 i))] => arM H fun S => inU i ∧ exW S ∧ S.reads < 4000000000000000000 ∧ ∀ S', S' = rdS S (S.us i).toNat → K (.tup [nodeA (S.nd i), .at (vB (S.us i))]) (chS S') [0]
  | _ => False
def tSize : Tfm C0 := fun args H K => match args with
  | [.at (.ptr 0 0), .at (.val (.int .u32 i))] => arM H fun S => inU i ∧ exW S ∧ S.reads < 4000000000000000000 ∧ ∀ S', S' = rdS S (S.us i).toNat → K (.one (.at (vI (S.nd i).size))) (chS S') [0]
  | _ => False
def tCount : Tfm C0 := fun args H K => match args with
  | [.at (.ptr 0 0), .at (.val (.int .u32 i))] => arM H fun S => inU i ∧ exW S ∧ K (.one (.at (vI (if S.us i then S.ct i else 0)))) (chS S) []
  | _ => False
noncomputable def aGen : Ann C0 := { Γ := [(67, frameT [] tSlGen)] }
def tGen : Tfm C0 := fun args H K => match args with
  | [.at (.ptr 0 0), .at (.val (.int .u32 i))] => arM H fun S => inU i ∧ exW S ∧ K (.one (.at (vU (S.gn i)))) (chS S) []
  | _ => False
def tRetain : Tfm C0 := fun args H K => match args with
  | [.at (.ptr 0 0), .at (.val (.int .u32 i))] => arM H fun S => inU i ∧ exW S ∧ (i = 0 → K (.one (.at (vI 0))) (chS S) [3]) ∧ (i ≠ 0 → S.us i = false → K (.one (.at (vI 3))) (chS S) [3]) ∧ (S.us i = true → ∀ S', S' = retA S i → K (.one (.at (vI 0))) (chS S') [3])
  | _ => False
def newUs (c : Int) : List Bool := List.replicate (c.toNat + 1) false
def newGn (c : Int) : List Int := List.replicate (c.toNat + 1) 0
noncomputable def aSlNew : Ann C0 := { Γ := [] }
def tSlNew : Tfm C0 := fun args H K => match args, H with
  | [.at (.val (.int .i64 c))], [] => (c < 1 ∨ 65536 < c → K (.tup [.at (.val (.pointer none)), .at (vI 1)]) [] []) ∧ (1 ≤ c → c ≤ 65536 → ∀ (us : List Bool) (gn : List Int), us = newUs c → gn = newGn c → K (.tup [.at (.ptr 0 0), .at (vI 0)]) (slC us gn [] 0) [])
  | _, _ => False
noncomputable def aNew : Ann C0 := { Γ := [(60, frameT [] tSlNew)] }
def tNew : Tfm C0 := fun args H K => match args, H with
  | [.at (.val (.int .i64 c))], [] => (c < 1 ∨ 65536 < c → K (.tup [.at (.val (.pointer none)), .at (vI 1)]) [] []) ∧ (1 ≤ c → c ≤ 65536 → ∀ S, S = newS c.toNat → K (.tup [.at (.ptr 0 0), .at (vI 0)]) (chS S) [])
  | _, _ => False
theorem getD_false {l : List Bool} {i : Nat} (h : l.getD i false = true) : i < l.length := by
  rcases Nat.lt_or_ge i l.length with hh | hh
  · exact hh
  · rw [List.getD_eq_getElem?_getD, List.getElem?_eq_none hh] at h; cases h
theorem vc_free (S : Arn) (K : KT) (hw : exW S) (h : K (.one (.at (vI S.free))) (chS S) []) : vc C0 aFree Tryz.f30 [.at (.ptr 0 0)] (chS S) (normK 7 K) := by
  refine Eq.mp (show ((1 ≤ S.used.length) ∧
(S.used.length ≤ 65537) ∧
(S.rel.length ≤ 65537) ∧
(0 ≤ S.fresh) ∧
(S.fresh ≤ 65537) ∧
(K (SV.one (TV.at (At.val (Value.int IntKind.i64 ((↑S.rel.length : Int) + ((↑S.used.length : Int) - 1) - S.fresh))))) [(Chunk.box [(At.ptr 1 0), (At.slc 2), (At.slc 3), (At.val (Value.int IntKind.u64 (S.reads)))]), (Chunk.box [(At.slc 4), (At.slc 5), (At.slc 6), (At.val (Value.int IntKind.u32 (S.fresh)))]), (Chunk.row true (EC.node) (S.nodes)), (Chunk.row true (EC.int) (S.counts)), (Chunk.row true (EC.bool) (S.used)), (Chunk.row true (EC.u32) (S.gen)), (Chunk.row true (EC.u32) (S.rel))] [])) = _ by kernel_rfl) ?_
  obtain ⟨hs, hw⟩ := hw
  have h1 := hw.n1; have h2 := hw.n2; have h3 := hw.fr; have h4 := hw.free_nonneg
  exact ⟨by omega, by omega, by omega, by omega, by omega, h⟩
theorem s_free : SoundT C0 30 tFree := by
  refine .of Tryz.func30 (by decide) rfl fun args H K h hB => ?_
  unfold tFree at h
  split at h <;> try exact h.elim
  unfold arM at h
  split at h <;> try exact h.elim
  rename_i rd fr nd ct us gn rl
  exact ⟨aFree, ⟨frame C0.ok s_slFree _, trivial⟩, vc_free ⟨us, gn, rl, fr, nd, ct, rd⟩ K h.1 h.2⟩
theorem vc_cap (S : Arn) (K : KT) (hw : exW S) (h : K (.one (.at (vI S.cap))) (chS S) []) : vc C0 aCap Tryz.f32 [.at (.ptr 0 0)] (chS S) (normK 7 K) := by
  refine Eq.mp (show ((1 ≤ S.used.length) ∧
(S.used.length ≤ 65537) ∧
(K (SV.one (TV.at (At.val (Value.int IntKind.i64 ((↑S.used.length : Int) - 1))))) [(Chunk.box [(At.ptr 1 0), (At.slc 2), (At.slc 3), (At.val (Value.int IntKind.u64 (S.reads)))]), (Chunk.box [(At.slc 4), (At.slc 5), (At.slc 6), (At.val (Value.int IntKind.u32 (S.fresh)))]), (Chunk.row true (EC.node) (S.nodes)), (Chunk.row true (EC.int) (S.counts)), (Chunk.row true (EC.bool) (S.used)), (Chunk.row true (EC.u32) (S.gen)), (Chunk.row true (EC.u32) (S.rel))] [])) = _ by kernel_rfl) ?_
  obtain ⟨hs, hw⟩ := hw
  have h1 := hw.n1; have h2 := hw.n2
  exact ⟨by omega, by omega, h⟩
theorem s_cap : SoundT C0 32 tCap := by
  refine .of Tryz.func32 (by decide) rfl fun args H K h hB => ?_
  unfold tCap at h
  split at h <;> try exact h.elim
  unfold arM at h
  split at h <;> try exact h.elim
  rename_i rd fr nd ct us gn rl
  exact ⟨aCap, ⟨frame C0.ok s_slCap _, trivial⟩, vc_cap ⟨us, gn, rl, fr, nd, ct, rd⟩ K h.1 h.2⟩
theorem vc_rds (S : Arn) (K : KT) (h : K (.one (.at (vU64 S.reads))) (chS S) []) : vc C0 A0 Tryz.f10 [.at (.ptr 0 0)] (chS S) (normK 7 K) :=
  Eq.mp (show (K (SV.one (TV.at (At.val (Value.int IntKind.u64 (S.reads))))) [(Chunk.box [(At.ptr 1 0), (At.slc 2), (At.slc 3), (At.val (Value.int IntKind.u64 (S.reads)))]), (Chunk.box [(At.slc 4), (At.slc 5), (At.slc 6), (At.val (Value.int IntKind.u32 (S.fresh)))]), (Chunk.row true (EC.node) (S.nodes)), (Chunk.row true (EC.int) (S.counts)), (Chunk.row true (EC.bool) (S.used)), (Chunk.row true (EC.u32) (S.gen)), (Chunk.row true (EC.u32) (S.rel))] []) = _ by kernel_rfl) h
theorem s_rds : SoundT C0 10 tReads := by
  refine .of Tryz.func10 (by decide) rfl fun args H K h hB => ?_
  unfold tReads at h
  split at h <;> try exact h.elim
  unfold arM at h
  split at h <;> try exact h.elim
  rename_i rd fr nd ct us gn rl
  exact ⟨A0, trivial, vc_rds ⟨us, gn, rl, fr, nd, ct, rd⟩ K h⟩
theorem wrap_u64 {x : Int} (h1 : 0 ≤ x) (h2 : x < 18446744073709551616) : IntKind.u64.wrap x = x := by
  unfold IntKind.wrap
  simp [IntKind.signed, IntKind.bits]
  omega
theorem vc_node (S : Arn) (i : Int) (K : KT) (hi : inU i) (hw : exW S) (hr : S.reads < 4000000000000000000) (h : ∀ S', S' = rdS S (S.us i).toNat → K (.tup [nodeA (S.nd i), .at (vB (S.us i))]) (chS S') [0]) :
    vc C0 aAlc Tryz.f62 [.at (.ptr 0 0), .at (vU i)] (chS S) (normK 7 (wideK [0] K)) := by
  refine Eq.mp (show ((0 ≤ i) ∧
(i < 4294967296) ∧
(S.used.length ≤ 65537) ∧
(brS (!S.us i) ((K (SV.tup [(TV.agg [(At.val (Value.int IntKind.i64 0)), (At.val (Value.int IntKind.i64 0)), (At.val (Value.int IntKind.u32 0)), (At.val (Value.int IntKind.u32 0)), (At.val (Value.int IntKind.i64 0)), (At.val (Value.int IntKind.i64 0)), (At.val (Value.int IntKind.i64 0)), (At.val (Value.int IntKind.i64 0))]), (TV.at (At.val (Value.bool false)))]) [(Chunk.box [(At.ptr 1 0), (At.slc 2), (At.slc 3), (At.val (Value.int IntKind.u64 (S.reads)))]), (Chunk.box [(At.slc 4), (At.slc 5), (At.slc 6), (At.val (Value.int IntKind.u32 (S.fresh)))]), (Chunk.row true (EC.node) (S.nodes)), (Chunk.row true (EC.int) (S.counts)), (Chunk.row true (EC.bool) (S.used)), (Chunk.row true (EC.u32) (S.gen)), (Chunk.row true (EC.u32) (S.rel))] [0])) (((0 ≤ i) ∧ (i < (↑S.nodes.length : Int)) ∧
    (K (SV.tup [(TV.agg [(At.val (Value.int IntKind.i64 ((S.nd i).key))), (At.val (Value.int IntKind.i64 ((S.nd i).value))), (At.val (Value.int IntKind.u32 ((S.nd i).left))), (At.val (Value.int IntKind.u32 ((S.nd i).right))), (At.val (Value.int IntKind.i64 ((S.nd i).size))), (At.val (Value.int IntKind.i64 ((S.nd i).sum))), (At.val (Value.int IntKind.i64 ((S.nd i).min))), (At.val (Value.int IntKind.i64 ((S.nd i).max)))]), (TV.at (At.val (Value.bool true)))]) [(Chunk.box [(At.ptr 1 0), (At.slc 2), (At.slc 3), (At.val (Value.int IntKind.u64 (IntKind.u64.wrap (S.reads + 1))))]), (Chunk.box [(At.slc 4), (At.slc 5), (At.slc 6), (At.val (Value.int IntKind.u32 (S.fresh)))]), (Chunk.row true (EC.node) (S.nodes)), (Chunk.row true (EC.int) (S.counts)), (Chunk.row true (EC.bool) (S.used)), (Chunk.row true (EC.u32) (S.gen)), (Chunk.row true (EC.u32) (S.rel))] [0]))))) = _ by kernel_rfl) ?_
  obtain ⟨hs, hw⟩ := hw
  have h2 := hw.n2; have h3 := hw.nnod; have h4 := hw.rds
  rw [wrap_u64 (by omega) (by omega)]
  refine ⟨hi.1, hi.2, by omega, brS_of (fun c => ?_) fun c => ?_⟩
  · have c : S.us i = false := by simpa using c
    have h5 := h _ rfl
    rw [hw.zero i c, c] at h5
    have e : rdS S (false.toNat) = S := by simp [rdS]
    rw [e] at h5
    exact h5
  · have c : S.us i = true := by simpa using c
    have hp := hw.pos c
    have h5 := h _ rfl
    rw [c] at h5
    exact ⟨hi.1, by omega, h5⟩
theorem s_node : SoundT C0 62 tNode := by
  refine .ofW [0] Tryz.func62 (by decide) rfl fun args H K h hB => ?_
  unfold tNode at h
  split at h <;> try exact h.elim
  unfold arM at h
  split at h <;> try exact h.elim
  rename_i i _ rd fr nd ct us gn rl
  exact ⟨aAlc, ⟨frame C0.ok s_slAllocated _, trivial⟩, vc_node ⟨us, gn, rl, fr, nd, ct, rd⟩ i K h.1 h.2.1 h.2.2.1 h.2.2.2⟩
theorem vc_size (S : Arn) (i : Int) (K : KT) (hi : inU i) (hw : exW S) (hr : S.reads < 4000000000000000000) (h : ∀ S', S' = rdS S (S.us i).toNat → K (.one (.at (vI (S.nd i).size))) (chS S') [0]) :
    vc C0 aAlc Tryz.f28 [.at (.ptr 0 0), .at (vU i)] (chS S) (normK 7 (wideK [0] K)) := by
  refine Eq.mp (show ((0 ≤ i) ∧
(i < 4294967296) ∧
(S.used.length ≤ 65537) ∧
(brS (!S.us i) ((K (SV.one (TV.at (At.val (Value.int IntKind.i64 0)))) [(Chunk.box [(At.ptr 1 0), (At.slc 2), (At.slc 3), (At.val (Value.int IntKind.u64 (S.reads)))]), (Chunk.box [(At.slc 4), (At.slc 5), (At.slc 6), (At.val (Value.int IntKind.u32 (S.fresh)))]), (Chunk.row true (EC.node) (S.nodes)), (Chunk.row true (EC.int) (S.counts)), (Chunk.row true (EC.bool) (S.used)), (Chunk.row true (EC.u32) (S.gen)), (Chunk.row true (EC.u32) (S.rel))] [0])) (((0 ≤ i) ∧ (i < (↑S.nodes.length : Int)) ∧ (K (SV.one (TV.at (At.val (Value.int IntKind.i64 ((S.nd i).size))))) [(Chunk.box [(At.ptr 1 0), (At.slc 2), (At.slc 3), (At.val (Value.int IntKind.u64 (IntKind.u64.wrap (S.reads + 1))))]), (Chunk.box [(At.slc 4), (At.slc 5), (At.slc 6), (At.val (Value.int IntKind.u32 (S.fresh)))]), (Chunk.row true (EC.node) (S.nodes)), (Chunk.row true (EC.int) (S.counts)), (Chunk.row true (EC.bool) (S.used)), (Chunk.row true (EC.u32) (S.gen)), (Chunk.row true (EC.u32) (S.rel))] [0]))))) = _ by kernel_rfl) ?_
  obtain ⟨hs, hw⟩ := hw
  have h2 := hw.n2; have h3 := hw.nnod; have h4 := hw.rds
  rw [wrap_u64 (by omega) (by omega)]
  refine ⟨hi.1, hi.2, by omega, brS_of (fun c => ?_) fun c => ?_⟩
  · have c : S.us i = false := by simpa using c
    have h5 := h _ rfl
    rw [hw.zero i c, c] at h5
    have e : rdS S (false.toNat) = S := by simp [rdS]
    rw [e] at h5
    exact h5
  · have c : S.us i = true := by simpa using c
    have hp := hw.pos c
    have h5 := h _ rfl
    rw [c] at h5
    exact ⟨hi.1, by omega, h5⟩
theorem s_size : SoundT C0 28 tSize := by
  refine .ofW [0] Tryz.func28 (by decide) rfl fun args H K h hB => ?_
  unfold tSize at h
  split at h <;> try exact h.elim
  unfold arM at h
  split at h <;> try exact h.elim
  rename_i i _ rd fr nd ct us gn rl
  exact ⟨aAlc, ⟨frame C0.ok s_slAllocated _, trivial⟩, vc_size ⟨us, gn, rl, fr, nd, ct, rd⟩ i K h.1 h.2.1 h.2.2.1 h.2.2.2⟩
theorem vc_count (S : Arn) (i : Int) (K : KT) (hi : inU i) (hw : exW S) (h : K (.one (.at (vI (if S.us i then S.ct i else 0)))) (chS S) []) :
    vc C0 aAlc Tryz.f35 [.at (.ptr 0 0), .at (vU i)] (chS S) (normK 7 K) := by
  refine Eq.mp (show ((0 ≤ i) ∧
(i < 4294967296) ∧
(S.used.length ≤ 65537) ∧
(brS (!S.us i) ((K (SV.one (TV.at (At.val (Value.int IntKind.i64 0)))) [(Chunk.box [(At.ptr 1 0), (At.slc 2), (At.slc 3), (At.val (Value.int IntKind.u64 (S.reads)))]), (Chunk.box [(At.slc 4), (At.slc 5), (At.slc 6), (At.val (Value.int IntKind.u32 (S.fresh)))]), (Chunk.row true (EC.node) (S.nodes)), (Chunk.row true (EC.int) (S.counts)), (Chunk.row true (EC.bool) (S.used)), (Chunk.row true (EC.u32) (S.gen)), (Chunk.row true (EC.u32) (S.rel))] [])) (((0 ≤ i) ∧ (i < (↑S.counts.length : Int)) ∧ (K (SV.one (TV.at (At.val (Value.int IntKind.i64 (S.ct i))))) [(Chunk.box [(At.ptr 1 0), (At.slc 2), (At.slc 3), (At.val (Value.int IntKind.u64 (S.reads)))]), (Chunk.box [(At.slc 4), (At.slc 5), (At.slc 6), (At.val (Value.int IntKind.u32 (S.fresh)))]), (Chunk.row true (EC.node) (S.nodes)), (Chunk.row true (EC.int) (S.counts)), (Chunk.row true (EC.bool) (S.used)), (Chunk.row true (EC.u32) (S.gen)), (Chunk.row true (EC.u32) (S.rel))] []))))) = _ by kernel_rfl) ?_
  obtain ⟨hs, hw⟩ := hw
  have h2 := hw.n2; have h3 := hw.ncnt
  refine ⟨hi.1, hi.2, by omega, brS_of (fun c => ?_) fun c => ?_⟩
  · have c : S.us i = false := by simpa using c
    rw [c] at h
    exact h
  · have c : S.us i = true := by simpa using c
    have hp := hw.pos c
    rw [c] at h
    exact ⟨hi.1, by omega, h⟩
theorem s_count : SoundT C0 35 tCount := by
  refine .of Tryz.func35 (by decide) rfl fun args H K h hB => ?_
  unfold tCount at h
  split at h <;> try exact h.elim
  unfold arM at h
  split at h <;> try exact h.elim
  rename_i i _ rd fr nd ct us gn rl
  exact ⟨aAlc, ⟨frame C0.ok s_slAllocated _, trivial⟩, vc_count ⟨us, gn, rl, fr, nd, ct, rd⟩ i K h.1 h.2.1 h.2.2⟩
theorem vc_gen (S : Arn) (i : Int) (K : KT) (hi : inU i) (hw : exW S) (h : K (.one (.at (vU (S.gn i)))) (chS S) []) :
    vc C0 aGen Tryz.f36 [.at (.ptr 0 0), .at (vU i)] (chS S) (normK 7 K) := by
  refine Eq.mp (show ((0 ≤ i) ∧
(i < 4294967296) ∧
(S.gen.length ≤ 65537) ∧
(K (SV.one (TV.at (At.val (Value.int IntKind.u32 (S.gn i))))) [(Chunk.box [(At.ptr 1 0), (At.slc 2), (At.slc 3), (At.val (Value.int IntKind.u64 (S.reads)))]), (Chunk.box [(At.slc 4), (At.slc 5), (At.slc 6), (At.val (Value.int IntKind.u32 (S.fresh)))]), (Chunk.row true (EC.node) (S.nodes)), (Chunk.row true (EC.int) (S.counts)), (Chunk.row true (EC.bool) (S.used)), (Chunk.row true (EC.u32) (S.gen)), (Chunk.row true (EC.u32) (S.rel))] [])) = _ by kernel_rfl) ?_
  obtain ⟨hs, hw⟩ := hw
  have h2 := hw.n2; have h3 := hw.ngen
  exact ⟨hi.1, hi.2, by omega, h⟩
theorem s_gen : SoundT C0 36 tGen := by
  refine .of Tryz.func36 (by decide) rfl fun args H K h hB => ?_
  unfold tGen at h
  split at h <;> try exact h.elim
  unfold arM at h
  split at h <;> try exact h.elim
  rename_i i _ rd fr nd ct us gn rl
  exact ⟨aGen, ⟨frame C0.ok s_slGen _, trivial⟩, vc_gen ⟨us, gn, rl, fr, nd, ct, rd⟩ i K h.1 h.2.1 h.2.2⟩
theorem vc_retain (S : Arn) (i : Int) (K : KT) (hi : inU i) (hw : exW S) (h0 : i = 0 → K (.one (.at (vI 0))) (chS S) [3]) (h1 : i ≠ 0 → S.us i = false → K (.one (.at (vI 3))) (chS S) [3]) (h : S.us i = true → ∀ S', S' = retA S i → K (.one (.at (vI 0))) (chS S') [3]) :
    vc C0 aAlc Tryz.f55 [.at (.ptr 0 0), .at (vU i)] (chS S) (normK 7 (wideK [3] K)) := by
  refine Eq.mp (show (brS (i == 0) ((K (SV.one (TV.at (At.val (Value.int IntKind.i64 0)))) [(Chunk.box [(At.ptr 1 0), (At.slc 2), (At.slc 3), (At.val (Value.int IntKind.u64 (S.reads)))]), (Chunk.box [(At.slc 4), (At.slc 5), (At.slc 6), (At.val (Value.int IntKind.u32 (S.fresh)))]), (Chunk.row true (EC.node) (S.nodes)), (Chunk.row true (EC.int) (S.counts)), (Chunk.row true (EC.bool) (S.used)), (Chunk.row true (EC.u32) (S.gen)), (Chunk.row true (EC.u32) (S.rel))] [3])) (((0 ≤ i) ∧ (i < 4294967296) ∧ (S.used.length ≤ 65537) ∧ (brS (!S.us i) ((K (SV.one (TV.at (At.val (Value.int IntKind.i64 3)))) [(Chunk.box [(At.ptr 1 0), (At.slc 2), (At.slc 3), (At.val (Value.int IntKind.u64 (S.reads)))]), (Chunk.box [(At.slc 4), (At.slc 5), (At.slc 6), (At.val (Value.int IntKind.u32 (S.fresh)))]), (Chunk.row true (EC.node) (S.nodes)), (Chunk.row true (EC.int) (S.counts)), (Chunk.row true (EC.bool) (S.used)), (Chunk.row true (EC.u32) (S.gen)), (Chunk.row true (EC.u32) (S.rel))] [3])) (((0 ≤ i) ∧ (i < (↑S.counts.length : Int)) ∧ (0 ≤ i) ∧ (i < (↑S.counts.length : Int)) ∧
    (K (SV.one (TV.at (At.val (Value.int IntKind.i64 0)))) [(Chunk.box [(At.ptr 1 0), (At.slc 2), (At.slc 3), (At.val (Value.int IntKind.u64 (S.reads)))]), (Chunk.box [(At.slc 4), (At.slc 5), (At.slc 6), (At.val (Value.int IntKind.u32 (S.fresh)))]), (Chunk.row true (EC.node) (S.nodes)), (Chunk.row true (EC.int) (S.counts.set i.toNat (IntKind.i64.wrap (S.ct i + 1)))), (Chunk.row true (EC.bool) (S.used)), (Chunk.row true (EC.u32) (S.gen)), (Chunk.row true (EC.u32) (S.rel))] [3]))))))) = _ by kernel_rfl) ?_
  obtain ⟨hs, hw⟩ := hw
  have h2 := hw.n2; have h3 := hw.ncnt
  refine brS_of (fun c => h0 (by simpa using c)) fun c => ⟨hi.1, hi.2, by omega, brS_of (fun d => ?_) fun d => ?_⟩
  · exact h1 (by simpa using c) (by simpa using d)
  · have d : S.us i = true := by simpa using d
    have hp := hw.pos d
    exact ⟨hi.1, by omega, hi.1, by omega, h d _ rfl⟩
theorem s_retain : SoundT C0 55 tRetain := by
  refine .ofW [3] Tryz.func55 (by decide) rfl fun args H K h hB => ?_
  unfold tRetain at h
  split at h <;> try exact h.elim
  unfold arM at h
  split at h <;> try exact h.elim
  rename_i i _ rd fr nd ct us gn rl
  exact ⟨aAlc, ⟨frame C0.ok s_slAllocated _, trivial⟩, vc_retain ⟨us, gn, rl, fr, nd, ct, rd⟩ i K h.1 h.2.1 h.2.2.1 h.2.2.2.1 h.2.2.2.2⟩
theorem vc_slNew (c : Int) (K : KT) (hb : c < 1 ∨ 65536 < c → K (.tup [.at (.val (.pointer none)), .at (vI 1)]) [] []) (h : 1 ≤ c → c ≤ 65536 → ∀ (us : List Bool) (gn : List Int), us = newUs c → gn = newGn c → K (.tup [.at (.ptr 0 0), .at (vI 0)]) (slC us gn [] 0) []) :
    vc C0 aSlNew Tryz.f60 [.at (vI c)] [] (normK 0 K) := by
  refine Eq.mp (show (brS (decide (c < 1)) ((K (SV.tup [(TV.at (At.val (Value.pointer none))), (TV.at (At.val (Value.int IntKind.i64 1)))]) [] [])) ((brS (decide (c > 65536)) ((K (SV.tup [(TV.at (At.val (Value.pointer none))), (TV.at (At.val (Value.int IntKind.i64 1)))]) [] [])) ((((0 ≤ IntKind.i64.wrap (c + 1)) ∧ (IntKind.i64.wrap (c + 1) ≤ IntKind.i64.wrap (c + 1)) ∧ (IntKind.i64.wrap (c + 1) * (↑(bytesOf C0 EC.bool) : Int) ≤ 140737488355328) ∧ (0 ≤ IntKind.i64.wrap (c + 1)) ∧ (IntKind.i64.wrap (c + 1) ≤ IntKind.i64.wrap (c + 1)) ∧ (IntKind.i64.wrap (c + 1) * (↑(bytesOf C0 EC.u32) : Int) ≤ 140737488355328) ∧ (K (SV.tup [(TV.at (At.ptr 0 0)), (TV.at (At.val (Value.int IntKind.i64 0)))]) [(Chunk.box [(At.slc 1), (At.slc 2), (At.slc 3), (At.val (Value.int IntKind.u32 0))]), (Chunk.row true (EC.bool) (List.replicate (IntKind.i64.wrap (c + 1)).toNat false)), (Chunk.row true (EC.u32) (List.replicate (IntKind.i64.wrap (c + 1)).toNat (0 : Int))), (Chunk.row true (EC.u32) [])] [])) ∧ (0 ≤ IntKind.i64.wrap (c + 1)) ∧ (IntKind.i64.wrap (c + 1) ≤ IntKind.i64.wrap (c + 1)) ∧ (IntKind.i64.wrap (c + 1) * (↑(bytesOf C0 EC.u32) : Int) ≤ 140737488355328) ∧ (0 ≤ IntKind.i64.wrap (c + 1)) ∧ (IntKind.i64.wrap (c + 1) ≤ IntKind.i64.wrap (c + 1)) ∧ (IntKind.i64.wrap (c + 1) * (↑(bytesOf C0 EC.bool) : Int) ≤ 140737488355328) ∧
    (K (SV.tup [(TV.at (At.ptr 0 0)), (TV.at (At.val (Value.int IntKind.i64 0)))]) [(Chunk.box [(At.slc 1), (At.slc 2), (At.slc 3), (At.val (Value.int IntKind.u32 0))]), (Chunk.row true (EC.bool) (List.replicate (IntKind.i64.wrap (c + 1)).toNat false)), (Chunk.row true (EC.u32) (List.replicate (IntKind.i64.wrap (c + 1)).toNat (0 : Int))), (Chunk.row true (EC.u32) [])] [])))))) = _ by kernel_rfl) ?_
  simp only [bytes_bool, bytes_u32]
  refine brS_of (fun d => hb (.inl (by simpa using d))) fun d => brS_of (fun e => hb (.inr (by simpa using e))) fun e => ?_
  have d : 1 ≤ c := by simp at d; omega
  have e : c ≤ 65536 := by simp at e; omega
  have h := h d e _ _ rfl rfl
  unfold newUs newGn at h
  rw [wrap_id (x := c + 1) (by omega) (by omega), show (c + 1).toNat = c.toNat + 1 by omega]
  exact ⟨⟨by omega, by omega, by omega, by omega, by omega, by omega, h⟩, by omega, by omega, by omega, by omega, by omega, by omega, h⟩
theorem s_slNew : SoundT C0 60 tSlNew := by
  refine .of Tryz.func60 (by decide) rfl fun args H K h hB => ?_
  unfold tSlNew at h
  split at h <;> try exact h.elim
  rename_i c
  exact ⟨aSlNew, trivial, vc_slNew c K h.1 h.2⟩
theorem vc_new (c : Int) (K : KT) (hb : c < 1 ∨ 65536 < c → K (.tup [.at (.val (.pointer none)), .at (vI 1)]) [] []) (h : 1 ≤ c → c ≤ 65536 → ∀ S, S = newS c.toNat → K (.tup [.at (.ptr 0 0), .at (vI 0)]) (chS S) []) :
    vc C0 aNew Tryz.f25 [.at (vI c)] [] (normK 0 K) := by
  refine Eq.mp (show (((c < 1 ∨ 65536 < c) →
(K (SV.tup [(TV.at (At.val (Value.pointer none))), (TV.at (At.val (Value.int IntKind.i64 1)))]) [] [])) ∧
((1 ≤ c) →
((c ≤ 65536) →
(∀ us : List Bool, (∀ gn : List Int, (((us) = (newUs c)) → (((gn) = (newGn c)) → (((0 ≤ IntKind.i64.wrap (c + 1)) ∧ (IntKind.i64.wrap (c + 1) ≤ IntKind.i64.wrap (c + 1)) ∧ (IntKind.i64.wrap (c + 1) * (↑(bytesOf C0 EC.node) : Int) ≤ 140737488355328) ∧ (0 ≤ IntKind.i64.wrap (c + 1)) ∧ (IntKind.i64.wrap (c + 1) ≤ IntKind.i64.wrap (c + 1)) ∧ (IntKind.i64.wrap (c + 1) * (↑(bytesOf C0 EC.int) : Int) ≤ 140737488355328) ∧ (K (SV.tup [(TV.at (At.ptr 0 0)), (TV.at (At.val (Value.int IntKind.i64 0)))]) [(Chunk.box [(At.ptr 1 0), (At.slc 2), (At.slc 3), (At.val (Value.int IntKind.u64 0))]), (Chunk.box [(At.slc 4), (At.slc 5), (At.slc 6), (At.val (Value.int IntKind.u32 0))]), (Chunk.row true (EC.node) (List.replicate (IntKind.i64.wrap (c + 1)).toNat { key := 0, value := 0, left := 0, right := 0, size := 0, sum := 0, min := 0, max := 0 : NodeT })), (Chunk.row true (EC.int) (List.replicate (IntKind.i64.wrap (c + 1)).toNat (0 : Int))), (Chunk.row true (EC.bool) (us)), (Chunk.row true (EC.u32) (gn)), (Chunk.row true (EC.u32) [])] [])) ∧ (0 ≤ IntKind.i64.wrap (c + 1)) ∧ (IntKind.i64.wrap (c + 1) ≤ IntKind.i64.wrap (c + 1)) ∧ (IntKind.i64.wrap (c + 1) * (↑(bytesOf C0 EC.int) : Int) ≤ 140737488355328) ∧ (0 ≤ IntKind.i64.wrap (c + 1)) ∧ (IntKind.i64.wrap (c + 1) ≤ IntKind.i64.wrap (c + 1)) ∧
    (IntKind.i64.wrap (c + 1) * (↑(bytesOf C0 EC.node) : Int) ≤ 140737488355328) ∧ (K (SV.tup [(TV.at (At.ptr 0 0)), (TV.at (At.val (Value.int IntKind.i64 0)))]) [(Chunk.box [(At.ptr 1 0), (At.slc 2), (At.slc 3), (At.val (Value.int IntKind.u64 0))]), (Chunk.box [(At.slc 4), (At.slc 5), (At.slc 6), (At.val (Value.int IntKind.u32 0))]), (Chunk.row true (EC.node) (List.replicate (IntKind.i64.wrap (c + 1)).toNat { key := 0, value := 0, left := 0, right := 0, size := 0, sum := 0, min := 0, max := 0 : NodeT })), (Chunk.row true (EC.int) (List.replicate (IntKind.i64.wrap (c + 1)).toNat (0 : Int))), (Chunk.row true (EC.bool) (us)), (Chunk.row true (EC.u32) (gn)), (Chunk.row true (EC.u32) [])] []))))))))) = _ by kernel_rfl) ?_
  simp only [bytes_node, bytes_int]
  refine ⟨hb, fun d e us gn hu hg => ?_⟩
  have h := h d e _ rfl
  subst hu hg
  unfold newUs newGn
  rw [wrap_id (x := c + 1) (by omega) (by omega), show (c + 1).toNat = c.toNat + 1 by omega]
  exact ⟨⟨by omega, by omega, by omega, by omega, by omega, by omega, h⟩, by omega, by omega, by omega, by omega, by omega, by omega, h⟩
theorem s_new : SoundT C0 25 tNew := by
  refine .of Tryz.func25 (by decide) rfl fun args H K h hB => ?_
  unfold tNew at h
  split at h <;> try exact h.elim
  rename_i c
  exact ⟨aNew, ⟨frame C0.ok s_slNew _, trivial⟩, vc_new c K h.1 h.2⟩
end Go.Proofs.YtbonbaccmlomhaaGreat.Sx
end
section
/- The greatest height of a balanced tree, and few reads. -/
namespace Go.Proofs.YtbonbaccmlomhaaGreat.Sx
open Go

/-KEEP Wf exW inU wtsL-/
noncomputable def aWts : Ann C0 := { Γ := [], rounds := fun n => if n = 4 then 82 else 0 }
def tWts : Tfm C0 := fun args H K => match args, H with
  | [], [] => K (.one (.agg (wtsL.map fun n => vI n))) [] []
  | _, _ => False
def wC : Nat → Int → Prop → Prop
  | 0, _, Q => Q
  | n + 1, h, Q => (0 ≤ IntKind.i64.wrap (h - 1)) ∧ (IntKind.i64.wrap (h - 1) < ((81 : Nat) : Int)) ∧ (0 ≤ IntKind.i64.wrap (h - 1)) ∧ (IntKind.i64.wrap (h - 1) < ((81 : Nat) : Int)) ∧ (0 ≤ h) ∧ (h < ((81 : Nat) : Int)) ∧ wC n (IntKind.i64.wrap (h + 1)) Q
theorem wC_of : ∀ (n : Nat) (h : Int) (Q : Prop), 1 ≤ h → h + n ≤ 81 → Q → wC n h Q
  | 0, _, _, _, _, q => q
  | n + 1, h, Q, h1, h2, q => by
    have e1 := wrap_id (x := h - 1) (by omega) (by omega)
    have e2 := wrap_id (x := h + 1) (by omega) (by omega)
    unfold wC
    rw [e1, e2]
    exact ⟨by omega, by omega, by omega, by omega, by omega, by omega, wC_of n (h + 1) Q (by omega) (by omega) q⟩
theorem s_wts : SoundT C0 84 tWts := by
  refine .of Tryz.func84 (by decide) rfl fun args H K h hB => ?_
  unfold tWts at h
  split at h <;> try exact h.elim
  refine ⟨aWts, trivial, Eq.mp (show ((0 : Int) ≤ 0 ∧ (0 : Int) < ((81 : Nat) : Int) ∧ wC 80 1 (K (.one (.agg (wtsL.map fun n => vI n))) [] [])) = _ by kernel_rfl) ?_⟩
  exact ⟨by decide, by decide, wC_of 80 1 _ (by decide) (by decide) h⟩
noncomputable def aMh : Ann C0 := { Γ := [(84, frameT [] tWts)], rounds := fun n => if n = 5 then 82 else 0 }
def mhC (k : Int) (Q : Int → Prop) : List Int → Int → Prop
  | [], h => Q h
  | w :: l, h => (0 ≤ IntKind.i64.wrap (h + 1)) ∧ (IntKind.i64.wrap (h + 1) < ((81 : Nat) : Int)) ∧ brS (decide (IntKind.i64.wrap (w - 1) ≤ k)) (mhC k Q l (IntKind.i64.wrap (h + 1))) (Q h)
theorem mhC_of {k : Int} {Q : Int → Prop} : ∀ (l : List Int) (h : Int), 0 ≤ h → h + l.length ≤ 80 → (∀ w ∈ l, 0 ≤ w ∧ w ≤ 1000000000000) → Q (hnC l h k) → mhC k Q l h
  | [], _, _, _, _, q => q
  | w :: l, h, h1, h2, h3, q => by
    have hw := h3 w (by simp)
    have hl : (w :: l).length = l.length + 1 := rfl
    unfold mhC
    rw [wrap_id (x := h + 1) (by omega) (by omega), wrap_id (x := w - 1) (by omega) (by omega)]
    unfold hnC at q
    refine ⟨by omega, by omega, brS_of (fun c => ?_) fun c => ?_⟩
    · rw [if_pos (of_decide_eq_true c)] at q
      exact mhC_of l (h + 1) (by omega) (by omega) (fun x hx => h3 x (by simp [hx])) q
    · rw [if_neg (of_decide_eq_false c)] at q; exact q
def tMh : Tfm C0 := fun args H K => match args, H with
  | [.at (.val (.int .i64 k))], [] => 0 ≤ k ∧ k ≤ 2147483647 ∧ ∀ h, h = Hn k → K (.one (.at (vI h))) [] []
  | _, _ => False
theorem s_mh : SoundT C0 63 tMh := by
  refine .of Tryz.func63 (by decide) rfl fun args H K h hB => ?_
  unfold tMh at h
  split at h <;> try exact h.elim
  rename_i k
  obtain ⟨h1, h2, h⟩ := h
  refine ⟨aMh, ⟨frame C0.ok s_wts _, trivial⟩, Eq.mp (show (brS (decide (k < 0)) (K (.one (.at (vI (-1)))) [] []) (brS (decide (k > 2147483647)) (K (.one (.at (vI (-1)))) [] []) (mhC k (fun h => K (.one (.at (vI h))) [] []) (wtsL.drop 1) 0))) = _ by kernel_rfl) ?_⟩
  refine brS_of (fun c => by have := of_decide_eq_true c; omega) fun _ => brS_of (fun c => by have := of_decide_eq_true c; omega) fun _ => mhC_of _ 0 (by decide) (by decide) (by decide) (h _ rfl)
noncomputable def aHt : Ann C0 := { Γ := [(63, frameT [] tMh)] }
noncomputable def aWi : Ann C0 := { Γ := [(10, frameT [] tReads)] }
def tWi : Tfm C0 := fun args H K => match args with
  | [.at (.ptr 0 0), .at (.val (.int .u64 r)), .at (.val (.int .i64 m))] => arM H fun S => 0 ≤ r ∧ r ≤ S.reads ∧ S.reads ≤ 4000000000000000000 ∧ S.reads - r ≤ m ∧ m ≤ 4000000000000000000 ∧ K (.one (.at (vB true))) (chS S) []
  | _ => False
theorem s_wi : SoundT C0 15 tWi := by
  refine .of Tryz.func15 (by decide) rfl fun args H K h hB => ?_
  unfold tWi at h
  split at h <;> try exact h.elim
  rename_i r m
  unfold arM at h
  split at h <;> try exact h.elim
  rename_i rd fr nd ct us gn rl
  have key : ∀ S : Arn, 0 ≤ r → r ≤ S.reads → S.reads ≤ 4000000000000000000 → S.reads - r ≤ m → m ≤ 4000000000000000000 → K (.one (.at (vB true))) (chS S) [] → vc C0 aWi Tryz.f15 [.at (.ptr 0 0), .at (vU64 r), .at (vI m)] (chS S) (normK 7 K) := fun S h1 h2 h3 h4 h5 h => by
    refine Eq.mp (show (brS (decide (S.reads ≥ r)) ((K (SV.one (TV.at (At.val (Value.bool (decide (IntKind.u64.wrap (S.reads - r) ≤ IntKind.u64.wrap m)))))) [(Chunk.box [(At.ptr 1 0), (At.slc 2), (At.slc 3), (At.val (Value.int IntKind.u64 (S.reads)))]), (Chunk.box [(At.slc 4), (At.slc 5), (At.slc 6), (At.val (Value.int IntKind.u32 (S.fresh)))]), (Chunk.row true (EC.node) (S.nodes)), (Chunk.row true (EC.int) (S.counts)), (Chunk.row true (EC.bool) (S.used)), (Chunk.row true (EC.u32) (S.gen)), (Chunk.row true (EC.u32) (S.rel))] [])) ((K (SV.one (TV.at (At.val (Value.bool false)))) [(Chunk.box [(At.ptr 1 0), (At.slc 2), (At.slc 3), (At.val (Value.int IntKind.u64 (S.reads)))]), (Chunk.box [(At.slc 4), (At.slc 5), (At.slc 6), (At.val (Value.int IntKind.u32 (S.fresh)))]), (Chunk.row true (EC.node) (S.nodes)), (Chunk.row true (EC.int) (S.counts)), (Chunk.row true (EC.bool) (S.used)), (Chunk.row true (EC.u32) (S.gen)), (Chunk.row true (EC.u32) (S.rel))] []))) = _ by kernel_rfl) ?_
    rw [wrap_u64 (x := S.reads - r) (by omega) (by omega), wrap_u64 (x := m) (by omega) (by omega)]
    refine brS_of (fun _ => ?_) fun c => by have := of_decide_eq_false c; omega
    rw [show decide (S.reads - r ≤ m) = true from decide_eq_true h4]
    exact h
  exact ⟨aWi, ⟨frame C0.ok s_rds _, trivial⟩, key ⟨us, gn, rl, fr, nd, ct, rd⟩ h.1 h.2.1 h.2.2.1 h.2.2.2.1 h.2.2.2.2.1 h.2.2.2.2.2⟩
end Go.Proofs.YtbonbaccmlomhaaGreat.Sx
end
section
/- The arena's Make and Release. -/
namespace Go.Proofs.YtbonbaccmlomhaaGreat.Sx
open Go

structure XMk (S : Arn) (k v l r : Int) where
  i : Nat
  n : NodeT
  h : n = if i = 0 then addC S ⟨k, v, l, r, 1, v, v, v⟩ l else mkNode S k v l r
abbrev bxN (n : NodeT) : Chunk C0 := .box [vI n.key, vI n.value, vU n.left, vU n.right, vI n.size, vI n.sum, vI n.min, vI n.max]
noncomputable def aMake (S : Arn) (k v l r : Int) : Ann C0 := { rounds := fun n => if n = 3 then 3 else 0, Γ := [(34, frameT [] tSlAllocated), (65, frameT [] tSlAlloc)], inv := fun n => match n with
  | 1013 => some { X := XMk S k v l r, sl := [12], tf := fun _ => [.one (.at (.ptr 7 0))], hf := fun x => chS S ++ [bxN x.n], rel := fun T _ x => slotI T 29 x.i }
  | _ => none }
def tMake : Tfm C0 := fun args H K => match args with
  | [.at (.ptr 0 0), .at (.val (.int .i64 k)), .at (.val (.int .i64 v)), .at (.val (.int .u32 l)), .at (.val (.int .u32 r))] => arM H fun S => exW S ∧ live S l ∧ live S r ∧
    (maxSize < (mkNode S k v l r).size → K (.tup [.at (vU 0), .at (vI 1)]) (chS S) W7) ∧
    ((mkNode S k v l r).size ≤ maxSize → S.free = 0 → K (.tup [.at (vU 0), .at (vI 2)]) (chS S) W7) ∧
    ((mkNode S k v l r).size ≤ maxSize → 0 < S.free → ∀ S' i, S' = makeS S k v l r → i = nxt S → K (.tup [.at (vU i), .at (vI 0)]) (chS S') W7)
  | _ => False
structure XRel (S : Arn) (hs : List Int) (i : Int) where
  S' : Arn
  work : List Int
  freed : Int
  h : Wf S' (work ++ hs) ∧ Kept S S' ∧ 0 ≤ freed ∧ freed + S'.nu = S.nu ∧ (∀ w ∈ work, S'.us w = true) ∧ (1 < S.ct i → (work = [i] ∧ S' = S) ∨ (work = [] ∧ S' = decS S i))
structure XRelK (S : Arn) (hs : List Int) (i : Int) where
  S' : Arn
  rest : List Int
  k : Int
  freed : Int
  h : Wf S' ((rest ++ [k]) ++ hs) ∧ Kept S S' ∧ 0 ≤ freed ∧ freed + S'.nu = S.nu ∧ (∀ w ∈ rest ++ [k], S'.us w = true) ∧ (1 < S.ct i → rest = [] ∧ k = i ∧ S' = S)
noncomputable def aRelease (S : Arn) (hs : List Int) (i : Int) : Ann C0 := { trunc := fun n => n == 34, Γ := [(34, frameT [] tSlAllocated), (82, frameT [] tSlRelease)], inv := fun n => match n with
  | 7 => some { X := XRel S hs i, sl := [7, 6], tf := fun x => [.one (.at (.slc 7)), vi .i64 x.freed], hf := fun x => chS x.S' ++ [.row true EC.u32 x.work], μ := fun x => 2 * x.S'.nu + x.work.length, wr := W7 }
  | 1010 => some { X := XRelK S hs i, sl := [7, 8], tf := fun x => [.one (.at (.slc 7)), vi .u32 x.k], hf := fun x => chS x.S' ++ [.row true EC.u32 x.rest], wr := W7, rel := fun T _ x => slotI T 6 x.freed ∧ slotI T 22 (x.rest.length + 1) }
  | _ => none }
def tRelease : Tfm C0 := fun args H K => match args with
  | [.at (.ptr 0 0), .at (.val (.int .u32 i))] => arM H fun S => ∃ hs, Wf S (i :: hs) ∧ ∀ S' (fr : Int), Wf S' hs → Kept S S' → fr + S'.nu = S.nu → (1 < S.ct i → S.us i = true → S' = decS S i) → (S.us i = false → S' = S) → K (.tup [.at (vI fr), .at (vI 0)]) (chS S') W7
  | _ => False
theorem list_last {α : Type} {l : List α} {d : α} (h : 0 < l.length) : l.take (l.length - 1) ++ [l.getD (l.length - 1) d] = l := by
  have h1 : l[l.length - 1]? = some (l.getD (l.length - 1) d) := by
    have : l.length - 1 < l.length := by omega
    simp [List.getD_eq_getElem?_getD, List.getElem?_eq_getElem this]
  rw [← take_snoc h1, show l.length - 1 + 1 = l.length by omega, List.take_length]
theorem XRelK.freed' {S : Arn} {hs : List Int} {i : Int} (x : XRelK S hs i) (hc : x.S'.ct x.k = 1) :
    Wf (freeS x.S' x.k) ((x.rest ++ nz (x.S'.nd x.k).right ++ nz (x.S'.nd x.k).left) ++ hs) ∧ Kept S (freeS x.S' x.k) ∧ 0 ≤ x.freed + 1 ∧ (x.freed + 1) + (freeS x.S' x.k).nu = S.nu ∧
    (∀ w ∈ x.rest ++ nz (x.S'.nd x.k).right ++ nz (x.S'.nd x.k).left, (freeS x.S' x.k).us w = true) ∧ (1 < S.ct i → ((x.rest ++ nz (x.S'.nd x.k).right ++ nz (x.S'.nd x.k).left) = [i] ∧ freeS x.S' x.k = S) ∨ ((x.rest ++ nz (x.S'.nd x.k).right ++ nz (x.S'.nd x.k).left) = [] ∧ freeS x.S' x.k = decS S i)) := by
  obtain ⟨h1, h2, h3, h4, h5, h6⟩ := x.h
  have hk : x.S'.us x.k = true := h5 _ (by simp)
  have hw : Wf x.S' (x.k :: (x.rest ++ hs)) := h1.perm (by
    rw [List.append_assoc]
    exact List.perm_middle)
  obtain ⟨f1, f2, f3, f4⟩ := hw.freed hk hc
  have f1' : Wf (freeS x.S' x.k) ((x.rest ++ nz (x.S'.nd x.k).right ++ nz (x.S'.nd x.k).left) ++ hs) := f1.perm (by
    rw [List.append_assoc, List.append_assoc]
    exact ((List.perm_append_comm_assoc _ _ _).append_left _).trans (List.perm_append_comm_assoc _ _ _))
  refine ⟨f1', h2.trans (kept_free hw hk hc), by omega, by omega, fun w hm => ?_, fun hc1 => ?_⟩
  · refine (f1'.held w (List.mem_append_left _ hm)).resolve_left fun e => ?_
    subst e
    rcases List.mem_append.1 hm with hm | hm
    · rcases List.mem_append.1 hm with hm | hm
      · have := h5 0 (by simp [hm])
        rw [h1.us0 (Int.le_refl 0)] at this; cases this
      · unfold nz at hm; split at hm <;> simp at hm; omega
    · unfold nz at hm; split at hm <;> simp at hm; omega
  · obtain ⟨_, e2, e3⟩ := h6 hc1
    rw [e2, e3] at hc
    omega
theorem vc_release (S : Arn) (hs : List Int) (i : Int) (K : KT) (hw : Wf S (i :: hs)) (h : ∀ S' (fr : Int), Wf S' hs → Kept S S' → fr + S'.nu = S.nu → (1 < S.ct i → S.us i = true → S' = decS S i) → (S.us i = false → S' = S) → K (.tup [.at (vI fr), .at (vI 0)]) (chS S') W7) :
    vc C0 (aRelease S hs i) Tryz.f59 [.at (.ptr 0 0), .at (vU i)] (chS S) (normK 7 (wideK W7 K)) := by
  refine Eq.mp (show (brS (i == 0) ((K (SV.tup [(TV.at (At.val (Value.int IntKind.i64 0))), (TV.at (At.val (Value.int IntKind.i64 0)))]) [(Chunk.box [(At.ptr 1 0), (At.slc 2), (At.slc 3), (At.val (Value.int IntKind.u64 (S.reads)))]), (Chunk.box [(At.slc 4), (At.slc 5), (At.slc 6), (At.val (Value.int IntKind.u32 (S.fresh)))]), (Chunk.row true (EC.node) (S.nodes)), (Chunk.row true (EC.int) (S.counts)), (Chunk.row true (EC.bool) (S.used)), (Chunk.row true (EC.u32) (S.gen)), (Chunk.row true (EC.u32) (S.rel))] [0, 1, 2, 3, 4, 5, 6])) (((0 ≤ i) ∧ (i < 4294967296) ∧ (S.used.length ≤ 65537) ∧ (brS (!S.us i) ((K (SV.tup [(TV.at (At.val (Value.int IntKind.i64 0))), (TV.at (At.val (Value.int IntKind.i64 3)))]) [(Chunk.box [(At.ptr 1 0), (At.slc 2), (At.slc 3), (At.val (Value.int IntKind.u64 (S.reads)))]), (Chunk.box [(At.slc 4), (At.slc 5), (At.slc 6), (At.val (Value.int IntKind.u32 (S.fresh)))]), (Chunk.row true (EC.node) (S.nodes)), (Chunk.row true (EC.int) (S.counts)), (Chunk.row true (EC.bool) (S.used)), (Chunk.row true (EC.u32) (S.gen)), (Chunk.row true (EC.u32) (S.rel))] [0, 1, 2, 3, 4, 5, 6])) (((∃ x : XRel S hs i, (True ∧ (True ∧ ((Value.int IntKind.i64 0) = (Value.int IntKind.i64 (x.freed))) ∧ True ∧ True) ∧ (True ∧ True ∧ True ∧ ((Value.int IntKind.u64 (S.reads)) = (Value.int IntKind.u64 (x.S'.reads))) ∧ True) ∧ (True ∧ True ∧ True ∧ ((Value.int IntKind.u32 (S.fresh)) = (Value.int IntKind.u32 (x.S'.fresh))) ∧ True) ∧ ((S.nodes) = (x.S'.nodes)) ∧ ((S.counts) = (x.S'.counts)) ∧
    ((S.used) = (x.S'.used)) ∧ ((S.gen) = (x.S'.gen)) ∧ ((S.rel) = (x.S'.rel)) ∧ ([(i)] = (x.work)) ∧ True)) ∧ (∀ x : XRel S hs i, (True → (brS (decide ((↑x.work.length : Int) > 0)) (((0 ≤ IntKind.i64.wrap ((↑x.work.length : Int) - 1)) ∧ (IntKind.i64.wrap ((↑x.work.length : Int) - 1) < (↑x.work.length : Int)) ∧ ((0 ≤ IntKind.i64.wrap ((↑x.work.length : Int) - 1)) ∧ (IntKind.i64.wrap ((↑x.work.length : Int) - 1) ≤ (↑x.work.length : Int)) ∧ (∃ x1 : XRelK S hs i, ((((x.freed) = (x1.freed)) ∧ (((↑x.work.length : Int)) = ((↑x1.rest.length : Int) + 1))) ∧ (True ∧ ((Value.int IntKind.i64 (x.freed)) = (Value.int IntKind.i64 (x.freed))) ∧ True ∧ ((Value.int IntKind.u32 (x.work.getD (IntKind.i64.wrap ((↑x.work.length : Int) - 1)).toNat 0)) = (Value.int IntKind.u32 (x1.k))) ∧ True) ∧ (True ∧ True ∧ True ∧ ((Value.int IntKind.u64 (x.S'.reads)) = (Value.int IntKind.u64 (x1.S'.reads))) ∧ True) ∧ (True ∧ True ∧ True ∧ ((Value.int IntKind.u32 (x.S'.fresh)) = (Value.int IntKind.u32 (x1.S'.fresh))) ∧ True) ∧ ((x.S'.nodes) = (x1.S'.nodes)) ∧ ((x.S'.counts) = (x1.S'.counts)) ∧ ((x.S'.used) = (x1.S'.used)) ∧ ((x.S'.gen) = (x1.S'.gen)) ∧ ((x.S'.rel) = (x1.S'.rel)) ∧ ((List.take (IntKind.i64.wrap ((↑x.work.length : Int) - 1)).toNat x.work) = (x1.rest)) ∧ True))) ∧ (∀ x1 : XRelK S hs i, ((((x.freed) = (x1.freed)) ∧ (((↑x.work.length : Int)) = ((↑x1.rest.length : Int) + 1))) → ((0 ≤ x1.k) ∧ (x1.k < (↑x1.S'.counts.length : Int)) ∧ (0 ≤ x1.k) ∧ (x1.k < (↑x1.S'.counts.length : Int)) ∧ (0 ≤ x1.k) ∧
    (x1.k < (↑(x1.S'.counts.set x1.k.toNat (IntKind.i64.wrap (x1.S'.ct x1.k - 1))).length : Int)) ∧ (brS (decide ((x1.S'.counts.set x1.k.toNat (IntKind.i64.wrap (x1.S'.ct x1.k - 1))).getD x1.k.toNat 0 > 0)) ((∃ x' : XRel S hs i, (True ∧ ((True ∧ ((Value.int IntKind.i64 (x.freed)) = (Value.int IntKind.i64 (x'.freed))) ∧ True ∧ True) ∧ (True ∧ True ∧ True ∧ ((Value.int IntKind.u64 (x1.S'.reads)) = (Value.int IntKind.u64 (x'.S'.reads))) ∧ True) ∧ (True ∧ True ∧ True ∧ ((Value.int IntKind.u32 (x1.S'.fresh)) = (Value.int IntKind.u32 (x'.S'.fresh))) ∧ True) ∧ ((x1.S'.nodes) = (x'.S'.nodes)) ∧ ((x1.S'.counts.set x1.k.toNat (IntKind.i64.wrap (x1.S'.ct x1.k - 1))) = (x'.S'.counts)) ∧ ((x1.S'.used) = (x'.S'.used)) ∧ ((x1.S'.gen) = (x'.S'.gen)) ∧ ((x1.S'.rel) = (x'.S'.rel)) ∧ ((x1.rest) = (x'.work)) ∧ True) ∧ (2 * x'.S'.nu + x'.work.length < 2 * x.S'.nu + x.work.length)))) (((0 ≤ x1.k) ∧ (x1.k < (↑x1.S'.nodes.length : Int)) ∧ (0 ≤ x1.k) ∧ (x1.k < (↑x1.S'.nodes.length : Int)) ∧ (0 ≤ x1.k) ∧ (x1.k < 4294967296) ∧ (x1.S'.used.length ≤ 65537) ∧ (x1.S'.rel.length ≤ 65537) ∧ ((x1.S'.us x1.k) = true) ∧ (brS ((x1.S'.nd x1.k).right != 0) ((((x1.rest.length + [(x1.S'.nd x1.k).right].length) * bytesOf C0 EC.u32 ≤ 140737488355328) ∧ (brS ((x1.S'.nd x1.k).left != 0) (((((x1.rest ++ [(x1.S'.nd x1.k).right]).length + [(x1.S'.nd x1.k).left].length) * bytesOf C0 EC.u32 ≤ 140737488355328) ∧ (∃ x' : XRel S hs i, (True ∧ ((True ∧
    ((Value.int IntKind.i64 (IntKind.i64.wrap (x.freed + 1))) = (Value.int IntKind.i64 (x'.freed))) ∧ True ∧ True) ∧ (True ∧ True ∧ True ∧ ((Value.int IntKind.u64 (x1.S'.reads)) = (Value.int IntKind.u64 (x'.S'.reads))) ∧ True) ∧ (True ∧ True ∧ True ∧ ((Value.int IntKind.u32 (x1.S'.fresh)) = (Value.int IntKind.u32 (x'.S'.fresh))) ∧ True) ∧ ((x1.S'.nodes.set x1.k.toNat { key := 0, value := 0, left := 0, right := 0, size := 0, sum := 0, min := 0, max := 0 : NodeT }) = (x'.S'.nodes)) ∧ ((x1.S'.counts.set x1.k.toNat (IntKind.i64.wrap (x1.S'.ct x1.k - 1))) = (x'.S'.counts)) ∧ ((x1.S'.used.set x1.k.toNat false) = (x'.S'.used)) ∧ ((x1.S'.gen) = (x'.S'.gen)) ∧ ((x1.S'.rel ++ [x1.k]) = (x'.S'.rel)) ∧ ((x1.rest ++ [(x1.S'.nd x1.k).right] ++ [(x1.S'.nd x1.k).left]) = (x'.work)) ∧ True) ∧ (2 * x'.S'.nu + x'.work.length < 2 * x.S'.nu + x.work.length))))) ((∃ x' : XRel S hs i, (True ∧ ((True ∧ ((Value.int IntKind.i64 (IntKind.i64.wrap (x.freed + 1))) = (Value.int IntKind.i64 (x'.freed))) ∧ True ∧ True) ∧ (True ∧ True ∧ True ∧ ((Value.int IntKind.u64 (x1.S'.reads)) = (Value.int IntKind.u64 (x'.S'.reads))) ∧ True) ∧ (True ∧ True ∧ True ∧ ((Value.int IntKind.u32 (x1.S'.fresh)) = (Value.int IntKind.u32 (x'.S'.fresh))) ∧ True) ∧ ((x1.S'.nodes.set x1.k.toNat { key := 0, value := 0, left := 0, right := 0, size := 0, sum := 0, min := 0, max := 0 : NodeT }) = (x'.S'.nodes)) ∧ ((x1.S'.counts.set x1.k.toNat (IntKind.i64.wrap (x1.S'.ct x1.k - 1))) = (x'.S'.counts)) ∧
    ((x1.S'.used.set x1.k.toNat false) = (x'.S'.used)) ∧ ((x1.S'.gen) = (x'.S'.gen)) ∧ ((x1.S'.rel ++ [x1.k]) = (x'.S'.rel)) ∧ ((x1.rest ++ [(x1.S'.nd x1.k).right]) = (x'.work)) ∧ True) ∧ (2 * x'.S'.nu + x'.work.length < 2 * x.S'.nu + x.work.length))))))) ((brS ((x1.S'.nd x1.k).left != 0) ((((x1.rest.length + [(x1.S'.nd x1.k).left].length) * bytesOf C0 EC.u32 ≤ 140737488355328) ∧ (∃ x' : XRel S hs i, (True ∧ ((True ∧ ((Value.int IntKind.i64 (IntKind.i64.wrap (x.freed + 1))) = (Value.int IntKind.i64 (x'.freed))) ∧ True ∧ True) ∧ (True ∧ True ∧ True ∧ ((Value.int IntKind.u64 (x1.S'.reads)) = (Value.int IntKind.u64 (x'.S'.reads))) ∧ True) ∧ (True ∧ True ∧ True ∧ ((Value.int IntKind.u32 (x1.S'.fresh)) = (Value.int IntKind.u32 (x'.S'.fresh))) ∧ True) ∧ ((x1.S'.nodes.set x1.k.toNat { key := 0, value := 0, left := 0, right := 0, size := 0, sum := 0, min := 0, max := 0 : NodeT }) = (x'.S'.nodes)) ∧ ((x1.S'.counts.set x1.k.toNat (IntKind.i64.wrap (x1.S'.ct x1.k - 1))) = (x'.S'.counts)) ∧ ((x1.S'.used.set x1.k.toNat false) = (x'.S'.used)) ∧ ((x1.S'.gen) = (x'.S'.gen)) ∧ ((x1.S'.rel ++ [x1.k]) = (x'.S'.rel)) ∧ ((x1.rest ++ [(x1.S'.nd x1.k).left]) = (x'.work)) ∧ True) ∧ (2 * x'.S'.nu + x'.work.length < 2 * x.S'.nu + x.work.length))))) ((∃ x' : XRel S hs i, (True ∧ ((True ∧ ((Value.int IntKind.i64 (IntKind.i64.wrap (x.freed + 1))) = (Value.int IntKind.i64 (x'.freed))) ∧ True ∧ True) ∧ (True ∧ True ∧ True ∧ ((Value.int IntKind.u64 (x1.S'.reads)) = (Value.int IntKind.u64 (x'.S'.reads))) ∧
    True) ∧ (True ∧ True ∧ True ∧ ((Value.int IntKind.u32 (x1.S'.fresh)) = (Value.int IntKind.u32 (x'.S'.fresh))) ∧ True) ∧ ((x1.S'.nodes.set x1.k.toNat { key := 0, value := 0, left := 0, right := 0, size := 0, sum := 0, min := 0, max := 0 : NodeT }) = (x'.S'.nodes)) ∧ ((x1.S'.counts.set x1.k.toNat (IntKind.i64.wrap (x1.S'.ct x1.k - 1))) = (x'.S'.counts)) ∧ ((x1.S'.used.set x1.k.toNat false) = (x'.S'.used)) ∧ ((x1.S'.gen) = (x'.S'.gen)) ∧ ((x1.S'.rel ++ [x1.k]) = (x'.S'.rel)) ∧ ((x1.rest) = (x'.work)) ∧ True) ∧ (2 * x'.S'.nu + x'.work.length < 2 * x.S'.nu + x.work.length))))))))))))))) ((K (SV.tup [(TV.at (At.val (Value.int IntKind.i64 (x.freed)))), (TV.at (At.val (Value.int IntKind.i64 0)))]) [(Chunk.box [(At.ptr 1 0), (At.slc 2), (At.slc 3), (At.val (Value.int IntKind.u64 (x.S'.reads)))]), (Chunk.box [(At.slc 4), (At.slc 5), (At.slc 6), (At.val (Value.int IntKind.u32 (x.S'.fresh)))]), (Chunk.row true (EC.node) (x.S'.nodes)), (Chunk.row true (EC.int) (x.S'.counts)), (Chunk.row true (EC.bool) (x.S'.used)), (Chunk.row true (EC.u32) (x.S'.gen)), (Chunk.row true (EC.u32) (x.S'.rel))] [0, 1, 2, 3, 4, 5, 6]))))))))))) = _ by kernel_rfl) ?_
  simp only [bytes_u32]
  have hin := hw.held i (by simp)
  have hge := hw.ge0 hin
  have h2 := hw.n2
  refine brS_of (fun c => ?_) fun c => ?_
  · have c : i = 0 := by simpa using c
    subst c
    exact h S 0 hw.of_zero (Kept.refl S) (by omega) (fun _ e => by rw [hw.us0 (Int.le_refl 0)] at e; cases e) fun _ => rfl
  have c : i ≠ 0 := by simpa using c
  have hu := hin.resolve_left c
  have hp := hw.pos hu
  refine ⟨hge, by omega, by omega, brS_of (fun d => by rw [hu] at d; cases d) fun _ => ⟨⟨⟨S, [i], 0, hw, Kept.refl S, by omega, by omega, by simpa using hu, fun _ => .inl ⟨rfl, rfl⟩⟩, ?_⟩, fun x _ => brS_of (fun e => ?_) fun e => ?_⟩⟩
  · (repeat' first | exact trivial | exact rfl | refine And.intro ?_ ?_)
  · obtain ⟨g1, g2, g3, g4, g5, g6⟩ := x.h
    have e : 0 < x.work.length := by have := of_decide_eq_true e; omega
    have hl := list_last (d := (0 : Int)) e
    have hn1 := g1.n2
    have hfew := g1.few
    have hfl : x.work.length ≤ 2000000000 := by simp at hfew; omega
    rw [wrap_id (by omega) (by omega), show ((x.work.length : Int) - 1).toNat = x.work.length - 1 by omega]
    refine ⟨by omega, by omega, ⟨by omega, by omega, ⟨x.S', x.work.take (x.work.length - 1), x.work.getD (x.work.length - 1) 0, x.freed, ?_⟩, ?_⟩, fun z rz => ?_⟩
    · rw [hl]
      refine ⟨g1, g2, g3, g4, g5, fun hc => ?_⟩
      rcases g6 hc with ⟨q1, q2⟩ | ⟨q1, _⟩
      · rw [q1]; exact ⟨rfl, rfl, q2⟩
      · rw [q1] at e; simp at e
    · refine ⟨⟨rfl, ?_⟩, ?_⟩
      · have : (x.work.take (x.work.length - 1)).length = x.work.length - 1 := by simp
        show (x.work.length : Int) = ((x.work.take (x.work.length - 1)).length : Int) + 1
        omega
      · (repeat' first | exact trivial | exact rfl | refine And.intro ?_ ?_)
    · obtain ⟨r1, r2⟩ := rz
      obtain ⟨h1, h2, h3, h4, h5, h6⟩ := z.h
      have hk : z.S'.us z.k = true := h5 _ (by simp)
      have hpk := h1.pos hk
      have hcn := h1.ncnt
      have hnn := h1.nnod
      have hn2 := h1.n2
      have hfn := h1.free_nonneg
      have hfrr := h1.fr
      have hct := h1.ct_le hk
      have hw' : Wf z.S' (z.k :: (z.rest ++ hs)) := h1.perm (by rw [List.append_assoc]; exact List.perm_middle)
      refine ⟨by omega, by omega, by omega, by omega, by omega, by rw [List.length_set]; omega, ?_⟩
      rw [getD_set, if_pos ⟨rfl, by omega⟩, wrap_id (by omega) (by omega)]
      refine brS_of (fun d => ?_) fun d => ?_
      · have d : 1 < z.S'.ct z.k := by simp at d; omega
        refine ⟨⟨decS z.S' z.k, z.rest, z.freed, hw'.dec hk d, h2.trans (kept_dec _ _), h3, h4, fun w hm => h5 w (by simp [hm]), fun hc => ?_⟩, ?_⟩
        · obtain ⟨q1, q2, q3⟩ := h6 hc
          exact .inr ⟨q1, by rw [q2, q3]⟩
        · have e1 : (decS z.S' z.k).nu = z.S'.nu := rfl
          have e2 : (z.S'.counts.set z.k.toNat (z.S'.ct z.k - 1)) = (decS z.S' z.k).counts := by
            show _ = z.S'.counts.set z.k.toNat (IntKind.i64.wrap (z.S'.ct z.k - 1))
            rw [wrap_id (by omega) (by omega)]
          refine ⟨trivial, ⟨⟨trivial, by rw [r1], trivial, trivial⟩, ⟨trivial, trivial, trivial, rfl, trivial⟩, ⟨trivial, trivial, trivial, rfl, trivial⟩, rfl, e2, rfl, rfl, rfl, rfl, trivial⟩, ?_⟩
          show 2 * (decS z.S' z.k).nu + z.rest.length < _
          omega
      · have d : z.S'.ct z.k = 1 := by simp at d; omega
        obtain ⟨k1, k2, k3, k4, k5, k6⟩ := z.freed' d
        have hm := (hw'.freed hk d).2.1
        have e2 : (z.S'.counts.set z.k.toNat (z.S'.ct z.k - 1)) = (freeS z.S' z.k).counts := by
          show _ = z.S'.counts.set z.k.toNat (IntKind.i64.wrap (z.S'.ct z.k - 1))
          rw [wrap_id (by omega) (by omega)]
        have hwf : IntKind.i64.wrap (x.freed + 1) = z.freed + 1 := by
          have := h1.nu_le; have := hw.nu_le
          rw [wrap_id (by omega) (by omega), r1]
        have nl : ∀ c, (nz c).length ≤ 1 := fun c => by unfold nz; split <;> simp
        rw [hwf]
        refine ⟨by omega, by omega, by omega, by omega, by omega, by omega, by omega, by omega, hk, brS_of (fun q1 => ⟨by simp; omega, brS_of (fun q2 => ⟨by simp; omega, ⟨⟨freeS z.S' z.k, _, z.freed + 1, k1, k2, k3, k4, k5, k6⟩, ?_⟩⟩) fun q2 => ⟨⟨freeS z.S' z.k, _, z.freed + 1, k1, k2, k3, k4, k5, k6⟩, ?_⟩⟩) fun q1 => brS_of (fun q2 => ⟨by simp; omega, ⟨⟨freeS z.S' z.k, _, z.freed + 1, k1, k2, k3, k4, k5, k6⟩, ?_⟩⟩) fun q2 => ⟨⟨freeS z.S' z.k, _, z.freed + 1, k1, k2, k3, k4, k5, k6⟩, ?_⟩⟩
        all_goals
          refine ⟨trivial, ⟨⟨trivial, rfl, trivial, trivial⟩, ⟨trivial, trivial, trivial, rfl, trivial⟩, ⟨trivial, trivial, trivial, rfl, trivial⟩, rfl, e2, rfl, rfl, rfl, ?_, trivial⟩, ?_⟩
        all_goals (try simp at q1 q2)
        case refine_1.refine_1 => simp [nz, q1, q2]
        all_goals first
          | (show 2 * (freeS z.S' z.k).nu + (z.rest ++ nz _ ++ nz _).length < _; have := nl (z.S'.nd z.k).left; have := nl (z.S'.nd z.k).right; simp only [List.length_append]; omega)
          | simp [nz, q1, q2]
  · have e : x.work = [] := by have := of_decide_eq_false e; exact List.length_eq_zero_iff.1 (by omega)
    obtain ⟨g1, g2, g3, g4, g5, g6⟩ := x.h
    rw [e] at g1
    refine h x.S' x.freed g1 g2 g4 (fun hc _ => ?_) fun hc => by rw [hu] at hc; cases hc
    rcases g6 hc with ⟨q1, _⟩ | ⟨_, q2⟩
    · rw [e] at q1; cases q1
    · exact q2
theorem s_release : SoundT C0 59 tRelease := by
  refine .ofW W7 Tryz.func59 (by decide) rfl fun args H K h hB => ?_
  unfold tRelease at h
  split at h <;> try exact h.elim
  unfold arM at h
  split at h <;> try exact h.elim
  rename_i i _ rd fr nd ct us gn rl
  obtain ⟨hs, h1, h2⟩ := h
  exact ⟨aRelease ⟨us, gn, rl, fr, nd, ct, rd⟩ hs i, ⟨frame C0.ok s_slAllocated _, frame C0.ok s_slRelease _, trivial⟩, vc_release ⟨us, gn, rl, fr, nd, ct, rd⟩ hs i K h1 h2⟩
theorem vc_make (S : Arn) (k v l r : Int) (K : KT) (hw : exW S) (hl : live S l) (hr : live S r)
    (h1 : maxSize < (mkNode S k v l r).size → K (.tup [.at (vU 0), .at (vI 1)]) (chS S) W7)
    (h2 : (mkNode S k v l r).size ≤ maxSize → S.free = 0 → K (.tup [.at (vU 0), .at (vI 2)]) (chS S) W7)
    (h3 : (mkNode S k v l r).size ≤ maxSize → 0 < S.free → ∀ S' i, S' = makeS S k v l r → i = nxt S → K (.tup [.at (vU i), .at (vI 0)]) (chS S') W7) :
    vc C0 (aMake S k v l r) Tryz.f31 [.at (.ptr 0 0), .at (vI k), .at (vI v), .at (vU l), .at (vU r)] (chS S) (normK 7 (wideK W7 K)) := by
  refine Eq.mp (show ((((0 : Int) ≤ 0) ∧
(0 < ((2 : Nat) : Int)) ∧
(brS (l == 0) ((∃ x : XMk S k v l r, ((0 = ((↑x.i : Int))) ∧ (True ∧ ((Value.int IntKind.u32 (l)) = (Value.int IntKind.u32 (l))) ∧ ((Value.int IntKind.u32 (r)) = (Value.int IntKind.u32 (r))) ∧ True ∧ (((Value.int IntKind.u32 (l)) = (Value.int IntKind.u32 (l))) ∧ ((Value.int IntKind.u32 (r)) = (Value.int IntKind.u32 (r))) ∧ True) ∧ ((Value.int IntKind.i64 0) = (Value.int IntKind.i64 0)) ∧ True) ∧ (True ∧ True ∧ True ∧ ((Value.int IntKind.u64 (S.reads)) = (Value.int IntKind.u64 (S.reads))) ∧ True) ∧ (True ∧ True ∧ True ∧ ((Value.int IntKind.u32 (S.fresh)) = (Value.int IntKind.u32 (S.fresh))) ∧ True) ∧ ((S.nodes) = (S.nodes)) ∧ ((S.counts) = (S.counts)) ∧ ((S.used) = (S.used)) ∧ ((S.gen) = (S.gen)) ∧ ((S.rel) = (S.rel)) ∧ (((Value.int IntKind.i64 (k)) = (Value.int IntKind.i64 (x.n.key))) ∧ ((Value.int IntKind.i64 (v)) = (Value.int IntKind.i64 (x.n.value))) ∧ ((Value.int IntKind.u32 (l)) = (Value.int IntKind.u32 (x.n.left))) ∧ ((Value.int IntKind.u32 (r)) = (Value.int IntKind.u32 (x.n.right))) ∧ ((Value.int IntKind.i64 1) = (Value.int IntKind.i64 (x.n.size))) ∧ ((Value.int IntKind.i64 (v)) = (Value.int IntKind.i64 (x.n.sum))) ∧ ((Value.int IntKind.i64 (v)) = (Value.int IntKind.i64 (x.n.min))) ∧ ((Value.int IntKind.i64 (v)) = (Value.int IntKind.i64 (x.n.max))) ∧ True) ∧ True))) (((0 ≤ l) ∧ (l < 4294967296) ∧ (S.used.length ≤ 65537) ∧ (brS (!S.us l)
    ((K (SV.tup [(TV.at (At.val (Value.int IntKind.u32 0))), (TV.at (At.val (Value.int IntKind.i64 1)))]) [(Chunk.box [(At.ptr 1 0), (At.slc 2), (At.slc 3), (At.val (Value.int IntKind.u64 (S.reads)))]), (Chunk.box [(At.slc 4), (At.slc 5), (At.slc 6), (At.val (Value.int IntKind.u32 (S.fresh)))]), (Chunk.row true (EC.node) (S.nodes)), (Chunk.row true (EC.int) (S.counts)), (Chunk.row true (EC.bool) (S.used)), (Chunk.row true (EC.u32) (S.gen)), (Chunk.row true (EC.u32) (S.rel))] [0, 1, 2, 3, 4, 5, 6])) (((0 ≤ l) ∧ (l < (↑S.nodes.length : Int)) ∧ (∃ x : XMk S k v l r, ((0 = ((↑x.i : Int))) ∧ (True ∧ ((Value.int IntKind.u32 (l)) = (Value.int IntKind.u32 (l))) ∧ ((Value.int IntKind.u32 (r)) = (Value.int IntKind.u32 (r))) ∧ True ∧ (((Value.int IntKind.u32 (l)) = (Value.int IntKind.u32 (l))) ∧ ((Value.int IntKind.u32 (r)) = (Value.int IntKind.u32 (r))) ∧ True) ∧ ((Value.int IntKind.i64 0) = (Value.int IntKind.i64 0)) ∧ True) ∧ (True ∧ True ∧ True ∧ ((Value.int IntKind.u64 (S.reads)) = (Value.int IntKind.u64 (S.reads))) ∧ True) ∧ (True ∧ True ∧ True ∧ ((Value.int IntKind.u32 (S.fresh)) = (Value.int IntKind.u32 (S.fresh))) ∧ True) ∧ ((S.nodes) = (S.nodes)) ∧ ((S.counts) = (S.counts)) ∧ ((S.used) = (S.used)) ∧ ((S.gen) = (S.gen)) ∧ ((S.rel) = (S.rel)) ∧ (((Value.int IntKind.i64 (k)) = (Value.int IntKind.i64 (x.n.key))) ∧ ((Value.int IntKind.i64 (v)) = (Value.int IntKind.i64 (x.n.value))) ∧ ((Value.int IntKind.u32 (l)) = (Value.int IntKind.u32 (x.n.left))) ∧
    ((Value.int IntKind.u32 (r)) = (Value.int IntKind.u32 (x.n.right))) ∧ ((Value.int IntKind.i64 (IntKind.i64.wrap (1 + (S.nd l).size))) = (Value.int IntKind.i64 (x.n.size))) ∧ ((Value.int IntKind.i64 (IntKind.i64.wrap (v + (S.nd l).sum))) = (Value.int IntKind.i64 (x.n.sum))) ∧ ((Value.int IntKind.i64 (if (S.nd l).min < v then (S.nd l).min else v)) = (Value.int IntKind.i64 (x.n.min))) ∧ ((Value.int IntKind.i64 (if (S.nd l).max > v then (S.nd l).max else v)) = (Value.int IntKind.i64 (x.n.max))) ∧ True) ∧ True))))))))) ∧
(∀ x : XMk S k v l r, ((0 = ((↑x.i : Int))) → (((0 ≤ IntKind.i64.wrap (0 + 1)) ∧ (IntKind.i64.wrap (0 + 1) < ((2 : Nat) : Int)) ∧ (brS (r == 0) ((∃ x1 : XMk S k v l r, ((1 = ((↑x1.i : Int))) ∧ (True ∧ ((Value.int IntKind.u32 (l)) = (Value.int IntKind.u32 (l))) ∧ ((Value.int IntKind.u32 (r)) = (Value.int IntKind.u32 (r))) ∧ True ∧ (((Value.int IntKind.u32 (l)) = (Value.int IntKind.u32 (l))) ∧ ((Value.int IntKind.u32 (r)) = (Value.int IntKind.u32 (r))) ∧ True) ∧ ((Value.int IntKind.i64 1) = (Value.int IntKind.i64 1)) ∧ True) ∧ (True ∧ True ∧ True ∧ ((Value.int IntKind.u64 (S.reads)) = (Value.int IntKind.u64 (S.reads))) ∧ True) ∧ (True ∧ True ∧ True ∧ ((Value.int IntKind.u32 (S.fresh)) = (Value.int IntKind.u32 (S.fresh))) ∧ True) ∧ ((S.nodes) = (S.nodes)) ∧ ((S.counts) = (S.counts)) ∧ ((S.used) = (S.used)) ∧ ((S.gen) = (S.gen)) ∧ ((S.rel) = (S.rel)) ∧ (((Value.int IntKind.i64 (x.n.key)) = (Value.int IntKind.i64 (x1.n.key))) ∧
    ((Value.int IntKind.i64 (x.n.value)) = (Value.int IntKind.i64 (x1.n.value))) ∧ ((Value.int IntKind.u32 (x.n.left)) = (Value.int IntKind.u32 (x1.n.left))) ∧ ((Value.int IntKind.u32 (x.n.right)) = (Value.int IntKind.u32 (x1.n.right))) ∧ ((Value.int IntKind.i64 (x.n.size)) = (Value.int IntKind.i64 (x1.n.size))) ∧ ((Value.int IntKind.i64 (x.n.sum)) = (Value.int IntKind.i64 (x1.n.sum))) ∧ ((Value.int IntKind.i64 (x.n.min)) = (Value.int IntKind.i64 (x1.n.min))) ∧ ((Value.int IntKind.i64 (x.n.max)) = (Value.int IntKind.i64 (x1.n.max))) ∧ True) ∧ True))) (((0 ≤ r) ∧ (r < 4294967296) ∧ (S.used.length ≤ 65537) ∧ (brS (!S.us r) ((K (SV.tup [(TV.at (At.val (Value.int IntKind.u32 0))), (TV.at (At.val (Value.int IntKind.i64 1)))]) [(Chunk.box [(At.ptr 1 0), (At.slc 2), (At.slc 3), (At.val (Value.int IntKind.u64 (S.reads)))]), (Chunk.box [(At.slc 4), (At.slc 5), (At.slc 6), (At.val (Value.int IntKind.u32 (S.fresh)))]), (Chunk.row true (EC.node) (S.nodes)), (Chunk.row true (EC.int) (S.counts)), (Chunk.row true (EC.bool) (S.used)), (Chunk.row true (EC.u32) (S.gen)), (Chunk.row true (EC.u32) (S.rel))] [0, 1, 2, 3, 4, 5, 6])) (((0 ≤ r) ∧ (r < (↑S.nodes.length : Int)) ∧ (∃ x1 : XMk S k v l r, ((1 = ((↑x1.i : Int))) ∧ (True ∧ ((Value.int IntKind.u32 (l)) = (Value.int IntKind.u32 (l))) ∧ ((Value.int IntKind.u32 (r)) = (Value.int IntKind.u32 (r))) ∧ True ∧ (((Value.int IntKind.u32 (l)) = (Value.int IntKind.u32 (l))) ∧ ((Value.int IntKind.u32 (r)) = (Value.int IntKind.u32 (r))) ∧ True) ∧
    ((Value.int IntKind.i64 1) = (Value.int IntKind.i64 1)) ∧ True) ∧ (True ∧ True ∧ True ∧ ((Value.int IntKind.u64 (S.reads)) = (Value.int IntKind.u64 (S.reads))) ∧ True) ∧ (True ∧ True ∧ True ∧ ((Value.int IntKind.u32 (S.fresh)) = (Value.int IntKind.u32 (S.fresh))) ∧ True) ∧ ((S.nodes) = (S.nodes)) ∧ ((S.counts) = (S.counts)) ∧ ((S.used) = (S.used)) ∧ ((S.gen) = (S.gen)) ∧ ((S.rel) = (S.rel)) ∧ (((Value.int IntKind.i64 (x.n.key)) = (Value.int IntKind.i64 (x1.n.key))) ∧ ((Value.int IntKind.i64 (x.n.value)) = (Value.int IntKind.i64 (x1.n.value))) ∧ ((Value.int IntKind.u32 (x.n.left)) = (Value.int IntKind.u32 (x1.n.left))) ∧ ((Value.int IntKind.u32 (x.n.right)) = (Value.int IntKind.u32 (x1.n.right))) ∧ ((Value.int IntKind.i64 (IntKind.i64.wrap (x.n.size + (S.nd r).size))) = (Value.int IntKind.i64 (x1.n.size))) ∧ ((Value.int IntKind.i64 (IntKind.i64.wrap (x.n.sum + (S.nd r).sum))) = (Value.int IntKind.i64 (x1.n.sum))) ∧ ((Value.int IntKind.i64 (if (S.nd r).min < x.n.min then (S.nd r).min else x.n.min)) = (Value.int IntKind.i64 (x1.n.min))) ∧ ((Value.int IntKind.i64 (if (S.nd r).max > x.n.max then (S.nd r).max else x.n.max)) = (Value.int IntKind.i64 (x1.n.max))) ∧ True) ∧ True))))))))) ∧ (∀ x1 : XMk S k v l r, ((1 = ((↑x1.i : Int))) → (brS (decide (x1.n.size > 2147483647))
    ((K (SV.tup [(TV.at (At.val (Value.int IntKind.u32 0))), (TV.at (At.val (Value.int IntKind.i64 1)))]) [(Chunk.box [(At.ptr 1 0), (At.slc 2), (At.slc 3), (At.val (Value.int IntKind.u64 (S.reads)))]), (Chunk.box [(At.slc 4), (At.slc 5), (At.slc 6), (At.val (Value.int IntKind.u32 (S.fresh)))]), (Chunk.row true (EC.node) (S.nodes)), (Chunk.row true (EC.int) (S.counts)), (Chunk.row true (EC.bool) (S.used)), (Chunk.row true (EC.u32) (S.gen)), (Chunk.row true (EC.u32) (S.rel))] [0, 1, 2, 3, 4, 5, 6])) (((1 ≤ S.used.length) ∧ (S.used.length ≤ 65537) ∧ (S.rel.length ≤ 65537) ∧ (0 ≤ S.fresh) ∧ (S.fresh ≤ 65537) ∧ ((S.gen.length) = (S.used.length)) ∧ (relOK S.rel S.used.length) ∧ (0 ≤ (↑S.rel.length : Int) + ((↑S.used.length : Int) - 1) - S.fresh) ∧ ((((↑S.rel.length : Int) + ((↑S.used.length : Int) - 1) - S.fresh) = 0) → (K (SV.tup [(TV.at (At.val (Value.int IntKind.u32 0))), (TV.at (At.val (Value.int IntKind.i64 2)))]) [(Chunk.box [(At.ptr 1 0), (At.slc 2), (At.slc 3), (At.val (Value.int IntKind.u64 (S.reads)))]), (Chunk.box [(At.slc 4), (At.slc 5), (At.slc 6), (At.val (Value.int IntKind.u32 (S.fresh)))]), (Chunk.row true (EC.node) (S.nodes)), (Chunk.row true (EC.int) (S.counts)), (Chunk.row true (EC.bool) (S.used)), (Chunk.row true (EC.u32) (S.gen)), (Chunk.row true (EC.u32) (S.rel))] [0, 1, 2, 3, 4, 5, 6])) ∧ ((0 < (↑S.rel.length : Int) + ((↑S.used.length : Int) - 1) - S.fresh) → (∀ i : Int, (∀ rl' : List Int, (∀ fr' : Int,
    (((Prod.mk (i) (Prod.mk (rl') (fr'))) = (fresh3 S.rel S.fresh)) → ((0 ≤ i) ∧ (i < (↑S.nodes.length : Int)) ∧ (0 ≤ i) ∧ (i < (↑S.counts.length : Int)) ∧ (0 ≤ l) ∧ (l < (↑(S.counts.set i.toNat 1).length : Int)) ∧ (0 ≤ l) ∧ (l < (↑(S.counts.set i.toNat 1).length : Int)) ∧ (0 ≤ r) ∧ (r < (↑((S.counts.set i.toNat 1).set l.toNat (IntKind.i64.wrap ((S.counts.set i.toNat 1).getD l.toNat 0 + 1))).length : Int)) ∧ (0 ≤ r) ∧ (r < (↑((S.counts.set i.toNat 1).set l.toNat (IntKind.i64.wrap ((S.counts.set i.toNat 1).getD l.toNat 0 + 1))).length : Int)) ∧
    (K (SV.tup [(TV.at (At.val (Value.int IntKind.u32 (i)))), (TV.at (At.val (Value.int IntKind.i64 0)))]) [(Chunk.box [(At.ptr 1 0), (At.slc 2), (At.slc 3), (At.val (Value.int IntKind.u64 (S.reads)))]), (Chunk.box [(At.slc 4), (At.slc 5), (At.slc 6), (At.val (Value.int IntKind.u32 (fr')))]), (Chunk.row true (EC.node) (S.nodes.set i.toNat { key := x1.n.key, value := x1.n.value, left := x1.n.left, right := x1.n.right, size := x1.n.size, sum := x1.n.sum, min := x1.n.min, max := x1.n.max : NodeT })), (Chunk.row true (EC.int) (((S.counts.set i.toNat 1).set l.toNat (IntKind.i64.wrap ((S.counts.set i.toNat 1).getD l.toNat 0 + 1))).set r.toNat (IntKind.i64.wrap (((S.counts.set i.toNat 1).set l.toNat (IntKind.i64.wrap ((S.counts.set i.toNat 1).getD l.toNat 0 + 1))).getD r.toNat 0 + 1)))), (Chunk.row true (EC.bool) (S.used.set i.toNat true)), (Chunk.row true (EC.u32) (S.gen.set i.toNat (IntKind.u32.wrap (S.gn i + 1)))), (Chunk.row true (EC.u32) (rl'))] [0, 1, 2, 3, 4, 5, 6])))))))))))))))) = _ by kernel_rfl) ?_
  obtain ⟨hs, hw⟩ := hw
  have hn1 := hw.n1; have hn2 := hw.n2; have hnn := hw.nnod; have hng := hw.ngen; have hnc := hw.ncnt; have hfr := hw.fr; have hfree := hw.free_nonneg
  have hl0 := hw.ge0 hl
  have hr0 := hw.ge0 hr
  have hl1 : l < S.used.length := by rcases hl with e | e; omega; have := hw.pos e; omega
  have hr1 : r < S.used.length := by rcases hr with e | e; omega; have := hw.pos e; omega
  refine ⟨⟨by decide, by decide, brS_of (fun c => ⟨⟨0, ⟨k, v, l, r, 1, v, v, v⟩, ?_⟩, ?_⟩) fun c => ⟨hl0, by omega, by omega, brS_of (fun d => ?_) fun d => ⟨hl0, by omega, ⟨⟨0, addK ⟨k, v, l, r, 1, v, v, v⟩ (S.nd l), ?_⟩, ?_⟩⟩⟩⟩,
    fun x rx => ⟨⟨by decide, by decide, brS_of (fun c => ⟨⟨1, x.n, ?_⟩, ?_⟩) fun c => ⟨hr0, by omega, by omega, brS_of (fun d => ?_) fun d => ⟨hr0, by omega, ⟨⟨1, addK x.n (S.nd r), ?_⟩, ?_⟩⟩⟩⟩, fun x1 r1 => ?_⟩⟩
  · have c : l = 0 := by simpa using c
    rw [if_pos rfl]; unfold addC; rw [if_pos c]
  · (repeat' first | exact trivial | exact rfl | refine And.intro ?_ ?_)
  · have c : l ≠ 0 := by simpa using c
    have := hl.resolve_left c
    rw [this] at d; cases d
  · have c : l ≠ 0 := by simpa using c
    rw [if_pos rfl]; unfold addC; rw [if_neg c]
  · (repeat' first | exact trivial | exact rfl | refine And.intro ?_ ?_)
  · have c : r = 0 := by simpa using c
    have hx := x.h
    rw [if_pos (by omega)] at hx
    rw [if_neg (by decide)]; unfold mkNode; rw [← hx]; unfold addC; rw [if_pos c]
  · (repeat' first | exact trivial | exact rfl | refine And.intro ?_ ?_)
  · have c : r ≠ 0 := by simpa using c
    have := hr.resolve_left c
    rw [this] at d; cases d
  · have c : r ≠ 0 := by simpa using c
    have hx := x.h
    rw [if_pos (by omega)] at hx
    rw [if_neg (by decide)]; unfold mkNode; rw [← hx]; unfold addC; rw [if_neg c]
  · (repeat' first | exact trivial | exact rfl | refine And.intro ?_ ?_)
  · obtain ⟨i1, n1, hx⟩ := x1
    have r1 : i1 = 1 := by have : (1 : Int) = (i1 : Int) := r1; omega
    subst r1
    rw [if_neg (by decide)] at hx
    subst hx
    refine brS_of (fun c => h1 (by have : (mkNode S k v l r).size > 2147483647 := of_decide_eq_true c; unfold maxSize; omega)) fun c => ?_
    have c : (mkNode S k v l r).size ≤ maxSize := by have : ¬ (mkNode S k v l r).size > 2147483647 := of_decide_eq_false c; unfold maxSize; omega
    refine ⟨by omega, hn2, by omega, hfr.1, by omega, hng, fun i hi => by have := hw.rel i hi; omega, by have := hfree.1; unfold Arn.free Arn.cap at this; omega, fun e => h2 c (by unfold Arn.free Arn.cap; omega), fun e i rl' fr' he => ?_⟩
    have e : 0 < S.free := by unfold Arn.free Arn.cap; omega
    have h4 := h3 c e _ _ rfl rfl
    obtain ⟨b1, b2, _⟩ := hw.nxt_spec e
    have e1 : i = nxt S := congrArg Prod.fst he
    have e2 : rl' = (freshS S).2.1 := congrArg (fun p : Int × List Int × Int => p.2.1) he
    have e3 : fr' = (freshS S).2.2 := congrArg (fun p : Int × List Int × Int => p.2.2) he
    subst e1 e2 e3
    refine ⟨by omega, by omega, by omega, by omega, hl0, ?_, hl0, ?_, hr0, ?_, hr0, ?_, h4⟩
    all_goals (simp only [List.length_set]; omega)
theorem s_make : SoundT C0 31 tMake := by
  refine .ofW W7 Tryz.func31 (by decide) rfl fun args H K h hB => ?_
  unfold tMake at h
  split at h <;> try exact h.elim
  unfold arM at h
  split at h <;> try exact h.elim
  rename_i k v l r _ rd fr nd ct us gn rl
  obtain ⟨h1, h2, h3, h4, h5, h6⟩ := h
  exact ⟨aMake ⟨us, gn, rl, fr, nd, ct, rd⟩ k v l r, ⟨frame C0.ok s_slAllocated _, frame C0.ok s_slAlloc _, trivial⟩, vc_make ⟨us, gn, rl, fr, nd, ct, rd⟩ k v l r K h1 h2 h3 h4 h5 h6⟩
end Go.Proofs.YtbonbaccmlomhaaGreat.Sx
end
section
/- Make where it succeeds, Release where another reference is left. -/
namespace Go.Proofs.YtbonbaccmlomhaaGreat.Sx
open Go

def tMakeOk : Tfm C0 := fun args H K => match args with
  | [.at (.ptr 0 0), .at (.val (.int .i64 k)), .at (.val (.int .i64 v)), .at (.val (.int .u32 l)), .at (.val (.int .u32 r))] => arM H fun S => exW S ∧ live S l ∧ live S r ∧ (mkNode S k v l r).size ≤ maxSize ∧ 0 < S.free ∧
    ∀ S' i, S' = makeS S k v l r → i = nxt S → K (.tup [.at (vU i), .at (vI 0)]) (chS S') W7
  | _ => False
theorem s_makeOk : SoundT C0 31 tMakeOk := s_make.weak fun args H K h => by
  unfold tMakeOk at h
  unfold tMake
  split at h <;> try exact h.elim
  unfold arM at h ⊢
  split at h <;> try exact h.elim
  obtain ⟨h1, h2, h3, h4, h5, h6⟩ := h
  exact ⟨h1, h2, h3, fun e => absurd h4 (by omega), fun _ e => absurd h5 (by omega), fun _ _ => h6⟩
def tGive : Tfm C0 := fun args H K => match args with
  | [.at (.ptr 0 0), .at (.val (.int .u32 i))] => arM H fun S => ∃ hs, Wf S (i :: hs) ∧ (S.us i = true → 1 ≤ S.indeg i) ∧ ∀ S', S' = relA S i → K (.tup [.at (vI 0), .at (vI 0)]) (chS S') W7
  | _ => False
theorem s_give : SoundT C0 59 tGive := s_release.weak fun args H K h => by
  unfold tGive at h
  unfold tRelease
  split at h <;> try exact h.elim
  unfold arM at h ⊢
  split at h <;> try exact h.elim
  obtain ⟨hs, h1, h2, h3⟩ := h
  refine ⟨hs, h1, fun S' fr _ _ h4 h5 h6 => ?_⟩
  have e := h1.given h2 h5 h6
  have h7 := h3 S' e
  have : fr = 0 := by rw [e, (relA_flds _ _).2.2.1] at h4; omega
  rw [this]
  exact h7
end Go.Proofs.YtbonbaccmlomhaaGreat.Sx
end
section
/- Small facts on states. -/
namespace Go.Proofs.YtbonbaccmlomhaaGreat.Sx
open Go

theorem rdS_zero (S : Arn) : rdS S 0 = S := by simp [rdS]
theorem rdS_rdS (S : Arn) (a b : Nat) : rdS (rdS S a) b = rdS S (a + b) := by simp [rdS]; omega
theorem rep_rd {S : Arn} {t : Tr} {i : Int} (h : Rep S t i) (n : Nat) : Rep (rdS S n) t i := Rep.same (S := S) (S' := rdS S n) (fun _ => rfl) (fun _ => rfl) h
theorem inU_of {S : Arn} {hs : List Int} (h : Wf S hs) {i : Int} (hi : live S i) : inU i := by
  have h2 := h.n2
  rcases hi with rfl | hi
  · exact ⟨by decide, by decide⟩
  · have := h.pos hi; exact ⟨by omega, by omega⟩
end Go.Proofs.YtbonbaccmlomhaaGreat.Sx
end
section
/- reserve, ref8: how many slots an operation may need; lookup.Get. -/
namespace Go.Proofs.YtbonbaccmlomhaaGreat.Sx
open Go

/-KEEP okI Wf exW inU live Rep rdS Tr.size Tr.list getE Asc ht wt Hn-/
theorem htr_size : ∀ t : Tr, ht t ≤ t.size
  | .nil => Nat.le_refl _
  | .node l k v r => by
    have h1 := htr_size l
    have h2 := htr_size r
    rw [ht, Tr.size]
    split <;> omega
structure XGe (S : Arn) (t : Tr) (q : Int) where
  i : Int
  t' : Tr
  m : Nat
  h : Rep S t' i ∧ getE t.list q = getE t'.list q ∧ Asc t'.list ∧ m + ht t' ≤ ht t ∧ t'.size ≤ t.size
noncomputable def aGetT (S : Arn) (t : Tr) (q : Int) : Ann C0 := { Γ := [(62, frameT [] tNode)], inv := fun n => match n with
  | 2 => some { X := XGe S t q, sl := [8], tf := fun x => [vi .u32 x.i], hf := fun x => chS (rdS S x.m), μ := fun x => x.t'.size, wr := [0] }
  | _ => none }
def tGetT : Tfm C0 := fun args H K => match args with
  | [.at (.ptr 0 0), .at (.val (.int .u32 i)), .at (.val (.int .i64 q))] => arM H fun S => ∃ hs t, Wf S hs ∧ Rep S t i ∧ Asc t.list ∧ t.size ≤ 1000000 ∧ S.reads + t.size ≤ 3000000000000000000 ∧
    ∀ S' m o, S' = rdS S m → m ≤ ht t → o = getE t.list q → K (.tup [.at (vI (o.getD 0)), .at (vB o.isSome)]) (chS S') [0]
  | _ => False
structure XMx (n : Int) where
  h : Nat
  p : h ≤ 80 ∧ wt h ≤ n + 1
noncomputable def aMxh (n : Int) : Ann C0 := { Γ := [], inv := fun k => match k with
  | 4 => some { X := XMx n, sl := [3, 4], tf := fun x => [vi .i64 x.h, vi .i64 (wt x.h)], hf := fun _ => [], μ := fun x => 80 - x.h }
  | _ => none }
def tMxh : Tfm C0 := fun args H K => match args, H with
  | [.at (.val (.int .i64 n))], [] => 0 ≤ n ∧ n ≤ 1000000 ∧ ∀ h, h = Hn n → K (.one (.at (vI h))) [] []
  | _, _ => False
def okI (l : List Int) : Prop := ∀ i : Nat, i < l.length → 0 ≤ l.getD i 0 ∧ l.getD i 0 ≤ 65536
structure XVd (l : List Int) where
  i : Nat
  h : i ≤ l.length
noncomputable def aVld (l : List Int) : Ann C0 := { Γ := [], inv := fun k => match k with
  | 2 => some { X := XVd l, sl := [7], tf := fun x => [vi .i64 x.i], hf := fun _ => [.row false EC.int l], μ := fun x => l.length - x.i }
  | _ => none }
def tVld : Tfm C0 := fun args H K => match args, H with
  | [.at (.slc 0)], [.row false .int l] => okI l ∧ l.length ≤ 100 ∧ K (.one (.at (vB true))) [.row false EC.int l] []
  | _, _ => False
noncomputable def aPath : Ann C0 := { Γ := [(85, frameT [] tMxh)] }
def tPath : Tfm C0 := fun args H K => match args, H with
  | [.at (.val (.int .i64 f)), .at (.val (.int .i64 n))], [] => 0 ≤ f ∧ f ≤ 100 ∧ 0 ≤ n ∧ n ≤ 1000000 ∧ ∀ p, p = f * (Hn n + 2) → K (.one (.at (vI p))) [] []
  | _, _ => False
noncomputable def aRes : Ann C0 := { Γ := [(68, frameT [] tVld), (69, frameT [] tPath)] }
def tRes1 (f d : Int) : Tfm C0 := fun args H K => match args, H with
  | [.at (.val (.int .i64 n))], [] => 0 ≤ n ∧ n ≤ 65536 ∧ ∀ p, p = f * (Hn (n + d) + 2) → K (.one (.at (vI p))) [] []
  | _, _ => False
def tRes2 : Tfm C0 := fun args H K => match args, H with
  | [.at (.val (.int .i64 n)), .at (.val (.int .i64 m))], [] => 0 ≤ n ∧ n ≤ 65536 ∧ 0 ≤ m ∧ m ≤ 65536 ∧ ∀ p, p = 4 * (Hn (n + m + 1) + 2) → K (.one (.at (vI p))) [] []
  | _, _ => False
noncomputable def aNeed : Ann C0 := { Γ := [(63, frameT [] tMh)] }
def tNeed : Tfm C0 := fun args H K => match args, H with
  | [.at (.val (.int .i64 a)), .at (.val (.int .i64 b)), .at (.val (.int .i64 c)), .at (.val (.int .i64 m)), .at (.val (.int .i64 e)), .at (.val (.int .i64 f))], [] => 0 ≤ a ∧ a ≤ 65536 ∧ 0 ≤ b ∧ b ≤ 65536 ∧ 0 ≤ c ∧ c ≤ 65536 ∧ 0 ≤ m ∧ m ≤ 10 ∧ 0 ≤ e ∧ e ≤ 200000 ∧ 0 ≤ f ∧ f ≤ 100 ∧ ∀ p, p = e + f * (Hn (a + b + c + m) + 2) → K (.one (.at (vI p))) [] []
  | _, _ => False
noncomputable def aN8 : Ann C0 := { Γ := [(29, frameT [] tNeed)] }
theorem vc_getT (S : Arn) (i q : Int) (K : KT) (hs : List Int) (t : Tr) (hw : Wf S hs) (hr : Rep S t i) (ha : Asc t.list) (_ : t.size ≤ 1000000) (h2 : S.reads + t.size ≤ 3000000000000000000)
    (h : ∀ S' m o, S' = rdS S m → m ≤ ht t → o = getE t.list q → K (.tup [.at (vI (o.getD 0)), .at (vB o.isSome)]) (chS S') [0]) :
    vc C0 (aGetT S t q) Tryz.f27 [.at (.ptr 0 0), .at (vU i), .at (vI q)] (chS S) (normK 7 (wideK [0] K)) := by
  refine Eq.mp (show ((∃ x : XGe S t q, (True ∧ (True ∧ ((Value.int IntKind.i64 (q)) = (Value.int IntKind.i64 (q))) ∧ ((Value.int IntKind.u32 (i)) = (Value.int IntKind.u32 (x.i))) ∧ True) ∧ (True ∧ True ∧ True ∧ ((Value.int IntKind.u64 (S.reads)) = (Value.int IntKind.u64 ((rdS S x.m).reads))) ∧ True) ∧ (True ∧ True ∧ True ∧ ((Value.int IntKind.u32 (S.fresh)) = (Value.int IntKind.u32 ((rdS S x.m).fresh))) ∧ True) ∧ ((S.nodes) = ((rdS S x.m).nodes)) ∧ ((S.counts) = ((rdS S x.m).counts)) ∧ ((S.used) = ((rdS S x.m).used)) ∧ ((S.gen) = ((rdS S x.m).gen)) ∧ ((S.rel) = ((rdS S x.m).rel)) ∧ True)) ∧
(∀ x : XGe S t q, (True → (brS (x.i != 0) (((inU x.i) ∧ (exW (rdS S x.m)) ∧ ((rdS S x.m).reads < 4000000000000000000) ∧ (∀ S' : Arn, (((S') = (rdS (rdS S x.m) ((rdS S x.m).us x.i).toNat)) → (brS (!(rdS S x.m).us x.i) ((K (SV.tup [(TV.at (At.val (Value.int IntKind.i64 0))), (TV.at (At.val (Value.bool false)))]) [(Chunk.box [(At.ptr 1 0), (At.slc 2), (At.slc 3), (At.val (Value.int IntKind.u64 (S'.reads)))]), (Chunk.box [(At.slc 4), (At.slc 5), (At.slc 6), (At.val (Value.int IntKind.u32 (S'.fresh)))]), (Chunk.row true (EC.node) (S'.nodes)), (Chunk.row true (EC.int) (S'.counts)), (Chunk.row true (EC.bool) (S'.used)), (Chunk.row true (EC.u32) (S'.gen)), (Chunk.row true (EC.u32) (S'.rel))] [0])) ((brS (decide (q < ((rdS S x.m).nd x.i).key)) ((∃ x' : XGe S t q, (True ∧ ((True ∧ ((Value.int IntKind.i64 (q)) = (Value.int IntKind.i64 (q))) ∧
    ((Value.int IntKind.u32 (((rdS S x.m).nd x.i).left)) = (Value.int IntKind.u32 (x'.i))) ∧ True) ∧ (True ∧ True ∧ True ∧ ((Value.int IntKind.u64 (S'.reads)) = (Value.int IntKind.u64 ((rdS S x'.m).reads))) ∧ True) ∧ (True ∧ True ∧ True ∧ ((Value.int IntKind.u32 (S'.fresh)) = (Value.int IntKind.u32 ((rdS S x'.m).fresh))) ∧ True) ∧ ((S'.nodes) = ((rdS S x'.m).nodes)) ∧ ((S'.counts) = ((rdS S x'.m).counts)) ∧ ((S'.used) = ((rdS S x'.m).used)) ∧ ((S'.gen) = ((rdS S x'.m).gen)) ∧ ((S'.rel) = ((rdS S x'.m).rel)) ∧ True) ∧ (x'.t'.size < x.t'.size)))) ((brS (decide (q > ((rdS S x.m).nd x.i).key)) ((∃ x' : XGe S t q, (True ∧ ((True ∧ ((Value.int IntKind.i64 (q)) = (Value.int IntKind.i64 (q))) ∧ ((Value.int IntKind.u32 (((rdS S x.m).nd x.i).right)) = (Value.int IntKind.u32 (x'.i))) ∧ True) ∧ (True ∧ True ∧ True ∧ ((Value.int IntKind.u64 (S'.reads)) = (Value.int IntKind.u64 ((rdS S x'.m).reads))) ∧ True) ∧ (True ∧ True ∧ True ∧ ((Value.int IntKind.u32 (S'.fresh)) = (Value.int IntKind.u32 ((rdS S x'.m).fresh))) ∧ True) ∧ ((S'.nodes) = ((rdS S x'.m).nodes)) ∧ ((S'.counts) = ((rdS S x'.m).counts)) ∧ ((S'.used) = ((rdS S x'.m).used)) ∧ ((S'.gen) = ((rdS S x'.m).gen)) ∧ ((S'.rel) = ((rdS S x'.m).rel)) ∧ True) ∧ (x'.t'.size < x.t'.size))))
    ((K (SV.tup [(TV.at (At.val (Value.int IntKind.i64 (((rdS S x.m).nd x.i).value)))), (TV.at (At.val (Value.bool true)))]) [(Chunk.box [(At.ptr 1 0), (At.slc 2), (At.slc 3), (At.val (Value.int IntKind.u64 (S'.reads)))]), (Chunk.box [(At.slc 4), (At.slc 5), (At.slc 6), (At.val (Value.int IntKind.u32 (S'.fresh)))]), (Chunk.row true (EC.node) (S'.nodes)), (Chunk.row true (EC.int) (S'.counts)), (Chunk.row true (EC.bool) (S'.used)), (Chunk.row true (EC.u32) (S'.gen)), (Chunk.row true (EC.u32) (S'.rel))] [0]))))))))))) ((K (SV.tup [(TV.at (At.val (Value.int IntKind.i64 0))), (TV.at (At.val (Value.bool false)))]) [(Chunk.box [(At.ptr 1 0), (At.slc 2), (At.slc 3), (At.val (Value.int IntKind.u64 ((rdS S x.m).reads)))]), (Chunk.box [(At.slc 4), (At.slc 5), (At.slc 6), (At.val (Value.int IntKind.u32 ((rdS S x.m).fresh)))]), (Chunk.row true (EC.node) ((rdS S x.m).nodes)), (Chunk.row true (EC.int) ((rdS S x.m).counts)), (Chunk.row true (EC.bool) ((rdS S x.m).used)), (Chunk.row true (EC.u32) ((rdS S x.m).gen)), (Chunk.row true (EC.u32) ((rdS S x.m).rel))] [0])))))) = _ by kernel_rfl) ?_
  have hrd := hw.rds
  have hts := htr_size t
  refine ⟨⟨⟨i, t, 0, hr, rfl, ha, by omega, Nat.le_refl _⟩, ?_⟩, fun x _ => ?_⟩
  · (repeat' first | exact trivial | exact rfl | refine And.intro ?_ ?_)
    rw [rdS_zero]
  obtain ⟨xi, xt, xm, h1', h2', h3', h4', h5'⟩ := x
  dsimp only
  have hwx : Wf (rdS S xm) hs := hw.rd (by omega)
  refine brS_of (fun c => ?_) fun c => ?_
  · have c : xi ≠ 0 := by simpa using c
    cases xt with
    | nil => exact absurd h1' c
    | node l k v r =>
      obtain ⟨r1, r2, r3, r4, r5⟩ := h1'
      have q1 := ht_l l r k v
      have q2 := ht_r l r k v
      have hsz : l.size + r.size + 1 = (Tr.node l k v r).size := by simp [Tr.size]; omega
      have asc' : Asc (l.list ++ (k, v) :: r.list) := h3'
      obtain ⟨al, ar, _, _⟩ := asc_parts asc'
      refine ⟨inU_of hw (.inr r1), ⟨_, hwx⟩, by show S.reads + (xm : Int) < _; omega, fun S1 e1 => brS_of (fun d => ?_) fun _ => ?_⟩
      · have d : (!S.us xi) = true := d
        rw [r1] at d; cases d
      have e1 : S1 = rdS S (xm + 1) := by rw [e1, rdS_rdS]; show rdS S (xm + (S.us xi).toNat) = _; rw [r1]; rfl
      subst e1
      have ek : ((rdS S xm).nd xi).key = k := r2
      have ev : ((rdS S xm).nd xi).value = v := r3
      rw [ek]
      refine brS_of (fun d => ?_) fun d => brS_of (fun d2 => ?_) fun d2 => ?_
      · have d : q < k := of_decide_eq_true d
        refine ⟨⟨(S.nd xi).left, l, xm + 1, r4, by rw [h2']; exact getE_left asc' d, al, by omega, by omega⟩, ?_⟩
        (repeat' first | exact trivial | exact rfl | refine And.intro ?_ ?_)
        show l.size < (Tr.node l k v r).size; omega
      · have d2 : k < q := of_decide_eq_true d2
        refine ⟨⟨(S.nd xi).right, r, xm + 1, r5, by rw [h2']; exact getE_right asc' d2, ar, by omega, by omega⟩, ?_⟩
        (repeat' first | exact trivial | exact rfl | refine And.intro ?_ ?_)
        show r.size < (Tr.node l k v r).size; omega
      · have d : ¬ q < k := of_decide_eq_false d
        have d2 : ¬ k < q := of_decide_eq_false d2
        have eq : k = q := by omega
        subst eq
        rw [ev]
        exact h _ (xm + 1) (some v) rfl (by omega) (by rw [h2']; exact (getE_at asc').symm)
  · have c : xi = 0 := by simpa using c
    subst c
    have e := h1'.zero hw
    subst e
    exact h _ xm none rfl (by omega) (by rw [h2']; rfl)
theorem s_getT : SoundT C0 27 tGetT := by
  refine .ofW [0] Tryz.func27 (by decide) rfl fun args H K h hB => ?_
  unfold tGetT at h
  split at h <;> try exact h.elim
  unfold arM at h
  split at h <;> try exact h.elim
  rename_i i q _ rd fr nd ct us gn rl
  obtain ⟨hs, t, h1, h2, h3, h4, h5, h6⟩ := h
  exact ⟨aGetT ⟨us, gn, rl, fr, nd, ct, rd⟩ t q, ⟨frame C0.ok s_node _, trivial⟩, vc_getT ⟨us, gn, rl, fr, nd, ct, rd⟩ i q K hs t h1 h2 h3 h4 h5 h6⟩
theorem tdiv3 {x : Int} (h : 0 ≤ x) : x.tdiv 3 = x / 3 := Int.tdiv_eq_ediv_of_nonneg h
theorem Hn_top {n : Int} (h : 0 ≤ n) {k : Nat} (h1 : k ≤ 80) (h2 : wt k ≤ n + 1) (h3 : k = 80 ∨ n + 1 < wt (k + 1)) : (k : Int) = Hn n := by
  have e := gN_size n.toNat
  rw [show ((n.toNat : Nat) : Int) = n by omega] at e
  have a := gN_le (w := n.toNat + 1) h1 (by omega)
  have b := gN_wt (w := n.toNat + 1) (by omega)
  have c := gN_rng (n.toNat + 1)
  rcases h3 with h3 | h3
  · omega
  · by_cases d : k + 1 ≤ gN (n.toNat + 1)
    · have := wt_mono d c; omega
    · omega
theorem vc_mxh (n : Int) (K : KT) (h1 : 0 ≤ n) (h2 : n ≤ 1000000) (h : ∀ h, h = Hn n → K (.one (.at (vI h))) [] []) : vc C0 (aMxh n) Tryz.f85 [.at (vI n)] [] (normK 0 K) := by
  refine Eq.mp (show (brS (decide (n < 0)) ((K (SV.one (TV.at (At.val (Value.int IntKind.i64 (-1))))) [] [])) ((brS (decide (n > 2147483647)) ((K (SV.one (TV.at (At.val (Value.int IntKind.i64 (-1))))) [] [])) (((∃ x : XMx n, (True ∧ (((Value.int IntKind.i64 (n)) = (Value.int IntKind.i64 (n))) ∧ ((Value.int IntKind.i64 0) = (Value.int IntKind.i64 ((↑x.h : Int)))) ∧ ((Value.int IntKind.i64 1) = (Value.int IntKind.i64 (wt x.h))) ∧ True) ∧ True)) ∧ (∀ x : XMx n, (True → (brS (decide ((↑x.h : Int) < 80)) ((brS (decide (IntKind.i64.wrap (IntKind.i64.wrap (wt x.h + IntKind.i64.wrap ((IntKind.i64.wrap (wt x.h + 2)).tdiv 3)) - 1) > n)) ((K (SV.one (TV.at (At.val (Value.int IntKind.i64 ((↑x.h : Int)))))) [] [])) ((∃ x' : XMx n, (True ∧ ((((Value.int IntKind.i64 (n)) = (Value.int IntKind.i64 (n))) ∧ ((Value.int IntKind.i64 (IntKind.i64.wrap ((↑x.h : Int) + 1))) = (Value.int IntKind.i64 ((↑x'.h : Int)))) ∧ ((Value.int IntKind.i64 (IntKind.i64.wrap (wt x.h + IntKind.i64.wrap ((IntKind.i64.wrap (wt x.h + 2)).tdiv 3)))) = (Value.int IntKind.i64 (wt x'.h))) ∧ True) ∧ True) ∧ (80 - x'.h < 80 - x.h)))))) ((K (SV.one (TV.at (At.val (Value.int IntKind.i64 ((↑x.h : Int)))))) [] [])))))))))) = _ by kernel_rfl) ?_
  refine brS_of (fun c => by have := of_decide_eq_true c; omega) fun _ => brS_of (fun c => by have : n > 2147483647 := of_decide_eq_true c; omega) fun _ => ⟨⟨⟨0, by decide, by rw [w0]; omega⟩, ?_⟩, fun x _ => brS_of (fun c => ?_) fun c => ?_⟩
  · (repeat' first | exact trivial | exact rfl | refine And.intro ?_ ?_)
  · obtain ⟨k, p1, p2⟩ := x
    have c : (k : Int) < 80 := of_decide_eq_true c
    have c : k < 80 := by omega
    have st := wt_step k c
    have lo : 1 ≤ wt k := by have := wt_mono (Nat.zero_le k) p1; rw [w0] at this; exact this
    dsimp only
    rw [wrap_id (x := wt k + 2) (by omega) (by omega), tdiv3 (by omega), wrap_id (x := (wt k + 2) / 3) (by omega) (by omega), wrap_id (x := wt k + (wt k + 2) / 3) (by omega) (by omega), wrap_id (x := wt k + (wt k + 2) / 3 - 1) (by omega) (by omega), ← st]
    refine brS_of (fun d => ?_) fun d => ?_
    · have d : wt (k + 1) - 1 > n := of_decide_eq_true d
      exact h _ (Hn_top h1 p1 p2 (.inr (by omega)))
    · have d : ¬ wt (k + 1) - 1 > n := of_decide_eq_false d
      refine ⟨⟨k + 1, c, by omega⟩, ?_⟩
      (repeat' first | exact trivial | exact rfl | refine And.intro ?_ ?_)
      · rw [wrap_id (x := (k : Int) + 1) (by omega) (by omega)]; congr 1
      · show 80 - (k + 1) < 80 - k; omega
  · obtain ⟨k, p1, p2⟩ := x
    have c : ¬ (k : Int) < 80 := of_decide_eq_false c
    have c : k = 80 := by omega
    exact h _ (Hn_top h1 p1 p2 (.inl c))
theorem s_mxh : SoundT C0 85 tMxh := by
  refine .of Tryz.func85 (by decide) rfl fun args H K h hB => ?_
  unfold tMxh at h
  split at h <;> try exact h.elim
  rename_i n
  exact ⟨aMxh n, trivial, vc_mxh n K h.1 h.2.1 h.2.2⟩
theorem vc_vld (l : List Int) (K : KT) (h1 : okI l) (h2 : l.length ≤ 100) (h : K (.one (.at (vB true))) [.row false EC.int l] []) : vc C0 (aVld l) Tryz.f68 [.at (.slc 0)] [.row false EC.int l] (normK 1 K) := by
  refine Eq.mp (show ((∃ x : XVd l, (True ∧ (True ∧ ((Value.int IntKind.i64 ((↑l.length : Int))) = (Value.int IntKind.i64 ((↑l.length : Int)))) ∧ ((Value.int IntKind.i64 0) = (Value.int IntKind.i64 ((↑x.i : Int)))) ∧ True) ∧ ((l) = (l)) ∧ True)) ∧
(∀ x : XVd l, (True → (brS (decide ((↑x.i : Int) < (↑l.length : Int))) (((0 ≤ (↑x.i : Int)) ∧ ((↑x.i : Int) < (↑l.length : Int)) ∧ (brS (decide (l.getD (↑x.i : Int).toNat 0 < 0)) ((K (SV.one (TV.at (At.val (Value.bool false)))) [(Chunk.row false (EC.int) (l))] [])) ((brS (decide (l.getD (↑x.i : Int).toNat 0 > 65536)) ((K (SV.one (TV.at (At.val (Value.bool false)))) [(Chunk.row false (EC.int) (l))] [])) ((∃ x' : XVd l, (True ∧ ((True ∧ ((Value.int IntKind.i64 ((↑l.length : Int))) = (Value.int IntKind.i64 ((↑l.length : Int)))) ∧ ((Value.int IntKind.i64 (IntKind.i64.wrap ((↑x.i : Int) + 1))) = (Value.int IntKind.i64 ((↑x'.i : Int)))) ∧ True) ∧ ((l) = (l)) ∧ True) ∧ (l.length - x'.i < l.length - x.i))))))))) ((K (SV.one (TV.at (At.val (Value.bool true)))) [(Chunk.row false (EC.int) (l))] [])))))) = _ by kernel_rfl) ?_
  refine ⟨⟨⟨0, Nat.zero_le _⟩, ?_⟩, fun x _ => brS_of (fun c => ?_) fun c => h⟩
  · (repeat' first | exact trivial | exact rfl | refine And.intro ?_ ?_)
  · obtain ⟨i, hi⟩ := x
    have c : (i : Int) < l.length := of_decide_eq_true c
    have c : i < l.length := by omega
    obtain ⟨a, b⟩ := h1 i c
    refine ⟨by omega, by omega, brS_of (fun d => ?_) fun _ => brS_of (fun d => ?_) fun _ => ⟨⟨i + 1, c⟩, ?_⟩⟩
    · have d : l.getD i 0 < 0 := of_decide_eq_true d
      omega
    · have d : l.getD i 0 > 65536 := of_decide_eq_true d
      omega
    · (repeat' first | exact trivial | exact rfl | refine And.intro ?_ ?_)
      · rw [wrap_id (x := (i : Int) + 1) (by omega) (by omega)]; congr 1
      · show l.length - (i + 1) < l.length - i; omega
theorem s_vld : SoundT C0 68 tVld := by
  refine .of Tryz.func68 (by decide) rfl fun args H K h hB => ?_
  unfold tVld at h
  split at h <;> try exact h.elim
  rename_i l
  exact ⟨aVld l, trivial, vc_vld l K h.1 h.2.1 h.2.2⟩
theorem s_path : SoundT C0 69 tPath := by
  refine .of Tryz.func69 (by decide) rfl fun args H K h hB => ?_
  unfold tPath at h
  split at h <;> try exact h.elim
  rename_i f n
  obtain ⟨h1, h2, h3, h4, h5⟩ := h
  refine ⟨aPath, ⟨frame C0.ok s_mxh _, trivial⟩, Eq.mp (show ((0 ≤ n) ∧
(n ≤ 1000000) ∧
(∀ h : Int, (((h) = (Hn n)) → (K (SV.one (TV.at (At.val (Value.int IntKind.i64 (IntKind.i64.wrap (f * IntKind.i64.wrap (h + 2))))))) [] [])))) = _ by kernel_rfl) ⟨h3, h4, fun p e => ?_⟩⟩
  have r := Hn_rng n
  subst e
  have hb : f * (Hn n + 2) ≤ 100 * 82 := Int.mul_le_mul h2 (by omega) (by omega) (by omega)
  have ha : 0 ≤ f * (Hn n + 2) := Int.mul_nonneg h1 (by omega)
  rw [wrap_id (x := Hn n + 2) (by omega) (by omega), wrap_id (x := f * (Hn n + 2)) (by omega) (by omega)]
  exact h5 _ rfl
theorem okI_one {n : Int} (h1 : 0 ≤ n) (h2 : n ≤ 65536) : okI [n] := by
  intro i hi
  have : i = 0 := by simpa using hi
  subst this
  exact ⟨h1, h2⟩
theorem s_rIns : SoundT C0 81 (tRes1 4 1) := by
  refine .of Tryz.func81 (by decide) rfl fun args H K h hB => ?_
  unfold tRes1 at h
  split at h <;> try exact h.elim
  rename_i n
  obtain ⟨h1, h2, h3⟩ := h
  refine ⟨aRes, ⟨frame C0.ok s_vld _, frame C0.ok s_path _, trivial⟩, Eq.mp (show ((okI [n]) ∧
([n].length ≤ 100) ∧
((0 : Int) ≤ 4) ∧
((4 : Int) ≤ 100) ∧
(0 ≤ IntKind.i64.wrap (n + 1)) ∧
(IntKind.i64.wrap (n + 1) ≤ 1000000) ∧
(∀ p : Int, (((p) = (4 * (Hn (IntKind.i64.wrap (n + 1)) + 2))) → (K (SV.one (TV.at (At.val (Value.int IntKind.i64 (p))))) [] [])))) = _ by kernel_rfl) ?_⟩
  rw [wrap_id (x := n + 1) (by omega) (by omega)]
  exact ⟨okI_one h1 h2, by simp, by decide, by decide, by omega, by omega, h3⟩
theorem s_rDel : SoundT C0 79 (tRes1 4 0) := by
  refine .of Tryz.func79 (by decide) rfl fun args H K h hB => ?_
  unfold tRes1 at h
  split at h <;> try exact h.elim
  rename_i n
  obtain ⟨h1, h2, h3⟩ := h
  refine ⟨aRes, ⟨frame C0.ok s_vld _, frame C0.ok s_path _, trivial⟩, Eq.mp (show ((okI [n]) ∧
([n].length ≤ 100) ∧
((0 : Int) ≤ 4) ∧
((4 : Int) ≤ 100) ∧
(0 ≤ n) ∧
(n ≤ 1000000) ∧
(∀ p : Int, (((p) = (4 * (Hn n + 2))) → (K (SV.one (TV.at (At.val (Value.int IntKind.i64 (p))))) [] [])))) = _ by kernel_rfl) ?_⟩
  exact ⟨okI_one h1 h2, by simp, by decide, by decide, by omega, by omega, fun p e => h3 p (by rw [e, Int.add_zero])⟩
theorem s_need : SoundT C0 29 tNeed := by
  refine .of Tryz.func29 (by decide) rfl fun args H K h hB => ?_
  unfold tNeed at h
  split at h <;> try exact h.elim
  rename_i a b c m e f
  obtain ⟨a1, a2, b1, b2, c1, c2, m1, m2, e1, e2, f1, f2, h⟩ := h
  refine ⟨aNeed, ⟨frame C0.ok s_mh _, trivial⟩, Eq.mp (show (brS (decide (a < 0)) ((K (SV.one (TV.at (At.val (Value.int IntKind.i64 (-1))))) [] [])) ((brS (decide (a > 65536)) ((K (SV.one (TV.at (At.val (Value.int IntKind.i64 (-1))))) [] [])) ((brS (decide (b < 0)) ((K (SV.one (TV.at (At.val (Value.int IntKind.i64 (-1))))) [] [])) ((brS (decide (b > 65536)) ((K (SV.one (TV.at (At.val (Value.int IntKind.i64 (-1))))) [] [])) ((brS (decide (c < 0)) ((K (SV.one (TV.at (At.val (Value.int IntKind.i64 (-1))))) [] [])) ((brS (decide (c > 65536)) ((K (SV.one (TV.at (At.val (Value.int IntKind.i64 (-1))))) [] [])) (((0 ≤ IntKind.i64.wrap (IntKind.i64.wrap (IntKind.i64.wrap (a + b) + c) + m)) ∧ (IntKind.i64.wrap (IntKind.i64.wrap (IntKind.i64.wrap (a + b) + c) + m) ≤ 2147483647) ∧ (∀ h : Int, (((h) = (Hn (IntKind.i64.wrap (IntKind.i64.wrap (IntKind.i64.wrap (a + b) + c) + m)))) → (K (SV.one (TV.at (At.val (Value.int IntKind.i64 (IntKind.i64.wrap (e + IntKind.i64.wrap (f * IntKind.i64.wrap (h + 2)))))))) [] [])))))))))))))))) = _ by kernel_rfl) ?_⟩
  rw [wrap_id (x := a + b) (by omega) (by omega), wrap_id (x := a + b + c) (by omega) (by omega), wrap_id (x := a + b + c + m) (by omega) (by omega)]
  refine brS_of (fun q => by have := of_decide_eq_true q; omega) fun _ => brS_of (fun q => by have : a > 65536 := of_decide_eq_true q; omega) fun _ => brS_of (fun q => by have := of_decide_eq_true q; omega) fun _ => brS_of (fun q => by have : b > 65536 := of_decide_eq_true q; omega) fun _ =>
    brS_of (fun q => by have := of_decide_eq_true q; omega) fun _ => brS_of (fun q => by have : c > 65536 := of_decide_eq_true q; omega) fun _ => ⟨by omega, by omega, fun p ep => ?_⟩
  have r := Hn_rng (a + b + c + m)
  subst ep
  have hb : f * (Hn (a + b + c + m) + 2) ≤ 100 * 82 := Int.mul_le_mul f2 (by omega) (by omega) (by omega)
  have ha : 0 ≤ f * (Hn (a + b + c + m) + 2) := Int.mul_nonneg f1 (by omega)
  rw [wrap_id (x := Hn (a + b + c + m) + 2) (by omega) (by omega), wrap_id (x := f * (Hn (a + b + c + m) + 2)) (by omega) (by omega), wrap_id (by omega) (by omega)]
  exact h _ rfl
theorem s_nIns : SoundT C0 23 (tRes1 4 1) := by
  refine .of Tryz.func23 (by decide) rfl fun args H K h hB => ?_
  unfold tRes1 at h
  split at h <;> try exact h.elim
  rename_i n
  obtain ⟨h1, h2, h3⟩ := h
  refine ⟨aN8, ⟨frame C0.ok s_need _, trivial⟩, Eq.mp (show ((0 ≤ n) ∧
(n ≤ 65536) ∧
((0 : Int) ≤ 0) ∧
((0 : Int) ≤ 65536) ∧
((0 : Int) ≤ 0) ∧
((0 : Int) ≤ 65536) ∧
((0 : Int) ≤ 1) ∧
((1 : Int) ≤ 10) ∧
((0 : Int) ≤ 0) ∧
((0 : Int) ≤ 200000) ∧
((0 : Int) ≤ 4) ∧
((4 : Int) ≤ 100) ∧
(∀ p : Int, (((p) = (0 + 4 * (Hn (n + 0 + 0 + 1) + 2))) → (K (SV.one (TV.at (At.val (Value.int IntKind.i64 (p))))) [] [])))) = _ by kernel_rfl) ?_⟩
  exact ⟨h1, h2, by decide, by decide, by decide, by decide, by decide, by decide, by decide, by decide, by decide, by decide, fun p e => h3 p (by rw [e]; simp)⟩
end Go.Proofs.YtbonbaccmlomhaaGreat.Sx
end
