/- A part of the proof. -/
import Derived.Test.YtbonbaccmlomhaaG4
import Derived.Test.YtbonbaccmlomhaaG1
section
/- The arena's Make and Release. -/
namespace Go.Proofs.Ytbonbaccmlomhaa.Sx
open Go

structure XMk (S : Arn) (k v l r : Int) where
  i : Nat
  n : NodeT
  h : n = if i = 0 then addC S ⟨k, v, l, r, 1, v, v, v⟩ l else mkNode S k v l r
abbrev bxN (n : NodeT) : Chunk C0 := .box [vI n.key, vI n.value, vU n.left, vU n.right, vI n.size, vI n.sum, vI n.min, vI n.max]
noncomputable def aMake (S : Arn) (k v l r : Int) : Ann C0 := { rounds := fun n => if n = 3 then 3 else 0, Γ := [(67, frameT [] tSlAllocated), (131, frameT [] tSlAlloc)], inv := fun n => match n with
  | 1013 => some { X := XMk S k v l r, sl := [12], tf := fun _ => [.one (.at (.ptr 7 0))], hf := fun x => chS S ++ [bxN x.n], rel := fun T _ x => slotI T 29 x.i }
  | _ => none }
def tMake : Tfm C0 := fun args H K => match args with
  | [.at (.ptr 0 0), .at (.val (.int .i64 k)), .at (.val (.int .i64 v)), .at (.val (.int .u32 l)), .at (.val (.int .u32 r))] => arM H fun S => exW S ∧ live S l ∧ live S r ∧
    (maxSize < (mkNode S k v l r).size → K (.tup [.at (vU 0), .at (vI 1)]) (chS S) W7) ∧
    ((mkNode S k v l r).size ≤ maxSize → S.free = 0 → K (.tup [.at (vU 0), .at (vI 2)]) (chS S) W7) ∧
    ((mkNode S k v l r).size ≤ maxSize → 0 < S.free → ∀ S' i, S' = makeS S k v l r → i = nxt S → K (.tup [.at (vU i), .at (vI 0)]) (chS S') W7)
  | _ => False
structure XRel (S : Arn) (hs : List Int) (i : Int) where
  S' : Arn
  work : List Int
  freed : Int
  h : Wf S' (work ++ hs) ∧ Kept S S' ∧ 0 ≤ freed ∧ freed + S'.nu = S.nu ∧ (∀ w ∈ work, S'.us w = true) ∧ (1 < S.ct i → (work = [i] ∧ S' = S) ∨ (work = [] ∧ S' = decS S i))
structure XRelK (S : Arn) (hs : List Int) (i : Int) where
  S' : Arn
  rest : List Int
  k : Int
  freed : Int
  h : Wf S' ((rest ++ [k]) ++ hs) ∧ Kept S S' ∧ 0 ≤ freed ∧ freed + S'.nu = S.nu ∧ (∀ w ∈ rest ++ [k], S'.us w = true) ∧ (1 < S.ct i → rest = [] ∧ k = i ∧ S' = S)
noncomputable def aRelease (S : Arn) (hs : List Int) (i : Int) : Ann C0 := { trunc := fun n => n == 34, Γ := [(67, frameT [] tSlAllocated), (76, frameT [] tSlRelease)], inv := fun n => match n with
  | 7 => some { X := XRel S hs i, sl := [7, 6], tf := fun x => [.one (.at (.slc 7)), vi .i64 x.freed], hf := fun x => chS x.S' ++ [.row true EC.u32 x.work], μ := fun x => 2 * x.S'.nu + x.work.length, wr := W7 }
  | 1010 => some { X := XRelK S hs i, sl := [7, 8], tf := fun x => [.one (.at (.slc 7)), vi .u32 x.k], hf := fun x => chS x.S' ++ [.row true EC.u32 x.rest], wr := W7, rel := fun T _ x => slotI T 6 x.freed ∧ slotI T 22 (x.rest.length + 1) }
  | _ => none }
def tRelease : Tfm C0 := fun args H K => match args with
  | [.at (.ptr 0 0), .at (.val (.int .u32 i))] => arM H fun S => ∃ hs, Wf S (i :: hs) ∧ ∀ S' (fr : Int), Wf S' hs → Kept S S' → fr + S'.nu = S.nu → (1 < S.ct i → S.us i = true → S' = decS S i) → (S.us i = false → S' = S) → K (.tup [.at (vI fr), .at (vI 0)]) (chS S') W7
  | _ => False
theorem list_last {α : Type} {l : List α} {d : α} (h : 0 < l.length) : l.take (l.length - 1) ++ [l.getD (l.length - 1) d] = l := by
  have h1 : l[l.length - 1]? = some (l.getD (l.length - 1) d) := by
    have : l.length - 1 < l.length := by omega
    simp [List.getD_eq_getElem?_getD, List.getElem?_eq_getElem this]
  rw [← take_snoc h1, show l.length - 1 + 1 = l.length by omega, List.take_length]
theorem XRelK.freed' {S : Arn} {hs : List Int} {i : Int} (x : XRelK S hs i) (hc : x.S'.ct x.k = 1) :
    Wf (freeS x.S' x.k) ((x.rest ++ nz (x.S'.nd x.k).right ++ nz (x.S'.nd x.k).left) ++ hs) ∧ Kept S (freeS x.S' x.k) ∧ 0 ≤ x.freed + 1 ∧ (x.freed + 1) + (freeS x.S' x.k).nu = S.nu ∧
    (∀ w ∈ x.rest ++ nz (x.S'.nd x.k).right ++ nz (x.S'.nd x.k).left, (freeS x.S' x.k).us w = true) ∧ (1 < S.ct i → ((x.rest ++ nz (x.S'.nd x.k).right ++ nz (x.S'.nd x.k).left) = [i] ∧ freeS x.S' x.k = S) ∨ ((x.rest ++ nz (x.S'.nd x.k).right ++ nz (x.S'.nd x.k).left) = [] ∧ freeS x.S' x.k = decS S i)) := by
  obtain ⟨h1, h2, h3, h4, h5, h6⟩ := x.h
  have hk : x.S'.us x.k = true := h5 _ (by simp)
  have hw : Wf x.S' (x.k :: (x.rest ++ hs)) := h1.perm (by
    rw [List.append_assoc]
    exact List.perm_middle)
  obtain ⟨f1, f2, f3, f4⟩ := hw.freed hk hc
  have f1' : Wf (freeS x.S' x.k) ((x.rest ++ nz (x.S'.nd x.k).right ++ nz (x.S'.nd x.k).left) ++ hs) := f1.perm (by
    rw [List.append_assoc, List.append_assoc]
    exact ((List.perm_append_comm_assoc _ _ _).append_left _).trans (List.perm_append_comm_assoc _ _ _))
  refine ⟨f1', h2.trans (kept_free hw hk hc), by omega, by omega, fun w hm => ?_, fun hc1 => ?_⟩
  · refine (f1'.held w (List.mem_append_left _ hm)).resolve_left fun e => ?_
    subst e
    rcases List.mem_append.1 hm with hm | hm
    · rcases List.mem_append.1 hm with hm | hm
      · have := h5 0 (by simp [hm])
        rw [h1.us0 (Int.le_refl 0)] at this; cases this
      · unfold nz at hm; split at hm <;> simp at hm; omega
    · unfold nz at hm; split at hm <;> simp at hm; omega
  · obtain ⟨_, e2, e3⟩ := h6 hc1
    rw [e2, e3] at hc
    omega
theorem vc_release (S : Arn) (hs : List Int) (i : Int) (K : KT) (hw : Wf S (i :: hs)) (h : ∀ S' (fr : Int), Wf S' hs → Kept S S' → fr + S'.nu = S.nu → (1 < S.ct i → S.us i = true → S' = decS S i) → (S.us i = false → S' = S) → K (.tup [.at (vI fr), .at (vI 0)]) (chS S') W7) :
    vc C0 (aRelease S hs i) Try.f25 [.at (.ptr 0 0), .at (vU i)] (chS S) (normK 7 (wideK W7 K)) := by
  refine Eq.mp (show (brS (i == 0) ((K (SV.tup [(TV.at (At.val (Value.int IntKind.i64 0))), (TV.at (At.val (Value.int IntKind.i64 0)))]) [(Chunk.box [(At.ptr 1 0), (At.slc 2), (At.slc 3), (At.val (Value.int IntKind.u64 (S.reads)))]), (Chunk.box [(At.slc 4), (At.slc 5), (At.slc 6), (At.val (Value.int IntKind.u32 (S.fresh)))]), (Chunk.row true (EC.node) (S.nodes)), (Chunk.row true (EC.int) (S.counts)), (Chunk.row true (EC.bool) (S.used)), (Chunk.row true (EC.u32) (S.gen)), (Chunk.row true (EC.u32) (S.rel))] [0, 1, 2, 3, 4, 5, 6])) (((0 ≤ i) ∧ (i < 4294967296) ∧ (S.used.length ≤ 65537) ∧ (brS (!S.us i) ((K (SV.tup [(TV.at (At.val (Value.int IntKind.i64 0))), (TV.at (At.val (Value.int IntKind.i64 3)))]) [(Chunk.box [(At.ptr 1 0), (At.slc 2), (At.slc 3), (At.val (Value.int IntKind.u64 (S.reads)))]), (Chunk.box [(At.slc 4), (At.slc 5), (At.slc 6), (At.val (Value.int IntKind.u32 (S.fresh)))]), (Chunk.row true (EC.node) (S.nodes)), (Chunk.row true (EC.int) (S.counts)), (Chunk.row true (EC.bool) (S.used)), (Chunk.row true (EC.u32) (S.gen)), (Chunk.row true (EC.u32) (S.rel))] [0, 1, 2, 3, 4, 5, 6])) (((∃ x : XRel S hs i, (True ∧ (True ∧ ((Value.int IntKind.i64 0) = (Value.int IntKind.i64 (x.freed))) ∧ True ∧ True) ∧ (True ∧ True ∧ True ∧ ((Value.int IntKind.u64 (S.reads)) = (Value.int IntKind.u64 (x.S'.reads))) ∧ True) ∧ (True ∧ True ∧ True ∧ ((Value.int IntKind.u32 (S.fresh)) = (Value.int IntKind.u32 (x.S'.fresh))) ∧ True) ∧ ((S.nodes) = (x.S'.nodes)) ∧ ((S.counts) = (x.S'.counts)) ∧
    ((S.used) = (x.S'.used)) ∧ ((S.gen) = (x.S'.gen)) ∧ ((S.rel) = (x.S'.rel)) ∧ ([(i)] = (x.work)) ∧ True)) ∧ (∀ x : XRel S hs i, (True → (brS (decide ((↑x.work.length : Int) > 0)) (((0 ≤ IntKind.i64.wrap ((↑x.work.length : Int) - 1)) ∧ (IntKind.i64.wrap ((↑x.work.length : Int) - 1) < (↑x.work.length : Int)) ∧ ((0 ≤ IntKind.i64.wrap ((↑x.work.length : Int) - 1)) ∧ (IntKind.i64.wrap ((↑x.work.length : Int) - 1) ≤ (↑x.work.length : Int)) ∧ (∃ x1 : XRelK S hs i, ((((x.freed) = (x1.freed)) ∧ (((↑x.work.length : Int)) = ((↑x1.rest.length : Int) + 1))) ∧ (True ∧ ((Value.int IntKind.i64 (x.freed)) = (Value.int IntKind.i64 (x.freed))) ∧ True ∧ ((Value.int IntKind.u32 (x.work.getD (IntKind.i64.wrap ((↑x.work.length : Int) - 1)).toNat 0)) = (Value.int IntKind.u32 (x1.k))) ∧ True) ∧ (True ∧ True ∧ True ∧ ((Value.int IntKind.u64 (x.S'.reads)) = (Value.int IntKind.u64 (x1.S'.reads))) ∧ True) ∧ (True ∧ True ∧ True ∧ ((Value.int IntKind.u32 (x.S'.fresh)) = (Value.int IntKind.u32 (x1.S'.fresh))) ∧ True) ∧ ((x.S'.nodes) = (x1.S'.nodes)) ∧ ((x.S'.counts) = (x1.S'.counts)) ∧ ((x.S'.used) = (x1.S'.used)) ∧ ((x.S'.gen) = (x1.S'.gen)) ∧ ((x.S'.rel) = (x1.S'.rel)) ∧ ((List.take (IntKind.i64.wrap ((↑x.work.length : Int) - 1)).toNat x.work) = (x1.rest)) ∧ True))) ∧ (∀ x1 : XRelK S hs i, ((((x.freed) = (x1.freed)) ∧ (((↑x.work.length : Int)) = ((↑x1.rest.length : Int) + 1))) → ((0 ≤ x1.k) ∧ (x1.k < (↑x1.S'.counts.length : Int)) ∧ (0 ≤ x1.k) ∧ (x1.k < (↑x1.S'.counts.length : Int)) ∧ (0 ≤ x1.k) ∧
    (x1.k < (↑(x1.S'.counts.set x1.k.toNat (IntKind.i64.wrap (x1.S'.ct x1.k - 1))).length : Int)) ∧ (brS (decide ((x1.S'.counts.set x1.k.toNat (IntKind.i64.wrap (x1.S'.ct x1.k - 1))).getD x1.k.toNat 0 > 0)) ((∃ x' : XRel S hs i, (True ∧ ((True ∧ ((Value.int IntKind.i64 (x.freed)) = (Value.int IntKind.i64 (x'.freed))) ∧ True ∧ True) ∧ (True ∧ True ∧ True ∧ ((Value.int IntKind.u64 (x1.S'.reads)) = (Value.int IntKind.u64 (x'.S'.reads))) ∧ True) ∧ (True ∧ True ∧ True ∧ ((Value.int IntKind.u32 (x1.S'.fresh)) = (Value.int IntKind.u32 (x'.S'.fresh))) ∧ True) ∧ ((x1.S'.nodes) = (x'.S'.nodes)) ∧ ((x1.S'.counts.set x1.k.toNat (IntKind.i64.wrap (x1.S'.ct x1.k - 1))) = (x'.S'.counts)) ∧ ((x1.S'.used) = (x'.S'.used)) ∧ ((x1.S'.gen) = (x'.S'.gen)) ∧ ((x1.S'.rel) = (x'.S'.rel)) ∧ ((x1.rest) = (x'.work)) ∧ True) ∧ (2 * x'.S'.nu + x'.work.length < 2 * x.S'.nu + x.work.length)))) (((0 ≤ x1.k) ∧ (x1.k < (↑x1.S'.nodes.length : Int)) ∧ (0 ≤ x1.k) ∧ (x1.k < (↑x1.S'.nodes.length : Int)) ∧ (0 ≤ x1.k) ∧ (x1.k < 4294967296) ∧ (x1.S'.used.length ≤ 65537) ∧ (x1.S'.rel.length ≤ 65537) ∧ ((x1.S'.us x1.k) = true) ∧ (brS ((x1.S'.nd x1.k).right != 0) ((((x1.rest.length + [(x1.S'.nd x1.k).right].length) * bytesOf C0 EC.u32 ≤ 140737488355328) ∧ (brS ((x1.S'.nd x1.k).left != 0) (((((x1.rest ++ [(x1.S'.nd x1.k).right]).length + [(x1.S'.nd x1.k).left].length) * bytesOf C0 EC.u32 ≤ 140737488355328) ∧ (∃ x' : XRel S hs i, (True ∧ ((True ∧
    ((Value.int IntKind.i64 (IntKind.i64.wrap (x.freed + 1))) = (Value.int IntKind.i64 (x'.freed))) ∧ True ∧ True) ∧ (True ∧ True ∧ True ∧ ((Value.int IntKind.u64 (x1.S'.reads)) = (Value.int IntKind.u64 (x'.S'.reads))) ∧ True) ∧ (True ∧ True ∧ True ∧ ((Value.int IntKind.u32 (x1.S'.fresh)) = (Value.int IntKind.u32 (x'.S'.fresh))) ∧ True) ∧ ((x1.S'.nodes.set x1.k.toNat { key := 0, value := 0, left := 0, right := 0, size := 0, sum := 0, min := 0, max := 0 : NodeT }) = (x'.S'.nodes)) ∧ ((x1.S'.counts.set x1.k.toNat (IntKind.i64.wrap (x1.S'.ct x1.k - 1))) = (x'.S'.counts)) ∧ ((x1.S'.used.set x1.k.toNat false) = (x'.S'.used)) ∧ ((x1.S'.gen) = (x'.S'.gen)) ∧ ((x1.S'.rel ++ [x1.k]) = (x'.S'.rel)) ∧ ((x1.rest ++ [(x1.S'.nd x1.k).right] ++ [(x1.S'.nd x1.k).left]) = (x'.work)) ∧ True) ∧ (2 * x'.S'.nu + x'.work.length < 2 * x.S'.nu + x.work.length))))) ((∃ x' : XRel S hs i, (True ∧ ((True ∧ ((Value.int IntKind.i64 (IntKind.i64.wrap (x.freed + 1))) = (Value.int IntKind.i64 (x'.freed))) ∧ True ∧ True) ∧ (True ∧ True ∧ True ∧ ((Value.int IntKind.u64 (x1.S'.reads)) = (Value.int IntKind.u64 (x'.S'.reads))) ∧ True) ∧ (True ∧ True ∧ True ∧ ((Value.int IntKind.u32 (x1.S'.fresh)) = (Value.int IntKind.u32 (x'.S'.fresh))) ∧ True) ∧ ((x1.S'.nodes.set x1.k.toNat { key := 0, value := 0, left := 0, right := 0, size := 0, sum := 0, min := 0, max := 0 : NodeT }) = (x'.S'.nodes)) ∧ ((x1.S'.counts.set x1.k.toNat (IntKind.i64.wrap (x1.S'.ct x1.k - 1))) = (x'.S'.counts)) ∧
    ((x1.S'.used.set x1.k.toNat false) = (x'.S'.used)) ∧ ((x1.S'.gen) = (x'.S'.gen)) ∧ ((x1.S'.rel ++ [x1.k]) = (x'.S'.rel)) ∧ ((x1.rest ++ [(x1.S'.nd x1.k).right]) = (x'.work)) ∧ True) ∧ (2 * x'.S'.nu + x'.work.length < 2 * x.S'.nu + x.work.length))))))) ((brS ((x1.S'.nd x1.k).left != 0) ((((x1.rest.length + [(x1.S'.nd x1.k).left].length) * bytesOf C0 EC.u32 ≤ 140737488355328) ∧ (∃ x' : XRel S hs i, (True ∧ ((True ∧ ((Value.int IntKind.i64 (IntKind.i64.wrap (x.freed + 1))) = (Value.int IntKind.i64 (x'.freed))) ∧ True ∧ True) ∧ (True ∧ True ∧ True ∧ ((Value.int IntKind.u64 (x1.S'.reads)) = (Value.int IntKind.u64 (x'.S'.reads))) ∧ True) ∧ (True ∧ True ∧ True ∧ ((Value.int IntKind.u32 (x1.S'.fresh)) = (Value.int IntKind.u32 (x'.S'.fresh))) ∧ True) ∧ ((x1.S'.nodes.set x1.k.toNat { key := 0, value := 0, left := 0, right := 0, size := 0, sum := 0, min := 0, max := 0 : NodeT }) = (x'.S'.nodes)) ∧ ((x1.S'.counts.set x1.k.toNat (IntKind.i64.wrap (x1.S'.ct x1.k - 1))) = (x'.S'.counts)) ∧ ((x1.S'.used.set x1.k.toNat false) = (x'.S'.used)) ∧ ((x1.S'.gen) = (x'.S'.gen)) ∧ ((x1.S'.rel ++ [x1.k]) = (x'.S'.rel)) ∧ ((x1.rest ++ [(x1.S'.nd x1.k).left]) = (x'.work)) ∧ True) ∧ (2 * x'.S'.nu + x'.work.length < 2 * x.S'.nu + x.work.length))))) ((∃ x' : XRel S hs i, (True ∧ ((True ∧ ((Value.int IntKind.i64 (IntKind.i64.wrap (x.freed + 1))) = (Value.int IntKind.i64 (x'.freed))) ∧ True ∧ True) ∧ (True ∧ True ∧ True ∧ ((Value.int IntKind.u64 (x1.S'.reads)) = (Value.int IntKind.u64 (x'.S'.reads))) ∧
    True) ∧ (True ∧ True ∧ True ∧ ((Value.int IntKind.u32 (x1.S'.fresh)) = (Value.int IntKind.u32 (x'.S'.fresh))) ∧ True) ∧ ((x1.S'.nodes.set x1.k.toNat { key := 0, value := 0, left := 0, right := 0, size := 0, sum := 0, min := 0, max := 0 : NodeT }) = (x'.S'.nodes)) ∧ ((x1.S'.counts.set x1.k.toNat (IntKind.i64.wrap (x1.S'.ct x1.k - 1))) = (x'.S'.counts)) ∧ ((x1.S'.used.set x1.k.toNat false) = (x'.S'.used)) ∧ ((x1.S'.gen) = (x'.S'.gen)) ∧ ((x1.S'.rel ++ [x1.k]) = (x'.S'.rel)) ∧ ((x1.rest) = (x'.work)) ∧ True) ∧ (2 * x'.S'.nu + x'.work.length < 2 * x.S'.nu + x.work.length))))))))))))))) ((K (SV.tup [(TV.at (At.val (Value.int IntKind.i64 (x.freed)))), (TV.at (At.val (Value.int IntKind.i64 0)))]) [(Chunk.box [(At.ptr 1 0), (At.slc 2), (At.slc 3), (At.val (Value.int IntKind.u64 (x.S'.reads)))]), (Chunk.box [(At.slc 4), (At.slc 5), (At.slc 6), (At.val (Value.int IntKind.u32 (x.S'.fresh)))]), (Chunk.row true (EC.node) (x.S'.nodes)), (Chunk.row true (EC.int) (x.S'.counts)), (Chunk.row true (EC.bool) (x.S'.used)), (Chunk.row true (EC.u32) (x.S'.gen)), (Chunk.row true (EC.u32) (x.S'.rel))] [0, 1, 2, 3, 4, 5, 6]))))))))))) = _ by kernel_rfl) ?_
  simp only [bytes_u32]
  have hin := hw.held i (by simp)
  have hge := hw.ge0 hin
  have h2 := hw.n2
  refine brS_of (fun c => ?_) fun c => ?_
  · have c : i = 0 := by simpa using c
    subst c
    exact h S 0 hw.of_zero (Kept.refl S) (by omega) (fun _ e => by rw [hw.us0 (Int.le_refl 0)] at e; cases e) fun _ => rfl
  have c : i ≠ 0 := by simpa using c
  have hu := hin.resolve_left c
  have hp := hw.pos hu
  refine ⟨hge, by omega, by omega, brS_of (fun d => by rw [hu] at d; cases d) fun _ => ⟨⟨⟨S, [i], 0, hw, Kept.refl S, by omega, by omega, by simpa using hu, fun _ => .inl ⟨rfl, rfl⟩⟩, ?_⟩, fun x _ => brS_of (fun e => ?_) fun e => ?_⟩⟩
  · (repeat' first | exact trivial | exact rfl | refine And.intro ?_ ?_)
  · obtain ⟨g1, g2, g3, g4, g5, g6⟩ := x.h
    have e : 0 < x.work.length := by have := of_decide_eq_true e; omega
    have hl := list_last (d := (0 : Int)) e
    have hn1 := g1.n2
    have hfew := g1.few
    have hfl : x.work.length ≤ 2000000000 := by simp at hfew; omega
    rw [wrap_id (by omega) (by omega), show ((x.work.length : Int) - 1).toNat = x.work.length - 1 by omega]
    refine ⟨by omega, by omega, ⟨by omega, by omega, ⟨x.S', x.work.take (x.work.length - 1), x.work.getD (x.work.length - 1) 0, x.freed, ?_⟩, ?_⟩, fun z rz => ?_⟩
    · rw [hl]
      refine ⟨g1, g2, g3, g4, g5, fun hc => ?_⟩
      rcases g6 hc with ⟨q1, q2⟩ | ⟨q1, _⟩
      · rw [q1]; exact ⟨rfl, rfl, q2⟩
      · rw [q1] at e; simp at e
    · refine ⟨⟨rfl, ?_⟩, ?_⟩
      · have : (x.work.take (x.work.length - 1)).length = x.work.length - 1 := by simp
        show (x.work.length : Int) = ((x.work.take (x.work.length - 1)).length : Int) + 1
        omega
      · (repeat' first | exact trivial | exact rfl | refine And.intro ?_ ?_)
    · obtain ⟨r1, r2⟩ := rz
      obtain ⟨h1, h2, h3, h4, h5, h6⟩ := z.h
      have hk : z.S'.us z.k = true := h5 _ (by simp)
      have hpk := h1.pos hk
      have hcn := h1.ncnt
      have hnn := h1.nnod
      have hn2 := h1.n2
      have hfn := h1.free_nonneg
      have hfrr := h1.fr
      have hct := h1.ct_le hk
      have hw' : Wf z.S' (z.k :: (z.rest ++ hs)) := h1.perm (by rw [List.append_assoc]; exact List.perm_middle)
      refine ⟨by omega, by omega, by omega, by omega, by omega, by rw [List.length_set]; omega, ?_⟩
      rw [getD_set, if_pos ⟨rfl, by omega⟩, wrap_id (by omega) (by omega)]
      refine brS_of (fun d => ?_) fun d => ?_
      · have d : 1 < z.S'.ct z.k := by simp at d; omega
        refine ⟨⟨decS z.S' z.k, z.rest, z.freed, hw'.dec hk d, h2.trans (kept_dec _ _), h3, h4, fun w hm => h5 w (by simp [hm]), fun hc => ?_⟩, ?_⟩
        · obtain ⟨q1, q2, q3⟩ := h6 hc
          exact .inr ⟨q1, by rw [q2, q3]⟩
        · have e1 : (decS z.S' z.k).nu = z.S'.nu := rfl
          have e2 : (z.S'.counts.set z.k.toNat (z.S'.ct z.k - 1)) = (decS z.S' z.k).counts := by
            show _ = z.S'.counts.set z.k.toNat (IntKind.i64.wrap (z.S'.ct z.k - 1))
            rw [wrap_id (by omega) (by omega)]
          refine ⟨trivial, ⟨⟨trivial, by rw [r1], trivial, trivial⟩, ⟨trivial, trivial, trivial, rfl, trivial⟩, ⟨trivial, trivial, trivial, rfl, trivial⟩, rfl, e2, rfl, rfl, rfl, rfl, trivial⟩, ?_⟩
          show 2 * (decS z.S' z.k).nu + z.rest.length < _
          omega
      · have d : z.S'.ct z.k = 1 := by simp at d; omega
        obtain ⟨k1, k2, k3, k4, k5, k6⟩ := z.freed' d
        have hm := (hw'.freed hk d).2.1
        have e2 : (z.S'.counts.set z.k.toNat (z.S'.ct z.k - 1)) = (freeS z.S' z.k).counts := by
          show _ = z.S'.counts.set z.k.toNat (IntKind.i64.wrap (z.S'.ct z.k - 1))
          rw [wrap_id (by omega) (by omega)]
        have hwf : IntKind.i64.wrap (x.freed + 1) = z.freed + 1 := by
          have := h1.nu_le; have := hw.nu_le
          rw [wrap_id (by omega) (by omega), r1]
        have nl : ∀ c, (nz c).length ≤ 1 := fun c => by unfold nz; split <;> simp
        rw [hwf]
        refine ⟨by omega, by omega, by omega, by omega, by omega, by omega, by omega, by omega, hk, brS_of (fun q1 => ⟨by simp; omega, brS_of (fun q2 => ⟨by simp; omega, ⟨⟨freeS z.S' z.k, _, z.freed + 1, k1, k2, k3, k4, k5, k6⟩, ?_⟩⟩) fun q2 => ⟨⟨freeS z.S' z.k, _, z.freed + 1, k1, k2, k3, k4, k5, k6⟩, ?_⟩⟩) fun q1 => brS_of (fun q2 => ⟨by simp; omega, ⟨⟨freeS z.S' z.k, _, z.freed + 1, k1, k2, k3, k4, k5, k6⟩, ?_⟩⟩) fun q2 => ⟨⟨freeS z.S' z.k, _, z.freed + 1, k1, k2, k3, k4, k5, k6⟩, ?_⟩⟩
        all_goals
          refine ⟨trivial, ⟨⟨trivial, rfl, trivial, trivial⟩, ⟨trivial, trivial, trivial, rfl, trivial⟩, ⟨trivial, trivial, trivial, rfl, trivial⟩, rfl, e2, rfl, rfl, rfl, ?_, trivial⟩, ?_⟩
        all_goals (try simp at q1 q2)
        case refine_1.refine_1 => simp [nz, q1, q2]
        all_goals first
          | (show 2 * (freeS z.S' z.k).nu + (z.rest ++ nz _ ++ nz _).length < _; have := nl (z.S'.nd z.k).left; have := nl (z.S'.nd z.k).right; simp only [List.length_append]; omega)
          | simp [nz, q1, q2]
  · have e : x.work = [] := by have := of_decide_eq_false e; exact List.length_eq_zero_iff.1 (by omega)
    obtain ⟨g1, g2, g3, g4, g5, g6⟩ := x.h
    rw [e] at g1
    refine h x.S' x.freed g1 g2 g4 (fun hc _ => ?_) fun hc => by rw [hu] at hc; cases hc
    rcases g6 hc with ⟨q1, _⟩ | ⟨_, q2⟩
    · rw [e] at q1; cases q1
    · exact q2
theorem s_release : SoundT C0 25 tRelease := by
  refine .ofW W7 Try.func25 (by decide) rfl fun args H K h hB => ?_
  unfold tRelease at h
  split at h <;> try exact h.elim
  unfold arM at h
  split at h <;> try exact h.elim
  rename_i i _ rd fr nd ct us gn rl
  obtain ⟨hs, h1, h2⟩ := h
  exact ⟨aRelease ⟨us, gn, rl, fr, nd, ct, rd⟩ hs i, ⟨frame C0.ok s_slAllocated _, frame C0.ok s_slRelease _, trivial⟩, vc_release ⟨us, gn, rl, fr, nd, ct, rd⟩ hs i K h1 h2⟩
theorem vc_make (S : Arn) (k v l r : Int) (K : KT) (hw : exW S) (hl : live S l) (hr : live S r)
    (h1 : maxSize < (mkNode S k v l r).size → K (.tup [.at (vU 0), .at (vI 1)]) (chS S) W7)
    (h2 : (mkNode S k v l r).size ≤ maxSize → S.free = 0 → K (.tup [.at (vU 0), .at (vI 2)]) (chS S) W7)
    (h3 : (mkNode S k v l r).size ≤ maxSize → 0 < S.free → ∀ S' i, S' = makeS S k v l r → i = nxt S → K (.tup [.at (vU i), .at (vI 0)]) (chS S') W7) :
    vc C0 (aMake S k v l r) Try.f100 [.at (.ptr 0 0), .at (vI k), .at (vI v), .at (vU l), .at (vU r)] (chS S) (normK 7 (wideK W7 K)) := by
  refine Eq.mp (show ((((0 : Int) ≤ 0) ∧
(0 < ((2 : Nat) : Int)) ∧
(brS (l == 0) ((∃ x : XMk S k v l r, ((0 = ((↑x.i : Int))) ∧ (True ∧ ((Value.int IntKind.u32 (l)) = (Value.int IntKind.u32 (l))) ∧ ((Value.int IntKind.u32 (r)) = (Value.int IntKind.u32 (r))) ∧ True ∧ (((Value.int IntKind.u32 (l)) = (Value.int IntKind.u32 (l))) ∧ ((Value.int IntKind.u32 (r)) = (Value.int IntKind.u32 (r))) ∧ True) ∧ ((Value.int IntKind.i64 0) = (Value.int IntKind.i64 0)) ∧ True) ∧ (True ∧ True ∧ True ∧ ((Value.int IntKind.u64 (S.reads)) = (Value.int IntKind.u64 (S.reads))) ∧ True) ∧ (True ∧ True ∧ True ∧ ((Value.int IntKind.u32 (S.fresh)) = (Value.int IntKind.u32 (S.fresh))) ∧ True) ∧ ((S.nodes) = (S.nodes)) ∧ ((S.counts) = (S.counts)) ∧ ((S.used) = (S.used)) ∧ ((S.gen) = (S.gen)) ∧ ((S.rel) = (S.rel)) ∧ (((Value.int IntKind.i64 (k)) = (Value.int IntKind.i64 (x.n.key))) ∧ ((Value.int IntKind.i64 (v)) = (Value.int IntKind.i64 (x.n.value))) ∧ ((Value.int IntKind.u32 (l)) = (Value.int IntKind.u32 (x.n.left))) ∧ ((Value.int IntKind.u32 (r)) = (Value.int IntKind.u32 (x.n.right))) ∧ ((Value.int IntKind.i64 1) = (Value.int IntKind.i64 (x.n.size))) ∧ ((Value.int IntKind.i64 (v)) = (Value.int IntKind.i64 (x.n.sum))) ∧ ((Value.int IntKind.i64 (v)) = (Value.int IntKind.i64 (x.n.min))) ∧ ((Value.int IntKind.i64 (v)) = (Value.int IntKind.i64 (x.n.max))) ∧ True) ∧ True))) (((0 ≤ l) ∧ (l < 4294967296) ∧ (S.used.length ≤ 65537) ∧ (brS (!S.us l)
    ((K (SV.tup [(TV.at (At.val (Value.int IntKind.u32 0))), (TV.at (At.val (Value.int IntKind.i64 1)))]) [(Chunk.box [(At.ptr 1 0), (At.slc 2), (At.slc 3), (At.val (Value.int IntKind.u64 (S.reads)))]), (Chunk.box [(At.slc 4), (At.slc 5), (At.slc 6), (At.val (Value.int IntKind.u32 (S.fresh)))]), (Chunk.row true (EC.node) (S.nodes)), (Chunk.row true (EC.int) (S.counts)), (Chunk.row true (EC.bool) (S.used)), (Chunk.row true (EC.u32) (S.gen)), (Chunk.row true (EC.u32) (S.rel))] [0, 1, 2, 3, 4, 5, 6])) (((0 ≤ l) ∧ (l < (↑S.nodes.length : Int)) ∧ (∃ x : XMk S k v l r, ((0 = ((↑x.i : Int))) ∧ (True ∧ ((Value.int IntKind.u32 (l)) = (Value.int IntKind.u32 (l))) ∧ ((Value.int IntKind.u32 (r)) = (Value.int IntKind.u32 (r))) ∧ True ∧ (((Value.int IntKind.u32 (l)) = (Value.int IntKind.u32 (l))) ∧ ((Value.int IntKind.u32 (r)) = (Value.int IntKind.u32 (r))) ∧ True) ∧ ((Value.int IntKind.i64 0) = (Value.int IntKind.i64 0)) ∧ True) ∧ (True ∧ True ∧ True ∧ ((Value.int IntKind.u64 (S.reads)) = (Value.int IntKind.u64 (S.reads))) ∧ True) ∧ (True ∧ True ∧ True ∧ ((Value.int IntKind.u32 (S.fresh)) = (Value.int IntKind.u32 (S.fresh))) ∧ True) ∧ ((S.nodes) = (S.nodes)) ∧ ((S.counts) = (S.counts)) ∧ ((S.used) = (S.used)) ∧ ((S.gen) = (S.gen)) ∧ ((S.rel) = (S.rel)) ∧ (((Value.int IntKind.i64 (k)) = (Value.int IntKind.i64 (x.n.key))) ∧ ((Value.int IntKind.i64 (v)) = (Value.int IntKind.i64 (x.n.value))) ∧ ((Value.int IntKind.u32 (l)) = (Value.int IntKind.u32 (x.n.left))) ∧
    ((Value.int IntKind.u32 (r)) = (Value.int IntKind.u32 (x.n.right))) ∧ ((Value.int IntKind.i64 (IntKind.i64.wrap (1 + (S.nd l).size))) = (Value.int IntKind.i64 (x.n.size))) ∧ ((Value.int IntKind.i64 (IntKind.i64.wrap (v + (S.nd l).sum))) = (Value.int IntKind.i64 (x.n.sum))) ∧ ((Value.int IntKind.i64 (if (S.nd l).min < v then (S.nd l).min else v)) = (Value.int IntKind.i64 (x.n.min))) ∧ ((Value.int IntKind.i64 (if (S.nd l).max > v then (S.nd l).max else v)) = (Value.int IntKind.i64 (x.n.max))) ∧ True) ∧ True))))))))) ∧
(∀ x : XMk S k v l r, ((0 = ((↑x.i : Int))) → (((0 ≤ IntKind.i64.wrap (0 + 1)) ∧ (IntKind.i64.wrap (0 + 1) < ((2 : Nat) : Int)) ∧ (brS (r == 0) ((∃ x1 : XMk S k v l r, ((1 = ((↑x1.i : Int))) ∧ (True ∧ ((Value.int IntKind.u32 (l)) = (Value.int IntKind.u32 (l))) ∧ ((Value.int IntKind.u32 (r)) = (Value.int IntKind.u32 (r))) ∧ True ∧ (((Value.int IntKind.u32 (l)) = (Value.int IntKind.u32 (l))) ∧ ((Value.int IntKind.u32 (r)) = (Value.int IntKind.u32 (r))) ∧ True) ∧ ((Value.int IntKind.i64 1) = (Value.int IntKind.i64 1)) ∧ True) ∧ (True ∧ True ∧ True ∧ ((Value.int IntKind.u64 (S.reads)) = (Value.int IntKind.u64 (S.reads))) ∧ True) ∧ (True ∧ True ∧ True ∧ ((Value.int IntKind.u32 (S.fresh)) = (Value.int IntKind.u32 (S.fresh))) ∧ True) ∧ ((S.nodes) = (S.nodes)) ∧ ((S.counts) = (S.counts)) ∧ ((S.used) = (S.used)) ∧ ((S.gen) = (S.gen)) ∧ ((S.rel) = (S.rel)) ∧ (((Value.int IntKind.i64 (x.n.key)) = (Value.int IntKind.i64 (x1.n.key))) ∧
    ((Value.int IntKind.i64 (x.n.value)) = (Value.int IntKind.i64 (x1.n.value))) ∧ ((Value.int IntKind.u32 (x.n.left)) = (Value.int IntKind.u32 (x1.n.left))) ∧ ((Value.int IntKind.u32 (x.n.right)) = (Value.int IntKind.u32 (x1.n.right))) ∧ ((Value.int IntKind.i64 (x.n.size)) = (Value.int IntKind.i64 (x1.n.size))) ∧ ((Value.int IntKind.i64 (x.n.sum)) = (Value.int IntKind.i64 (x1.n.sum))) ∧ ((Value.int IntKind.i64 (x.n.min)) = (Value.int IntKind.i64 (x1.n.min))) ∧ ((Value.int IntKind.i64 (x.n.max)) = (Value.int IntKind.i64 (x1.n.max))) ∧ True) ∧ True))) (((0 ≤ r) ∧ (r < 4294967296) ∧ (S.used.length ≤ 65537) ∧ (brS (!S.us r) ((K (SV.tup [(TV.at (At.val (Value.int IntKind.u32 0))), (TV.at (At.val (Value.int IntKind.i64 1)))]) [(Chunk.box [(At.ptr 1 0), (At.slc 2), (At.slc 3), (At.val (Value.int IntKind.u64 (S.reads)))]), (Chunk.box [(At.slc 4), (At.slc 5), (At.slc 6), (At.val (Value.int IntKind.u32 (S.fresh)))]), (Chunk.row true (EC.node) (S.nodes)), (Chunk.row true (EC.int) (S.counts)), (Chunk.row true (EC.bool) (S.used)), (Chunk.row true (EC.u32) (S.gen)), (Chunk.row true (EC.u32) (S.rel))] [0, 1, 2, 3, 4, 5, 6])) (((0 ≤ r) ∧ (r < (↑S.nodes.length : Int)) ∧ (∃ x1 : XMk S k v l r, ((1 = ((↑x1.i : Int))) ∧ (True ∧ ((Value.int IntKind.u32 (l)) = (Value.int IntKind.u32 (l))) ∧ ((Value.int IntKind.u32 (r)) = (Value.int IntKind.u32 (r))) ∧ True ∧ (((Value.int IntKind.u32 (l)) = (Value.int IntKind.u32 (l))) ∧ ((Value.int IntKind.u32 (r)) = (Value.int IntKind.u32 (r))) ∧ True) ∧
    ((Value.int IntKind.i64 1) = (Value.int IntKind.i64 1)) ∧ True) ∧ (True ∧ True ∧ True ∧ ((Value.int IntKind.u64 (S.reads)) = (Value.int IntKind.u64 (S.reads))) ∧ True) ∧ (True ∧ True ∧ True ∧ ((Value.int IntKind.u32 (S.fresh)) = (Value.int IntKind.u32 (S.fresh))) ∧ True) ∧ ((S.nodes) = (S.nodes)) ∧ ((S.counts) = (S.counts)) ∧ ((S.used) = (S.used)) ∧ ((S.gen) = (S.gen)) ∧ ((S.rel) = (S.rel)) ∧ (((Value.int IntKind.i64 (x.n.key)) = (Value.int IntKind.i64 (x1.n.key))) ∧ ((Value.int IntKind.i64 (x.n.value)) = (Value.int IntKind.i64 (x1.n.value))) ∧ ((Value.int IntKind.u32 (x.n.left)) = (Value.int IntKind.u32 (x1.n.left))) ∧ ((Value.int IntKind.u32 (x.n.right)) = (Value.int IntKind.u32 (x1.n.right))) ∧ ((Value.int IntKind.i64 (IntKind.i64.wrap (x.n.size + (S.nd r).size))) = (Value.int IntKind.i64 (x1.n.size))) ∧ ((Value.int IntKind.i64 (IntKind.i64.wrap (x.n.sum + (S.nd r).sum))) = (Value.int IntKind.i64 (x1.n.sum))) ∧ ((Value.int IntKind.i64 (if (S.nd r).min < x.n.min then (S.nd r).min else x.n.min)) = (Value.int IntKind.i64 (x1.n.min))) ∧ ((Value.int IntKind.i64 (if (S.nd r).max > x.n.max then (S.nd r).max else x.n.max)) = (Value.int IntKind.i64 (x1.n.max))) ∧ True) ∧ True))))))))) ∧ (∀ x1 : XMk S k v l r, ((1 = ((↑x1.i : Int))) → (brS (decide (x1.n.size > 2147483647))
    ((K (SV.tup [(TV.at (At.val (Value.int IntKind.u32 0))), (TV.at (At.val (Value.int IntKind.i64 1)))]) [(Chunk.box [(At.ptr 1 0), (At.slc 2), (At.slc 3), (At.val (Value.int IntKind.u64 (S.reads)))]), (Chunk.box [(At.slc 4), (At.slc 5), (At.slc 6), (At.val (Value.int IntKind.u32 (S.fresh)))]), (Chunk.row true (EC.node) (S.nodes)), (Chunk.row true (EC.int) (S.counts)), (Chunk.row true (EC.bool) (S.used)), (Chunk.row true (EC.u32) (S.gen)), (Chunk.row true (EC.u32) (S.rel))] [0, 1, 2, 3, 4, 5, 6])) (((1 ≤ S.used.length) ∧ (S.used.length ≤ 65537) ∧ (S.rel.length ≤ 65537) ∧ (0 ≤ S.fresh) ∧ (S.fresh ≤ 65537) ∧ ((S.gen.length) = (S.used.length)) ∧ (relOK S.rel S.used.length) ∧ (0 ≤ (↑S.rel.length : Int) + ((↑S.used.length : Int) - 1) - S.fresh) ∧ ((((↑S.rel.length : Int) + ((↑S.used.length : Int) - 1) - S.fresh) = 0) → (K (SV.tup [(TV.at (At.val (Value.int IntKind.u32 0))), (TV.at (At.val (Value.int IntKind.i64 2)))]) [(Chunk.box [(At.ptr 1 0), (At.slc 2), (At.slc 3), (At.val (Value.int IntKind.u64 (S.reads)))]), (Chunk.box [(At.slc 4), (At.slc 5), (At.slc 6), (At.val (Value.int IntKind.u32 (S.fresh)))]), (Chunk.row true (EC.node) (S.nodes)), (Chunk.row true (EC.int) (S.counts)), (Chunk.row true (EC.bool) (S.used)), (Chunk.row true (EC.u32) (S.gen)), (Chunk.row true (EC.u32) (S.rel))] [0, 1, 2, 3, 4, 5, 6])) ∧ ((0 < (↑S.rel.length : Int) + ((↑S.used.length : Int) - 1) - S.fresh) → (∀ i : Int, (∀ rl' : List Int, (∀ fr' : Int,
    (((Prod.mk (i) (Prod.mk (rl') (fr'))) = (fresh3 S.rel S.fresh)) → ((0 ≤ i) ∧ (i < (↑S.nodes.length : Int)) ∧ (0 ≤ i) ∧ (i < (↑S.counts.length : Int)) ∧ (0 ≤ l) ∧ (l < (↑(S.counts.set i.toNat 1).length : Int)) ∧ (0 ≤ l) ∧ (l < (↑(S.counts.set i.toNat 1).length : Int)) ∧ (0 ≤ r) ∧ (r < (↑((S.counts.set i.toNat 1).set l.toNat (IntKind.i64.wrap ((S.counts.set i.toNat 1).getD l.toNat 0 + 1))).length : Int)) ∧ (0 ≤ r) ∧ (r < (↑((S.counts.set i.toNat 1).set l.toNat (IntKind.i64.wrap ((S.counts.set i.toNat 1).getD l.toNat 0 + 1))).length : Int)) ∧
    (K (SV.tup [(TV.at (At.val (Value.int IntKind.u32 (i)))), (TV.at (At.val (Value.int IntKind.i64 0)))]) [(Chunk.box [(At.ptr 1 0), (At.slc 2), (At.slc 3), (At.val (Value.int IntKind.u64 (S.reads)))]), (Chunk.box [(At.slc 4), (At.slc 5), (At.slc 6), (At.val (Value.int IntKind.u32 (fr')))]), (Chunk.row true (EC.node) (S.nodes.set i.toNat { key := x1.n.key, value := x1.n.value, left := x1.n.left, right := x1.n.right, size := x1.n.size, sum := x1.n.sum, min := x1.n.min, max := x1.n.max : NodeT })), (Chunk.row true (EC.int) (((S.counts.set i.toNat 1).set l.toNat (IntKind.i64.wrap ((S.counts.set i.toNat 1).getD l.toNat 0 + 1))).set r.toNat (IntKind.i64.wrap (((S.counts.set i.toNat 1).set l.toNat (IntKind.i64.wrap ((S.counts.set i.toNat 1).getD l.toNat 0 + 1))).getD r.toNat 0 + 1)))), (Chunk.row true (EC.bool) (S.used.set i.toNat true)), (Chunk.row true (EC.u32) (S.gen.set i.toNat (IntKind.u32.wrap (S.gn i + 1)))), (Chunk.row true (EC.u32) (rl'))] [0, 1, 2, 3, 4, 5, 6])))))))))))))))) = _ by kernel_rfl) ?_
  obtain ⟨hs, hw⟩ := hw
  have hn1 := hw.n1; have hn2 := hw.n2; have hnn := hw.nnod; have hng := hw.ngen; have hnc := hw.ncnt; have hfr := hw.fr; have hfree := hw.free_nonneg
  have hl0 := hw.ge0 hl
  have hr0 := hw.ge0 hr
  have hl1 : l < S.used.length := by rcases hl with e | e; omega; have := hw.pos e; omega
  have hr1 : r < S.used.length := by rcases hr with e | e; omega; have := hw.pos e; omega
  refine ⟨⟨by decide, by decide, brS_of (fun c => ⟨⟨0, ⟨k, v, l, r, 1, v, v, v⟩, ?_⟩, ?_⟩) fun c => ⟨hl0, by omega, by omega, brS_of (fun d => ?_) fun d => ⟨hl0, by omega, ⟨⟨0, addK ⟨k, v, l, r, 1, v, v, v⟩ (S.nd l), ?_⟩, ?_⟩⟩⟩⟩,
    fun x rx => ⟨⟨by decide, by decide, brS_of (fun c => ⟨⟨1, x.n, ?_⟩, ?_⟩) fun c => ⟨hr0, by omega, by omega, brS_of (fun d => ?_) fun d => ⟨hr0, by omega, ⟨⟨1, addK x.n (S.nd r), ?_⟩, ?_⟩⟩⟩⟩, fun x1 r1 => ?_⟩⟩
  · have c : l = 0 := by simpa using c
    rw [if_pos rfl]; unfold addC; rw [if_pos c]
  · (repeat' first | exact trivial | exact rfl | refine And.intro ?_ ?_)
  · have c : l ≠ 0 := by simpa using c
    have := hl.resolve_left c
    rw [this] at d; cases d
  · have c : l ≠ 0 := by simpa using c
    rw [if_pos rfl]; unfold addC; rw [if_neg c]
  · (repeat' first | exact trivial | exact rfl | refine And.intro ?_ ?_)
  · have c : r = 0 := by simpa using c
    have hx := x.h
    rw [if_pos (by omega)] at hx
    rw [if_neg (by decide)]; unfold mkNode; rw [← hx]; unfold addC; rw [if_pos c]
  · (repeat' first | exact trivial | exact rfl | refine And.intro ?_ ?_)
  · have c : r ≠ 0 := by simpa using c
    have := hr.resolve_left c
    rw [this] at d; cases d
  · have c : r ≠ 0 := by simpa using c
    have hx := x.h
    rw [if_pos (by omega)] at hx
    rw [if_neg (by decide)]; unfold mkNode; rw [← hx]; unfold addC; rw [if_neg c]
  · (repeat' first | exact trivial | exact rfl | refine And.intro ?_ ?_)
  · obtain ⟨i1, n1, hx⟩ := x1
    have r1 : i1 = 1 := by have : (1 : Int) = (i1 : Int) := r1; omega
    subst r1
    rw [if_neg (by decide)] at hx
    subst hx
    refine brS_of (fun c => h1 (by have : (mkNode S k v l r).size > 2147483647 := of_decide_eq_true c; unfold maxSize; omega)) fun c => ?_
    have c : (mkNode S k v l r).size ≤ maxSize := by have : ¬ (mkNode S k v l r).size > 2147483647 := of_decide_eq_false c; unfold maxSize; omega
    refine ⟨by omega, hn2, by omega, hfr.1, by omega, hng, fun i hi => by have := hw.rel i hi; omega, by have := hfree.1; unfold Arn.free Arn.cap at this; omega, fun e => h2 c (by unfold Arn.free Arn.cap; omega), fun e i rl' fr' he => ?_⟩
    have e : 0 < S.free := by unfold Arn.free Arn.cap; omega
    have h4 := h3 c e _ _ rfl rfl
    obtain ⟨b1, b2, _⟩ := hw.nxt_spec e
    have e1 : i = nxt S := congrArg Prod.fst he
    have e2 : rl' = (freshS S).2.1 := congrArg (fun p : Int × List Int × Int => p.2.1) he
    have e3 : fr' = (freshS S).2.2 := congrArg (fun p : Int × List Int × Int => p.2.2) he
    subst e1 e2 e3
    refine ⟨by omega, by omega, by omega, by omega, hl0, ?_, hl0, ?_, hr0, ?_, hr0, ?_, h4⟩
    all_goals (simp only [List.length_set]; omega)
theorem s_make : SoundT C0 100 tMake := by
  refine .ofW W7 Try.func100 (by decide) rfl fun args H K h hB => ?_
  unfold tMake at h
  split at h <;> try exact h.elim
  unfold arM at h
  split at h <;> try exact h.elim
  rename_i k v l r _ rd fr nd ct us gn rl
  obtain ⟨h1, h2, h3, h4, h5, h6⟩ := h
  exact ⟨aMake ⟨us, gn, rl, fr, nd, ct, rd⟩ k v l r, ⟨frame C0.ok s_slAllocated _, frame C0.ok s_slAlloc _, trivial⟩, vc_make ⟨us, gn, rl, fr, nd, ct, rd⟩ k v l r K h1 h2 h3 h4 h5 h6⟩
end Go.Proofs.Ytbonbaccmlomhaa.Sx
end
section
/- Make where it succeeds, Release where another reference is left. -/
namespace Go.Proofs.Ytbonbaccmlomhaa.Sx
open Go

def tMakeOk : Tfm C0 := fun args H K => match args with
  | [.at (.ptr 0 0), .at (.val (.int .i64 k)), .at (.val (.int .i64 v)), .at (.val (.int .u32 l)), .at (.val (.int .u32 r))] => arM H fun S => exW S ∧ live S l ∧ live S r ∧ (mkNode S k v l r).size ≤ maxSize ∧ 0 < S.free ∧
    ∀ S' i, S' = makeS S k v l r → i = nxt S → K (.tup [.at (vU i), .at (vI 0)]) (chS S') W7
  | _ => False
theorem s_makeOk : SoundT C0 100 tMakeOk := s_make.weak fun args H K h => by
  unfold tMakeOk at h
  unfold tMake
  split at h <;> try exact h.elim
  unfold arM at h ⊢
  split at h <;> try exact h.elim
  obtain ⟨h1, h2, h3, h4, h5, h6⟩ := h
  exact ⟨h1, h2, h3, fun e => absurd h4 (by omega), fun _ e => absurd h5 (by omega), fun _ _ => h6⟩
def tGive : Tfm C0 := fun args H K => match args with
  | [.at (.ptr 0 0), .at (.val (.int .u32 i))] => arM H fun S => ∃ hs, Wf S (i :: hs) ∧ (S.us i = true → 1 ≤ S.indeg i) ∧ ∀ S', S' = relA S i → K (.tup [.at (vI 0), .at (vI 0)]) (chS S') W7
  | _ => False
theorem s_give : SoundT C0 25 tGive := s_release.weak fun args H K h => by
  unfold tGive at h
  unfold tRelease
  split at h <;> try exact h.elim
  unfold arM at h ⊢
  split at h <;> try exact h.elim
  obtain ⟨hs, h1, h2, h3⟩ := h
  refine ⟨hs, h1, fun S' fr _ _ h4 h5 h6 => ?_⟩
  have e := h1.given h2 h5 h6
  have h7 := h3 S' e
  have : fr = 0 := by rw [e, (relA_flds _ _).2.2.1] at h4; omega
  rw [this]
  exact h7
end Go.Proofs.Ytbonbaccmlomhaa.Sx
end
section
/- Small facts on states. -/
namespace Go.Proofs.Ytbonbaccmlomhaa.Sx
open Go

theorem rdS_zero (S : Arn) : rdS S 0 = S := by simp [rdS]
theorem rdS_rdS (S : Arn) (a b : Nat) : rdS (rdS S a) b = rdS S (a + b) := by simp [rdS]; omega
theorem rep_rd {S : Arn} {t : Tr} {i : Int} (h : Rep S t i) (n : Nat) : Rep (rdS S n) t i := Rep.same (S := S) (S' := rdS S n) (fun _ => rfl) (fun _ => rfl) h
theorem inU_of {S : Arn} {hs : List Int} (h : Wf S hs) {i : Int} (hi : live S i) : inU i := by
  have h2 := h.n2
  rcases hi with rfl | hi
  · exact ⟨by decide, by decide⟩
  · have := h.pos hi; exact ⟨by omega, by omega⟩
end Go.Proofs.Ytbonbaccmlomhaa.Sx
end
section
/- Plain laws of patches: apply, compose, rebase, invert. No program in sight. -/
namespace Go.Proofs.Ytbonbaccmlomhaa

/-! ### Apply -/
def optE (k : Int) (v : Option Int) : List Ent := (v.map fun v => (k, v)).toList

def appGo : List (Option Ent × Option Chg) → Option (List Ent)
  | [] => some []
  | (x, none) :: t => (appGo t).map (x.toList ++ ·)
  | (x, some c) :: t => if x.map Prod.snd = c.before then (appGo t).map (optE c.key c.after ++ ·) else none

/-- What applying comes to: the list, if the patch fits. -/
def app (l : List Ent) (p : List Chg) : Option (List Ent) := appGo (pEC l p)

/-- What is still to be made, behind what has been made. -/
def AppAt (l : List Ent) (p : List Chg) (i k : Nat) (acc : List Ent) : Prop := app l p = (appGo (pEC (l.drop i) (p.drop k))).map (acc ++ ·)
theorem AppAt.start (l : List Ent) (p : List Chg) : AppAt l p 0 0 [] := by
  unfold AppAt app; rw [List.drop_zero, List.drop_zero]; cases appGo (pEC l p) <;> rfl
theorem appGo_keep {l' : List Ent} {p' : List Chg} {x : Ent} {c : Chg} (h : x.1 < c.key) : appGo (pEC (x :: l') (c :: p')) = (appGo (pEC l' (c :: p'))).map (x :: ·) := by
  show appGo (pairs Prod.fst Chg.key (x :: l') (c :: p')) = _
  rw [pairs, if_pos h]; rfl
theorem AppAt.keep {l : List Ent} {p : List Chg} {i k : Nat} {acc : List Ent} {x : Ent} {c : Chg} (h : AppAt l p i k acc) (hl : l.drop i = x :: l.drop (i + 1)) (hp : p.drop k = c :: p.drop (k + 1)) (hlt : x.1 < c.key) : AppAt l p (i + 1) k (acc ++ [x]) := by
  unfold AppAt at *
  rw [h, hl, hp, appGo_keep hlt, ← hp, Option.map_map]
  congr 1
  funext t; simp
/-- The element at i, if it has the key of the change. -/
def at1 (l : List Ent) (i : Nat) (q : Int) : Option Ent := match l[i]? with
  | some x => if x.1 = q then some x else none
  | none => none
theorem AppAt.take {l : List Ent} {p : List Chg} {i k : Nat} {acc : List Ent} {x : Ent} {c : Chg} (h : AppAt l p i k acc) (hl : l.drop i = x :: l.drop (i + 1)) (hp : p.drop k = c :: p.drop (k + 1)) (he : x.1 = c.key) :
    if some x.2 = c.before then AppAt l p (i + 1) (k + 1) (acc ++ optE c.key c.after) else app l p = none := by
  have e : pEC (x :: l.drop (i + 1)) (c :: p.drop (k + 1)) = (some x, some c) :: pEC (l.drop (i + 1)) (p.drop (k + 1)) := by
    show pairs Prod.fst Chg.key _ _ = _
    rw [pairs, if_neg (by omega), if_neg (by omega)]
  split
  · rename_i hb
    unfold AppAt at *
    rw [h, hl, hp, e]
    simp only [appGo, Option.map_some, hb, if_true, Option.map_map]
    congr 1
    funext t; simp
  · rename_i hb
    unfold AppAt at h
    rw [h, hl, hp, e]
    simp only [appGo, Option.map_some, hb, if_false, Option.map_none]
theorem AppAt.new {l : List Ent} {p : List Chg} {i k : Nat} {acc : List Ent} {c : Chg} (h : AppAt l p i k acc) (hl : l.drop i = [] ∨ ∃ x t, l.drop i = x :: t ∧ c.key < x.1) (hp : p.drop k = c :: p.drop (k + 1)) :
    if none = c.before then AppAt l p i (k + 1) (acc ++ optE c.key c.after) else app l p = none := by
  have e : pEC (l.drop i) (c :: p.drop (k + 1)) = (none, some c) :: pEC (l.drop i) (p.drop (k + 1)) := by
    show pairs Prod.fst Chg.key _ _ = _ :: pairs Prod.fst Chg.key _ _
    rcases hl with hl | ⟨x, t, hl, hlt⟩
    · rw [hl, pairs]
    · rw [hl, pairs, if_neg (by omega), if_pos hlt]
  split
  · rename_i hb
    unfold AppAt at *
    rw [h, hp, e]
    simp only [appGo, Option.map_none, hb, if_true, Option.map_map]
    congr 1
    funext t; simp
  · rename_i hb
    unfold AppAt at h
    rw [h, hp, e]
    simp only [appGo, Option.map_none, hb, if_false]
theorem AppAt.fin {l : List Ent} {p : List Chg} {i k : Nat} {acc : List Ent} (h : AppAt l p i k acc) (hk : p.length ≤ k) : app l p = some (acc ++ l.drop i) := by
  unfold AppAt at h
  rw [h, List.drop_eq_nil_of_le hk]
  have : ∀ m : List Ent, appGo (pEC m []) = some m := by
    intro m
    induction m with
    | nil => simp [pairs, appGo]
    | cons x t ih => simp [pairs, appGo, ih]
  rw [this]; rfl

/-- The value of a key behind a patch. -/
def put (x : Option Int) (c : Option Chg) : Option Int := match c with
  | none => x
  | some c => c.after

def emit1 (z : Option Ent × Option Chg) : Option Ent := (put (z.1.map Prod.snd) z.2).map fun v => (pkey Prod.fst Chg.key z, v)

/-- The patch fits the list: each change finds the value that it says. -/
def Fits (l : List Ent) (p : List Chg) : Prop := ∀ c ∈ p, getE l c.key = c.before
instance (l : List Ent) (p : List Chg) : Decidable (Fits l p) := by unfold Fits; infer_instance

/-! ### Invert -/
def inv1 (c : Chg) : Chg := (mkChg c.key c.after c.before).getD ⟨0, 0, 0, 0⟩
def inv (p : List Chg) : List Chg := p.map inv1

end Go.Proofs.Ytbonbaccmlomhaa
end
section
/- Plain laws of patches: compose and rebase. No program in sight. -/
namespace Go.Proofs.Ytbonbaccmlomhaa

/-! ### Compose -/
def comp1 : Option Chg × Option Chg → List Chg
  | (some c, none) => [c]
  | (none, some d) => [d]
  | (some c, some d) => (mkChg c.key c.before d.after).toList
  | (none, none) => []
def meet1 : Option Chg × Option Chg → Bool
  | (some c, some d) => decide (c.after = d.before)
  | _ => true

def compGo : List (Option Chg × Option Chg) → Option (List Chg)
  | [] => some []
  | z :: t => if meet1 z then (compGo t).map (comp1 z ++ ·) else none

/-- What composing two valid patches comes to. -/
def comp (p q : List Chg) : Option (List Chg) := compGo (pC p q)

/-! ### Rebase -/
def keep1 : Option Chg × Option Chg → List Chg
  | (some c, none) => [c]
  | _ => []
def conf1 : Option Chg × Option Chg → List Int
  | (some c, some d) => if c.after = d.after then [] else [c.key]
  | _ => []
def base1 : Option Chg × Option Chg → Bool
  | (some c, some d) => decide (c.before = d.before)
  | _ => true

def rebGo : List (Option Chg × Option Chg) → Option (List Chg × List Int)
  | [] => some ([], [])
  | z :: t => if base1 z then (rebGo t).map (fun r => (keep1 z ++ r.1, conf1 z ++ r.2)) else none

def reb (p q : List Chg) : Option (List Chg × List Int) := rebGo (pC p q)

/-- The same, along the first patch alone. -/
def rebP : List (Chg × Option Chg) → Option (List Chg × List Int)
  | [] => some ([], [])
  | (c, d) :: t => if base1 (some c, d) then (rebP t).map (fun r => (keep1 (some c, d) ++ r.1, conf1 (some c, d) ++ r.2)) else none

/-- A key that both sides changed, differently. -/
def Cf (l m n : List Ent) (k : Int) : Prop := getE m k ≠ getE n k ∧ getE l k ≠ getE m k ∧ getE l k ≠ getE n k
instance (l m n : List Ent) (k : Int) : Decidable (Cf l m n k) := by unfold Cf; infer_instance

def confO (z : Option Chg × Option Chg) : Option Int := match z with
  | (some c, some d) => if c.after = d.after then none else some c.key
  | _ => none
def keepO (z : Option Chg × Option Chg) : Option Chg := match z with
  | (some c, none) => some c
  | _ => none

end Go.Proofs.Ytbonbaccmlomhaa
end
section
/- The reference's lists: what their functions answer. -/
namespace Go.Proofs.Ytbonbaccmlomhaa.Sx
open Go

theorem wrap_in {x : Int} (h0 : -9223372036854775808 ≤ x) (h1 : x ≤ 9223372036854775807) : IntKind.i64.wrap x = x := by
  rw [IntKind.wrap_i64]; omega
def iA (p : List Int) (n : Nat) : Int := p.getD n 0
theorem drop_eq_iff {α : Type} {l m : List α} {k : Nat} {x y : α} (hl : l[k]? = some x) (hm : m[k]? = some y) : (l.drop k = m.drop k) ↔ x = y ∧ l.drop (k + 1) = m.drop (k + 1) := by
  rw [drop_cons hl, drop_cons hm, List.cons.injEq]
def sameB {α : Type} [DecidableEq α] (l m : List α) : Bool := decide (l = m)
structure XS {α : Type} [DecidableEq α] (l m : List α) where
  i : Nat
  h : i ≤ l.length ∧ l.length = m.length ∧ sameB l m = decide (l.drop i = m.drop i)
theorem XS.next {α : Type} [DecidableEq α] {l m : List α} (z : XS l m) {x y : α} (hx : l[z.i]? = some x) (hy : m[z.i]? = some y) (he : x = y) : ∃ z' : XS l m, z'.i = z.i + 1 := by
  have h1 := (List.getElem?_eq_some_iff.1 hx).1
  refine ⟨⟨z.i + 1, by omega, z.h.2.1, ?_⟩, rfl⟩
  rw [z.h.2.2]
  apply decide_eq_decide.2
  rw [drop_eq_iff hx hy]
  exact ⟨fun h => h.2, fun h => ⟨he, h⟩⟩
theorem XS.fin {α : Type} [DecidableEq α] {l m : List α} (z : XS l m) (h : z.i = l.length) : sameB l m = true := by
  rw [z.h.2.2, h, List.drop_length, z.h.2.1, List.drop_length]; rfl
noncomputable def aSame (e : EC) {α : Type} [DecidableEq α] (l m : List α) (L M : List (C0.α e)) : Ann C0 := { Γ := [], inv := fun n => match n with
  | 4 => some { X := XS l m, sl := [5], tf := fun x => [vi .i64 x.i], hf := fun _ => [.row false e L, .row false e M], μ := fun x => l.length - x.i }
  | _ => none }
def tSame_chg : Tfm C0 := fun args H K => match args, H with
  | [.at (.slc 0), .at (.slc 1)], [.row false .chg l, .row false .chg m] => K (.one (.at (vB (sameB (α := Chg) l m)))) [.row false EC.chg l, .row false EC.chg m] []
  | _, _ => False
def tSame_ent : Tfm C0 := fun args H K => match args, H with
  | [.at (.slc 0), .at (.slc 1)], [.row false .ent l, .row false .ent m] => K (.one (.at (vB (sameB (α := Ent) l m)))) [.row false EC.ent l, .row false EC.ent m] []
  | _, _ => False
def tSame_i64 : Tfm C0 := fun args H K => match args, H with
  | [.at (.slc 0), .at (.slc 1)], [.row false .i64 l, .row false .i64 m] => K (.one (.at (vB (sameB (α := Int) l m)))) [.row false EC.i64 l, .row false EC.i64 m] []
  | _, _ => False
theorem asc_step {l : List Ent} {k : Nat} {x y : Ent} (hx : l[k]? = some x) (hy : l[k + 1]? = some y) : Asc (l.drop k) ↔ x.1 < y.1 ∧ Asc (l.drop (k + 1)) := by
  rw [drop_cons hx, drop_cons hy]
  constructor
  · intro h; exact ⟨h.head _ (by simp), h.tail⟩
  · rintro ⟨h1, h2⟩
    refine h2.cons fun z hz => ?_
    rcases List.mem_cons.1 hz with rfl | hz
    · exact h1
    · have := h2.head z hz; omega
structure XA (l : List Ent) where
  i : Nat
  h : 1 ≤ i ∧ (i ≤ l.length ∨ i = 1) ∧ (Asc l ↔ Asc (l.drop (i - 1)))
theorem XA.split {l : List Ent} (z : XA l) (hi : z.i < l.length) : (ascB l = true ↔ (eA l (z.i - 1)).1 < (eA l z.i).1 ∧ Asc (l.drop z.i)) := by
  obtain ⟨k, hk⟩ : ∃ k, z.i = k + 1 := ⟨z.i - 1, by have := z.h.1; omega⟩
  have h1 := eA_get (p := l) (n := k) (by omega)
  have h2 := eA_get (p := l) (n := k + 1) (by omega)
  have h3 := asc_step h1 h2
  have h4 := z.h.2.2
  rw [hk] at h4 ⊢
  simp only [Nat.add_sub_cancel] at h4 ⊢
  rw [ascB, decide_eq_true_eq, h4, h3]
theorem XA.fin {l : List Ent} (z : XA l) (hi : l.length ≤ z.i) : ascB l = true := by
  rw [ascB, decide_eq_true_eq, z.h.2.2]
  have : (l.drop (z.i - 1)).length ≤ 1 := by simp; omega
  match l.drop (z.i - 1), this with
  | [], _ => exact Srt.nil
  | [x], _ => exact Srt.nil.cons (by simp)
def tAsc : Tfm C0 := fun args H K => match args, H with
  | [.at (.slc 0)], [.row false .ent l] => K (.one (.at (vB (ascB l)))) [.row false EC.ent l] []
  | _, _ => False
noncomputable def aAsc (l : List Ent) : Ann C0 := { Γ := [], inv := fun n => match n with
  | 2 => some { X := XA l, sl := [3], tf := fun x => [vi .i64 x.i], hf := fun _ => [.row false EC.ent l], μ := fun x => l.length - x.i }
  | _ => none }
theorem getE_drop {l : List Ent} {i : Nat} {x : Ent} (h : l[i]? = some x) (q : Int) : getE (l.drop i) q = if x.1 = q then some x.2 else getE (l.drop (i + 1)) q := by
  rw [drop_cons h]; rfl
structure XGet (l : List Ent) (q : Int) where
  i : Nat
  h : i ≤ l.length ∧ getE l q = getE (l.drop i) q
noncomputable def aGet (l : List Ent) (q : Int) : Ann C0 := { Γ := [], inv := fun n => match n with
  | 2 => some { X := XGet l q, sl := [6], tf := fun x => [vi .i64 x.i], hf := fun _ => [.row false EC.ent l], μ := fun x => l.length - x.i }
  | _ => none }
def tGet : Tfm C0 := fun args H K => match args, H with
  | [.at (.slc 0), .at (.val (.int .i64 q))], [.row false .ent l] => ∀ x : Option Int, x = getE l q → K (.tup [.at (vI (x.getD 0)), .at (vB x.isSome)]) [.row false EC.ent l] []
  | _, _ => False
theorem vc_get (l : List Ent) (q : Int) (K : KT) (hmax : l.length ≤ 9223372036854775807) (h : ∀ x : Option Int, x = getE l q → K (.tup [.at (vI (x.getD 0)), .at (vB x.isSome)]) [.row false EC.ent l] []) :
    vc C0 (aGet l q) Try.f47 [.at (.slc 0), .at (.val (.int .i64 q))] [.row false EC.ent l] (normK 1 K) := by
  refine Eq.mp (show ((∃ x : XGet l q, (True ∧ (True ∧ ((Value.int IntKind.i64 (q)) = (Value.int IntKind.i64 (q))) ∧ ((Value.int IntKind.i64 0) = (Value.int IntKind.i64 ((↑x.i : Int)))) ∧ True) ∧ ((l) = (l)) ∧ True)) ∧
(∀ x : XGet l q, (True → (brS (decide ((↑x.i : Int) < (↑l.length : Int))) (((0 ≤ (↑x.i : Int)) ∧ ((↑x.i : Int) < (↑l.length : Int)) ∧ (brS ((eA l x.i).fst == q) (((0 ≤ (↑x.i : Int)) ∧ ((↑x.i : Int) < (↑l.length : Int)) ∧ (K (SV.tup [(TV.at (At.val (Value.int IntKind.i64 ((eA l x.i).snd)))), (TV.at (At.val (Value.bool true)))]) [(Chunk.row false (EC.ent) (l))] []))) ((∃ x' : XGet l q, (True ∧ ((True ∧ ((Value.int IntKind.i64 (q)) = (Value.int IntKind.i64 (q))) ∧ ((Value.int IntKind.i64 (IntKind.i64.wrap ((↑x.i : Int) + 1))) = (Value.int IntKind.i64 ((↑x'.i : Int)))) ∧ True) ∧ ((l) = (l)) ∧ True) ∧ (l.length - x'.i < l.length - x.i))))))) ((K (SV.tup [(TV.at (At.val (Value.int IntKind.i64 0))), (TV.at (At.val (Value.bool false)))]) [(Chunk.row false (EC.ent) (l))] [])))))) = _ by kernel_rfl) ?_
  refine ⟨⟨⟨0, Nat.zero_le _, rfl⟩, by simp⟩, fun x _ => brS_of (fun hi => ?_) fun hi => ?_⟩
  · have hi : x.i < l.length := by simpa using hi
    have hs := getE_drop (eA_get hi) q
    refine ⟨by omega, by omega, brS_of (fun hd => ⟨by omega, by omega, ?_⟩) fun hd => ?_⟩
    · have e : getE l q = some (eA l x.i).2 := by
        rw [x.h.2, hs, if_pos (by simpa using hd)]
      exact h (some _) e.symm
    · refine ⟨⟨x.i + 1, by omega, ?_⟩, trivial, ?_, ?_⟩
      · rw [x.h.2, hs, if_neg (by simpa using hd)]
      · rw [wrap_in (by omega) (by omega)]; simp
      · show l.length - (x.i + 1) < l.length - x.i
        omega
  · have hi : x.i = l.length := by have := x.h.1; simp at hi; omega
    have e : getE l q = none := by rw [x.h.2, hi, List.drop_length]; rfl
    exact h none e.symm
theorem s_get : SoundT C0 47 tGet := by
  refine .of Try.func47 (by decide) rfl fun args H K h hB => ?_
  unfold tGet at h
  split at h <;> try exact h.elim
  rename_i q l
  exact ⟨aGet l q, trivial, vc_get l q K (hB 0 _ _ _ rfl) h⟩
def outE (l : List Ent) (lo hi : Int) : List Ent := l.filter fun x => decide (x.1 < lo) || decide (hi < x.1)
structure XOut (l : List Ent) (lo hi : Int) where
  i : Nat
  h : i ≤ l.length
noncomputable def aOut (l : List Ent) (lo hi : Int) : Ann C0 := { Γ := [], inv := fun n => match n with
  | 3 => some { X := XOut l lo hi, sl := [8, 7], tf := fun x => [vi .i64 x.i, .one (.at (.slc 1))], hf := fun x => [.row false EC.ent l, .row true EC.ent (outE (l.take x.i) lo hi)], μ := fun x => l.length - x.i }
  | _ => none }
def tOut : Tfm C0 := fun args H K => match args, H with
  | [.at (.slc 0), .at (.val (.int .i64 lo)), .at (.val (.int .i64 hi))], [.row false .ent l] => l.length ≤ 1000000 ∧ K (.one (.at (.slc 1))) [.row false EC.ent l, .row true EC.ent (outE l lo hi)] []
  | _, _ => False
theorem outE_snoc {l : List Ent} {lo hi : Int} {i : Nat} {x : Ent} (h : l[i]? = some x) : outE (l.take (i + 1)) lo hi = outE (l.take i) lo hi ++ (if (decide (x.1 < lo) || decide (hi < x.1)) = true then [x] else []) := by
  rw [take_snoc h]
  unfold outE
  rw [List.filter_append]
  simp only [List.filter_cons, List.filter_nil]
theorem outE_len (l : List Ent) (lo hi : Int) (i : Nat) : (outE (l.take i) lo hi).length ≤ i := by
  unfold outE
  exact Nat.le_trans (List.length_filter_le _ _) (List.length_take_le _ _)
theorem vc_out (l : List Ent) (lo hi : Int) (K : KT) (hsm : l.length ≤ 1000000) (h : K (.one (.at (.slc 1))) [.row false EC.ent l, .row true EC.ent (outE l lo hi)] []) :
    vc C0 (aOut l lo hi) Try.f103 [.at (.slc 0), .at (.val (.int .i64 lo)), .at (.val (.int .i64 hi))] [.row false EC.ent l] (normK 1 K) := by
  refine Eq.mp (show ((∃ x : XOut l lo hi, (True ∧ (True ∧ ((Value.int IntKind.i64 (lo)) = (Value.int IntKind.i64 (lo))) ∧ ((Value.int IntKind.i64 (hi)) = (Value.int IntKind.i64 (hi))) ∧ True ∧ ((Value.int IntKind.i64 0) = (Value.int IntKind.i64 ((↑x.i : Int)))) ∧ True) ∧ ((l) = (l)) ∧ ([] = (outE (List.take x.i l) lo hi)) ∧ True)) ∧
(∀ x : XOut l lo hi, (True → (brS (decide ((↑x.i : Int) < (↑l.length : Int))) (((0 ≤ (↑x.i : Int)) ∧ ((↑x.i : Int) < (↑l.length : Int)) ∧ (brS (decide ((eA l x.i).fst < lo)) (((0 ≤ (↑x.i : Int)) ∧ ((↑x.i : Int) < (↑l.length : Int)) ∧ (((outE (List.take x.i l) lo hi).length + [((eA l x.i).fst, (eA l x.i).snd)].length) * bytesOf C0 EC.ent ≤ 140737488355328) ∧ (∃ x' : XOut l lo hi, (True ∧ ((True ∧ ((Value.int IntKind.i64 (lo)) = (Value.int IntKind.i64 (lo))) ∧ ((Value.int IntKind.i64 (hi)) = (Value.int IntKind.i64 (hi))) ∧ True ∧ ((Value.int IntKind.i64 (IntKind.i64.wrap ((↑x.i : Int) + 1))) = (Value.int IntKind.i64 ((↑x'.i : Int)))) ∧ True) ∧ ((l) = (l)) ∧ ((outE (List.take x.i l) lo hi ++ [((eA l x.i).fst, (eA l x.i).snd)]) = (outE (List.take x'.i l) lo hi)) ∧ True) ∧ (l.length - x'.i < l.length - x.i))))) (((0 ≤ (↑x.i : Int)) ∧ ((↑x.i : Int) < (↑l.length : Int)) ∧ (brS (decide ((eA l x.i).fst > hi)) (((0 ≤ (↑x.i : Int)) ∧ ((↑x.i : Int) < (↑l.length : Int)) ∧ (((outE (List.take x.i l) lo hi).length + [((eA l x.i).fst, (eA l x.i).snd)].length) * bytesOf C0 EC.ent ≤ 140737488355328) ∧ (∃ x' : XOut l lo hi, (True ∧ ((True ∧
    ((Value.int IntKind.i64 (lo)) = (Value.int IntKind.i64 (lo))) ∧ ((Value.int IntKind.i64 (hi)) = (Value.int IntKind.i64 (hi))) ∧ True ∧ ((Value.int IntKind.i64 (IntKind.i64.wrap ((↑x.i : Int) + 1))) = (Value.int IntKind.i64 ((↑x'.i : Int)))) ∧ True) ∧ ((l) = (l)) ∧ ((outE (List.take x.i l) lo hi ++ [((eA l x.i).fst, (eA l x.i).snd)]) = (outE (List.take x'.i l) lo hi)) ∧ True) ∧ (l.length - x'.i < l.length - x.i))))) ((∃ x' : XOut l lo hi, (True ∧ ((True ∧ ((Value.int IntKind.i64 (lo)) = (Value.int IntKind.i64 (lo))) ∧ ((Value.int IntKind.i64 (hi)) = (Value.int IntKind.i64 (hi))) ∧ True ∧ ((Value.int IntKind.i64 (IntKind.i64.wrap ((↑x.i : Int) + 1))) = (Value.int IntKind.i64 ((↑x'.i : Int)))) ∧ True) ∧ ((l) = (l)) ∧ ((outE (List.take x.i l) lo hi) = (outE (List.take x'.i l) lo hi)) ∧ True) ∧ (l.length - x'.i < l.length - x.i)))))))))) ((K (SV.one (TV.at (At.slc 1))) [(Chunk.row false (EC.ent) (l)), (Chunk.row true (EC.ent) (outE (List.take x.i l) lo hi))] [])))))) = _ by kernel_rfl) ?_
  refine ⟨⟨⟨0, Nat.zero_le _⟩, by simp [outE]⟩, fun x _ => brS_of (fun hi' => ?_) fun hi' => ?_⟩
  · have hi' : x.i < l.length := by simpa using hi'
    have hx := eA_get hi'
    have hs := outE_snoc (lo := lo) (hi := hi) hx
    have hlen := outE_len l lo hi x.i
    have nx : XOut l lo hi := ⟨x.i + 1, by omega⟩
    have w1 : IntKind.i64.wrap ((x.i : Int) + 1) = ((x.i + 1 : Nat) : Int) := by rw [wrap_in (by omega) (by omega)]; simp
    simp only [w1, bytes_ent]
    refine ⟨by omega, by omega, brS_of (fun h1 => ⟨by omega, by omega, ?_, ⟨⟨x.i + 1, by omega⟩, ?_⟩⟩) fun h1 => ⟨by omega, by omega, brS_of (fun h2 => ⟨by omega, by omega, ?_, ⟨⟨x.i + 1, by omega⟩, ?_⟩⟩) fun h2 => ⟨⟨x.i + 1, by omega⟩, ?_⟩⟩⟩
    · simp; omega
    · rw [if_pos (by simp only [decide_eq_true_eq] at h1; simp [h1])] at hs
      simp [hs]; omega
    · simp; omega
    · rw [if_pos (by simp only [decide_eq_true_eq] at h2; simp; omega)] at hs
      simp [hs]; omega
    · rw [if_neg (by simp only [decide_eq_false_iff_not] at h1 h2; simp; omega)] at hs
      simp [hs]; omega
  · have hi' : x.i = l.length := by have := x.h; simp at hi'; omega
    rw [hi', List.take_length]
    exact h
theorem s_out : SoundT C0 103 tOut := by
  refine .of Try.func103 (by decide) rfl fun args H K h hB => ?_
  unfold tOut at h
  split at h <;> try exact h.elim
  rename_i lo hi l
  exact ⟨aOut l lo hi, trivial, vc_out l lo hi K h.1 h.2⟩
structure XIns (l : List Ent) (e : Ent) where
  i : Nat
  acc : List Ent
  put : Bool
  h : i ≤ l.length ∧ acc.length ≤ i + put.toNat ∧ insE l e = acc ++ insGo e put (l.drop i)
noncomputable def aIns (l : List Ent) (e : Ent) : Ann C0 := { Γ := [], inv := fun n => match n with
  | 4 => some { X := XIns l e, sl := [7, 6, 5, 3], tf := fun x => [vi .i64 x.i, vb x.put, .one (.at (.slc 2)), .one (.at (.ptr 1 0))], hf := fun x => [.row false EC.ent l, .box [vI e.1, vI e.2], .row true EC.ent x.acc], μ := fun x => l.length - x.i }
  | _ => none }
def tIns : Tfm C0 := fun args H K => match args, H with
  | [.at (.slc 0), .agg [.val (.int .i64 k), .val (.int .i64 v)]], [.row false .ent l] => l.length ≤ 1000000 ∧ K (.one (.at (.slc 1))) [.row false EC.ent l, .row true EC.ent (insE l (k, v))] []
  | _, _ => False
theorem insGo_step {e x : Ent} {put : Bool} {l : List Ent} {i : Nat} (h : l[i]? = some x) : insGo e put (l.drop i) = (if !put && decide (e.1 ≤ x.1) then [e] else []) ++ ((if x.1 = e.1 then [] else [x]) ++ insGo e (put || decide (e.1 ≤ x.1)) (l.drop (i + 1))) := by
  rw [drop_cons h, insGo]
theorem XIns.next {l : List Ent} {e : Ent} (z : XIns l e) {x : Ent} (hx : l[z.i]? = some x) {put' : Bool} {acc' : List Ent} (hp : put' = (z.put || decide (e.1 ≤ x.1)))
    (ha : acc' = z.acc ++ ((if !z.put && decide (e.1 ≤ x.1) then [e] else []) ++ (if x.1 = e.1 then [] else [x]))) : ∃ z' : XIns l e, z'.i = z.i + 1 ∧ z'.put = put' ∧ z'.acc = acc' := by
  have h1 := (List.getElem?_eq_some_iff.1 hx).1
  obtain ⟨hi, hl, he⟩ := z.h
  rw [insGo_step hx] at he
  refine ⟨⟨z.i + 1, acc', put', by omega, ?_, ?_⟩, rfl, rfl, rfl⟩
  · subst hp ha
    have h2 : (if x.1 = e.1 then ([] : List Ent) else [x]).length ≤ 1 := by split <;> simp
    cases hz : z.put <;> rw [hz] at hl <;> by_cases hc : e.1 ≤ x.1 <;> simp [hc] at hl ⊢ <;> omega
  · subst hp ha
    rw [he]; simp only [List.append_assoc]
theorem XIns.fin {l : List Ent} {e : Ent} (z : XIns l e) (h : z.i = l.length) : insE l e = z.acc ++ (if z.put then [] else [e]) := by
  rw [z.h.2.2, h, List.drop_length]; rfl
theorem vc_ins (l : List Ent) (k v : Int) (K : KT) (hsm : l.length ≤ 1000000) (h : K (.one (.at (.slc 1))) [.row false EC.ent l, .row true EC.ent (insE l (k, v))] []) :
    vc C0 (aIns l (k, v)) Try.f60 [.at (.slc 0), .agg [.val (.int .i64 k), .val (.int .i64 v)]] [.row false EC.ent l] (normK 1 K) := by
  refine Eq.mp (show ((∃ x : XIns l (k, v), (True ∧ (True ∧ True ∧ True ∧ ((Value.bool false) = (Value.bool (x.put))) ∧ ((Value.int IntKind.i64 0) = (Value.int IntKind.i64 ((↑x.i : Int)))) ∧ True) ∧ ((l) = (l)) ∧ (((Value.int IntKind.i64 (k)) = (Value.int IntKind.i64 (k))) ∧ ((Value.int IntKind.i64 (v)) = (Value.int IntKind.i64 (v))) ∧ True) ∧ ([] = (x.acc)) ∧ True)) ∧
(∀ x : XIns l (k, v), (True → (brS (decide ((↑x.i : Int) < (↑l.length : Int))) ((brS (!x.put) (((0 ≤ (↑x.i : Int)) ∧ ((↑x.i : Int) < (↑l.length : Int)) ∧ (brS (decide ((eA l x.i).fst ≥ k)) ((((x.acc.length + [(k, v)].length) * bytesOf C0 EC.ent ≤ 140737488355328) ∧ (0 ≤ (↑x.i : Int)) ∧ ((↑x.i : Int) < (↑l.length : Int)) ∧ (brS ((eA l x.i).fst != k) (((0 ≤ (↑x.i : Int)) ∧ ((↑x.i : Int) < (↑l.length : Int)) ∧ (((x.acc ++ [(k, v)]).length + [((eA l x.i).fst, (eA l x.i).snd)].length) * bytesOf C0 EC.ent ≤ 140737488355328) ∧ (∃ x' : XIns l (k, v), (True ∧ ((True ∧ True ∧ True ∧ ((Value.bool true) = (Value.bool (x'.put))) ∧ ((Value.int IntKind.i64 (IntKind.i64.wrap ((↑x.i : Int) + 1))) = (Value.int IntKind.i64 ((↑x'.i : Int)))) ∧ True) ∧ ((l) = (l)) ∧ (((Value.int IntKind.i64 (k)) = (Value.int IntKind.i64 (k))) ∧ ((Value.int IntKind.i64 (v)) = (Value.int IntKind.i64 (v))) ∧ True) ∧ ((x.acc ++ [(k, v)] ++ [((eA l x.i).fst, (eA l x.i).snd)]) = (x'.acc)) ∧ True) ∧ (l.length - x'.i < l.length - x.i))))) ((∃ x' : XIns l (k, v), (True ∧ ((True ∧ True ∧ True ∧ ((Value.bool true) = (Value.bool (x'.put))) ∧
    ((Value.int IntKind.i64 (IntKind.i64.wrap ((↑x.i : Int) + 1))) = (Value.int IntKind.i64 ((↑x'.i : Int)))) ∧ True) ∧ ((l) = (l)) ∧ (((Value.int IntKind.i64 (k)) = (Value.int IntKind.i64 (k))) ∧ ((Value.int IntKind.i64 (v)) = (Value.int IntKind.i64 (v))) ∧ True) ∧ ((x.acc ++ [(k, v)]) = (x'.acc)) ∧ True) ∧ (l.length - x'.i < l.length - x.i))))))) (((0 ≤ (↑x.i : Int)) ∧ ((↑x.i : Int) < (↑l.length : Int)) ∧ (brS ((eA l x.i).fst != k) (((0 ≤ (↑x.i : Int)) ∧ ((↑x.i : Int) < (↑l.length : Int)) ∧ ((x.acc.length + [((eA l x.i).fst, (eA l x.i).snd)].length) * bytesOf C0 EC.ent ≤ 140737488355328) ∧ (∃ x' : XIns l (k, v), (True ∧ ((True ∧ True ∧ True ∧ ((Value.bool (x.put)) = (Value.bool (x'.put))) ∧ ((Value.int IntKind.i64 (IntKind.i64.wrap ((↑x.i : Int) + 1))) = (Value.int IntKind.i64 ((↑x'.i : Int)))) ∧ True) ∧ ((l) = (l)) ∧ (((Value.int IntKind.i64 (k)) = (Value.int IntKind.i64 (k))) ∧ ((Value.int IntKind.i64 (v)) = (Value.int IntKind.i64 (v))) ∧ True) ∧ ((x.acc ++ [((eA l x.i).fst, (eA l x.i).snd)]) = (x'.acc)) ∧ True) ∧ (l.length - x'.i < l.length - x.i))))) ((∃ x' : XIns l (k, v), (True ∧ ((True ∧ True ∧ True ∧ ((Value.bool (x.put)) = (Value.bool (x'.put))) ∧ ((Value.int IntKind.i64 (IntKind.i64.wrap ((↑x.i : Int) + 1))) = (Value.int IntKind.i64 ((↑x'.i : Int)))) ∧ True) ∧ ((l) = (l)) ∧ (((Value.int IntKind.i64 (k)) = (Value.int IntKind.i64 (k))) ∧ ((Value.int IntKind.i64 (v)) = (Value.int IntKind.i64 (v))) ∧ True) ∧ ((x.acc) = (x'.acc)) ∧ True) ∧
    (l.length - x'.i < l.length - x.i)))))))))) (((0 ≤ (↑x.i : Int)) ∧ ((↑x.i : Int) < (↑l.length : Int)) ∧ (brS ((eA l x.i).fst != k) (((0 ≤ (↑x.i : Int)) ∧ ((↑x.i : Int) < (↑l.length : Int)) ∧ ((x.acc.length + [((eA l x.i).fst, (eA l x.i).snd)].length) * bytesOf C0 EC.ent ≤ 140737488355328) ∧ (∃ x' : XIns l (k, v), (True ∧ ((True ∧ True ∧ True ∧ ((Value.bool (x.put)) = (Value.bool (x'.put))) ∧ ((Value.int IntKind.i64 (IntKind.i64.wrap ((↑x.i : Int) + 1))) = (Value.int IntKind.i64 ((↑x'.i : Int)))) ∧ True) ∧ ((l) = (l)) ∧ (((Value.int IntKind.i64 (k)) = (Value.int IntKind.i64 (k))) ∧ ((Value.int IntKind.i64 (v)) = (Value.int IntKind.i64 (v))) ∧ True) ∧ ((x.acc ++ [((eA l x.i).fst, (eA l x.i).snd)]) = (x'.acc)) ∧ True) ∧ (l.length - x'.i < l.length - x.i))))) ((∃ x' : XIns l (k, v), (True ∧ ((True ∧ True ∧ True ∧ ((Value.bool (x.put)) = (Value.bool (x'.put))) ∧ ((Value.int IntKind.i64 (IntKind.i64.wrap ((↑x.i : Int) + 1))) = (Value.int IntKind.i64 ((↑x'.i : Int)))) ∧ True) ∧ ((l) = (l)) ∧ (((Value.int IntKind.i64 (k)) = (Value.int IntKind.i64 (k))) ∧ ((Value.int IntKind.i64 (v)) = (Value.int IntKind.i64 (v))) ∧ True) ∧ ((x.acc) = (x'.acc)) ∧ True) ∧ (l.length - x'.i < l.length - x.i))))))))) ((brS (!x.put) ((((x.acc.length + [(k, v)].length) * bytesOf C0 EC.ent ≤ 140737488355328) ∧ (K (SV.one (TV.at (At.slc 1))) [(Chunk.row false (EC.ent) (l)), (Chunk.row true (EC.ent) (x.acc ++ [(k, v)]))] [])))
    ((K (SV.one (TV.at (At.slc 1))) [(Chunk.row false (EC.ent) (l)), (Chunk.row true (EC.ent) (x.acc))] [])))))))) = _ by kernel_rfl) ?_
  refine ⟨⟨⟨0, [], false, Nat.zero_le _, by simp, by simp⟩, by simp⟩, fun x _ => brS_of (fun hi => ?_) fun hi => ?_⟩
  · have hi : x.i < l.length := by simpa using hi
    have hx := eA_get hi
    have hlen := x.h.2.1
    have hpt : x.put.toNat ≤ 1 := by cases x.put <;> decide
    have w1 : IntKind.i64.wrap ((x.i : Int) + 1) = ((x.i + 1 : Nat) : Int) := by rw [wrap_in (by omega) (by omega)]; simp
    simp only [w1, bytes_ent]
    have go : ∀ (put' : Bool) (acc' : List Ent), put' = (x.put || decide (k ≤ (eA l x.i).1)) → acc' = x.acc ++ ((if !x.put && decide (k ≤ (eA l x.i).1) then [(k, v)] else []) ++ (if (eA l x.i).1 = k then [] else [eA l x.i])) →
        ∃ z' : XIns l (k, v), z'.i = x.i + 1 ∧ z'.put = put' ∧ z'.acc = acc' := fun put' acc' hp ha => x.next hx hp ha
    refine brS_of (fun hp => ⟨by omega, by omega, brS_of (fun hc => ⟨?_, by omega, by omega, brS_of (fun hn => ⟨by omega, by omega, ?_, ?_⟩) fun hn => ?_⟩) fun hc => ⟨by omega, by omega, brS_of (fun hn => ⟨by omega, by omega, ?_, ?_⟩) fun hn => ?_⟩⟩) fun hp => ⟨by omega, by omega, brS_of (fun hn => ⟨by omega, by omega, ?_, ?_⟩) fun hn => ?_⟩
    all_goals try simp only [decide_eq_true_eq, decide_eq_false_iff_not, bne_iff_ne, ne_eq, Bool.not_eq_true', Bool.not_eq_false', bne_eq_false_iff_eq, ge_iff_le] at *
    all_goals first
      | (simp; omega)
      | (obtain ⟨z', e1, e2, e3⟩ := go _ _ rfl rfl
         refine ⟨z', ?_⟩
         simp [*]
         omega)
  · have hi : x.i = l.length := by have := x.h.1; simp at hi; omega
    have hf := x.fin hi
    have hlen := x.h.2.1
    have hpt : x.put.toNat ≤ 1 := by cases x.put <;> decide
    refine brS_of (fun hp => ⟨?_, ?_⟩) fun hp => ?_
    · simp [bytes_ent]; omega
    · simp at hp; rw [hp] at hf; simp at hf; rw [hf] at h; exact h
    · simp at hp; rw [hp] at hf; simp at hf; rw [hf] at h; exact h
theorem s_ins : SoundT C0 60 tIns := by
  refine .of Try.func60 (by decide) rfl fun args H K h hB => ?_
  unfold tIns at h
  split at h <;> try exact h.elim
  rename_i k v l
  exact ⟨aIns l (k, v), trivial, vc_ins l k v K h.1 h.2⟩
noncomputable def aDel : Ann C0 := { Γ := [(103, frameT [] tOut)] }
def tDel : Tfm C0 := fun args H K => match args, H with
  | [.at (.slc 0), .at (.val (.int .i64 q))], [.row false .ent l] => l.length ≤ 1000000 ∧ K (.one (.at (.slc 1))) [.row false EC.ent l, .row true EC.ent (outE l q q)] []
  | _, _ => False
theorem vc_del (l : List Ent) (q : Int) (K : KT) (h1 : l.length ≤ 1000000) (h2 : K (.one (.at (.slc 1))) [.row false EC.ent l, .row true EC.ent (outE l q q)] []) :
    vc C0 aDel Try.f58 [.at (.slc 0), .at (.val (.int .i64 q))] [.row false EC.ent l] (normK 1 K) := by
  have e : ((l.length ≤ 1000000) ∧
(K (SV.one (TV.at (At.slc 1))) [(Chunk.row false (EC.ent) (l)), (Chunk.row true (EC.ent) (outE l q q))] [])) = vc C0 aDel Try.f58 [.at (.slc 0), .at (.val (.int .i64 q))] [.row false EC.ent l] (normK 1 K) := by kernel_rfl
  rw [← e]
  exact ⟨h1, h2⟩
theorem s_del : SoundT C0 58 tDel := by
  refine .of Try.func58 (by decide) rfl fun args H K h hB => ?_
  unfold tDel at h
  split at h <;> try exact h.elim
  rename_i q l
  have hG : GOK C0 aDel.Γ := ⟨frame C0.ok s_out _, trivial⟩
  exact ⟨aDel, hG, vc_del l q K h.1 h.2⟩
structure XLst (l : List Ent) (most : Int) where
  i : Nat
  h : i ≤ l.length ∧ (i : Int) ≤ most
noncomputable def aLst (l : List Ent) (most : Int) : Ann C0 := { Γ := [(60, frameT [] tIns)], inv := fun n => match n with
  | 3 => some { X := XLst l most, sl := [6, 5], tf := fun x => [vi .i64 x.i, .one (.at (.slc 1))], hf := fun x => [.row false EC.ent l, .row true EC.ent (listE l x.i)], μ := fun x => l.length - x.i }
  | _ => none }
def tLst : Tfm C0 := fun args H K => match args, H with
  | [.at (.slc 0), .at (.val (.int .i64 most))], [.row false .ent l] => 0 ≤ most ∧ most ≤ 1000000 ∧ K (.one (.at (.slc 1))) [.row false EC.ent l, .row true EC.ent (listE l most.toNat)] []
  | _, _ => False
theorem listE_snoc {l : List Ent} {i : Nat} {x : Ent} (h : l[i]? = some x) : listE l (i + 1) = insE (listE l i) x := by
  unfold listE
  rw [take_snoc h]
  simp
theorem listE_full {l : List Ent} {n : Nat} (h : l.length ≤ n) : listE l n = listE l l.length := by
  unfold listE
  rw [List.take_of_length_le h, List.take_of_length_le (Nat.le_refl _)]
theorem vc_lst (l : List Ent) (most : Int) (K : KT) (hmax : l.length ≤ 9223372036854775807) (h0 : 0 ≤ most) (h1 : most ≤ 1000000) (h : K (.one (.at (.slc 1))) [.row false EC.ent l, .row true EC.ent (listE l most.toNat)] []) :
    vc C0 (aLst l most) Try.f36 [.at (.slc 0), .at (.val (.int .i64 most))] [.row false EC.ent l] (normK 1 K) := by
  refine Eq.mp (show ((∃ x : XLst l most, (True ∧ (True ∧ ((Value.int IntKind.i64 (most)) = (Value.int IntKind.i64 (most))) ∧ True ∧ ((Value.int IntKind.i64 0) = (Value.int IntKind.i64 ((↑x.i : Int)))) ∧ True) ∧ ((l) = (l)) ∧ ([] = (listE l x.i)) ∧ True)) ∧
(∀ x : XLst l most, (True → (brS (decide ((↑x.i : Int) < (↑l.length : Int))) ((brS (decide ((↑x.i : Int) < most)) (((0 ≤ (↑x.i : Int)) ∧ ((↑x.i : Int) < (↑l.length : Int)) ∧ ((listE l x.i).length ≤ 1000000) ∧ (∃ x' : XLst l most, (True ∧ ((True ∧ ((Value.int IntKind.i64 (most)) = (Value.int IntKind.i64 (most))) ∧ True ∧ ((Value.int IntKind.i64 (IntKind.i64.wrap ((↑x.i : Int) + 1))) = (Value.int IntKind.i64 ((↑x'.i : Int)))) ∧ True) ∧ ((l) = (l)) ∧ ((insE (listE l x.i) ((eA l x.i).fst, (eA l x.i).snd)) = (listE l x'.i)) ∧ True) ∧ (l.length - x'.i < l.length - x.i))))) ((K (SV.one (TV.at (At.slc 1))) [(Chunk.row false (EC.ent) (l)), (Chunk.row true (EC.ent) (listE l x.i))] [])))) ((K (SV.one (TV.at (At.slc 1))) [(Chunk.row false (EC.ent) (l)), (Chunk.row true (EC.ent) (listE l x.i))] [])))))) = _ by kernel_rfl) ?_
  refine ⟨⟨⟨0, Nat.zero_le _, h0⟩, by simp [listE]⟩, fun x _ => brS_of (fun hi => brS_of (fun hm => ?_) fun hm => ?_) fun hi => ?_⟩
  · have hi : x.i < l.length := by simpa using hi
    have hm : (x.i : Int) < most := by simpa using hm
    have hs := listE_snoc (eA_get hi)
    have hlen := (listE_spec l x.i).2
    have w1 : IntKind.i64.wrap ((x.i : Int) + 1) = ((x.i + 1 : Nat) : Int) := by rw [wrap_in (by omega) (by omega)]; simp
    simp only [w1]
    refine ⟨by omega, by omega, by omega, ⟨x.i + 1, by omega, by omega⟩, ?_⟩
    simp [hs]; omega
  · have e : most.toNat = x.i := by have := x.h.2; simp at hm; omega
    rw [e] at h; exact h
  · have hi : x.i = l.length := by have := x.h.1; simp at hi; omega
    have := x.h.2
    rw [listE_full (n := most.toNat) (by omega), ← hi] at h; exact h
theorem s_lst : SoundT C0 36 tLst := by
  refine .of Try.func36 (by decide) rfl fun args H K h hB => ?_
  unfold tLst at h
  split at h <;> try exact h.elim
  rename_i most l
  exact ⟨aLst l most, ⟨frame C0.ok s_ins _, trivial⟩, vc_lst l most K (hB 0 _ _ _ rfl) h.1 h.2.1 h.2.2⟩
def tChoose : Tfm C0 := fun args H K => match args, H with
  | [.at (.val (.int .i64 p)), .at (.val (.int .i64 v)), .at (.val (.int .i64 w))], [] => ∀ x, x = chooseP p v w → K (.one (.at (vI x))) [] []
  | _, _ => False
def tMod : Tfm C0 := fun args H K => match args, H with
  | [.at (.val (.int .i64 k)), .at (.val (.int .i64 n))], [] => 0 < n ∧ n ≤ 9223372036854775807 ∧ ∀ x, x = k % n → K (.one (.at (vI x))) [] []
  | _, _ => False
theorem s_choose : SoundT C0 81 tChoose := by
  refine .of Try.func81 (by decide) rfl fun args H K h hB => ⟨A0, trivial, ?_⟩
  unfold tChoose at h
  split at h <;> try exact h.elim
  rename_i p v w
  have h := h _ rfl
  refine Eq.mp (show (brS (p == 1) ((K (SV.one (TV.at (At.val (Value.int IntKind.i64 (v))))) [] [])) ((brS (p == 2) ((K (SV.one (TV.at (At.val (Value.int IntKind.i64 (w))))) [] [])) ((brS (p == 3) ((K (SV.one (TV.at (At.val (Value.int IntKind.i64 (IntKind.i64.wrap (v + w)))))) [] [])) ((brS (p == 4) ((K (SV.one (TV.at (At.val (Value.int IntKind.i64 (if w < v then w else v))))) [] [])) ((K (SV.one (TV.at (At.val (Value.int IntKind.i64 (if w > v then w else v))))) [] []))))))))) = _ by kernel_rfl) ?_
  unfold chooseP at h
  refine brS_of (fun e => ?_) fun e => brS_of (fun e1 => ?_) fun e1 => brS_of (fun e2 => ?_) fun e2 => brS_of (fun e3 => ?_) fun e3 => ?_
  all_goals simp only [beq_iff_eq, beq_eq_false_iff_ne, ne_eq] at *
  · rw [if_pos e] at h; exact h
  · rw [if_neg e, if_pos e1] at h; exact h
  · rw [if_neg e, if_neg e1, if_pos e2] at h; rw [show IntKind.i64.wrap (v + w) = RowKit.wrap64 (v + w) from IntWalk.i64_left _]; exact h
  · rw [if_neg e, if_neg e1, if_neg e2, if_pos e3] at h; exact h
  · rw [if_neg e, if_neg e1, if_neg e2, if_neg e3] at h; exact h
theorem s_mod : SoundT C0 26 tMod := by
  refine .of Try.func26 (by decide) rfl fun args H K h hB => ⟨A0, trivial, ?_⟩
  unfold tMod at h
  split at h <;> try exact h.elim
  rename_i k n
  obtain ⟨h0, h1, h⟩ := h
  have h := h _ rfl
  refine Eq.mp (show ((n ≠ 0) ∧
(brS (decide (k.tmod n < 0)) ((K (SV.one (TV.at (At.val (Value.int IntKind.i64 (IntKind.i64.wrap (k.tmod n + n)))))) [] [])) ((K (SV.one (TV.at (At.val (Value.int IntKind.i64 (k.tmod n))))) [] [])))) = _ by kernel_rfl) ⟨by omega, brS_of (fun e => ?_) fun e => ?_⟩
  all_goals simp only [decide_eq_true_eq, decide_eq_false_iff_not] at e
  · have e1 : k.tmod n + n = k % n := by
      rw [Int.tmod_eq_emod] at e ⊢
      split at e <;> rename_i hc
      · have := Int.emod_nonneg k (show n ≠ 0 by omega); omega
      · rw [if_neg hc]
        have : (n.natAbs : Int) = n := by omega
        omega
    have h2 := Int.emod_nonneg k (show n ≠ 0 by omega)
    have h3 := Int.emod_lt_of_pos k h0
    rw [e1, wrap_in (by omega) (by omega)]; exact h
  · have e1 : k.tmod n = k % n := by
      rw [Int.tmod_eq_emod] at e ⊢
      split at e <;> rename_i hc
      · rw [if_pos hc]; omega
      · have h3 := Int.emod_lt_of_pos k h0
        have : (n.natAbs : Int) = n := by omega
        omega
    rw [e1]; exact h
structure XN (n : Nat) where
  i : Nat
  h : i ≤ n
def kF (xs : List Int) (l : List Ent) (i : Nat) : List Ent := keysOf (xs ++ (l.take i).map Prod.fst)
noncomputable def aKeys (l m n : List Ent) : Ann C0 := { Γ := [(60, frameT [] tIns)], inv := fun k => match k with
  | 3 => some { X := XN l.length, sl := [8, 7], tf := fun x => [vi .i64 x.i, .one (.at (.slc 3))], hf := fun x => [.row false EC.ent l, .row false EC.ent m, .row false EC.ent n, .row true EC.ent (kF [] l x.i)], μ := fun x => l.length - x.i }
  | 7 => some { X := XN m.length, sl := [9, 7], tf := fun x => [vi .i64 x.i, .one (.at (.slc 3))], hf := fun x => [.row false EC.ent l, .row false EC.ent m, .row false EC.ent n, .row true EC.ent (kF (l.map Prod.fst) m x.i)], μ := fun x => m.length - x.i }
  | 11 => some { X := XN n.length, sl := [10, 7], tf := fun x => [vi .i64 x.i, .one (.at (.slc 3))], hf := fun x => [.row false EC.ent l, .row false EC.ent m, .row false EC.ent n, .row true EC.ent (kF (l.map Prod.fst ++ m.map Prod.fst) n x.i)], μ := fun x => n.length - x.i }
  | 16 => some { X := XN (kF (l.map Prod.fst ++ m.map Prod.fst) n n.length).length, sl := [12, 7, 11], tf := fun x => [vi .i64 x.i, .one (.at (.slc 3)), .one (.at (.slc 4))], hf := fun x => [.row false EC.ent l, .row false EC.ent m, .row false EC.ent n, .row true EC.ent (kF (l.map Prod.fst ++ m.map Prod.fst) n n.length), .row true EC.i64 (((kF (l.map Prod.fst ++ m.map Prod.fst) n n.length).take x.i).map Prod.fst)], μ := fun x => (kF (l.map Prod.fst ++ m.map Prod.fst) n n.length).length - x.i }
  | _ => none }
def tKeys : Tfm C0 := fun args H K => match args, H with
  | [.at (.slc 0), .at (.slc 1), .at (.slc 2)], [.row false .ent l, .row false .ent m, .row false .ent n] => l.length + m.length + n.length ≤ 1000000 ∧ K (.one (.at (.slc 3))) [.row false EC.ent l, .row false EC.ent m, .row false EC.ent n, .row true EC.i64 (keys3 l m n)] []
  | _, _ => False
structure XU (l m : List Ent) (p : Int) where
  i : Nat
  h : i ≤ m.length
noncomputable def aUni (l m : List Ent) (p : Int) : Ann C0 := { rounds := fun n => if n = 3 then 1 else 0, Γ := [(60, frameT [] tIns), (47, frameT [] tGet), (81, frameT [] tChoose)], inv := fun k => match k with
  | 3 => some { X := XU l m p, sl := [8, 7], tf := fun x => [vi .i64 x.i, .one (.at (.slc 2))], hf := fun x => [.row false EC.ent l, .row false EC.ent m, .row true EC.ent (uniE l (m.take x.i) p)], μ := fun x => m.length - x.i }
  | _ => none }
def tUni : Tfm C0 := fun args H K => match args, H with
  | [.at (.slc 0), .at (.slc 1), .at (.val (.int .i64 p))], [.row false .ent l, .row false .ent m] => l.length + m.length ≤ 1000000 ∧ (m.length = 0 → K (.one (.at (.slc 0))) [.row false EC.ent l, .row false EC.ent m] []) ∧ K (.one (.at (.slc 2))) [.row false EC.ent l, .row false EC.ent m, .row true EC.ent (uniE l m p)] []
  | _, _ => False
def difD (k : Int) (a b : Option Int) : List Chg := match a with
  | none => [⟨1, k, 0, b.getD 0⟩]
  | some v => match b with
    | none => [⟨2, k, v, 0⟩]
    | some w => if v = w then [] else [⟨3, k, v, w⟩]
def dif1 (l m : List Ent) (k : Int) : List Chg := difD k (getE l k) (getE m k)
def difE (l m : List Ent) : List Chg := (keys3 l m []).flatMap (dif1 l m)
structure XDif (l m : List Ent) where
  i : Nat
  h : i ≤ (keys3 l m []).length
noncomputable def aDif (l m : List Ent) : Ann C0 := { Γ := [(17, frameT [] tKeys), (47, frameT [] tGet)], inv := fun k => match k with
  | 4 => some { X := XDif l m, sl := [7, 6, 5], tf := fun x => [vi .i64 x.i, .one (.at (.slc 2)), .one (.at (.slc 3))], hf := fun x => [.row false EC.ent l, .row false EC.ent m, .row true EC.i64 (keys3 l m []), .row true EC.chg (((keys3 l m []).take x.i).flatMap (dif1 l m))], μ := fun x => (keys3 l m []).length - x.i }
  | _ => none }
def tDif : Tfm C0 := fun args H K => match args, H with
  | [.at (.slc 0), .at (.slc 1)], [.row false .ent l, .row false .ent m] => l.length + m.length ≤ 1000000 ∧ K (.one (.at (.slc 2))) [.row false EC.ent l, .row false EC.ent m, .row true EC.chg (difE l m)] []
  | _, _ => False
theorem wrap_next {i n : Nat} (h1 : i < n) (h2 : n ≤ 1000000) : IntKind.i64.wrap ((i : Int) + 1) = ((i + 1 : Nat) : Int) := by rw [wrap_in (by omega) (by omega)]; simp
end Go.Proofs.Ytbonbaccmlomhaa.Sx
end
section
/- Planting trees: the statements' helpers. -/
namespace Go.Proofs.Ytbonbaccmlomhaa.Sx
open Go

/-KEEP Wf Kept makeS relA nxt decS NodeR exW inU live Arn.cap Arn.free balN PlantR maxSize mkNode-/
def tLeast : Tfm C0 := fun args H K => match args, H with
  | [.at (.val (.int .i64 n))], [] => 0 ≤ n ∧ n ≤ 1000000 ∧ ∀ x, x = n / 4 → K (.one (.at (vI x))) [] []
  | _, _ => False
def balB (l r : Int) : Bool := decide (balN l r)
def tBal : Tfm C0 := fun args H K => match args, H with
  | [.at (.val (.int .i64 l)), .at (.val (.int .i64 r))], [] => 0 ≤ l ∧ l ≤ 1000000 ∧ 0 ≤ r ∧ r ≤ 1000000 ∧ ∀ b, b = balB l r → K (.one (.at (vB b))) [] []
  | _, _ => False
structure XPv (n : Int) where
  lo : Int
  h : 0 ≤ lo ∧ lo < n ∧ balN lo (n - 1 - lo)
noncomputable def aPivot (n : Int) : Ann C0 := { Γ := [(129, frameT [] tLeast), (130, frameT [] tBal)], inv := fun k => match k with
  | 2 => some { X := XPv n, sl := [5], tf := fun x => [vi .i64 x.lo], hf := fun _ => [], μ := fun x => x.lo.toNat }
  | 4 => some { X := XPv n, sl := [5], tf := fun x => [vi .i64 x.lo], hf := fun _ => [], μ := fun x => (n - x.lo).toNat }
  | _ => none }
def tPivot : Tfm C0 := fun args H K => match args, H with
  | [.at (.val (.int .i64 n)), .at (.val (.int .u64 t))], [] => 1 ≤ n ∧ n ≤ 100000 ∧ 0 ≤ t ∧ ∀ p, 0 ≤ p → p < n → balN p (n - 1 - p) → K (.one (.at (vI p))) [] []
  | _, _ => False
def tPlant (n : Nat) : Tfm C0 := fun args H K => match args with
  | [.at (.ptr 0 0), .at (.slc 7), .at (.val (.int .u64 t))] => arMr H fun S rest => match rest with
    | [.row false .ent l] => ∃ hs, Wf S hs ∧ l.length < n ∧ l.length ≤ 100000 ∧ (l.length : Int) ≤ S.free ∧ hs.length + l.length ≤ 900000000 ∧ 0 ≤ t ∧ ∀ S' i, PlantR S hs l S' i → K (.tup [.at (vU i), .at (vB true)]) (chS S' ++ [.row false EC.ent l]) W7
    | _ => False
  | _ => False
noncomputable def aPlant (n : Nat) : Ann C0 := { Γ := [(99, frameT [] tPivot), (51, frameT [] (tPlant n)), (100, frameT [] tMakeOk), (25, frameT [] tGive)] }
theorem vc_least (n : Int) (K : KT) (h1 : 0 ≤ n) (h2 : n ≤ 1000000) (h : ∀ x, x = n / 4 → K (.one (.at (vI x))) [] []) : vc C0 A0 Try.f129 [.at (vI n)] [] (normK 0 K) := by
  refine Eq.mp (show (K (SV.one (TV.at (At.val (Value.int IntKind.i64 (IntKind.i64.wrap ((if n > 0 then n else 0).tdiv 4)))))) [] []) = _ by kernel_rfl) ?_
  have e : (if n > 0 then n else 0) = n := by split <;> omega
  rw [e, Int.tdiv_eq_ediv_of_nonneg h1, wrap_id (by omega) (by omega)]
  exact h _ rfl
theorem s_least : SoundT C0 129 tLeast := by
  refine .of Try.func129 (by decide) rfl fun args H K h hB => ?_
  unfold tLeast at h
  split at h <;> try exact h.elim
  rename_i n
  exact ⟨A0, trivial, vc_least n K h.1 h.2.1 h.2.2⟩
theorem vc_bal (l r : Int) (K : KT) (h1 : 0 ≤ l) (h2 : l ≤ 1000000) (h3 : 0 ≤ r) (h4 : r ≤ 1000000) (h : ∀ b, b = balB l r → K (.one (.at (vB b))) [] []) : vc C0 A0 Try.f130 [.at (vI l), .at (vI r)] [] (normK 0 K) := by
  refine Eq.mp (show (brS (decide (l < 0)) ((K (SV.one (TV.at (At.val (Value.bool false)))) [] [])) ((brS (decide (l > 2147483647)) ((K (SV.one (TV.at (At.val (Value.bool false)))) [] [])) ((brS (decide (r < 0)) ((K (SV.one (TV.at (At.val (Value.bool false)))) [] [])) ((brS (decide (r > 2147483647)) ((K (SV.one (TV.at (At.val (Value.bool false)))) [] [])) ((brS (decide (IntKind.i64.wrap (l + 1) ≤ IntKind.i64.wrap (3 * IntKind.i64.wrap (r + 1)))) ((K (SV.one (TV.at (At.val (Value.bool (decide (IntKind.i64.wrap (r + 1) ≤ IntKind.i64.wrap (3 * IntKind.i64.wrap (l + 1)))))))) [] [])) ((K (SV.one (TV.at (At.val (Value.bool false)))) [] []))))))))))) = _ by kernel_rfl) ?_
  rw [wrap_id (x := l + 1) (by omega) (by omega), wrap_id (x := r + 1) (by omega) (by omega), wrap_id (x := 3 * (l + 1)) (by omega) (by omega), wrap_id (x := 3 * (r + 1)) (by omega) (by omega)]
  refine brS_of (fun c => ?_) fun _ => brS_of (fun c => ?_) fun _ => brS_of (fun c => ?_) fun _ => brS_of (fun c => ?_) fun _ => brS_of (fun c => ?_) fun c => ?_
  · have := of_decide_eq_true c; omega
  · have : l > 2147483647 := of_decide_eq_true c; omega
  · have := of_decide_eq_true c; omega
  · have : r > 2147483647 := of_decide_eq_true c; omega
  · have c : l + 1 ≤ 3 * (r + 1) := of_decide_eq_true c
    exact h _ (by unfold balB balN; simp [c])
  · have c : ¬ l + 1 ≤ 3 * (r + 1) := of_decide_eq_false c
    exact h _ (by unfold balB balN; simp [c])
theorem s_bal : SoundT C0 130 tBal := by
  refine .of Try.func130 (by decide) rfl fun args H K h hB => ?_
  unfold tBal at h
  split at h <;> try exact h.elim
  rename_i l r
  exact ⟨A0, trivial, vc_bal l r K h.1 h.2.1 h.2.2.1 h.2.2.2.1 h.2.2.2.2⟩
theorem vc_pivot (n t : Int) (K : KT) (h1 : 1 ≤ n) (h2 : n ≤ 100000) (h3 : 0 ≤ t) (h : ∀ p, 0 ≤ p → p < n → balN p (n - 1 - p) → K (.one (.at (vI p))) [] []) :
    vc C0 (aPivot n) Try.f99 [.at (vI n), .at (vU64 t)] [] (normK 0 K) := by
  refine Eq.mp (show ((0 ≤ n) ∧
(n ≤ 1000000) ∧
(∀ x : Int, (((x) = (n / 4)) → ((∃ x1 : XPv n, (True ∧ (((Value.int IntKind.i64 (n)) = (Value.int IntKind.i64 (n))) ∧ ((Value.int IntKind.u64 (t)) = (Value.int IntKind.u64 (t))) ∧ ((Value.int IntKind.i64 (x)) = (Value.int IntKind.i64 (x1.lo))) ∧ True) ∧ True)) ∧ (∀ x1 : XPv n, (True → (brS (decide (x1.lo > 0)) (((0 ≤ IntKind.i64.wrap (x1.lo - 1)) ∧ (IntKind.i64.wrap (x1.lo - 1) ≤ 1000000) ∧ (0 ≤ IntKind.i64.wrap (n - x1.lo)) ∧ (IntKind.i64.wrap (n - x1.lo) ≤ 1000000) ∧ (∀ b : Bool, (((b) = (balB (IntKind.i64.wrap (x1.lo - 1)) (IntKind.i64.wrap (n - x1.lo)))) → (brS (b) ((∃ x' : XPv n, (True ∧ ((((Value.int IntKind.i64 (n)) = (Value.int IntKind.i64 (n))) ∧ ((Value.int IntKind.u64 (t)) = (Value.int IntKind.u64 (t))) ∧ ((Value.int IntKind.i64 (IntKind.i64.wrap (x1.lo - 1))) = (Value.int IntKind.i64 (x'.lo))) ∧ True) ∧ True) ∧ (x'.lo.toNat < x1.lo.toNat)))) (((∃ x2 : XPv n, (True ∧ (((Value.int IntKind.i64 (n)) = (Value.int IntKind.i64 (n))) ∧ ((Value.int IntKind.u64 (t)) = (Value.int IntKind.u64 (t))) ∧ ((Value.int IntKind.i64 (x1.lo)) = (Value.int IntKind.i64 (x2.lo))) ∧ True) ∧ True)) ∧ (∀ x2 : XPv n, (True → (brS (decide (x2.lo < IntKind.i64.wrap (n - 1))) (((0 ≤ x2.lo) ∧ (x2.lo ≤ 1000000) ∧ (0 ≤ IntKind.i64.wrap (IntKind.i64.wrap (n - 1) - x2.lo)) ∧ (IntKind.i64.wrap (IntKind.i64.wrap (n - 1) - x2.lo) ≤ 1000000) ∧ (∀ b1 : Bool, (((b1) = (balB x2.lo (IntKind.i64.wrap (IntKind.i64.wrap (n - 1) - x2.lo)))) → (brS (!b1) ((∃ x' : XPv n, (True ∧
    ((((Value.int IntKind.i64 (n)) = (Value.int IntKind.i64 (n))) ∧ ((Value.int IntKind.u64 (t)) = (Value.int IntKind.u64 (t))) ∧ ((Value.int IntKind.i64 (IntKind.i64.wrap (x2.lo + 1))) = (Value.int IntKind.i64 (x'.lo))) ∧ True) ∧ True) ∧ ((n - x'.lo).toNat < (n - x2.lo).toNat)))) ((brS (decide (IntKind.i64.wrap (IntKind.i64.wrap (n - 1) - x2.lo) < x2.lo)) ((K (SV.one (TV.at (At.val (Value.int IntKind.i64 (IntKind.i64.wrap (n.tdiv 2)))))) [] [])) (((IntKind.u64.wrap (IntKind.i64.wrap (IntKind.i64.wrap (IntKind.i64.wrap (IntKind.i64.wrap (n - 1) - x2.lo) - x2.lo) + 1)) ≠ 0) ∧ (K (SV.one (TV.at (At.val (Value.int IntKind.i64 (IntKind.i64.wrap (x2.lo + IntKind.i64.wrap (t.tmod (IntKind.u64.wrap (IntKind.i64.wrap (IntKind.i64.wrap (IntKind.i64.wrap (IntKind.i64.wrap (n - 1) - x2.lo) - x2.lo) + 1)))))))))) [] [])))))))))) ((brS (decide (IntKind.i64.wrap (IntKind.i64.wrap (n - 1) - x2.lo) < x2.lo)) ((K (SV.one (TV.at (At.val (Value.int IntKind.i64 (IntKind.i64.wrap (n.tdiv 2)))))) [] [])) (((IntKind.u64.wrap (IntKind.i64.wrap (IntKind.i64.wrap (IntKind.i64.wrap (IntKind.i64.wrap (n - 1) - x2.lo) - x2.lo) + 1)) ≠ 0) ∧ (K (SV.one (TV.at (At.val (Value.int IntKind.i64 (IntKind.i64.wrap (x2.lo + IntKind.i64.wrap (t.tmod (IntKind.u64.wrap (IntKind.i64.wrap (IntKind.i64.wrap (IntKind.i64.wrap (IntKind.i64.wrap (n - 1) - x2.lo) - x2.lo) + 1)))))))))) [] []))))))))))))))) (((∃ x2 : XPv n, (True ∧ (((Value.int IntKind.i64 (n)) = (Value.int IntKind.i64 (n))) ∧
    ((Value.int IntKind.u64 (t)) = (Value.int IntKind.u64 (t))) ∧ ((Value.int IntKind.i64 (x1.lo)) = (Value.int IntKind.i64 (x2.lo))) ∧ True) ∧ True)) ∧ (∀ x2 : XPv n, (True → (brS (decide (x2.lo < IntKind.i64.wrap (n - 1))) (((0 ≤ x2.lo) ∧ (x2.lo ≤ 1000000) ∧ (0 ≤ IntKind.i64.wrap (IntKind.i64.wrap (n - 1) - x2.lo)) ∧ (IntKind.i64.wrap (IntKind.i64.wrap (n - 1) - x2.lo) ≤ 1000000) ∧ (∀ b : Bool, (((b) = (balB x2.lo (IntKind.i64.wrap (IntKind.i64.wrap (n - 1) - x2.lo)))) → (brS (!b) ((∃ x' : XPv n, (True ∧ ((((Value.int IntKind.i64 (n)) = (Value.int IntKind.i64 (n))) ∧ ((Value.int IntKind.u64 (t)) = (Value.int IntKind.u64 (t))) ∧ ((Value.int IntKind.i64 (IntKind.i64.wrap (x2.lo + 1))) = (Value.int IntKind.i64 (x'.lo))) ∧ True) ∧ True) ∧ ((n - x'.lo).toNat < (n - x2.lo).toNat)))) ((brS (decide (IntKind.i64.wrap (IntKind.i64.wrap (n - 1) - x2.lo) < x2.lo)) ((K (SV.one (TV.at (At.val (Value.int IntKind.i64 (IntKind.i64.wrap (n.tdiv 2)))))) [] [])) (((IntKind.u64.wrap (IntKind.i64.wrap (IntKind.i64.wrap (IntKind.i64.wrap (IntKind.i64.wrap (n - 1) - x2.lo) - x2.lo) + 1)) ≠ 0) ∧ (K (SV.one (TV.at (At.val (Value.int IntKind.i64 (IntKind.i64.wrap (x2.lo + IntKind.i64.wrap (t.tmod (IntKind.u64.wrap (IntKind.i64.wrap (IntKind.i64.wrap (IntKind.i64.wrap (IntKind.i64.wrap (n - 1) - x2.lo) - x2.lo) + 1)))))))))) [] [])))))))))) ((brS (decide (IntKind.i64.wrap (IntKind.i64.wrap (n - 1) - x2.lo) < x2.lo)) ((K (SV.one (TV.at (At.val (Value.int IntKind.i64 (IntKind.i64.wrap (n.tdiv 2)))))) [] []))
    (((IntKind.u64.wrap (IntKind.i64.wrap (IntKind.i64.wrap (IntKind.i64.wrap (IntKind.i64.wrap (n - 1) - x2.lo) - x2.lo) + 1)) ≠ 0) ∧ (K (SV.one (TV.at (At.val (Value.int IntKind.i64 (IntKind.i64.wrap (x2.lo + IntKind.i64.wrap (t.tmod (IntKind.u64.wrap (IntKind.i64.wrap (IntKind.i64.wrap (IntKind.i64.wrap (IntKind.i64.wrap (n - 1) - x2.lo) - x2.lo) + 1)))))))))) [] []))))))))))))))))) = _ by kernel_rfl) ?_
  refine ⟨by omega, by omega, fun x hx => ⟨⟨⟨x, by omega, by omega, ⟨by omega, by omega⟩⟩, trivial, ⟨rfl, rfl, rfl, trivial⟩, trivial⟩, fun x1 _ => ?_⟩⟩
  obtain ⟨k1, k2, k3, k4⟩ := x1.h
  rw [wrap_id (x := x1.lo - 1) (by omega) (by omega), wrap_id (x := n - x1.lo) (by omega) (by omega)]
  refine brS_of (fun c => ?_) fun c => ?_
  · have c : x1.lo > 0 := of_decide_eq_true c
    refine ⟨by omega, by omega, by omega, by omega, fun b hb => brS_of (fun d => ?_) fun d => ?_⟩
    · rw [d] at hb
      have hb : balN (x1.lo - 1) (n - x1.lo) := of_decide_eq_true hb.symm
      refine ⟨⟨x1.lo - 1, by omega, by omega, by rw [show n - 1 - (x1.lo - 1) = n - x1.lo by omega]; exact hb⟩, trivial, ⟨⟨rfl, rfl, rfl, trivial⟩, trivial⟩, ?_⟩
      show (x1.lo - 1).toNat < x1.lo.toNat
      omega
    · skip
      refine ⟨⟨x1, trivial, ⟨rfl, rfl, rfl, trivial⟩, trivial⟩, fun x2 _ => ?_⟩
      obtain ⟨l1, l2, l3, l4⟩ := x2.h
      rw [wrap_id (x := n - 1) (by omega) (by omega), wrap_id (x := n - 1 - x2.lo) (by omega) (by omega)]
      refine brS_of (fun e => ⟨l1, by omega, by omega, by omega, fun b1 hb1 => brS_of (fun f => ?_) fun f => ?_⟩) fun e => ?_
      · have e : b1 = true := by rw [hb1]; exact decide_eq_true ⟨l3, l4⟩
        rw [e] at f; cases f
      · skip
        rw [wrap_id (x := n - 1 - x2.lo - x2.lo) (by omega) (by omega), wrap_id (x := n - 1 - x2.lo - x2.lo + 1) (by omega) (by omega)]
        refine brS_of (fun g => ?_) fun g => ?_
        · have g : n - 1 - x2.lo < x2.lo := of_decide_eq_true g
          rw [Int.tdiv_eq_ediv_of_nonneg (by omega), wrap_id (by omega) (by omega)]
          exact h _ (by omega) (by omega) ⟨by omega, by omega⟩
        · have g : ¬ n - 1 - x2.lo < x2.lo := of_decide_eq_false g
          have hm := Int.emod_nonneg t (show n - 1 - x2.lo - x2.lo + 1 ≠ 0 by omega)
          have hm2 := Int.emod_lt_of_pos t (show 0 < n - 1 - x2.lo - x2.lo + 1 by omega)
          rw [wrap_u64 (by omega) (by omega), Int.tmod_eq_emod_of_nonneg h3, wrap_id (x := t % _) (by omega) (by omega), wrap_id (by omega) (by omega)]
          exact ⟨by omega, h _ (by omega) (by omega) ⟨by omega, by omega⟩⟩
      · skip
        rw [wrap_id (x := n - 1 - x2.lo - x2.lo) (by omega) (by omega), wrap_id (x := n - 1 - x2.lo - x2.lo + 1) (by omega) (by omega)]
        refine brS_of (fun g => ?_) fun g => ?_
        · have g : n - 1 - x2.lo < x2.lo := of_decide_eq_true g
          rw [Int.tdiv_eq_ediv_of_nonneg (by omega), wrap_id (by omega) (by omega)]
          exact h _ (by omega) (by omega) ⟨by omega, by omega⟩
        · have g : ¬ n - 1 - x2.lo < x2.lo := of_decide_eq_false g
          have hm := Int.emod_nonneg t (show n - 1 - x2.lo - x2.lo + 1 ≠ 0 by omega)
          have hm2 := Int.emod_lt_of_pos t (show 0 < n - 1 - x2.lo - x2.lo + 1 by omega)
          rw [wrap_u64 (by omega) (by omega), Int.tmod_eq_emod_of_nonneg h3, wrap_id (x := t % _) (by omega) (by omega), wrap_id (by omega) (by omega)]
          exact ⟨by omega, h _ (by omega) (by omega) ⟨by omega, by omega⟩⟩
  · skip
    refine ⟨⟨x1, trivial, ⟨rfl, rfl, rfl, trivial⟩, trivial⟩, fun x2 _ => ?_⟩
    obtain ⟨l1, l2, l3, l4⟩ := x2.h
    rw [wrap_id (x := n - 1) (by omega) (by omega), wrap_id (x := n - 1 - x2.lo) (by omega) (by omega)]
    refine brS_of (fun e => ⟨l1, by omega, by omega, by omega, fun b1 hb1 => brS_of (fun f => ?_) fun f => ?_⟩) fun e => ?_
    · have e : b1 = true := by rw [hb1]; exact decide_eq_true ⟨l3, l4⟩
      rw [e] at f; cases f
    · skip
      rw [wrap_id (x := n - 1 - x2.lo - x2.lo) (by omega) (by omega), wrap_id (x := n - 1 - x2.lo - x2.lo + 1) (by omega) (by omega)]
      refine brS_of (fun g => ?_) fun g => ?_
      · have g : n - 1 - x2.lo < x2.lo := of_decide_eq_true g
        rw [Int.tdiv_eq_ediv_of_nonneg (by omega), wrap_id (by omega) (by omega)]
        exact h _ (by omega) (by omega) ⟨by omega, by omega⟩
      · have g : ¬ n - 1 - x2.lo < x2.lo := of_decide_eq_false g
        have hm := Int.emod_nonneg t (show n - 1 - x2.lo - x2.lo + 1 ≠ 0 by omega)
        have hm2 := Int.emod_lt_of_pos t (show 0 < n - 1 - x2.lo - x2.lo + 1 by omega)
        rw [wrap_u64 (by omega) (by omega), Int.tmod_eq_emod_of_nonneg h3, wrap_id (x := t % _) (by omega) (by omega), wrap_id (by omega) (by omega)]
        exact ⟨by omega, h _ (by omega) (by omega) ⟨by omega, by omega⟩⟩
    · skip
      rw [wrap_id (x := n - 1 - x2.lo - x2.lo) (by omega) (by omega), wrap_id (x := n - 1 - x2.lo - x2.lo + 1) (by omega) (by omega)]
      refine brS_of (fun g => ?_) fun g => ?_
      · have g : n - 1 - x2.lo < x2.lo := of_decide_eq_true g
        rw [Int.tdiv_eq_ediv_of_nonneg (by omega), wrap_id (by omega) (by omega)]
        exact h _ (by omega) (by omega) ⟨by omega, by omega⟩
      · have g : ¬ n - 1 - x2.lo < x2.lo := of_decide_eq_false g
        have hm := Int.emod_nonneg t (show n - 1 - x2.lo - x2.lo + 1 ≠ 0 by omega)
        have hm2 := Int.emod_lt_of_pos t (show 0 < n - 1 - x2.lo - x2.lo + 1 by omega)
        rw [wrap_u64 (by omega) (by omega), Int.tmod_eq_emod_of_nonneg h3, wrap_id (x := t % _) (by omega) (by omega), wrap_id (by omega) (by omega)]
        exact ⟨by omega, h _ (by omega) (by omega) ⟨by omega, by omega⟩⟩
theorem s_pivot : SoundT C0 99 tPivot := by
  refine .of Try.func99 (by decide) rfl fun args H K h hB => ?_
  unfold tPivot at h
  split at h <;> try exact h.elim
  rename_i n t
  exact ⟨aPivot n, ⟨frame C0.ok s_least _, frame C0.ok s_bal _, trivial⟩, vc_pivot n t K h.1 h.2.1 h.2.2.1 h.2.2.2⟩
theorem wrap_u64_nonneg (x : Int) : 0 ≤ IntKind.u64.wrap x := by
  unfold IntKind.wrap
  simp [IntKind.signed, IntKind.bits]
  omega
theorem split_at {l : List Ent} {p : Nat} (hp : p < l.length) : l.take p ++ l.getD p (0, 0) :: l.drop (p + 1) = l := by
  have h : l[p]? = some (l.getD p (0, 0)) := by simp [List.getD_eq_getElem?_getD, List.getElem?_eq_getElem hp]
  rw [← drop_cons h, List.take_append_drop]
theorem vc_plant (n : Nat) (S : Arn) (l : List Ent) (t : Int) (K : KT) (hs : List Int) (hw : Wf S hs) (h1 : l.length < n + 1) (h2 : l.length ≤ 100000) (h3 : (l.length : Int) ≤ S.free) (h4 : hs.length + l.length ≤ 900000000) (h5 : 0 ≤ t)
    (h : ∀ S' i, PlantR S hs l S' i → K (.tup [.at (vU i), .at (vB true)]) (chS S' ++ [.row false EC.ent l]) W7) :
    vc C0 (aPlant n) Try.f51 [.at (.ptr 0 0), .at (.slc 7), .at (vU64 t)] (chS S ++ [.row false EC.ent l]) (normK 8 (wideK W7 K)) := by
  refine Eq.mp (show (brS ((↑l.length : Int) == 0) ((K (SV.tup [(TV.at (At.val (Value.int IntKind.u32 0))), (TV.at (At.val (Value.bool true)))]) [(Chunk.box [(At.ptr 1 0), (At.slc 2), (At.slc 3), (At.val (Value.int IntKind.u64 (S.reads)))]), (Chunk.box [(At.slc 4), (At.slc 5), (At.slc 6), (At.val (Value.int IntKind.u32 (S.fresh)))]), (Chunk.row true (EC.node) (S.nodes)), (Chunk.row true (EC.int) (S.counts)), (Chunk.row true (EC.bool) (S.used)), (Chunk.row true (EC.u32) (S.gen)), (Chunk.row true (EC.u32) (S.rel)), (Chunk.row false (EC.ent) (l))] [0, 1, 2, 3, 4, 5, 6])) (((1 ≤ (↑l.length : Int)) ∧ ((↑l.length : Int) ≤ 100000) ∧ (0 ≤ t) ∧ (∀ p : Int, ((0 ≤ p) → ((p < (↑l.length : Int)) → ((balN p ((↑l.length : Int) - 1 - p)) → (((0 : Int) ≤ 0) ∧ (0 ≤ p) ∧ (p ≤ (↑l.length : Int)) ∧ (∃ hs : List Int, ((Wf S hs) ∧ ((List.drop (Int.toNat 0) (List.take p.toNat l)).length < n) ∧ ((List.drop (Int.toNat 0) (List.take p.toNat l)).length ≤ 100000) ∧ ((↑(List.drop (Int.toNat 0) (List.take p.toNat l)).length : Int) ≤ S.free) ∧ (hs.length + (List.drop (Int.toNat 0) (List.take p.toNat l)).length ≤ 900000000) ∧ (0 ≤ IntKind.u64.wrap (IntKind.u64.wrap (t.tdiv 5) + IntKind.u64.wrap (t * 3))) ∧ (∀ S' : Arn, (∀ i : Int, ((PlantR S hs (List.drop (Int.toNat 0) (List.take p.toNat l)) S' i) → ((0 ≤ IntKind.i64.wrap (p + 1)) ∧ (IntKind.i64.wrap (p + 1) ≤ (↑l.length : Int)) ∧ ((↑l.length : Int) ≤ (↑l.length : Int)) ∧ (∃ hs1 : List Int, ((Wf S' hs1) ∧
    ((List.drop (IntKind.i64.wrap (p + 1)).toNat (List.take (↑l.length : Int).toNat l)).length < n) ∧ ((List.drop (IntKind.i64.wrap (p + 1)).toNat (List.take (↑l.length : Int).toNat l)).length ≤ 100000) ∧ ((↑(List.drop (IntKind.i64.wrap (p + 1)).toNat (List.take (↑l.length : Int).toNat l)).length : Int) ≤ S'.free) ∧ (hs1.length + (List.drop (IntKind.i64.wrap (p + 1)).toNat (List.take (↑l.length : Int).toNat l)).length ≤ 900000000) ∧ (0 ≤ IntKind.u64.wrap (IntKind.u64.wrap (IntKind.u64.wrap (t.tdiv 7) + IntKind.u64.wrap (t * 5)) + 1)) ∧ (∀ S'1 : Arn, (∀ i1 : Int, ((PlantR S' hs1 (List.drop (IntKind.i64.wrap (p + 1)).toNat (List.take (↑l.length : Int).toNat l)) S'1 i1) → ((0 ≤ p) ∧ (p < (↑l.length : Int)) ∧ (0 ≤ p) ∧ (p < (↑l.length : Int)) ∧ (exW S'1) ∧ (live S'1 i) ∧ (live S'1 i1) ∧ ((mkNode S'1 (l.getD p.toNat (0, 0)).fst (l.getD p.toNat (0, 0)).snd i i1).size ≤ maxSize) ∧ (0 < S'1.free) ∧ (∀ S'2 : Arn, (∀ i2 : Int, (((S'2) = (makeS S'1 (l.getD p.toNat (0, 0)).fst (l.getD p.toNat (0, 0)).snd i i1)) → (((i2) = (nxt S'1)) → (∃ hs2 : List Int, ((Wf S'2 (i :: hs2)) ∧ (((S'2.us i) = true) → (1 ≤ S'2.indeg i)) ∧ (∀ S'3 : Arn, (((S'3) = (relA S'2 i)) → (∃ hs3 : List Int, ((Wf S'3 (i1 :: hs3)) ∧ (((S'3.us i1) = true) → (1 ≤ S'3.indeg i1)) ∧ (∀ S'4 : Arn, (((S'4) = (relA S'3 i1)) →
    (K (SV.tup [(TV.at (At.val (Value.int IntKind.u32 (i2)))), (TV.at (At.val (Value.bool (i2 != 0))))]) [(Chunk.box [(At.ptr 1 0), (At.slc 2), (At.slc 3), (At.val (Value.int IntKind.u64 (S'4.reads)))]), (Chunk.box [(At.slc 4), (At.slc 5), (At.slc 6), (At.val (Value.int IntKind.u32 (S'4.fresh)))]), (Chunk.row true (EC.node) (S'4.nodes)), (Chunk.row true (EC.int) (S'4.counts)), (Chunk.row true (EC.bool) (S'4.used)), (Chunk.row true (EC.u32) (S'4.gen)), (Chunk.row true (EC.u32) (S'4.rel)), (Chunk.row false (EC.ent) (l))] [0, 1, 2, 3, 4, 5, 6]))))))))))))))))))))))))))))))))) = _ by kernel_rfl) ?_
  refine brS_of (fun c => ?_) fun c => ⟨?_, by omega, h5, fun p p0 p1 hb => ?_⟩
  · have e : l = [] := List.length_eq_zero_iff.1 (by simpa using c)
    have hr : PlantR S hs l S 0 := by rw [e]; exact PlantR.nil hw (by omega)
    exact h S 0 hr
  · have c : ¬ (l.length : Int) = 0 := by simpa using c
    omega
  · have hp : p.toNat < l.length := by omega
    have ea : List.drop (Int.toNat 0) (List.take p.toNat l) = l.take p.toNat := rfl
    rw [wrap_id (x := p + 1) (by omega) (by omega), ea, show (l.length : Int).toNat = l.length by omega, List.take_length, show (p + 1).toNat = p.toNat + 1 by omega]
    have la : (l.take p.toNat).length = p.toNat := by simp; omega
    have lb : (l.drop (p.toNat + 1)).length = l.length - (p.toNat + 1) := by simp
    have hf := hw.free_nonneg
    refine ⟨by decide, p0, by omega, hs, hw, by omega, by omega, by omega, by omega, wrap_u64_nonneg _, fun S1 il r1 => ?_⟩
    have hf1 := r1.wf.free_nonneg
    have n1 := r1.nu
    have c1 : S1.cap = S.cap := by unfold Arn.cap; rw [r1.len]
    refine ⟨by omega, by omega, by omega, il :: hs, r1.wf, by omega, by omega, by omega, by simp; omega, wrap_u64_nonneg _, fun S2 ir r2 => ?_⟩
    have hf2 := r2.wf.free_nonneg
    have n2 := r2.nu
    have c2 : S2.cap = S1.cap := by unfold Arn.cap; rw [r2.len]
    have hw2 : Wf S2 (il :: ir :: hs) := r2.wf.perm (List.Perm.swap _ _ _)
    have hfr : 0 < S2.free := by omega
    obtain ⟨tl, q1, q2, _⟩ := r1.rep
    obtain ⟨tr, q3, q4, _⟩ := r2.rep
    have q1' : Rep S2 tl il := q1.held r1.wf r2.stay (.inr (by simp))
    have s1 : tl.size = p.toNat := by rw [← tl.list_len, q2, la]
    have s2 : tr.size = l.length - (p.toNat + 1) := by rw [← tr.list_len, q4, lb]
    have hz : ∀ k v, (mkNode S2 k v il ir).size ≤ maxSize := fun k v => by rw [mk_size hw2 q1' q3]; unfold maxSize; omega
    refine ⟨p0, p1, p0, p1, ⟨_, hw2⟩, hw2.held il (by simp), hw2.held ir (by simp), hz _ _, hfr, fun S3 i e1 e2 => ?_⟩
    obtain ⟨t1, t2, t3, t4⟩ := node_two (k := (l.getD p.toNat (0, 0)).1) (v := (l.getD p.toNat (0, 0)).2) hw2 hfr (hz _ _) (by omega)
    subst e1
    refine ⟨_, t1, t2, fun S4 e3 => ?_⟩
    subst e3
    refine ⟨_, t3, t4, fun S5 e4 => ?_⟩
    have hx := (hw2.nxt_spec hfr).1
    have hi0 : (i != 0) = true := by rw [e2]; simp; omega
    rw [hi0]
    refine h S5 i ?_
    have hr : PlantR S hs (l.take p.toNat ++ l.getD p.toNat (0, 0) :: l.drop (p.toNat + 1)) S5 i := r1.node r2 (by rw [la, lb]; have e : ((l.length - (p.toNat + 1) : Nat) : Int) = (l.length : Int) - 1 - p := (by omega); rw [e, show (p.toNat : Int) = p by omega]; exact hb) fun tl' tr' x1 x2 => by
      rw [e4, e2]; exact node_ok hw2 hfr (hz _ _) (by omega) x1 x2
    rw [split_at hp] at hr
    exact hr
theorem s_plant : ∀ n, SoundT C0 51 (tPlant n) := by
  intro n
  induction n with
  | zero =>
    refine .of Try.func51 (by decide) rfl fun args H K h hB => ?_
    exfalso
    unfold tPlant at h
    split at h <;> try exact h.elim
    unfold arMr at h
    split at h <;> try exact h.elim
    split at h <;> try exact h.elim
    obtain ⟨_, _, h1, _⟩ := h
    omega
  | succ n ih =>
    refine .ofW W7 Try.func51 (by decide) rfl fun args H K h hB => ?_
    unfold tPlant at h
    split at h <;> try exact h.elim
    unfold arMr at h
    split at h <;> try exact h.elim
    split at h <;> try exact h.elim
    rename_i t _ rd fr nd ct us gn rl _ l
    obtain ⟨hs, h1, h2, h3, h4, h5, h6, h7⟩ := h
    exact ⟨aPlant n, ⟨frame C0.ok s_pivot _, frame C0.ok ih _, frame C0.ok s_makeOk _, frame C0.ok s_give _, trivial⟩, vc_plant n ⟨us, gn, rl, fr, nd, ct, rd⟩ l t K hs h1 h2 h3 h4 h5 h6 h7⟩
def tPlantA : Tfm C0 := fun args H K => match args with
  | [.at (.ptr 0 0), .at (.slc 7), .at (.val (.int .u64 t))] => arMr H fun S rest => match rest with
    | [.row false .ent l] => ∃ hs, Wf S hs ∧ l.length ≤ 100000 ∧ (l.length : Int) ≤ S.free ∧ hs.length + l.length ≤ 900000000 ∧ 0 ≤ t ∧ ∀ S' i, PlantR S hs l S' i → K (.tup [.at (vU i), .at (vB true)]) (chS S' ++ [.row false EC.ent l]) W7
    | _ => False
  | _ => False
theorem s_plantA : SoundT C0 51 tPlantA := (s_plant 100001).weak fun args H K h => by
  unfold tPlantA at h
  unfold tPlant
  split at h <;> try exact h.elim
  unfold arMr at h ⊢
  split at h <;> try exact h.elim
  split at h <;> try exact h.elim
  obtain ⟨hs, h1, h2, h3, h4, h5, h6⟩ := h
  exact ⟨hs, h1, by omega, h2, h3, h4, h5, h6⟩
end Go.Proofs.Ytbonbaccmlomhaa.Sx
end
