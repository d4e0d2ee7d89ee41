/- A part of the proof. -/
import Derived.Test.YtmjnoiajenoinaaG4
import Derived.Test.YtmjnoiajenoinaaG3
import Derived.Test.YtmjnoiajenoinaaG1
section
/- The arena's Make and Release. -/
namespace Go.Proofs.Ytmjnoiajenoinaa.Sx
open Go

structure XMk (S : Arn) (k v l r : Int) where
  i : Nat
  n : NodeT
  h : n = if i = 0 then addC S ⟨k, v, l, r, 1, v, v, v⟩ l else mkNode S k v l r
abbrev bxN (n : NodeT) : Chunk C0 := .box [vI n.key, vI n.value, vU n.left, vU n.right, vI n.size, vI n.sum, vI n.min, vI n.max]
noncomputable def aMake (S : Arn) (k v l r : Int) : Ann C0 := { rounds := fun n => if n = 3 then 3 else 0, Γ := [(56, frameT [] tSlAllocated), (57, frameT [] tSlAlloc)], inv := fun n => match n with
  | 1013 => some { X := XMk S k v l r, sl := [12], tf := fun _ => [.one (.at (.ptr 7 0))], hf := fun x => chS S ++ [bxN x.n], rel := fun T _ x => slotI T 29 x.i }
  | _ => none }
def tMake : Tfm C0 := fun args H K => match args with
  | [.at (.ptr 0 0), .at (.val (.int .i64 k)), .at (.val (.int .i64 v)), .at (.val (.int .u32 l)), .at (.val (.int .u32 r))] => arM H fun S => exW S ∧ live S l ∧ live S r ∧
    (maxSize < (mkNode S k v l r).size → K (.tup [.at (vU 0), .at (vI 1)]) (chS S) W7) ∧
    ((mkNode S k v l r).size ≤ maxSize → S.free = 0 → K (.tup [.at (vU 0), .at (vI 2)]) (chS S) W7) ∧
    ((mkNode S k v l r).size ≤ maxSize → 0 < S.free → ∀ S' i, S' = makeS S k v l r → i = nxt S → K (.tup [.at (vU i), .at (vI 0)]) (chS S') W7)
  | _ => False
structure XRel (S : Arn) (hs : List Int) (i : Int) where
  S' : Arn
  work : List Int
  freed : Int
  h : Wf S' (work ++ hs) ∧ Kept S S' ∧ 0 ≤ freed ∧ freed + S'.nu = S.nu ∧ (∀ w ∈ work, S'.us w = true) ∧ (1 < S.ct i → (work = [i] ∧ S' = S) ∨ (work = [] ∧ S' = decS S i))
structure XRelK (S : Arn) (hs : List Int) (i : Int) where
  S' : Arn
  rest : List Int
  k : Int
  freed : Int
  h : Wf S' ((rest ++ [k]) ++ hs) ∧ Kept S S' ∧ 0 ≤ freed ∧ freed + S'.nu = S.nu ∧ (∀ w ∈ rest ++ [k], S'.us w = true) ∧ (1 < S.ct i → rest = [] ∧ k = i ∧ S' = S)
noncomputable def aRelease (S : Arn) (hs : List Int) (i : Int) : Ann C0 := { trunc := fun n => n == 34, Γ := [(56, frameT [] tSlAllocated), (58, frameT [] tSlRelease)], inv := fun n => match n with
  | 7 => some { X := XRel S hs i, sl := [7, 6], tf := fun x => [.one (.at (.slc 7)), vi .i64 x.freed], hf := fun x => chS x.S' ++ [.row true EC.u32 x.work], μ := fun x => 2 * x.S'.nu + x.work.length, wr := W7 }
  | 1010 => some { X := XRelK S hs i, sl := [7, 8], tf := fun x => [.one (.at (.slc 7)), vi .u32 x.k], hf := fun x => chS x.S' ++ [.row true EC.u32 x.rest], wr := W7, rel := fun T _ x => slotI T 6 x.freed ∧ slotI T 22 (x.rest.length + 1) }
  | _ => none }
def tRelease : Tfm C0 := fun args H K => match args with
  | [.at (.ptr 0 0), .at (.val (.int .u32 i))] => arM H fun S => ∃ hs, Wf S (i :: hs) ∧ ∀ S' (fr : Int), Wf S' hs → Kept S S' → fr + S'.nu = S.nu → (1 < S.ct i → S.us i = true → S' = decS S i) → (S.us i = false → S' = S) → K (.tup [.at (vI fr), .at (vI 0)]) (chS S') W7
  | _ => False
theorem list_last {α : Type} {l : List α} {d : α} (h : 0 < l.length) : l.take (l.length - 1) ++ [l.getD (l.length - 1) d] = l := by
  have h1 : l[l.length - 1]? = some (l.getD (l.length - 1) d) := by
    have : l.length - 1 < l.length := by omega
    simp [List.getD_eq_getElem?_getD, List.getElem?_eq_getElem this]
  rw [← take_snoc h1, show l.length - 1 + 1 = l.length by omega, List.take_length]
theorem XRelK.freed' {S : Arn} {hs : List Int} {i : Int} (x : XRelK S hs i) (hc : x.S'.ct x.k = 1) :
    Wf (freeS x.S' x.k) ((x.rest ++ nz (x.S'.nd x.k).right ++ nz (x.S'.nd x.k).left) ++ hs) ∧ Kept S (freeS x.S' x.k) ∧ 0 ≤ x.freed + 1 ∧ (x.freed + 1) + (freeS x.S' x.k).nu = S.nu ∧
    (∀ w ∈ x.rest ++ nz (x.S'.nd x.k).right ++ nz (x.S'.nd x.k).left, (freeS x.S' x.k).us w = true) ∧ (1 < S.ct i → ((x.rest ++ nz (x.S'.nd x.k).right ++ nz (x.S'.nd x.k).left) = [i] ∧ freeS x.S' x.k = S) ∨ ((x.rest ++ nz (x.S'.nd x.k).right ++ nz (x.S'.nd x.k).left) = [] ∧ freeS x.S' x.k = decS S i)) := by
  obtain ⟨h1, h2, h3, h4, h5, h6⟩ := x.h
  have hk : x.S'.us x.k = true := h5 _ (by simp)
  have hw : Wf x.S' (x.k :: (x.rest ++ hs)) := h1.perm (by
    rw [List.append_assoc]
    exact List.perm_middle)
  obtain ⟨f1, f2, f3, f4⟩ := hw.freed hk hc
  have f1' : Wf (freeS x.S' x.k) ((x.rest ++ nz (x.S'.nd x.k).right ++ nz (x.S'.nd x.k).left) ++ hs) := f1.perm (by
    rw [List.append_assoc, List.append_assoc]
    exact ((List.perm_append_comm_assoc _ _ _).append_left _).trans (List.perm_append_comm_assoc _ _ _))
  refine ⟨f1', h2.trans (kept_free hw hk hc), by omega, by omega, fun w hm => ?_, fun hc1 => ?_⟩
  · refine (f1'.held w (List.mem_append_left _ hm)).resolve_left fun e => ?_
    subst e
    rcases List.mem_append.1 hm with hm | hm
    · rcases List.mem_append.1 hm with hm | hm
      · have := h5 0 (by simp [hm])
        rw [h1.us0 (Int.le_refl 0)] at this; cases this
      · unfold nz at hm; split at hm <;> simp at hm; omega
    · unfold nz at hm; split at hm <;> simp at hm; omega
  · obtain ⟨_, e2, e3⟩ := h6 hc1
    rw [e2, e3] at hc
    omega
theorem vc_release (S : Arn) (hs : List Int) (i : Int) (K : KT) (hw : Wf S (i :: hs)) (h : ∀ S' (fr : Int), Wf S' hs → Kept S S' → fr + S'.nu = S.nu → (1 < S.ct i → S.us i = true → S' = decS S i) → (S.us i = false → S' = S) → K (.tup [.at (vI fr), .at (vI 0)]) (chS S') W7) :
    vc C0 (aRelease S hs i) Try.f14 [.at (.ptr 0 0), .at (vU i)] (chS S) (normK 7 (wideK W7 K)) := by
  refine Eq.mp (show (brS (i == 0) ((K (SV.tup [(TV.at (At.val (Value.int IntKind.i64 0))), (TV.at (At.val (Value.int IntKind.i64 0)))]) [(Chunk.box [(At.ptr 1 0), (At.slc 2), (At.slc 3), (At.val (Value.int IntKind.u64 (S.reads)))]), (Chunk.box [(At.slc 4), (At.slc 5), (At.slc 6), (At.val (Value.int IntKind.u32 (S.fresh)))]), (Chunk.row true (EC.node) (S.nodes)), (Chunk.row true (EC.int) (S.counts)), (Chunk.row true (EC.bool) (S.used)), (Chunk.row true (EC.u32) (S.gen)), (Chunk.row true (EC.u32) (S.rel))] [0, 1, 2, 3, 4, 5, 6])) (((0 ≤ i) ∧ (i < 4294967296) ∧ (S.used.length ≤ 65537) ∧ (brS (!S.us i) ((K (SV.tup [(TV.at (At.val (Value.int IntKind.i64 0))), (TV.at (At.val (Value.int IntKind.i64 3)))]) [(Chunk.box [(At.ptr 1 0), (At.slc 2), (At.slc 3), (At.val (Value.int IntKind.u64 (S.reads)))]), (Chunk.box [(At.slc 4), (At.slc 5), (At.slc 6), (At.val (Value.int IntKind.u32 (S.fresh)))]), (Chunk.row true (EC.node) (S.nodes)), (Chunk.row true (EC.int) (S.counts)), (Chunk.row true (EC.bool) (S.used)), (Chunk.row true (EC.u32) (S.gen)), (Chunk.row true (EC.u32) (S.rel))] [0, 1, 2, 3, 4, 5, 6])) (((∃ x : XRel S hs i, (True ∧ (True ∧ ((Value.int IntKind.i64 0) = (Value.int IntKind.i64 (x.freed))) ∧ True ∧ True) ∧ (True ∧ True ∧ True ∧ ((Value.int IntKind.u64 (S.reads)) = (Value.int IntKind.u64 (x.S'.reads))) ∧ True) ∧ (True ∧ True ∧ True ∧ ((Value.int IntKind.u32 (S.fresh)) = (Value.int IntKind.u32 (x.S'.fresh))) ∧ True) ∧ ((S.nodes) = (x.S'.nodes)) ∧ ((S.counts) = (x.S'.counts)) ∧
    ((S.used) = (x.S'.used)) ∧ ((S.gen) = (x.S'.gen)) ∧ ((S.rel) = (x.S'.rel)) ∧ ([(i)] = (x.work)) ∧ True)) ∧ (∀ x : XRel S hs i, (True → (brS (decide ((↑x.work.length : Int) > 0)) (((0 ≤ IntKind.i64.wrap ((↑x.work.length : Int) - 1)) ∧ (IntKind.i64.wrap ((↑x.work.length : Int) - 1) < (↑x.work.length : Int)) ∧ ((0 ≤ IntKind.i64.wrap ((↑x.work.length : Int) - 1)) ∧ (IntKind.i64.wrap ((↑x.work.length : Int) - 1) ≤ (↑x.work.length : Int)) ∧ (∃ x1 : XRelK S hs i, ((((x.freed) = (x1.freed)) ∧ (((↑x.work.length : Int)) = ((↑x1.rest.length : Int) + 1))) ∧ (True ∧ ((Value.int IntKind.i64 (x.freed)) = (Value.int IntKind.i64 (x.freed))) ∧ True ∧ ((Value.int IntKind.u32 (x.work.getD (IntKind.i64.wrap ((↑x.work.length : Int) - 1)).toNat 0)) = (Value.int IntKind.u32 (x1.k))) ∧ True) ∧ (True ∧ True ∧ True ∧ ((Value.int IntKind.u64 (x.S'.reads)) = (Value.int IntKind.u64 (x1.S'.reads))) ∧ True) ∧ (True ∧ True ∧ True ∧ ((Value.int IntKind.u32 (x.S'.fresh)) = (Value.int IntKind.u32 (x1.S'.fresh))) ∧ True) ∧ ((x.S'.nodes) = (x1.S'.nodes)) ∧ ((x.S'.counts) = (x1.S'.counts)) ∧ ((x.S'.used) = (x1.S'.used)) ∧ ((x.S'.gen) = (x1.S'.gen)) ∧ ((x.S'.rel) = (x1.S'.rel)) ∧ ((List.take (IntKind.i64.wrap ((↑x.work.length : Int) - 1)).toNat x.work) = (x1.rest)) ∧ True))) ∧ (∀ x1 : XRelK S hs i, ((((x.freed) = (x1.freed)) ∧ (((↑x.work.length : Int)) = ((↑x1.rest.length : Int) + 1))) → ((0 ≤ x1.k) ∧ (x1.k < (↑x1.S'.counts.length : Int)) ∧ (0 ≤ x1.k) ∧ (x1.k < (↑x1.S'.counts.length : Int)) ∧ (0 ≤ x1.k) ∧
    (x1.k < (↑(x1.S'.counts.set x1.k.toNat (IntKind.i64.wrap (x1.S'.ct x1.k - 1))).length : Int)) ∧ (brS (decide ((x1.S'.counts.set x1.k.toNat (IntKind.i64.wrap (x1.S'.ct x1.k - 1))).getD x1.k.toNat 0 > 0)) ((∃ x' : XRel S hs i, (True ∧ ((True ∧ ((Value.int IntKind.i64 (x.freed)) = (Value.int IntKind.i64 (x'.freed))) ∧ True ∧ True) ∧ (True ∧ True ∧ True ∧ ((Value.int IntKind.u64 (x1.S'.reads)) = (Value.int IntKind.u64 (x'.S'.reads))) ∧ True) ∧ (True ∧ True ∧ True ∧ ((Value.int IntKind.u32 (x1.S'.fresh)) = (Value.int IntKind.u32 (x'.S'.fresh))) ∧ True) ∧ ((x1.S'.nodes) = (x'.S'.nodes)) ∧ ((x1.S'.counts.set x1.k.toNat (IntKind.i64.wrap (x1.S'.ct x1.k - 1))) = (x'.S'.counts)) ∧ ((x1.S'.used) = (x'.S'.used)) ∧ ((x1.S'.gen) = (x'.S'.gen)) ∧ ((x1.S'.rel) = (x'.S'.rel)) ∧ ((x1.rest) = (x'.work)) ∧ True) ∧ (2 * x'.S'.nu + x'.work.length < 2 * x.S'.nu + x.work.length)))) (((0 ≤ x1.k) ∧ (x1.k < (↑x1.S'.nodes.length : Int)) ∧ (0 ≤ x1.k) ∧ (x1.k < (↑x1.S'.nodes.length : Int)) ∧ (0 ≤ x1.k) ∧ (x1.k < 4294967296) ∧ (x1.S'.used.length ≤ 65537) ∧ (x1.S'.rel.length ≤ 65537) ∧ ((x1.S'.us x1.k) = true) ∧ (brS ((x1.S'.nd x1.k).right != 0) ((((x1.rest.length + [(x1.S'.nd x1.k).right].length) * bytesOf C0 EC.u32 ≤ 140737488355328) ∧ (brS ((x1.S'.nd x1.k).left != 0) (((((x1.rest ++ [(x1.S'.nd x1.k).right]).length + [(x1.S'.nd x1.k).left].length) * bytesOf C0 EC.u32 ≤ 140737488355328) ∧ (∃ x' : XRel S hs i, (True ∧ ((True ∧
    ((Value.int IntKind.i64 (IntKind.i64.wrap (x.freed + 1))) = (Value.int IntKind.i64 (x'.freed))) ∧ True ∧ True) ∧ (True ∧ True ∧ True ∧ ((Value.int IntKind.u64 (x1.S'.reads)) = (Value.int IntKind.u64 (x'.S'.reads))) ∧ True) ∧ (True ∧ True ∧ True ∧ ((Value.int IntKind.u32 (x1.S'.fresh)) = (Value.int IntKind.u32 (x'.S'.fresh))) ∧ True) ∧ ((x1.S'.nodes.set x1.k.toNat { key := 0, value := 0, left := 0, right := 0, size := 0, sum := 0, min := 0, max := 0 : NodeT }) = (x'.S'.nodes)) ∧ ((x1.S'.counts.set x1.k.toNat (IntKind.i64.wrap (x1.S'.ct x1.k - 1))) = (x'.S'.counts)) ∧ ((x1.S'.used.set x1.k.toNat false) = (x'.S'.used)) ∧ ((x1.S'.gen) = (x'.S'.gen)) ∧ ((x1.S'.rel ++ [x1.k]) = (x'.S'.rel)) ∧ ((x1.rest ++ [(x1.S'.nd x1.k).right] ++ [(x1.S'.nd x1.k).left]) = (x'.work)) ∧ True) ∧ (2 * x'.S'.nu + x'.work.length < 2 * x.S'.nu + x.work.length))))) ((∃ x' : XRel S hs i, (True ∧ ((True ∧ ((Value.int IntKind.i64 (IntKind.i64.wrap (x.freed + 1))) = (Value.int IntKind.i64 (x'.freed))) ∧ True ∧ True) ∧ (True ∧ True ∧ True ∧ ((Value.int IntKind.u64 (x1.S'.reads)) = (Value.int IntKind.u64 (x'.S'.reads))) ∧ True) ∧ (True ∧ True ∧ True ∧ ((Value.int IntKind.u32 (x1.S'.fresh)) = (Value.int IntKind.u32 (x'.S'.fresh))) ∧ True) ∧ ((x1.S'.nodes.set x1.k.toNat { key := 0, value := 0, left := 0, right := 0, size := 0, sum := 0, min := 0, max := 0 : NodeT }) = (x'.S'.nodes)) ∧ ((x1.S'.counts.set x1.k.toNat (IntKind.i64.wrap (x1.S'.ct x1.k - 1))) = (x'.S'.counts)) ∧
    ((x1.S'.used.set x1.k.toNat false) = (x'.S'.used)) ∧ ((x1.S'.gen) = (x'.S'.gen)) ∧ ((x1.S'.rel ++ [x1.k]) = (x'.S'.rel)) ∧ ((x1.rest ++ [(x1.S'.nd x1.k).right]) = (x'.work)) ∧ True) ∧ (2 * x'.S'.nu + x'.work.length < 2 * x.S'.nu + x.work.length))))))) ((brS ((x1.S'.nd x1.k).left != 0) ((((x1.rest.length + [(x1.S'.nd x1.k).left].length) * bytesOf C0 EC.u32 ≤ 140737488355328) ∧ (∃ x' : XRel S hs i, (True ∧ ((True ∧ ((Value.int IntKind.i64 (IntKind.i64.wrap (x.freed + 1))) = (Value.int IntKind.i64 (x'.freed))) ∧ True ∧ True) ∧ (True ∧ True ∧ True ∧ ((Value.int IntKind.u64 (x1.S'.reads)) = (Value.int IntKind.u64 (x'.S'.reads))) ∧ True) ∧ (True ∧ True ∧ True ∧ ((Value.int IntKind.u32 (x1.S'.fresh)) = (Value.int IntKind.u32 (x'.S'.fresh))) ∧ True) ∧ ((x1.S'.nodes.set x1.k.toNat { key := 0, value := 0, left := 0, right := 0, size := 0, sum := 0, min := 0, max := 0 : NodeT }) = (x'.S'.nodes)) ∧ ((x1.S'.counts.set x1.k.toNat (IntKind.i64.wrap (x1.S'.ct x1.k - 1))) = (x'.S'.counts)) ∧ ((x1.S'.used.set x1.k.toNat false) = (x'.S'.used)) ∧ ((x1.S'.gen) = (x'.S'.gen)) ∧ ((x1.S'.rel ++ [x1.k]) = (x'.S'.rel)) ∧ ((x1.rest ++ [(x1.S'.nd x1.k).left]) = (x'.work)) ∧ True) ∧ (2 * x'.S'.nu + x'.work.length < 2 * x.S'.nu + x.work.length))))) ((∃ x' : XRel S hs i, (True ∧ ((True ∧ ((Value.int IntKind.i64 (IntKind.i64.wrap (x.freed + 1))) = (Value.int IntKind.i64 (x'.freed))) ∧ True ∧ True) ∧ (True ∧ True ∧ True ∧ ((Value.int IntKind.u64 (x1.S'.reads)) = (Value.int IntKind.u64 (x'.S'.reads))) ∧
    True) ∧ (True ∧ True ∧ True ∧ ((Value.int IntKind.u32 (x1.S'.fresh)) = (Value.int IntKind.u32 (x'.S'.fresh))) ∧ True) ∧ ((x1.S'.nodes.set x1.k.toNat { key := 0, value := 0, left := 0, right := 0, size := 0, sum := 0, min := 0, max := 0 : NodeT }) = (x'.S'.nodes)) ∧ ((x1.S'.counts.set x1.k.toNat (IntKind.i64.wrap (x1.S'.ct x1.k - 1))) = (x'.S'.counts)) ∧ ((x1.S'.used.set x1.k.toNat false) = (x'.S'.used)) ∧ ((x1.S'.gen) = (x'.S'.gen)) ∧ ((x1.S'.rel ++ [x1.k]) = (x'.S'.rel)) ∧ ((x1.rest) = (x'.work)) ∧ True) ∧ (2 * x'.S'.nu + x'.work.length < 2 * x.S'.nu + x.work.length))))))))))))))) ((K (SV.tup [(TV.at (At.val (Value.int IntKind.i64 (x.freed)))), (TV.at (At.val (Value.int IntKind.i64 0)))]) [(Chunk.box [(At.ptr 1 0), (At.slc 2), (At.slc 3), (At.val (Value.int IntKind.u64 (x.S'.reads)))]), (Chunk.box [(At.slc 4), (At.slc 5), (At.slc 6), (At.val (Value.int IntKind.u32 (x.S'.fresh)))]), (Chunk.row true (EC.node) (x.S'.nodes)), (Chunk.row true (EC.int) (x.S'.counts)), (Chunk.row true (EC.bool) (x.S'.used)), (Chunk.row true (EC.u32) (x.S'.gen)), (Chunk.row true (EC.u32) (x.S'.rel))] [0, 1, 2, 3, 4, 5, 6]))))))))))) = _ by kernel_rfl) ?_
  simp only [bytes_u32]
  have hin := hw.held i (by simp)
  have hge := hw.ge0 hin
  have h2 := hw.n2
  refine brS_of (fun c => ?_) fun c => ?_
  · have c : i = 0 := by simpa using c
    subst c
    exact h S 0 hw.of_zero (Kept.refl S) (by omega) (fun _ e => by rw [hw.us0 (Int.le_refl 0)] at e; cases e) fun _ => rfl
  have c : i ≠ 0 := by simpa using c
  have hu := hin.resolve_left c
  have hp := hw.pos hu
  refine ⟨hge, by omega, by omega, brS_of (fun d => by rw [hu] at d; cases d) fun _ => ⟨⟨⟨S, [i], 0, hw, Kept.refl S, by omega, by omega, by simpa using hu, fun _ => .inl ⟨rfl, rfl⟩⟩, ?_⟩, fun x _ => brS_of (fun e => ?_) fun e => ?_⟩⟩
  · (repeat' first | exact trivial | exact rfl | refine And.intro ?_ ?_)
  · obtain ⟨g1, g2, g3, g4, g5, g6⟩ := x.h
    have e : 0 < x.work.length := by have := of_decide_eq_true e; omega
    have hl := list_last (d := (0 : Int)) e
    have hn1 := g1.n2
    have hfew := g1.few
    have hfl : x.work.length ≤ 2000000000 := by simp at hfew; omega
    rw [wrap_id (by omega) (by omega), show ((x.work.length : Int) - 1).toNat = x.work.length - 1 by omega]
    refine ⟨by omega, by omega, ⟨by omega, by omega, ⟨x.S', x.work.take (x.work.length - 1), x.work.getD (x.work.length - 1) 0, x.freed, ?_⟩, ?_⟩, fun z rz => ?_⟩
    · rw [hl]
      refine ⟨g1, g2, g3, g4, g5, fun hc => ?_⟩
      rcases g6 hc with ⟨q1, q2⟩ | ⟨q1, _⟩
      · rw [q1]; exact ⟨rfl, rfl, q2⟩
      · rw [q1] at e; simp at e
    · refine ⟨⟨rfl, ?_⟩, ?_⟩
      · have : (x.work.take (x.work.length - 1)).length = x.work.length - 1 := by simp
        show (x.work.length : Int) = ((x.work.take (x.work.length - 1)).length : Int) + 1
        omega
      · (repeat' first | exact trivial | exact rfl | refine And.intro ?_ ?_)
    · obtain ⟨r1, r2⟩ := rz
      obtain ⟨h1, h2, h3, h4, h5, h6⟩ := z.h
      have hk : z.S'.us z.k = true := h5 _ (by simp)
      have hpk := h1.pos hk
      have hcn := h1.ncnt
      have hnn := h1.nnod
      have hn2 := h1.n2
      have hfn := h1.free_nonneg
      have hfrr := h1.fr
      have hct := h1.ct_le hk
      have hw' : Wf z.S' (z.k :: (z.rest ++ hs)) := h1.perm (by rw [List.append_assoc]; exact List.perm_middle)
      refine ⟨by omega, by omega, by omega, by omega, by omega, by rw [List.length_set]; omega, ?_⟩
      rw [getD_set, if_pos ⟨rfl, by omega⟩, wrap_id (by omega) (by omega)]
      refine brS_of (fun d => ?_) fun d => ?_
      · have d : 1 < z.S'.ct z.k := by simp at d; omega
        refine ⟨⟨decS z.S' z.k, z.rest, z.freed, hw'.dec hk d, h2.trans (kept_dec _ _), h3, h4, fun w hm => h5 w (by simp [hm]), fun hc => ?_⟩, ?_⟩
        · obtain ⟨q1, q2, q3⟩ := h6 hc
          exact .inr ⟨q1, by rw [q2, q3]⟩
        · have e1 : (decS z.S' z.k).nu = z.S'.nu := rfl
          have e2 : (z.S'.counts.set z.k.toNat (z.S'.ct z.k - 1)) = (decS z.S' z.k).counts := by
            show _ = z.S'.counts.set z.k.toNat (IntKind.i64.wrap (z.S'.ct z.k - 1))
            rw [wrap_id (by omega) (by omega)]
          refine ⟨trivial, ⟨⟨trivial, by rw [r1], trivial, trivial⟩, ⟨trivial, trivial, trivial, rfl, trivial⟩, ⟨trivial, trivial, trivial, rfl, trivial⟩, rfl, e2, rfl, rfl, rfl, rfl, trivial⟩, ?_⟩
          show 2 * (decS z.S' z.k).nu + z.rest.length < _
          omega
      · have d : z.S'.ct z.k = 1 := by simp at d; omega
        obtain ⟨k1, k2, k3, k4, k5, k6⟩ := z.freed' d
        have hm := (hw'.freed hk d).2.1
        have e2 : (z.S'.counts.set z.k.toNat (z.S'.ct z.k - 1)) = (freeS z.S' z.k).counts := by
          show _ = z.S'.counts.set z.k.toNat (IntKind.i64.wrap (z.S'.ct z.k - 1))
          rw [wrap_id (by omega) (by omega)]
        have hwf : IntKind.i64.wrap (x.freed + 1) = z.freed + 1 := by
          have := h1.nu_le; have := hw.nu_le
          rw [wrap_id (by omega) (by omega), r1]
        have nl : ∀ c, (nz c).length ≤ 1 := fun c => by unfold nz; split <;> simp
        rw [hwf]
        refine ⟨by omega, by omega, by omega, by omega, by omega, by omega, by omega, by omega, hk, brS_of (fun q1 => ⟨by simp; omega, brS_of (fun q2 => ⟨by simp; omega, ⟨⟨freeS z.S' z.k, _, z.freed + 1, k1, k2, k3, k4, k5, k6⟩, ?_⟩⟩) fun q2 => ⟨⟨freeS z.S' z.k, _, z.freed + 1, k1, k2, k3, k4, k5, k6⟩, ?_⟩⟩) fun q1 => brS_of (fun q2 => ⟨by simp; omega, ⟨⟨freeS z.S' z.k, _, z.freed + 1, k1, k2, k3, k4, k5, k6⟩, ?_⟩⟩) fun q2 => ⟨⟨freeS z.S' z.k, _, z.freed + 1, k1, k2, k3, k4, k5, k6⟩, ?_⟩⟩
        all_goals
          refine ⟨trivial, ⟨⟨trivial, rfl, trivial, trivial⟩, ⟨trivial, trivial, trivial, rfl, trivial⟩, ⟨trivial, trivial, trivial, rfl, trivial⟩, rfl, e2, rfl, rfl, rfl, ?_, trivial⟩, ?_⟩
        all_goals (try simp at q1 q2)
        case refine_1.refine_1 => simp [nz, q1, q2]
        all_goals first
          | (show 2 * (freeS z.S' z.k).nu + (z.rest ++ nz _ ++ nz _).length < _; have := nl (z.S'.nd z.k).left; have := nl (z.S'.nd z.k).right; simp only [List.length_append]; omega)
          | simp [nz, q1, q2]
  · have e : x.work = [] := by have := of_decide_eq_false e; exact List.length_eq_zero_iff.1 (by omega)
    obtain ⟨g1, g2, g3, g4, g5, g6⟩ := x.h
    rw [e] at g1
    refine h x.S' x.freed g1 g2 g4 (fun hc _ => ?_) fun hc => by rw [hu] at hc; cases hc
    rcases g6 hc with ⟨q1, _⟩ | ⟨_, q2⟩
    · rw [e] at q1; cases q1
    · exact q2
theorem s_release : SoundT C0 14 tRelease := by
  refine .ofW W7 Try.func14 (by decide) rfl fun args H K h hB => ?_
  unfold tRelease at h
  split at h <;> try exact h.elim
  unfold arM at h
  split at h <;> try exact h.elim
  rename_i i _ rd fr nd ct us gn rl
  obtain ⟨hs, h1, h2⟩ := h
  exact ⟨aRelease ⟨us, gn, rl, fr, nd, ct, rd⟩ hs i, ⟨frame C0.ok s_slAllocated _, frame C0.ok s_slRelease _, trivial⟩, vc_release ⟨us, gn, rl, fr, nd, ct, rd⟩ hs i K h1 h2⟩
theorem vc_make (S : Arn) (k v l r : Int) (K : KT) (hw : exW S) (hl : live S l) (hr : live S r)
    (h1 : maxSize < (mkNode S k v l r).size → K (.tup [.at (vU 0), .at (vI 1)]) (chS S) W7)
    (h2 : (mkNode S k v l r).size ≤ maxSize → S.free = 0 → K (.tup [.at (vU 0), .at (vI 2)]) (chS S) W7)
    (h3 : (mkNode S k v l r).size ≤ maxSize → 0 < S.free → ∀ S' i, S' = makeS S k v l r → i = nxt S → K (.tup [.at (vU i), .at (vI 0)]) (chS S') W7) :
    vc C0 (aMake S k v l r) Try.f13 [.at (.ptr 0 0), .at (vI k), .at (vI v), .at (vU l), .at (vU r)] (chS S) (normK 7 (wideK W7 K)) := by
  refine Eq.mp (show ((((0 : Int) ≤ 0) ∧
(0 < ((2 : Nat) : Int)) ∧
(brS (l == 0) ((∃ x : XMk S k v l r, ((0 = ((↑x.i : Int))) ∧ (True ∧ ((Value.int IntKind.u32 (l)) = (Value.int IntKind.u32 (l))) ∧ ((Value.int IntKind.u32 (r)) = (Value.int IntKind.u32 (r))) ∧ True ∧ (((Value.int IntKind.u32 (l)) = (Value.int IntKind.u32 (l))) ∧ ((Value.int IntKind.u32 (r)) = (Value.int IntKind.u32 (r))) ∧ True) ∧ ((Value.int IntKind.i64 0) = (Value.int IntKind.i64 0)) ∧ True) ∧ (True ∧ True ∧ True ∧ ((Value.int IntKind.u64 (S.reads)) = (Value.int IntKind.u64 (S.reads))) ∧ True) ∧ (True ∧ True ∧ True ∧ ((Value.int IntKind.u32 (S.fresh)) = (Value.int IntKind.u32 (S.fresh))) ∧ True) ∧ ((S.nodes) = (S.nodes)) ∧ ((S.counts) = (S.counts)) ∧ ((S.used) = (S.used)) ∧ ((S.gen) = (S.gen)) ∧ ((S.rel) = (S.rel)) ∧ (((Value.int IntKind.i64 (k)) = (Value.int IntKind.i64 (x.n.key))) ∧ ((Value.int IntKind.i64 (v)) = (Value.int IntKind.i64 (x.n.value))) ∧ ((Value.int IntKind.u32 (l)) = (Value.int IntKind.u32 (x.n.left))) ∧ ((Value.int IntKind.u32 (r)) = (Value.int IntKind.u32 (x.n.right))) ∧ ((Value.int IntKind.i64 1) = (Value.int IntKind.i64 (x.n.size))) ∧ ((Value.int IntKind.i64 (v)) = (Value.int IntKind.i64 (x.n.sum))) ∧ ((Value.int IntKind.i64 (v)) = (Value.int IntKind.i64 (x.n.min))) ∧ ((Value.int IntKind.i64 (v)) = (Value.int IntKind.i64 (x.n.max))) ∧ True) ∧ True))) (((0 ≤ l) ∧ (l < 4294967296) ∧ (S.used.length ≤ 65537) ∧ (brS (!S.us l)
    ((K (SV.tup [(TV.at (At.val (Value.int IntKind.u32 0))), (TV.at (At.val (Value.int IntKind.i64 1)))]) [(Chunk.box [(At.ptr 1 0), (At.slc 2), (At.slc 3), (At.val (Value.int IntKind.u64 (S.reads)))]), (Chunk.box [(At.slc 4), (At.slc 5), (At.slc 6), (At.val (Value.int IntKind.u32 (S.fresh)))]), (Chunk.row true (EC.node) (S.nodes)), (Chunk.row true (EC.int) (S.counts)), (Chunk.row true (EC.bool) (S.used)), (Chunk.row true (EC.u32) (S.gen)), (Chunk.row true (EC.u32) (S.rel))] [0, 1, 2, 3, 4, 5, 6])) (((0 ≤ l) ∧ (l < (↑S.nodes.length : Int)) ∧ (∃ x : XMk S k v l r, ((0 = ((↑x.i : Int))) ∧ (True ∧ ((Value.int IntKind.u32 (l)) = (Value.int IntKind.u32 (l))) ∧ ((Value.int IntKind.u32 (r)) = (Value.int IntKind.u32 (r))) ∧ True ∧ (((Value.int IntKind.u32 (l)) = (Value.int IntKind.u32 (l))) ∧ ((Value.int IntKind.u32 (r)) = (Value.int IntKind.u32 (r))) ∧ True) ∧ ((Value.int IntKind.i64 0) = (Value.int IntKind.i64 0)) ∧ True) ∧ (True ∧ True ∧ True ∧ ((Value.int IntKind.u64 (S.reads)) = (Value.int IntKind.u64 (S.reads))) ∧ True) ∧ (True ∧ True ∧ True ∧ ((Value.int IntKind.u32 (S.fresh)) = (Value.int IntKind.u32 (S.fresh))) ∧ True) ∧ ((S.nodes) = (S.nodes)) ∧ ((S.counts) = (S.counts)) ∧ ((S.used) = (S.used)) ∧ ((S.gen) = (S.gen)) ∧ ((S.rel) = (S.rel)) ∧ (((Value.int IntKind.i64 (k)) = (Value.int IntKind.i64 (x.n.key))) ∧ ((Value.int IntKind.i64 (v)) = (Value.int IntKind.i64 (x.n.value))) ∧ ((Value.int IntKind.u32 (l)) = (Value.int IntKind.u32 (x.n.left))) ∧
    ((Value.int IntKind.u32 (r)) = (Value.int IntKind.u32 (x.n.right))) ∧ ((Value.int IntKind.i64 (IntKind.i64.wrap (1 + (S.nd l).size))) = (Value.int IntKind.i64 (x.n.size))) ∧ ((Value.int IntKind.i64 (IntKind.i64.wrap (v + (S.nd l).sum))) = (Value.int IntKind.i64 (x.n.sum))) ∧ ((Value.int IntKind.i64 (if (S.nd l).min < v then (S.nd l).min else v)) = (Value.int IntKind.i64 (x.n.min))) ∧ ((Value.int IntKind.i64 (if (S.nd l).max > v then (S.nd l).max else v)) = (Value.int IntKind.i64 (x.n.max))) ∧ True) ∧ True))))))))) ∧
(∀ x : XMk S k v l r, ((0 = ((↑x.i : Int))) → (((0 ≤ IntKind.i64.wrap (0 + 1)) ∧ (IntKind.i64.wrap (0 + 1) < ((2 : Nat) : Int)) ∧ (brS (r == 0) ((∃ x1 : XMk S k v l r, ((1 = ((↑x1.i : Int))) ∧ (True ∧ ((Value.int IntKind.u32 (l)) = (Value.int IntKind.u32 (l))) ∧ ((Value.int IntKind.u32 (r)) = (Value.int IntKind.u32 (r))) ∧ True ∧ (((Value.int IntKind.u32 (l)) = (Value.int IntKind.u32 (l))) ∧ ((Value.int IntKind.u32 (r)) = (Value.int IntKind.u32 (r))) ∧ True) ∧ ((Value.int IntKind.i64 1) = (Value.int IntKind.i64 1)) ∧ True) ∧ (True ∧ True ∧ True ∧ ((Value.int IntKind.u64 (S.reads)) = (Value.int IntKind.u64 (S.reads))) ∧ True) ∧ (True ∧ True ∧ True ∧ ((Value.int IntKind.u32 (S.fresh)) = (Value.int IntKind.u32 (S.fresh))) ∧ True) ∧ ((S.nodes) = (S.nodes)) ∧ ((S.counts) = (S.counts)) ∧ ((S.used) = (S.used)) ∧ ((S.gen) = (S.gen)) ∧ ((S.rel) = (S.rel)) ∧ (((Value.int IntKind.i64 (x.n.key)) = (Value.int IntKind.i64 (x1.n.key))) ∧
    ((Value.int IntKind.i64 (x.n.value)) = (Value.int IntKind.i64 (x1.n.value))) ∧ ((Value.int IntKind.u32 (x.n.left)) = (Value.int IntKind.u32 (x1.n.left))) ∧ ((Value.int IntKind.u32 (x.n.right)) = (Value.int IntKind.u32 (x1.n.right))) ∧ ((Value.int IntKind.i64 (x.n.size)) = (Value.int IntKind.i64 (x1.n.size))) ∧ ((Value.int IntKind.i64 (x.n.sum)) = (Value.int IntKind.i64 (x1.n.sum))) ∧ ((Value.int IntKind.i64 (x.n.min)) = (Value.int IntKind.i64 (x1.n.min))) ∧ ((Value.int IntKind.i64 (x.n.max)) = (Value.int IntKind.i64 (x1.n.max))) ∧ True) ∧ True))) (((0 ≤ r) ∧ (r < 4294967296) ∧ (S.used.length ≤ 65537) ∧ (brS (!S.us r) ((K (SV.tup [(TV.at (At.val (Value.int IntKind.u32 0))), (TV.at (At.val (Value.int IntKind.i64 1)))]) [(Chunk.box [(At.ptr 1 0), (At.slc 2), (At.slc 3), (At.val (Value.int IntKind.u64 (S.reads)))]), (Chunk.box [(At.slc 4), (At.slc 5), (At.slc 6), (At.val (Value.int IntKind.u32 (S.fresh)))]), (Chunk.row true (EC.node) (S.nodes)), (Chunk.row true (EC.int) (S.counts)), (Chunk.row true (EC.bool) (S.used)), (Chunk.row true (EC.u32) (S.gen)), (Chunk.row true (EC.u32) (S.rel))] [0, 1, 2, 3, 4, 5, 6])) (((0 ≤ r) ∧ (r < (↑S.nodes.length : Int)) ∧ (∃ x1 : XMk S k v l r, ((1 = ((↑x1.i : Int))) ∧ (True ∧ ((Value.int IntKind.u32 (l)) = (Value.int IntKind.u32 (l))) ∧ ((Value.int IntKind.u32 (r)) = (Value.int IntKind.u32 (r))) ∧ True ∧ (((Value.int IntKind.u32 (l)) = (Value.int IntKind.u32 (l))) ∧ ((Value.int IntKind.u32 (r)) = (Value.int IntKind.u32 (r))) ∧ True) ∧
    ((Value.int IntKind.i64 1) = (Value.int IntKind.i64 1)) ∧ True) ∧ (True ∧ True ∧ True ∧ ((Value.int IntKind.u64 (S.reads)) = (Value.int IntKind.u64 (S.reads))) ∧ True) ∧ (True ∧ True ∧ True ∧ ((Value.int IntKind.u32 (S.fresh)) = (Value.int IntKind.u32 (S.fresh))) ∧ True) ∧ ((S.nodes) = (S.nodes)) ∧ ((S.counts) = (S.counts)) ∧ ((S.used) = (S.used)) ∧ ((S.gen) = (S.gen)) ∧ ((S.rel) = (S.rel)) ∧ (((Value.int IntKind.i64 (x.n.key)) = (Value.int IntKind.i64 (x1.n.key))) ∧ ((Value.int IntKind.i64 (x.n.value)) = (Value.int IntKind.i64 (x1.n.value))) ∧ ((Value.int IntKind.u32 (x.n.left)) = (Value.int IntKind.u32 (x1.n.left))) ∧ ((Value.int IntKind.u32 (x.n.right)) = (Value.int IntKind.u32 (x1.n.right))) ∧ ((Value.int IntKind.i64 (IntKind.i64.wrap (x.n.size + (S.nd r).size))) = (Value.int IntKind.i64 (x1.n.size))) ∧ ((Value.int IntKind.i64 (IntKind.i64.wrap (x.n.sum + (S.nd r).sum))) = (Value.int IntKind.i64 (x1.n.sum))) ∧ ((Value.int IntKind.i64 (if (S.nd r).min < x.n.min then (S.nd r).min else x.n.min)) = (Value.int IntKind.i64 (x1.n.min))) ∧ ((Value.int IntKind.i64 (if (S.nd r).max > x.n.max then (S.nd r).max else x.n.max)) = (Value.int IntKind.i64 (x1.n.max))) ∧ True) ∧ True))))))))) ∧ (∀ x1 : XMk S k v l r, ((1 = ((↑x1.i : Int))) → (brS (decide (x1.n.size > 2147483647))
    ((K (SV.tup [(TV.at (At.val (Value.int IntKind.u32 0))), (TV.at (At.val (Value.int IntKind.i64 1)))]) [(Chunk.box [(At.ptr 1 0), (At.slc 2), (At.slc 3), (At.val (Value.int IntKind.u64 (S.reads)))]), (Chunk.box [(At.slc 4), (At.slc 5), (At.slc 6), (At.val (Value.int IntKind.u32 (S.fresh)))]), (Chunk.row true (EC.node) (S.nodes)), (Chunk.row true (EC.int) (S.counts)), (Chunk.row true (EC.bool) (S.used)), (Chunk.row true (EC.u32) (S.gen)), (Chunk.row true (EC.u32) (S.rel))] [0, 1, 2, 3, 4, 5, 6])) (((1 ≤ S.used.length) ∧ (S.used.length ≤ 65537) ∧ (S.rel.length ≤ 65537) ∧ (0 ≤ S.fresh) ∧ (S.fresh ≤ 65537) ∧ ((S.gen.length) = (S.used.length)) ∧ (relOK S.rel S.used.length) ∧ (0 ≤ (↑S.rel.length : Int) + ((↑S.used.length : Int) - 1) - S.fresh) ∧ ((((↑S.rel.length : Int) + ((↑S.used.length : Int) - 1) - S.fresh) = 0) → (K (SV.tup [(TV.at (At.val (Value.int IntKind.u32 0))), (TV.at (At.val (Value.int IntKind.i64 2)))]) [(Chunk.box [(At.ptr 1 0), (At.slc 2), (At.slc 3), (At.val (Value.int IntKind.u64 (S.reads)))]), (Chunk.box [(At.slc 4), (At.slc 5), (At.slc 6), (At.val (Value.int IntKind.u32 (S.fresh)))]), (Chunk.row true (EC.node) (S.nodes)), (Chunk.row true (EC.int) (S.counts)), (Chunk.row true (EC.bool) (S.used)), (Chunk.row true (EC.u32) (S.gen)), (Chunk.row true (EC.u32) (S.rel))] [0, 1, 2, 3, 4, 5, 6])) ∧ ((0 < (↑S.rel.length : Int) + ((↑S.used.length : Int) - 1) - S.fresh) → (∀ i : Int, (∀ rl' : List Int, (∀ fr' : Int,
    (((Prod.mk (i) (Prod.mk (rl') (fr'))) = (fresh3 S.rel S.fresh)) → ((0 ≤ i) ∧ (i < (↑S.nodes.length : Int)) ∧ (0 ≤ i) ∧ (i < (↑S.counts.length : Int)) ∧ (0 ≤ l) ∧ (l < (↑(S.counts.set i.toNat 1).length : Int)) ∧ (0 ≤ l) ∧ (l < (↑(S.counts.set i.toNat 1).length : Int)) ∧ (0 ≤ r) ∧ (r < (↑((S.counts.set i.toNat 1).set l.toNat (IntKind.i64.wrap ((S.counts.set i.toNat 1).getD l.toNat 0 + 1))).length : Int)) ∧ (0 ≤ r) ∧ (r < (↑((S.counts.set i.toNat 1).set l.toNat (IntKind.i64.wrap ((S.counts.set i.toNat 1).getD l.toNat 0 + 1))).length : Int)) ∧
    (K (SV.tup [(TV.at (At.val (Value.int IntKind.u32 (i)))), (TV.at (At.val (Value.int IntKind.i64 0)))]) [(Chunk.box [(At.ptr 1 0), (At.slc 2), (At.slc 3), (At.val (Value.int IntKind.u64 (S.reads)))]), (Chunk.box [(At.slc 4), (At.slc 5), (At.slc 6), (At.val (Value.int IntKind.u32 (fr')))]), (Chunk.row true (EC.node) (S.nodes.set i.toNat { key := x1.n.key, value := x1.n.value, left := x1.n.left, right := x1.n.right, size := x1.n.size, sum := x1.n.sum, min := x1.n.min, max := x1.n.max : NodeT })), (Chunk.row true (EC.int) (((S.counts.set i.toNat 1).set l.toNat (IntKind.i64.wrap ((S.counts.set i.toNat 1).getD l.toNat 0 + 1))).set r.toNat (IntKind.i64.wrap (((S.counts.set i.toNat 1).set l.toNat (IntKind.i64.wrap ((S.counts.set i.toNat 1).getD l.toNat 0 + 1))).getD r.toNat 0 + 1)))), (Chunk.row true (EC.bool) (S.used.set i.toNat true)), (Chunk.row true (EC.u32) (S.gen.set i.toNat (IntKind.u32.wrap (S.gn i + 1)))), (Chunk.row true (EC.u32) (rl'))] [0, 1, 2, 3, 4, 5, 6])))))))))))))))) = _ by kernel_rfl) ?_
  obtain ⟨hs, hw⟩ := hw
  have hn1 := hw.n1; have hn2 := hw.n2; have hnn := hw.nnod; have hng := hw.ngen; have hnc := hw.ncnt; have hfr := hw.fr; have hfree := hw.free_nonneg
  have hl0 := hw.ge0 hl
  have hr0 := hw.ge0 hr
  have hl1 : l < S.used.length := by rcases hl with e | e; omega; have := hw.pos e; omega
  have hr1 : r < S.used.length := by rcases hr with e | e; omega; have := hw.pos e; omega
  refine ⟨⟨by decide, by decide, brS_of (fun c => ⟨⟨0, ⟨k, v, l, r, 1, v, v, v⟩, ?_⟩, ?_⟩) fun c => ⟨hl0, by omega, by omega, brS_of (fun d => ?_) fun d => ⟨hl0, by omega, ⟨⟨0, addK ⟨k, v, l, r, 1, v, v, v⟩ (S.nd l), ?_⟩, ?_⟩⟩⟩⟩,
    fun x rx => ⟨⟨by decide, by decide, brS_of (fun c => ⟨⟨1, x.n, ?_⟩, ?_⟩) fun c => ⟨hr0, by omega, by omega, brS_of (fun d => ?_) fun d => ⟨hr0, by omega, ⟨⟨1, addK x.n (S.nd r), ?_⟩, ?_⟩⟩⟩⟩, fun x1 r1 => ?_⟩⟩
  · have c : l = 0 := by simpa using c
    rw [if_pos rfl]; unfold addC; rw [if_pos c]
  · (repeat' first | exact trivial | exact rfl | refine And.intro ?_ ?_)
  · have c : l ≠ 0 := by simpa using c
    have := hl.resolve_left c
    rw [this] at d; cases d
  · have c : l ≠ 0 := by simpa using c
    rw [if_pos rfl]; unfold addC; rw [if_neg c]
  · (repeat' first | exact trivial | exact rfl | refine And.intro ?_ ?_)
  · have c : r = 0 := by simpa using c
    have hx := x.h
    rw [if_pos (by omega)] at hx
    rw [if_neg (by decide)]; unfold mkNode; rw [← hx]; unfold addC; rw [if_pos c]
  · (repeat' first | exact trivial | exact rfl | refine And.intro ?_ ?_)
  · have c : r ≠ 0 := by simpa using c
    have := hr.resolve_left c
    rw [this] at d; cases d
  · have c : r ≠ 0 := by simpa using c
    have hx := x.h
    rw [if_pos (by omega)] at hx
    rw [if_neg (by decide)]; unfold mkNode; rw [← hx]; unfold addC; rw [if_neg c]
  · (repeat' first | exact trivial | exact rfl | refine And.intro ?_ ?_)
  · obtain ⟨i1, n1, hx⟩ := x1
    have r1 : i1 = 1 := by have : (1 : Int) = (i1 : Int) := r1; omega
    subst r1
    rw [if_neg (by decide)] at hx
    subst hx
    refine brS_of (fun c => h1 (by have : (mkNode S k v l r).size > 2147483647 := of_decide_eq_true c; unfold maxSize; omega)) fun c => ?_
    have c : (mkNode S k v l r).size ≤ maxSize := by have : ¬ (mkNode S k v l r).size > 2147483647 := of_decide_eq_false c; unfold maxSize; omega
    refine ⟨by omega, hn2, by omega, hfr.1, by omega, hng, fun i hi => by have := hw.rel i hi; omega, by have := hfree.1; unfold Arn.free Arn.cap at this; omega, fun e => h2 c (by unfold Arn.free Arn.cap; omega), fun e i rl' fr' he => ?_⟩
    have e : 0 < S.free := by unfold Arn.free Arn.cap; omega
    have h4 := h3 c e _ _ rfl rfl
    obtain ⟨b1, b2, _⟩ := hw.nxt_spec e
    have e1 : i = nxt S := congrArg Prod.fst he
    have e2 : rl' = (freshS S).2.1 := congrArg (fun p : Int × List Int × Int => p.2.1) he
    have e3 : fr' = (freshS S).2.2 := congrArg (fun p : Int × List Int × Int => p.2.2) he
    subst e1 e2 e3
    refine ⟨by omega, by omega, by omega, by omega, hl0, ?_, hl0, ?_, hr0, ?_, hr0, ?_, h4⟩
    all_goals (simp only [List.length_set]; omega)
theorem s_make : SoundT C0 13 tMake := by
  refine .ofW W7 Try.func13 (by decide) rfl fun args H K h hB => ?_
  unfold tMake at h
  split at h <;> try exact h.elim
  unfold arM at h
  split at h <;> try exact h.elim
  rename_i k v l r _ rd fr nd ct us gn rl
  obtain ⟨h1, h2, h3, h4, h5, h6⟩ := h
  exact ⟨aMake ⟨us, gn, rl, fr, nd, ct, rd⟩ k v l r, ⟨frame C0.ok s_slAllocated _, frame C0.ok s_slAlloc _, trivial⟩, vc_make ⟨us, gn, rl, fr, nd, ct, rd⟩ k v l r K h1 h2 h3 h4 h5 h6⟩
end Go.Proofs.Ytmjnoiajenoinaa.Sx
end
section
/- Making a node of two trees that are handed over; planting a tree. No program in sight. -/
namespace Go.Proofs.Ytmjnoiajenoinaa
open Go

variable {S S' S'' : Arn} {hs : List Int}

theorem indeg_pos (h : Wf S hs) {i j : Int} (hj : S.us j = true) (he : (S.nd j).left = i ∨ (S.nd j).right = i) : 1 ≤ S.indeg i := by
  have hp := h.pos hj
  have hn := h.nnod
  have hm : S.nd j ∈ S.nodes := by
    have : j.toNat < S.nodes.length := by omega
    unfold Arn.nd
    rw [List.getD_eq_getElem?_getD, List.getElem?_eq_getElem this]
    exact List.getElem_mem this
  unfold Arn.indeg
  rcases he with he | he
  · have := (List.countP_pos_iff (p := fun x : NodeT => x.left == i)).2 ⟨S.nd j, hm, by simpa using he⟩
    omega
  · have := (List.countP_pos_iff (p := fun x : NodeT => x.right == i)).2 ⟨S.nd j, hm, by simpa using he⟩
    omega
/-- A reference is given back to a tree that is held otherwise as well. -/
def relA (S : Arn) (i : Int) : Arn := if S.us i then decS S i else S
theorem relA_same (S : Arn) (i j : Int) : (relA S i).us j = S.us j ∧ (relA S i).nd j = S.nd j ∧ (relA S i).gn j = S.gn j ∧ (relA S i).indeg j = S.indeg j := by
  unfold relA; split <;> exact ⟨rfl, rfl, rfl, rfl⟩
theorem relA_flds (S : Arn) (i : Int) : (relA S i).reads = S.reads ∧ (relA S i).used = S.used ∧ (relA S i).nu = S.nu ∧ (relA S i).free = S.free ∧ (relA S i).nodes = S.nodes ∧ (relA S i).rel = S.rel ∧ (relA S i).fresh = S.fresh := by
  unfold relA; split <;> exact ⟨rfl, rfl, rfl, rfl, rfl, rfl, rfl⟩
theorem Wf.two {i : Int} (h : Wf S (i :: hs)) (hi : S.us i = true) (hd : 1 ≤ S.indeg i) : 1 < S.ct i := by
  obtain ⟨h1, _⟩ := h.cnt i hi
  rw [List.count_cons_self] at h1
  omega
theorem Wf.give {i : Int} (h : Wf S (i :: hs)) (hd : S.us i = true → 1 ≤ S.indeg i) : Wf (relA S i) hs := by
  unfold relA
  split
  · rename_i hi
    exact h.dec hi (h.two hi (hd hi))
  · rename_i hi
    have : i = 0 := (h.held i (by simp)).resolve_right hi
    subst this
    exact h.of_zero
theorem Wf.given {i : Int} (h : Wf S (i :: hs)) (hd : S.us i = true → 1 ≤ S.indeg i) (h1 : 1 < S.ct i → S.us i = true → S' = decS S i) (h2 : S.us i = false → S' = S) : S' = relA S i := by
  unfold relA
  cases hi : S.us i with
  | true => rw [if_pos rfl]; exact h1 (h.two hi (hd hi)) hi
  | false => simp; exact h2 hi
theorem Rep.same (hu : ∀ j, S'.us j = S.us j) (hn : ∀ j, S'.nd j = S.nd j) : ∀ {t : Tr} {i : Int}, Rep S t i → Rep S' t i
  | .nil, i, hr => hr
  | .node l k v r, i, hr => by
    obtain ⟨h1, h2, h3, h4, h5⟩ := hr
    exact ⟨(hu i).trans h1, by rw [hn]; exact h2, by rw [hn]; exact h3, by rw [hn]; exact Rep.same hu hn h4, by rw [hn]; exact Rep.same hu hn h5⟩
theorem stay_same (hu : ∀ j, S'.us j = S.us j) (hn : ∀ j, S'.nd j = S.nd j) (hg : ∀ j, S'.gn j = S.gn j) (hs : List Int) : Stay S S' hs := fun i hi => ⟨(hu i).trans hi.us, hn i, hg i⟩
def nodeS (S : Arn) (k v l r : Int) : Arn := relA (relA (makeS S k v l r) l) r
theorem make_flds (h : Wf S hs) (hf : 0 < S.free) {k v l r : Int} : (makeS S k v l r).reads = S.reads ∧ (makeS S k v l r).used.length = S.used.length ∧ (makeS S k v l r).nu = S.nu + 1 := by
  obtain ⟨h1, h2, h3, _⟩ := h.nxt_spec hf
  refine ⟨rfl, by simp [makeS], ?_⟩
  have a := countP_set' id S.used (nxt S).toNat true false (by omega)
  have : S.used.getD (nxt S).toNat false = false := h3
  rw [this] at a
  simp at a
  unfold Arn.nu makeS
  simp
  omega
theorem make_rep (h : Wf S hs) (hf : 0 < S.free) {k v l r : Int} : ∀ {t : Tr} {i : Int}, Rep S t i → Rep (makeS S k v l r) t i
  | .nil, i, hr => hr
  | .node tl kk vv tr, i, hr => by
    obtain ⟨h1, h2, h3, h4, h5⟩ := hr
    have hx := (h.nxt_spec hf).2.2.1
    have e : i ≠ nxt S := fun e => by rw [e, hx] at h1; cases h1
    have en : (makeS S k v l r).nd i = S.nd i := by rw [make_nd h hf, if_neg e]
    exact ⟨(make_us h hf i).2 (.inr h1), by rw [en]; exact h2, by rw [en]; exact h3, by rw [en]; exact make_rep h hf h4, by rw [en]; exact make_rep h hf h5⟩

/-- The steps from a new node to the two references given back, from what the calls promise. -/
structure NodeR (S : Arn) (hs : List Int) (k v : Int) (tl tr : Tr) (S' : Arn) (i : Int) : Prop where
  wf : Wf S' (i :: hs)
  rep : Rep S' (.node tl k v tr) i
  stay : Stay S S' hs
  len : S'.used.length = S.used.length
  rds : S'.reads = S.reads
  nu : S'.nu = S.nu + 1
  pos : 1 ≤ i
theorem node_two {k v l r : Int} (h : Wf S (l :: r :: hs)) (hf : 0 < S.free) (hz : (mkNode S k v l r).size ≤ maxSize) (hl : hs.length ≤ 999999990) :
    Wf (makeS S k v l r) (l :: (nxt S :: r :: hs)) ∧ ((makeS S k v l r).us l = true → 1 ≤ (makeS S k v l r).indeg l) ∧ Wf (relA (makeS S k v l r) l) (r :: (nxt S :: hs)) ∧ ((relA (makeS S k v l r) l).us r = true → 1 ≤ (relA (makeS S k v l r) l).indeg r) := by
  have hl1 := h.held l (by simp)
  have hr1 := h.held r (by simp)
  have hm := h.make (k := k) (v := v) hl1 hr1 hf hz (by simp; omega)
  obtain ⟨h1, h2, h3, _⟩ := h.nxt_spec hf
  have hm1 : Wf (makeS S k v l r) (l :: (nxt S :: r :: hs)) := hm.perm (List.Perm.swap _ _ _)
  have hu : (makeS S k v l r).us (nxt S) = true := (make_us h hf _).2 (.inl rfl)
  have hn : (makeS S k v l r).nd (nxt S) = mkNode S k v l r := by rw [make_nd h hf, if_pos rfl]
  obtain ⟨_, _, m1, m2⟩ := mkNode_flds S k v l r
  have d1 : 1 ≤ (makeS S k v l r).indeg l := indeg_pos hm hu (.inl (by rw [hn, m1]))
  have d2 : 1 ≤ (makeS S k v l r).indeg r := indeg_pos hm hu (.inr (by rw [hn, m2]))
  refine ⟨hm1, fun _ => d1, (hm1.give fun _ => d1).perm (List.Perm.swap _ _ _), fun _ => ?_⟩
  rw [(relA_same _ _ _).2.2.2]; exact d2
theorem node_ok {k v l r : Int} {tl tr : Tr} (h : Wf S (l :: r :: hs)) (hf : 0 < S.free) (hz : (mkNode S k v l r).size ≤ maxSize) (hl : hs.length ≤ 999999990) (h1 : Rep S tl l) (h2 : Rep S tr r) : NodeR S hs k v tl tr (nodeS S k v l r) (nxt S) := by
  obtain ⟨a1, a2, a3, a4⟩ := node_two (k := k) (v := v) h hf hz hl
  obtain ⟨x1, x2, x3, _⟩ := h.nxt_spec hf
  have e1 : ∀ j, (nodeS S k v l r).us j = (makeS S k v l r).us j := fun j => by unfold nodeS; rw [(relA_same _ _ _).1, (relA_same _ _ _).1]
  have e2 : ∀ j, (nodeS S k v l r).nd j = (makeS S k v l r).nd j := fun j => by unfold nodeS; rw [(relA_same _ _ _).2.1, (relA_same _ _ _).2.1]
  have e3 : ∀ j, (nodeS S k v l r).gn j = (makeS S k v l r).gn j := fun j => by unfold nodeS; rw [(relA_same _ _ _).2.2.1, (relA_same _ _ _).2.2.1]
  obtain ⟨f1, f2, f3⟩ := make_flds h hf (k := k) (v := v) (l := l) (r := r)
  obtain ⟨p1, p2, p3, _⟩ := relA_flds (makeS S k v l r) l
  obtain ⟨q1, q2, q3, _⟩ := relA_flds (relA (makeS S k v l r) l) r
  have hn : (makeS S k v l r).nd (nxt S) = mkNode S k v l r := by rw [make_nd h hf, if_pos rfl]
  obtain ⟨m3, m4, m1, m2⟩ := mkNode_flds S k v l r
  refine ⟨a3.give a4, ?_, (stay_make h hf hs).trans (stay_same e1 e2 e3 hs), ?_, ?_, ?_, x1⟩
  · refine ⟨by rw [e1, make_us h hf]; exact .inl rfl, by rw [e2, hn, m3], by rw [e2, hn, m4], ?_, ?_⟩
    · rw [e2, hn, m1]; exact (make_rep h hf h1).same e1 e2
    · rw [e2, hn, m2]; exact (make_rep h hf h2).same e1 e2
  · unfold nodeS; rw [q2, p2]; exact f2
  · unfold nodeS; rw [q1, p1]; exact f1
  · unfold nodeS; rw [q3, p3]; exact f3
theorem mk_size {k v l r : Int} (h : Wf S hs) {tl tr : Tr} (h1 : Rep S tl l) (h2 : Rep S tr r) : (mkNode S k v l r).size = 1 + tl.size + tr.size := by
  rw [h.mkNode_size, h1.size h, h2.size h]

/-! ### Balance -/
def balN (l r : Int) : Prop := l + 1 ≤ 3 * (r + 1) ∧ r + 1 ≤ 3 * (l + 1)
instance (l r : Int) : Decidable (balN l r) := by unfold balN; infer_instance
def Tr.Bal : Tr → Prop
  | .nil => True
  | .node l _ _ r => balN l.size r.size ∧ l.Bal ∧ r.Bal

/-- A tree with the entries of a list is made, and held. -/
structure PlantR (S : Arn) (hs : List Int) (l : List Ent) (S' : Arn) (i : Int) : Prop where
  wf : Wf S' (i :: hs)
  rep : ∃ t, Rep S' t i ∧ t.list = l ∧ t.Bal
  stay : Stay S S' hs
  len : S'.used.length = S.used.length
  rds : S'.reads = S.reads
  nu : S'.nu = S.nu + l.length
theorem PlantR.nil (h : Wf S hs) (hl : hs.length ≤ 1000000000) : PlantR S hs [] S 0 := ⟨h.zero_cons hl, ⟨.nil, rfl, rfl, trivial⟩, Stay.refl _ _, rfl, rfl, rfl⟩
/-- From two planted trees to the tree of both with an entry between. -/
theorem PlantR.node {S1 S2 S3 : Arn} {a b : List Ent} {e : Ent} {il ir i : Int} (h1 : PlantR S hs a S1 il) (h2 : PlantR S1 (il :: hs) b S2 ir) (hb : balN a.length b.length)
    (h3 : ∀ tl tr, Rep S2 tl il → Rep S2 tr ir → NodeR S2 hs e.1 e.2 tl tr S3 i) : PlantR S hs (a ++ e :: b) S3 i := by
  obtain ⟨tl, r1, r2, r3⟩ := h1.rep
  obtain ⟨tr, q1, q2, q3⟩ := h2.rep
  have r1' : Rep S2 tl il := r1.held h1.wf h2.stay (.inr (by simp))
  have n := h3 tl tr r1' q1
  refine ⟨n.wf, ⟨_, n.rep, ?_, ?_, r3, q3⟩, ?_, ?_, ?_, ?_⟩
  · simp [Tr.list, r2, q2]
  · rw [← tl.list_len, ← tr.list_len, r2, q2]; exact hb
  · exact (h1.stay.trans (h2.stay.mono (by simp_all))).trans n.stay
  · rw [n.len, h2.len, h1.len]
  · rw [n.rds, h2.rds, h1.rds]
  · rw [n.nu, h2.nu, h1.nu]; simp; omega
end Go.Proofs.Ytmjnoiajenoinaa
end
section
/- Make where it succeeds, Release where another reference is left. -/
namespace Go.Proofs.Ytmjnoiajenoinaa.Sx
open Go

def tMakeOk : Tfm C0 := fun args H K => match args with
  | [.at (.ptr 0 0), .at (.val (.int .i64 k)), .at (.val (.int .i64 v)), .at (.val (.int .u32 l)), .at (.val (.int .u32 r))] => arM H fun S => exW S ∧ live S l ∧ live S r ∧ (mkNode S k v l r).size ≤ maxSize ∧ 0 < S.free ∧
    ∀ S' i, S' = makeS S k v l r → i = nxt S → K (.tup [.at (vU i), .at (vI 0)]) (chS S') W7
  | _ => False
theorem s_makeOk : SoundT C0 13 tMakeOk := s_make.weak fun args H K h => by
  unfold tMakeOk at h
  unfold tMake
  split at h <;> try exact h.elim
  unfold arM at h ⊢
  split at h <;> try exact h.elim
  obtain ⟨h1, h2, h3, h4, h5, h6⟩ := h
  exact ⟨h1, h2, h3, fun e => absurd h4 (by omega), fun _ e => absurd h5 (by omega), fun _ _ => h6⟩
def tGive : Tfm C0 := fun args H K => match args with
  | [.at (.ptr 0 0), .at (.val (.int .u32 i))] => arM H fun S => ∃ hs, Wf S (i :: hs) ∧ (S.us i = true → 1 ≤ S.indeg i) ∧ ∀ S', S' = relA S i → K (.tup [.at (vI 0), .at (vI 0)]) (chS S') W7
  | _ => False
theorem s_give : SoundT C0 14 tGive := s_release.weak fun args H K h => by
  unfold tGive at h
  unfold tRelease
  split at h <;> try exact h.elim
  unfold arM at h ⊢
  split at h <;> try exact h.elim
  obtain ⟨hs, h1, h2, h3⟩ := h
  refine ⟨hs, h1, fun S' fr _ _ h4 h5 h6 => ?_⟩
  have e := h1.given h2 h5 h6
  have h7 := h3 S' e
  have : fr = 0 := by rw [e, (relA_flds _ _).2.2.1] at h4; omega
  rw [this]
  exact h7
end Go.Proofs.Ytmjnoiajenoinaa.Sx
end
section
/- Listing a tree, and trees of a given shape. No program in sight. -/
namespace Go.Proofs.Ytmjnoiajenoinaa
open Go

/-- What 'keys' of a lister collects where there is room for so many entries, and how many nodes it reads. -/
def lk : Tr → Int → Int → Nat → List Ent × Nat
  | .nil, _, _, _ => ([], 0)
  | .node l k v r, lo, hi, room => if room = 0 then ([], 0) else
    let a := if lo < k then lk l lo hi room else ([], 0)
    let b : List Ent := if lo ≤ k ∧ k ≤ hi ∧ a.1.length < room then [(k, v)] else []
    let c := if k < hi then lk r lo hi (room - (a.1.length + b.length)) else ([], 0)
    (a.1 ++ (b ++ c.1), 1 + a.2 + c.2)
def ne0 (t : Tr) : Nat := match t with
  | .nil => 0
  | .node _ _ _ _ => 1
/-- What 'places' of a lister collects, and how many nodes it reads. -/
def pl : Tr → Int → Int → List Ent × Nat
  | .nil, _, _ => ([], 0)
  | .node l k v r, f, t => if t ≤ f then ([], 0) else
    let s : Int := l.size
    let a := if f < s then pl l f (if s < t then s else t) else ([], 0)
    let b : List Ent := if f ≤ s ∧ s < t then [(k, v)] else []
    let c := if s + 1 < t then pl r (if 0 < f - s - 1 then f - s - 1 else 0) (t - s - 1) else ([], 0)
    (a.1 ++ (b ++ c.1), 1 + ne0 l + a.2 + c.2)
/-- The shape that Build specifies. -/
def ShpT : Tr → List Ent → Prop
  | .nil, l => l = []
  | .node a k v b, l => 0 < l.length ∧ l.getD (l.length / 2) (0, 0) = (k, v) ∧ ShpT a (l.take (l.length / 2)) ∧ ShpT b (l.drop (l.length / 2 + 1))
theorem ShpT.list : ∀ {t : Tr} {l : List Ent}, ShpT t l → t.list = l
  | .nil, l, h => by have : l = [] := h; rw [this]; rfl
  | .node a k v b, l, h => by
    obtain ⟨h1, h2, h3, h4⟩ := h
    simp only [Tr.list]
    rw [h3.list, h4.list, ← h2]
    have hp : l.length / 2 < l.length := by omega
    have e : l[l.length / 2]? = some (l.getD (l.length / 2) (0, 0)) := by simp [List.getD_eq_getElem?_getD, List.getElem?_eq_getElem hp]
    obtain ⟨q1, q2⟩ := List.getElem?_eq_some_iff.1 e
    have e2 : l.drop (l.length / 2) = l.getD (l.length / 2) (0, 0) :: l.drop (l.length / 2 + 1) := by rw [List.drop_eq_getElem_cons q1, q2]
    rw [← e2, List.take_append_drop]
structure BuildR (S : Arn) (hs : List Int) (l : List Ent) (S' : Arn) (i : Int) : Prop where
  wf : Wf S' (i :: hs)
  rep : ∃ t, Rep S' t i ∧ ShpT t l
  stay : Stay S S' hs
  len : S'.used.length = S.used.length
  rds : S'.reads = S.reads
  nu : S'.nu = S.nu + l.length
end Go.Proofs.Ytmjnoiajenoinaa
end
section
/- Small facts on states. -/
namespace Go.Proofs.Ytmjnoiajenoinaa.Sx
open Go

theorem rdS_zero (S : Arn) : rdS S 0 = S := by simp [rdS]
theorem rdS_rdS (S : Arn) (a b : Nat) : rdS (rdS S a) b = rdS S (a + b) := by simp [rdS]; omega
theorem rep_rd {S : Arn} {t : Tr} {i : Int} (h : Rep S t i) (n : Nat) : Rep (rdS S n) t i := Rep.same (S := S) (S' := rdS S n) (fun _ => rfl) (fun _ => rfl) h
theorem inU_of {S : Arn} {hs : List Int} (h : Wf S hs) {i : Int} (hi : live S i) : inU i := by
  have h2 := h.n2
  rcases hi with rfl | hi
  · exact ⟨by decide, by decide⟩
  · have := h.pos hi; exact ⟨by omega, by omega⟩
end Go.Proofs.Ytmjnoiajenoinaa.Sx
end
section
/- Listing trees. -/
namespace Go.Proofs.Ytmjnoiajenoinaa.Sx
open Go

/-KEEP Wf exW inU live Arn.cap Arn.free maxSize mkNode makeS relA nxt NodeR BuildR Rep lk pl rdS Tr.size-/
abbrev chL (lim : Int) (S : Arn) (out : List Ent) : List (Chunk C0) := [.box [.ptr 1 0, .slc 2, vI lim], .box [.ptr 3 0, .slc 4, .slc 5, vU64 S.reads], .row true EC.ent out, .box [.slc 6, .slc 7, .slc 8, vU S.fresh], .row true EC.node S.nodes, .row true EC.int S.counts, .row true EC.bool S.used, .row true EC.u32 S.gen, .row true EC.u32 S.rel]
def lsM (H : List (Chunk C0)) (k : Int → Arn → List Ent → Prop) : Prop := match H with
  | [.box [.ptr 1 0, .slc 2, .val (.int .i64 lim)], .box [.ptr 3 0, .slc 4, .slc 5, .val (.int .u64 rd)], .row true .ent out, .box [.slc 6, .slc 7, .slc 8, .val (.int .u32 fr)], .row true .node nd, .row true .int ct, .row true .bool us, .row true .u32 gn, .row true .u32 rl] => k lim ⟨us, gn, rl, fr, nd, ct, rd⟩ out
  | _ => False
def tFull : Tfm C0 := fun args H K => match args with
  | [.at (.ptr 0 0)] => lsM H fun lim S out => K (.one (.at (vB (decide (lim ≤ (out.length : Int)))))) (chL lim S out) []
  | _ => False
def room (lim : Int) (out : List Ent) : Nat := (lim - out.length).toNat
def tLk (n : Nat) : Tfm C0 := fun args H K => match args with
  | [.at (.ptr 0 0), .at (.val (.int .u32 i)), .at (.val (.int .i64 lo)), .at (.val (.int .i64 hi))] => lsM H fun lim S out => ∃ hs t, Wf S hs ∧ Rep S t i ∧ t.size < n ∧ t.size ≤ 1000000 ∧ out.length + t.size ≤ 3000000 ∧ S.reads + t.size ≤ 3000000000000000000 ∧
    ∀ S' out', S' = rdS S (lk t lo hi (room lim out)).2 → out' = out ++ (lk t lo hi (room lim out)).1 → K (.tup []) (chL lim S' out') [0, 1, 2]
  | _ => False
structure XSt (P : Arn → List Ent → Prop) where
  S : Arn
  out : List Ent
  h : P S out
noncomputable def aLk (n : Nat) (lim : Int) (nd : NodeT) (P1 P2 : Arn → List Ent → Prop) : Ann C0 := { Γ := [(154, frameT [] tFull), (60, frameT [] tNode), (136, frameT [] (tLk n))], inv := fun k => match k with
  | 1005 => some { X := XSt P1, sl := [8], tf := fun _ => [.one (.at (.ptr 9 0))], hf := fun x => chL lim x.S x.out ++ [bxN nd], wr := [0, 1, 2] }
  | 1007 => some { X := XSt P2, sl := [8], tf := fun _ => [.one (.at (.ptr 9 0))], hf := fun x => chL lim x.S x.out ++ [bxN nd], wr := [0, 1, 2] }
  | _ => none }
def tPl (n : Nat) : Tfm C0 := fun args H K => match args with
  | [.at (.ptr 0 0), .at (.val (.int .u32 i)), .at (.val (.int .i64 x)), .at (.val (.int .i64 y))] => lsM H fun lim S out => ∃ hs t, Wf S hs ∧ Rep S t i ∧ t.size < n ∧ t.size ≤ 1000000 ∧ out.length + t.size ≤ 3000000 ∧ S.reads + 2 * t.size ≤ 3000000000000000000 ∧ 0 ≤ x ∧ y ≤ t.size ∧
    ∀ S' out', S' = rdS S (pl t x y).2 → out' = out ++ (pl t x y).1 → K (.tup []) (chL lim S' out') [0, 1, 2]
  | _ => False
def lkA (t : Tr) (lo hi : Int) (rm : Nat) : List Ent × Nat := match t with
  | .nil => ([], 0)
  | .node l k _ _ => if lo < k then lk l lo hi rm else ([], 0)
def lkB (t : Tr) (lo hi : Int) (rm : Nat) : List Ent := match t with
  | .nil => []
  | .node _ k v _ => if lo ≤ k ∧ k ≤ hi ∧ (lkA t lo hi rm).1.length < rm then [(k, v)] else []
def plS (t : Tr) : Int := match t with
  | .nil => 0
  | .node l _ _ _ => l.size
def plA (t : Tr) (x y : Int) : List Ent × Nat := match t with
  | .nil => ([], 0)
  | .node l _ _ _ => if x < (l.size : Int) then pl l x (if (l.size : Int) < y then (l.size : Int) else y) else ([], 0)
def plB (t : Tr) (x y : Int) : List Ent := match t with
  | .nil => []
  | .node l k v _ => if x ≤ (l.size : Int) ∧ (l.size : Int) < y then [(k, v)] else []
end Go.Proofs.Ytmjnoiajenoinaa.Sx
end
section
/- Ranks and positions in a tree. No program in sight. -/
namespace Go.Proofs.Ytmjnoiajenoinaa
open Go

def bf : Tr → Int → Bool → Nat × Nat
  | .nil, _, _ => (0, 0)
  | .node l k _ r, q, eq => if q < k ∨ (k = q ∧ eq = false) then ((bf l q eq).1, 1 + (bf l q eq).2) else (l.size + 1 + (bf r q eq).1, 1 + ne0 l + (bf r q eq).2)
def sel : Tr → Int → Option Ent × Nat
  | .nil, _ => (none, 0)
  | .node l k v r, i => if i < (l.size : Int) then ((sel l i).1, 1 + ne0 l + (sel l i).2) else if (l.size : Int) < i then ((sel r (i - (l.size + 1))).1, 1 + ne0 l + (sel r (i - (l.size + 1))).2) else (some (k, v), 1 + ne0 l)
def selR (t : Tr) (i : Int) : Option Ent × Nat := if i < 0 then (none, 0) else if (t.size : Int) ≤ i then (none, ne0 t) else ((sel t i).1, ne0 t + (sel t i).2)
end Go.Proofs.Ytmjnoiajenoinaa
end
section
/- Ranks and positions. -/
namespace Go.Proofs.Ytmjnoiajenoinaa.Sx
open Go

/-KEEP Wf exW inU live Arn.cap Arn.free Rep rdS Tr.size ne0 bf sel selR-/
structure XBf (S : Arn) (t : Tr) (q : Int) (eq : Bool) where
  i : Int
  t' : Tr
  c : Nat
  m : Nat
  h : Rep S t' i ∧ bf t q eq = (c + (bf t' q eq).1, m + (bf t' q eq).2) ∧ t'.size ≤ t.size
noncomputable def aBf (S : Arn) (t : Tr) (q : Int) (eq : Bool) : Ann C0 := { Γ := [(60, frameT [] tNode), (17, frameT [] tSize)], inv := fun n => match n with
  | 3 => some { X := XBf S t q eq, sl := [10, 9], tf := fun x => [vi .u32 x.i, vi .i64 x.c], hf := fun x => chS (rdS S x.m), μ := fun x => x.t'.size, wr := [0] }
  | _ => none }
def tBf : Tfm C0 := fun args H K => match args with
  | [.at (.ptr 0 0), .at (.val (.int .u32 i)), .at (.val (.int .i64 q)), .at (.val (.bool eq))] => arM H fun S => ∃ hs t, Wf S hs ∧ Rep S t i ∧ t.size ≤ 1000000 ∧ S.reads + 2 * t.size ≤ 3000000000000000000 ∧
    ∀ S' (c : Int), S' = rdS S (bf t q eq).2 → c = (bf t q eq).1 → K (.one (.at (vI c))) (chS S') [0]
  | _ => False
def tRank : Tfm C0 := fun args H K => match args with
  | [.at (.ptr 0 0), .at (.val (.int .u32 i)), .at (.val (.int .i64 q))] => arM H fun S => ∃ hs t, Wf S hs ∧ Rep S t i ∧ t.size ≤ 1000000 ∧ S.reads + 2 * t.size ≤ 3000000000000000000 ∧
    ∀ S' (c : Int), S' = rdS S (bf t q false).2 → c = (bf t q false).1 → K (.one (.at (vI c))) (chS S') [0]
  | _ => False
structure XSel (S : Arn) (t : Tr) (n : Int) where
  i : Int
  j : Int
  t' : Tr
  m : Nat
  h : Rep S t' i ∧ sel t n = ((sel t' j).1, m + (sel t' j).2) ∧ t'.size ≤ t.size ∧ 0 ≤ j ∧ j < t'.size
def entO (o : Option Ent) : TV := .agg [vI (o.getD (0, 0)).1, vI (o.getD (0, 0)).2]
noncomputable def aSel (S : Arn) (t : Tr) (n : Int) : Ann C0 := { Γ := [(60, frameT [] tNode), (17, frameT [] tSize)], inv := fun k => match k with
  | 4 => some { X := XSel S t n, sl := [8, 2, 6], tf := fun x => [vi .u32 x.i, vi .i64 x.j, .one (.at (.ptr 7 0))], hf := fun x => chS (rdS S (ne0 t + x.m)) ++ [.box [vI 0, vI 0]], μ := fun x => x.t'.size, wr := [0] }
  | _ => none }
def tSel : Tfm C0 := fun args H K => match args with
  | [.at (.ptr 0 0), .at (.val (.int .u32 i)), .at (.val (.int .i64 n))] => arM H fun S => ∃ hs t, Wf S hs ∧ Rep S t i ∧ t.size ≤ 1000000 ∧ S.reads + 2 * t.size ≤ 3000000000000000000 ∧
    ∀ S' o, S' = rdS S (selR t n).2 → o = (selR t n).1 → K (.tup [entO o, .at (vB o.isSome)]) (chS S') [0]
  | _ => False
end Go.Proofs.Ytmjnoiajenoinaa.Sx
end
section
/- Listing a tree gives what the reference gives. No program in sight. -/
namespace Go.Proofs.Ytmjnoiajenoinaa
open Go

/-- The entries with keys from lo to hi. -/
def betE (l : List Ent) (lo hi : Int) : List Ent := l.filter fun x => decide (lo ≤ x.1) && decide (x.1 ≤ hi)
theorem node_asc {l r : Tr} {k v : Int} (h : Asc (Tr.node l k v r).list) : Asc l.list ∧ Asc r.list ∧ (∀ x ∈ l.list, x.1 < k) ∧ (∀ x ∈ r.list, k < x.1) :=
  ⟨Srt.left h, (Srt.right h).tail, fun x hx => (List.pairwise_append.1 h).2.2 x hx (k, v) (by simp), fun x hx => (Srt.right h).head x hx⟩
end Go.Proofs.Ytmjnoiajenoinaa
end
section
/- The nearest entries of a tree. No program in sight. -/
namespace Go.Proofs.Ytmjnoiajenoinaa
open Go

def lsT : Tr → (Int → Bool) → Option Ent → Option Ent × Nat
  | .nil, _, b => (b, 0)
  | .node l k v r, p, b => if p k then ((lsT l p (some (k, v))).1, 1 + (lsT l p (some (k, v))).2) else ((lsT r p b).1, 1 + (lsT r p b).2)
def gtT : Tr → (Int → Bool) → Option Ent → Option Ent × Nat
  | .nil, _, b => (b, 0)
  | .node l k v r, p, b => if p k then ((gtT r p (some (k, v))).1, 1 + (gtT r p (some (k, v))).2) else ((gtT l p b).1, 1 + (gtT l p b).2)
theorem lsT_le : ∀ (t : Tr) (p : Int → Bool) (b : Option Ent), (lsT t p b).2 ≤ t.size
  | .nil, _, _ => by simp [lsT, Tr.size]
  | .node l k v r, p, b => by
    have h1 := lsT_le l p (some (k, v))
    have h2 := lsT_le r p b
    simp only [lsT, Tr.size]
    split <;> simp only [] <;> omega
theorem gtT_le : ∀ (t : Tr) (p : Int → Bool) (b : Option Ent), (gtT t p b).2 ≤ t.size
  | .nil, _, _ => by simp [gtT, Tr.size]
  | .node l k v r, p, b => by
    have h1 := gtT_le r p (some (k, v))
    have h2 := gtT_le l p b
    simp only [gtT, Tr.size]
    split <;> simp only [] <;> omega
/-- The first entry that is admitted, where greater keys are admitted as well. -/
theorem lsT_find : ∀ (t : Tr) (p : Int → Bool) (b : Option Ent), Asc t.list → (∀ i j, i < j → p i = true → p j = true) → (lsT t p b).1 = (t.list.find? fun x => p x.1).or b
  | .nil, _, _, _, _ => by simp [lsT, Tr.list]
  | .node l k v r, p, b, h, hp => by
    obtain ⟨hl, hr, hlk, hkr⟩ := node_asc h
    simp only [lsT, Tr.list]
    rw [List.find?_append, List.find?_cons]
    cases c : p k with
    | true =>
      simp only [if_true]
      rw [lsT_find l p _ hl hp]
      cases (l.list.find? fun x => p x.1) <;> rfl
    | false =>
      simp only [Bool.false_eq_true, if_false]
      have e : (l.list.find? fun x => p x.1) = none := by
        rw [List.find?_eq_none]
        intro x hx hc
        have := hp x.1 k (hlk x hx) hc
        rw [c] at this; cases this
      rw [e, lsT_find r p b hr hp]; rfl
/-- The last entry that is admitted, where lesser keys are admitted as well. -/
theorem gtT_find : ∀ (t : Tr) (p : Int → Bool) (b : Option Ent), Asc t.list → (∀ i j, i < j → p j = true → p i = true) → (gtT t p b).1 = (t.list.reverse.find? fun x => p x.1).or b
  | .nil, _, _, _, _ => by simp [gtT, Tr.list]
  | .node l k v r, p, b, h, hp => by
    obtain ⟨hl, hr, hlk, hkr⟩ := node_asc h
    simp only [gtT, Tr.list]
    rw [List.reverse_append, List.reverse_cons, List.append_assoc, List.find?_append, List.singleton_append, List.find?_cons]
    cases c : p k with
    | true =>
      simp only [if_true]
      rw [gtT_find r p _ hr hp]
      cases (r.list.reverse.find? fun x => p x.1) <;> rfl
    | false =>
      simp only [Bool.false_eq_true, if_false]
      have e : (r.list.reverse.find? fun x => p x.1) = none := by
        rw [List.find?_eq_none]
        intro x hx hc
        have := hp k x.1 (hkr x (by simpa using hx)) hc
        rw [c] at this; cases this
      rw [e, gtT_find l p b hl hp]; rfl
end Go.Proofs.Ytmjnoiajenoinaa
end
section
/- The nearest entries of a tree: lookup's functions. -/
namespace Go.Proofs.Ytmjnoiajenoinaa.Sx
open Go

/-KEEP Wf exW inU live Arn.cap Arn.free Rep rdS Tr.size lsT gtT entO-/
abbrev chA (key : Int) (S : Arn) : List (Chunk C0) := [.box [.ptr 2 0, .slc 3, .slc 4, vU64 S.reads], .box [vI key], .box [.slc 5, .slc 6, .slc 7, vU S.fresh], .row true EC.node S.nodes, .row true EC.int S.counts, .row true EC.bool S.used, .row true EC.u32 S.gen, .row true EC.u32 S.rel]
def caM (H : List (Chunk C0)) (k : Int → Arn → Prop) : Prop := match H with
  | [.box [.ptr 2 0, .slc 3, .slc 4, .val (.int .u64 rd)], .box [.val (.int .i64 key)], .box [.slc 5, .slc 6, .slc 7, .val (.int .u32 fr)], .row true .node nd, .row true .int ct, .row true .bool us, .row true .u32 gn, .row true .u32 rl] => k key ⟨us, gn, rl, fr, nd, ct, rd⟩
  | _ => False
def tEntry : Tfm C0 := fun args H K => match args, H with
  | [.agg [.val (.int .i64 k), .val (.int .i64 v), .val (.int .u32 _), .val (.int .u32 _), .val (.int .i64 _), .val (.int .i64 _), .val (.int .i64 _), .val (.int .i64 _)]], [] => K (.one (.agg [vI k, vI v])) [] []
  | _, _ => False
theorem s_entry : SoundT C0 150 tEntry := by
  refine .of Try.func150 (by decide) rfl fun args H K h hB => ⟨A0, trivial, ?_⟩
  unfold tEntry at h
  split at h <;> try exact h.elim
  exact Eq.mp (show _ = _ by kernel_rfl) h
structure XNr (F : Tr → (Int → Bool) → Option Ent → Option Ent × Nat) (S : Arn) (t : Tr) (p : Int → Bool) where
  i : Int
  t' : Tr
  b : Option Ent
  m : Nat
  h : Rep S t' i ∧ F t p none = ((F t' p b).1, m + (F t' p b).2) ∧ t'.size ≤ t.size
def tAdm_ceil : Tfm C0 := fun args H K => match args, H with
  | [.at (.val (.int .i64 k)), .at (.ptr 0 0)], [.box [.val (.int .i64 key)]] => K (.one (.at (vB (decide (k ≥ key))))) [.box [vI key]] []
  | _, _ => False
theorem s_adm_ceil : SoundT C0 128 tAdm_ceil := by
  refine .of Try.func128 (by decide) rfl fun args H K h hB => ⟨A0, trivial, ?_⟩
  unfold tAdm_ceil at h
  split at h <;> try exact h.elim
  exact Eq.mp (show _ = _ by kernel_rfl) h
noncomputable def aNr_ceil (S : Arn) (t : Tr) (key : Int) : Ann C0 := { Γ := [(60, frameT [] tNode), (128, frameT [] tAdm_ceil), (150, frameT [] tEntry)], inv := fun n => match n with
  | 4 => some { X := XNr lsT S t (fun k => decide (k ≥ key)), sl := [10, 9, 8, 6], tf := fun x => [vi .u32 x.i, vb x.b.isSome, .one (.at (.ptr 8 0)), .one (.at (.ptr 9 0))], hf := fun x => chA key (rdS S x.m) ++ [.box [vI (x.b.getD (0, 0)).1, vI (x.b.getD (0, 0)).2], .box [vI 0, vI 0]], μ := fun x => x.t'.size, wr := [0] }
  | _ => none }
def tNr_ceil : Tfm C0 := fun args H K => match args with
  | [.at (.ptr 0 0), .at (.val (.int .u32 i)), .at (.fn 128 [1])] => caM H fun key S => ∃ hs t, Wf S hs ∧ Rep S t i ∧ t.size ≤ 1000000 ∧ S.reads + t.size ≤ 3000000000000000000 ∧
    ∀ S' o, S' = rdS S (lsT t (fun k => decide (k ≥ key)) none).2 → o = (lsT t (fun k => decide (k ≥ key)) none).1 → K (.tup [entO o, .at (vB o.isSome)]) (chA key S') [0]
  | _ => False
noncomputable def aLu_ceil : Ann C0 := { Γ := [(127, frameT [] tNr_ceil)] }
def tLu_ceil : Tfm C0 := fun args H K => match args with
  | [.at (.ptr 0 0), .at (.val (.int .u32 i)), .at (.val (.int .i64 key))] => arM H fun S => ∃ hs t, Wf S hs ∧ Rep S t i ∧ t.size ≤ 1000000 ∧ S.reads + t.size ≤ 3000000000000000000 ∧
    ∀ S' o, S' = rdS S (lsT t (fun k => decide (k ≥ key)) none).2 → o = (lsT t (fun k => decide (k ≥ key)) none).1 → K (.tup [entO o, .at (vB o.isSome)]) (chS S') [0]
  | _ => False
theorem vc_nr_ceil (S : Arn) (i key : Int) (K : KT) (hs : List Int) (t : Tr) (hw : Wf S hs) (hr : Rep S t i) (h1 : t.size ≤ 1000000) (h2 : S.reads + t.size ≤ 3000000000000000000)
    (h : ∀ S' o, S' = rdS S (lsT t (fun k => decide (k ≥ key)) none).2 → o = (lsT t (fun k => decide (k ≥ key)) none).1 → K (.tup [entO o, .at (vB o.isSome)]) (chA key S') [0]) :
    vc C0 (aNr_ceil S t key) Try.f127 [.at (.ptr 0 0), .at (vU i), .at (.fn 128 [1])] (chA key S) (normK 8 (wideK [0] K)) := by
  refine Eq.mp (show ((∃ x : XNr lsT S t fun k => decide (k ≥ key), (True ∧ (True ∧ ((At.fn 128 [1]) = (At.fn 128 [1])) ∧ True ∧ True ∧ ((Value.bool false) = (Value.bool (x.b.isSome))) ∧ ((Value.int IntKind.u32 (i)) = (Value.int IntKind.u32 (x.i))) ∧ True) ∧ (True ∧ True ∧ True ∧ ((Value.int IntKind.u64 (S.reads)) = (Value.int IntKind.u64 ((rdS S x.m).reads))) ∧ True) ∧ (((Value.int IntKind.i64 (key)) = (Value.int IntKind.i64 (key))) ∧ True) ∧ (True ∧ True ∧ True ∧ ((Value.int IntKind.u32 (S.fresh)) = (Value.int IntKind.u32 ((rdS S x.m).fresh))) ∧ True) ∧ ((S.nodes) = ((rdS S x.m).nodes)) ∧ ((S.counts) = ((rdS S x.m).counts)) ∧ ((S.used) = ((rdS S x.m).used)) ∧ ((S.gen) = ((rdS S x.m).gen)) ∧ ((S.rel) = ((rdS S x.m).rel)) ∧ (((Value.int IntKind.i64 0) = (Value.int IntKind.i64 ((x.b.getD (0, 0)).fst))) ∧ ((Value.int IntKind.i64 0) = (Value.int IntKind.i64 ((x.b.getD (0, 0)).snd))) ∧ True) ∧ (((Value.int IntKind.i64 0) = (Value.int IntKind.i64 0)) ∧ ((Value.int IntKind.i64 0) = (Value.int IntKind.i64 0)) ∧ True) ∧ True)) ∧
(∀ x : XNr lsT S t fun k => decide (k ≥ key), (True → (brS (x.i != 0) (((inU x.i) ∧ (exW (rdS S x.m)) ∧ ((rdS S x.m).reads < 4000000000000000000) ∧ (∀ S' : Arn, (((S') = (rdS (rdS S x.m) ((rdS S x.m).us x.i).toNat)) → (brS (!(rdS S x.m).us x.i)
    ((K (SV.tup [(TV.agg [(At.val (Value.int IntKind.i64 ((x.b.getD (0, 0)).fst))), (At.val (Value.int IntKind.i64 ((x.b.getD (0, 0)).snd)))]), (TV.at (At.val (Value.bool (x.b.isSome))))]) [(Chunk.box [(At.ptr 2 0), (At.slc 3), (At.slc 4), (At.val (Value.int IntKind.u64 (S'.reads)))]), (Chunk.box [(At.val (Value.int IntKind.i64 (key)))]), (Chunk.box [(At.slc 5), (At.slc 6), (At.slc 7), (At.val (Value.int IntKind.u32 (S'.fresh)))]), (Chunk.row true (EC.node) (S'.nodes)), (Chunk.row true (EC.int) (S'.counts)), (Chunk.row true (EC.bool) (S'.used)), (Chunk.row true (EC.u32) (S'.gen)), (Chunk.row true (EC.u32) (S'.rel))] [0])) ((brS (!decide (((rdS S x.m).nd x.i).key ≥ key)) ((∃ x' : XNr lsT S t fun k => decide (k ≥ key), (True ∧ ((True ∧ ((At.fn 128 [1]) = (At.fn 128 [1])) ∧ True ∧ True ∧ ((Value.bool (x.b.isSome)) = (Value.bool (x'.b.isSome))) ∧ ((Value.int IntKind.u32 (((rdS S x.m).nd x.i).right)) = (Value.int IntKind.u32 (x'.i))) ∧ True) ∧ (True ∧ True ∧ True ∧ ((Value.int IntKind.u64 (S'.reads)) = (Value.int IntKind.u64 ((rdS S x'.m).reads))) ∧ True) ∧ (((Value.int IntKind.i64 (key)) = (Value.int IntKind.i64 (key))) ∧ True) ∧ (True ∧ True ∧ True ∧ ((Value.int IntKind.u32 (S'.fresh)) = (Value.int IntKind.u32 ((rdS S x'.m).fresh))) ∧ True) ∧ ((S'.nodes) = ((rdS S x'.m).nodes)) ∧ ((S'.counts) = ((rdS S x'.m).counts)) ∧ ((S'.used) = ((rdS S x'.m).used)) ∧ ((S'.gen) = ((rdS S x'.m).gen)) ∧ ((S'.rel) = ((rdS S x'.m).rel)) ∧
    (((Value.int IntKind.i64 ((x.b.getD (0, 0)).fst)) = (Value.int IntKind.i64 ((x'.b.getD (0, 0)).fst))) ∧ ((Value.int IntKind.i64 ((x.b.getD (0, 0)).snd)) = (Value.int IntKind.i64 ((x'.b.getD (0, 0)).snd))) ∧ True) ∧ (((Value.int IntKind.i64 0) = (Value.int IntKind.i64 0)) ∧ ((Value.int IntKind.i64 0) = (Value.int IntKind.i64 0)) ∧ True) ∧ True) ∧ (x'.t'.size < x.t'.size)))) ((∃ x' : XNr lsT S t fun k => decide (k ≥ key), (True ∧ ((True ∧ ((At.fn 128 [1]) = (At.fn 128 [1])) ∧ True ∧ True ∧ ((Value.bool true) = (Value.bool (x'.b.isSome))) ∧ ((Value.int IntKind.u32 (((rdS S x.m).nd x.i).left)) = (Value.int IntKind.u32 (x'.i))) ∧ True) ∧ (True ∧ True ∧ True ∧ ((Value.int IntKind.u64 (S'.reads)) = (Value.int IntKind.u64 ((rdS S x'.m).reads))) ∧ True) ∧ (((Value.int IntKind.i64 (key)) = (Value.int IntKind.i64 (key))) ∧ True) ∧ (True ∧ True ∧ True ∧ ((Value.int IntKind.u32 (S'.fresh)) = (Value.int IntKind.u32 ((rdS S x'.m).fresh))) ∧ True) ∧ ((S'.nodes) = ((rdS S x'.m).nodes)) ∧ ((S'.counts) = ((rdS S x'.m).counts)) ∧ ((S'.used) = ((rdS S x'.m).used)) ∧ ((S'.gen) = ((rdS S x'.m).gen)) ∧ ((S'.rel) = ((rdS S x'.m).rel)) ∧ (((Value.int IntKind.i64 (((rdS S x.m).nd x.i).key)) = (Value.int IntKind.i64 ((x'.b.getD (0, 0)).fst))) ∧ ((Value.int IntKind.i64 (((rdS S x.m).nd x.i).value)) = (Value.int IntKind.i64 ((x'.b.getD (0, 0)).snd))) ∧ True) ∧ (((Value.int IntKind.i64 0) = (Value.int IntKind.i64 0)) ∧ ((Value.int IntKind.i64 0) = (Value.int IntKind.i64 0)) ∧ True) ∧ True) ∧
    (x'.t'.size < x.t'.size))))))))))) ((K (SV.tup [(TV.agg [(At.val (Value.int IntKind.i64 ((x.b.getD (0, 0)).fst))), (At.val (Value.int IntKind.i64 ((x.b.getD (0, 0)).snd)))]), (TV.at (At.val (Value.bool (x.b.isSome))))]) [(Chunk.box [(At.ptr 2 0), (At.slc 3), (At.slc 4), (At.val (Value.int IntKind.u64 ((rdS S x.m).reads)))]), (Chunk.box [(At.val (Value.int IntKind.i64 (key)))]), (Chunk.box [(At.slc 5), (At.slc 6), (At.slc 7), (At.val (Value.int IntKind.u32 ((rdS S x.m).fresh)))]), (Chunk.row true (EC.node) ((rdS S x.m).nodes)), (Chunk.row true (EC.int) ((rdS S x.m).counts)), (Chunk.row true (EC.bool) ((rdS S x.m).used)), (Chunk.row true (EC.u32) ((rdS S x.m).gen)), (Chunk.row true (EC.u32) ((rdS S x.m).rel))] [0])))))) = _ by kernel_rfl) ?_
  have hrd := hw.rds
  have hb := lsT_le t (fun k => decide (k ≥ key)) none
  refine ⟨⟨⟨i, t, none, 0, hr, by simp, Nat.le_refl _⟩, ?_⟩, fun x _ => ?_⟩
  · (repeat' first | exact trivial | exact rfl | refine And.intro ?_ ?_)
    rw [rdS_zero]
  obtain ⟨xi, xt, xb, xm, h1', hb2, h3⟩ := x
  dsimp only
  have hxm : xm ≤ (lsT t (fun k => decide (k ≥ key)) none).2 := by rw [hb2]; exact Nat.le_add_right _ _
  have hwx : Wf (rdS S xm) hs := hw.rd (by omega)
  refine brS_of (fun c => ?_) fun c => ?_
  · have c : xi ≠ 0 := by simpa using c
    cases xt with
    | nil => exact absurd h1' c
    | node l k v r =>
      obtain ⟨r1, r2, r3, r4, r5⟩ := h1'
      have hsz : l.size + r.size + 1 = (Tr.node l k v r).size := by simp [Tr.size]; omega
      refine ⟨inU_of hw (.inr r1), ⟨_, hwx⟩, by show S.reads + (xm : Int) < _; omega, fun S1 e1 => brS_of (fun d => ?_) fun _ => ?_⟩
      · have d : (!S.us xi) = true := d
        have d : S.us xi = false := by simpa using d
        rw [r1] at d; cases d
      have e1 : S1 = rdS S (xm + 1) := by rw [e1, rdS_rdS]; show rdS S (xm + (S.us xi).toNat) = _; rw [r1]; rfl
      subst e1
      have ek : ((rdS S xm).nd xi).key = k := r2
      have ev : ((rdS S xm).nd xi).value = v := r3
      rw [ek, ev]
      refine brS_of (fun d => ?_) fun d => ?_
      · have hc : ¬ decide (k ≥ key) = true := by simpa using d
        refine ⟨⟨(S.nd xi).right, r, xb, xm + 1, r5, by rw [hb2]; simp only [lsT, if_neg hc]; exact Prod.ext rfl (by show _ = _; simp only []; omega), by omega⟩, ?_⟩
        (repeat' first | exact trivial | exact rfl | refine And.intro ?_ ?_)
        show r.size < (Tr.node l k v r).size; omega
      · have hc : decide (k ≥ key) = true := by simpa using d
        refine ⟨⟨(S.nd xi).left, l, some (k, v), xm + 1, r4, by rw [hb2]; simp only [lsT, if_pos hc]; exact Prod.ext rfl (by show _ = _; simp only []; omega), by omega⟩, ?_⟩
        (repeat' first | exact trivial | exact rfl | refine And.intro ?_ ?_)
        show l.size < (Tr.node l k v r).size; omega
  · have c : xi = 0 := by simpa using c
    subst c
    have e := h1'.zero hw
    subst e
    exact h _ xb (by rw [hb2]; simp [lsT]) (by rw [hb2]; simp [lsT])
theorem s_nr_ceil : SoundT C0 127 tNr_ceil := by
  refine .ofW [0] Try.func127 (by decide) rfl fun args H K h hB => ?_
  unfold tNr_ceil at h
  split at h <;> try exact h.elim
  unfold caM at h
  split at h <;> try exact h.elim
  rename_i i _ rd key fr nd ct us gn rl
  obtain ⟨hs, t, h1, h2, h3, h4, h5⟩ := h
  exact ⟨aNr_ceil ⟨us, gn, rl, fr, nd, ct, rd⟩ t key, ⟨frame C0.ok s_node _, frame C0.ok s_adm_ceil _, frame C0.ok s_entry _, trivial⟩, vc_nr_ceil ⟨us, gn, rl, fr, nd, ct, rd⟩ i key K hs t h1 h2 h3 h4 h5⟩
theorem vc_lu_ceil (S : Arn) (i key : Int) (K : KT) (hs : List Int) (t : Tr) (hw : Wf S hs) (hr : Rep S t i) (h1 : t.size ≤ 1000000) (h2 : S.reads + t.size ≤ 3000000000000000000)
    (h : ∀ S' o, S' = rdS S (lsT t (fun k => decide (k ≥ key)) none).2 → o = (lsT t (fun k => decide (k ≥ key)) none).1 → K (.tup [entO o, .at (vB o.isSome)]) (chS S') [0]) :
    vc C0 aLu_ceil Try.f84 [.at (.ptr 0 0), .at (vU i), .at (vI key)] (chS S) (normK 7 (wideK [0] K)) :=
  Eq.mp (show (∃ hs : List Int, (∃ t : Tr, ((Wf S hs) ∧ (Rep S t i) ∧ (t.size ≤ 1000000) ∧ (S.reads + (↑t.size : Int) ≤ 3000000000000000000) ∧ (∀ S' : Arn, (∀ o : Option Ent, (((S') = (rdS S (lsT t (fun k => decide (k ≥ key)) none).snd)) → (((o) = ((lsT t (fun k => decide (k ≥ key)) none).fst)) → (K (SV.tup [(TV.agg [(At.val (Value.int IntKind.i64 ((o.getD (0, 0)).fst))), (At.val (Value.int IntKind.i64 ((o.getD (0, 0)).snd)))]), (TV.at (At.val (Value.bool (o.isSome))))]) [(Chunk.box [(At.ptr 1 0), (At.slc 2), (At.slc 3), (At.val (Value.int IntKind.u64 (S'.reads)))]), (Chunk.box [(At.slc 4), (At.slc 5), (At.slc 6), (At.val (Value.int IntKind.u32 (S'.fresh)))]), (Chunk.row true (EC.node) (S'.nodes)), (Chunk.row true (EC.int) (S'.counts)), (Chunk.row true (EC.bool) (S'.used)), (Chunk.row true (EC.u32) (S'.gen)), (Chunk.row true (EC.u32) (S'.rel))] [0])))))))) = _ by kernel_rfl) ⟨hs, t, hw, hr, h1, h2, h⟩
theorem s_lu_ceil : SoundT C0 84 tLu_ceil := by
  refine .ofW [0] Try.func84 (by decide) rfl fun args H K h hB => ?_
  unfold tLu_ceil at h
  split at h <;> try exact h.elim
  unfold arM at h
  split at h <;> try exact h.elim
  rename_i i key _ rd fr nd ct us gn rl
  obtain ⟨hs, t, h1, h2, h3, h4, h5⟩ := h
  exact ⟨aLu_ceil, ⟨frame C0.ok s_nr_ceil _, trivial⟩, vc_lu_ceil ⟨us, gn, rl, fr, nd, ct, rd⟩ i key K hs t h1 h2 h3 h4 h5⟩
def tAdm_above : Tfm C0 := fun args H K => match args, H with
  | [.at (.val (.int .i64 k)), .at (.ptr 0 0)], [.box [.val (.int .i64 key)]] => K (.one (.at (vB (decide (k > key))))) [.box [vI key]] []
  | _, _ => False
theorem s_adm_above : SoundT C0 129 tAdm_above := by
  refine .of Try.func129 (by decide) rfl fun args H K h hB => ⟨A0, trivial, ?_⟩
  unfold tAdm_above at h
  split at h <;> try exact h.elim
  exact Eq.mp (show _ = _ by kernel_rfl) h
noncomputable def aNr_above (S : Arn) (t : Tr) (key : Int) : Ann C0 := { Γ := [(60, frameT [] tNode), (129, frameT [] tAdm_above), (150, frameT [] tEntry)], inv := fun n => match n with
  | 4 => some { X := XNr lsT S t (fun k => decide (k > key)), sl := [10, 9, 8, 6], tf := fun x => [vi .u32 x.i, vb x.b.isSome, .one (.at (.ptr 8 0)), .one (.at (.ptr 9 0))], hf := fun x => chA key (rdS S x.m) ++ [.box [vI (x.b.getD (0, 0)).1, vI (x.b.getD (0, 0)).2], .box [vI 0, vI 0]], μ := fun x => x.t'.size, wr := [0] }
  | _ => none }
def tNr_above : Tfm C0 := fun args H K => match args with
  | [.at (.ptr 0 0), .at (.val (.int .u32 i)), .at (.fn 129 [1])] => caM H fun key S => ∃ hs t, Wf S hs ∧ Rep S t i ∧ t.size ≤ 1000000 ∧ S.reads + t.size ≤ 3000000000000000000 ∧
    ∀ S' o, S' = rdS S (lsT t (fun k => decide (k > key)) none).2 → o = (lsT t (fun k => decide (k > key)) none).1 → K (.tup [entO o, .at (vB o.isSome)]) (chA key S') [0]
  | _ => False
noncomputable def aLu_above : Ann C0 := { Γ := [(127, frameT [] tNr_above)] }
def tLu_above : Tfm C0 := fun args H K => match args with
  | [.at (.ptr 0 0), .at (.val (.int .u32 i)), .at (.val (.int .i64 key))] => arM H fun S => ∃ hs t, Wf S hs ∧ Rep S t i ∧ t.size ≤ 1000000 ∧ S.reads + t.size ≤ 3000000000000000000 ∧
    ∀ S' o, S' = rdS S (lsT t (fun k => decide (k > key)) none).2 → o = (lsT t (fun k => decide (k > key)) none).1 → K (.tup [entO o, .at (vB o.isSome)]) (chS S') [0]
  | _ => False
theorem vc_nr_above (S : Arn) (i key : Int) (K : KT) (hs : List Int) (t : Tr) (hw : Wf S hs) (hr : Rep S t i) (h1 : t.size ≤ 1000000) (h2 : S.reads + t.size ≤ 3000000000000000000)
    (h : ∀ S' o, S' = rdS S (lsT t (fun k => decide (k > key)) none).2 → o = (lsT t (fun k => decide (k > key)) none).1 → K (.tup [entO o, .at (vB o.isSome)]) (chA key S') [0]) :
    vc C0 (aNr_above S t key) Try.f127 [.at (.ptr 0 0), .at (vU i), .at (.fn 129 [1])] (chA key S) (normK 8 (wideK [0] K)) := by
  refine Eq.mp (show ((∃ x : XNr lsT S t fun k => decide (k > key), (True ∧ (True ∧ ((At.fn 129 [1]) = (At.fn 129 [1])) ∧ True ∧ True ∧ ((Value.bool false) = (Value.bool (x.b.isSome))) ∧ ((Value.int IntKind.u32 (i)) = (Value.int IntKind.u32 (x.i))) ∧ True) ∧ (True ∧ True ∧ True ∧ ((Value.int IntKind.u64 (S.reads)) = (Value.int IntKind.u64 ((rdS S x.m).reads))) ∧ True) ∧ (((Value.int IntKind.i64 (key)) = (Value.int IntKind.i64 (key))) ∧ True) ∧ (True ∧ True ∧ True ∧ ((Value.int IntKind.u32 (S.fresh)) = (Value.int IntKind.u32 ((rdS S x.m).fresh))) ∧ True) ∧ ((S.nodes) = ((rdS S x.m).nodes)) ∧ ((S.counts) = ((rdS S x.m).counts)) ∧ ((S.used) = ((rdS S x.m).used)) ∧ ((S.gen) = ((rdS S x.m).gen)) ∧ ((S.rel) = ((rdS S x.m).rel)) ∧ (((Value.int IntKind.i64 0) = (Value.int IntKind.i64 ((x.b.getD (0, 0)).fst))) ∧ ((Value.int IntKind.i64 0) = (Value.int IntKind.i64 ((x.b.getD (0, 0)).snd))) ∧ True) ∧ (((Value.int IntKind.i64 0) = (Value.int IntKind.i64 0)) ∧ ((Value.int IntKind.i64 0) = (Value.int IntKind.i64 0)) ∧ True) ∧ True)) ∧
(∀ x : XNr lsT S t fun k => decide (k > key), (True → (brS (x.i != 0) (((inU x.i) ∧ (exW (rdS S x.m)) ∧ ((rdS S x.m).reads < 4000000000000000000) ∧ (∀ S' : Arn, (((S') = (rdS (rdS S x.m) ((rdS S x.m).us x.i).toNat)) → (brS (!(rdS S x.m).us x.i)
    ((K (SV.tup [(TV.agg [(At.val (Value.int IntKind.i64 ((x.b.getD (0, 0)).fst))), (At.val (Value.int IntKind.i64 ((x.b.getD (0, 0)).snd)))]), (TV.at (At.val (Value.bool (x.b.isSome))))]) [(Chunk.box [(At.ptr 2 0), (At.slc 3), (At.slc 4), (At.val (Value.int IntKind.u64 (S'.reads)))]), (Chunk.box [(At.val (Value.int IntKind.i64 (key)))]), (Chunk.box [(At.slc 5), (At.slc 6), (At.slc 7), (At.val (Value.int IntKind.u32 (S'.fresh)))]), (Chunk.row true (EC.node) (S'.nodes)), (Chunk.row true (EC.int) (S'.counts)), (Chunk.row true (EC.bool) (S'.used)), (Chunk.row true (EC.u32) (S'.gen)), (Chunk.row true (EC.u32) (S'.rel))] [0])) ((brS (!decide (((rdS S x.m).nd x.i).key > key)) ((∃ x' : XNr lsT S t fun k => decide (k > key), (True ∧ ((True ∧ ((At.fn 129 [1]) = (At.fn 129 [1])) ∧ True ∧ True ∧ ((Value.bool (x.b.isSome)) = (Value.bool (x'.b.isSome))) ∧ ((Value.int IntKind.u32 (((rdS S x.m).nd x.i).right)) = (Value.int IntKind.u32 (x'.i))) ∧ True) ∧ (True ∧ True ∧ True ∧ ((Value.int IntKind.u64 (S'.reads)) = (Value.int IntKind.u64 ((rdS S x'.m).reads))) ∧ True) ∧ (((Value.int IntKind.i64 (key)) = (Value.int IntKind.i64 (key))) ∧ True) ∧ (True ∧ True ∧ True ∧ ((Value.int IntKind.u32 (S'.fresh)) = (Value.int IntKind.u32 ((rdS S x'.m).fresh))) ∧ True) ∧ ((S'.nodes) = ((rdS S x'.m).nodes)) ∧ ((S'.counts) = ((rdS S x'.m).counts)) ∧ ((S'.used) = ((rdS S x'.m).used)) ∧ ((S'.gen) = ((rdS S x'.m).gen)) ∧ ((S'.rel) = ((rdS S x'.m).rel)) ∧
    (((Value.int IntKind.i64 ((x.b.getD (0, 0)).fst)) = (Value.int IntKind.i64 ((x'.b.getD (0, 0)).fst))) ∧ ((Value.int IntKind.i64 ((x.b.getD (0, 0)).snd)) = (Value.int IntKind.i64 ((x'.b.getD (0, 0)).snd))) ∧ True) ∧ (((Value.int IntKind.i64 0) = (Value.int IntKind.i64 0)) ∧ ((Value.int IntKind.i64 0) = (Value.int IntKind.i64 0)) ∧ True) ∧ True) ∧ (x'.t'.size < x.t'.size)))) ((∃ x' : XNr lsT S t fun k => decide (k > key), (True ∧ ((True ∧ ((At.fn 129 [1]) = (At.fn 129 [1])) ∧ True ∧ True ∧ ((Value.bool true) = (Value.bool (x'.b.isSome))) ∧ ((Value.int IntKind.u32 (((rdS S x.m).nd x.i).left)) = (Value.int IntKind.u32 (x'.i))) ∧ True) ∧ (True ∧ True ∧ True ∧ ((Value.int IntKind.u64 (S'.reads)) = (Value.int IntKind.u64 ((rdS S x'.m).reads))) ∧ True) ∧ (((Value.int IntKind.i64 (key)) = (Value.int IntKind.i64 (key))) ∧ True) ∧ (True ∧ True ∧ True ∧ ((Value.int IntKind.u32 (S'.fresh)) = (Value.int IntKind.u32 ((rdS S x'.m).fresh))) ∧ True) ∧ ((S'.nodes) = ((rdS S x'.m).nodes)) ∧ ((S'.counts) = ((rdS S x'.m).counts)) ∧ ((S'.used) = ((rdS S x'.m).used)) ∧ ((S'.gen) = ((rdS S x'.m).gen)) ∧ ((S'.rel) = ((rdS S x'.m).rel)) ∧ (((Value.int IntKind.i64 (((rdS S x.m).nd x.i).key)) = (Value.int IntKind.i64 ((x'.b.getD (0, 0)).fst))) ∧ ((Value.int IntKind.i64 (((rdS S x.m).nd x.i).value)) = (Value.int IntKind.i64 ((x'.b.getD (0, 0)).snd))) ∧ True) ∧ (((Value.int IntKind.i64 0) = (Value.int IntKind.i64 0)) ∧ ((Value.int IntKind.i64 0) = (Value.int IntKind.i64 0)) ∧ True) ∧ True) ∧
    (x'.t'.size < x.t'.size))))))))))) ((K (SV.tup [(TV.agg [(At.val (Value.int IntKind.i64 ((x.b.getD (0, 0)).fst))), (At.val (Value.int IntKind.i64 ((x.b.getD (0, 0)).snd)))]), (TV.at (At.val (Value.bool (x.b.isSome))))]) [(Chunk.box [(At.ptr 2 0), (At.slc 3), (At.slc 4), (At.val (Value.int IntKind.u64 ((rdS S x.m).reads)))]), (Chunk.box [(At.val (Value.int IntKind.i64 (key)))]), (Chunk.box [(At.slc 5), (At.slc 6), (At.slc 7), (At.val (Value.int IntKind.u32 ((rdS S x.m).fresh)))]), (Chunk.row true (EC.node) ((rdS S x.m).nodes)), (Chunk.row true (EC.int) ((rdS S x.m).counts)), (Chunk.row true (EC.bool) ((rdS S x.m).used)), (Chunk.row true (EC.u32) ((rdS S x.m).gen)), (Chunk.row true (EC.u32) ((rdS S x.m).rel))] [0])))))) = _ by kernel_rfl) ?_
  have hrd := hw.rds
  have hb := lsT_le t (fun k => decide (k > key)) none
  refine ⟨⟨⟨i, t, none, 0, hr, by simp, Nat.le_refl _⟩, ?_⟩, fun x _ => ?_⟩
  · (repeat' first | exact trivial | exact rfl | refine And.intro ?_ ?_)
    rw [rdS_zero]
  obtain ⟨xi, xt, xb, xm, h1', hb2, h3⟩ := x
  dsimp only
  have hxm : xm ≤ (lsT t (fun k => decide (k > key)) none).2 := by rw [hb2]; exact Nat.le_add_right _ _
  have hwx : Wf (rdS S xm) hs := hw.rd (by omega)
  refine brS_of (fun c => ?_) fun c => ?_
  · have c : xi ≠ 0 := by simpa using c
    cases xt with
    | nil => exact absurd h1' c
    | node l k v r =>
      obtain ⟨r1, r2, r3, r4, r5⟩ := h1'
      have hsz : l.size + r.size + 1 = (Tr.node l k v r).size := by simp [Tr.size]; omega
      refine ⟨inU_of hw (.inr r1), ⟨_, hwx⟩, by show S.reads + (xm : Int) < _; omega, fun S1 e1 => brS_of (fun d => ?_) fun _ => ?_⟩
      · have d : (!S.us xi) = true := d
        have d : S.us xi = false := by simpa using d
        rw [r1] at d; cases d
      have e1 : S1 = rdS S (xm + 1) := by rw [e1, rdS_rdS]; show rdS S (xm + (S.us xi).toNat) = _; rw [r1]; rfl
      subst e1
      have ek : ((rdS S xm).nd xi).key = k := r2
      have ev : ((rdS S xm).nd xi).value = v := r3
      rw [ek, ev]
      refine brS_of (fun d => ?_) fun d => ?_
      · have hc : ¬ decide (k > key) = true := by simpa using d
        refine ⟨⟨(S.nd xi).right, r, xb, xm + 1, r5, by rw [hb2]; simp only [lsT, if_neg hc]; exact Prod.ext rfl (by show _ = _; simp only []; omega), by omega⟩, ?_⟩
        (repeat' first | exact trivial | exact rfl | refine And.intro ?_ ?_)
        show r.size < (Tr.node l k v r).size; omega
      · have hc : decide (k > key) = true := by simpa using d
        refine ⟨⟨(S.nd xi).left, l, some (k, v), xm + 1, r4, by rw [hb2]; simp only [lsT, if_pos hc]; exact Prod.ext rfl (by show _ = _; simp only []; omega), by omega⟩, ?_⟩
        (repeat' first | exact trivial | exact rfl | refine And.intro ?_ ?_)
        show l.size < (Tr.node l k v r).size; omega
  · have c : xi = 0 := by simpa using c
    subst c
    have e := h1'.zero hw
    subst e
    exact h _ xb (by rw [hb2]; simp [lsT]) (by rw [hb2]; simp [lsT])
theorem s_nr_above : SoundT C0 127 tNr_above := by
  refine .ofW [0] Try.func127 (by decide) rfl fun args H K h hB => ?_
  unfold tNr_above at h
  split at h <;> try exact h.elim
  unfold caM at h
  split at h <;> try exact h.elim
  rename_i i _ rd key fr nd ct us gn rl
  obtain ⟨hs, t, h1, h2, h3, h4, h5⟩ := h
  exact ⟨aNr_above ⟨us, gn, rl, fr, nd, ct, rd⟩ t key, ⟨frame C0.ok s_node _, frame C0.ok s_adm_above _, frame C0.ok s_entry _, trivial⟩, vc_nr_above ⟨us, gn, rl, fr, nd, ct, rd⟩ i key K hs t h1 h2 h3 h4 h5⟩
theorem vc_lu_above (S : Arn) (i key : Int) (K : KT) (hs : List Int) (t : Tr) (hw : Wf S hs) (hr : Rep S t i) (h1 : t.size ≤ 1000000) (h2 : S.reads + t.size ≤ 3000000000000000000)
    (h : ∀ S' o, S' = rdS S (lsT t (fun k => decide (k > key)) none).2 → o = (lsT t (fun k => decide (k > key)) none).1 → K (.tup [entO o, .at (vB o.isSome)]) (chS S') [0]) :
    vc C0 aLu_above Try.f86 [.at (.ptr 0 0), .at (vU i), .at (vI key)] (chS S) (normK 7 (wideK [0] K)) :=
  Eq.mp (show (∃ hs : List Int, (∃ t : Tr, ((Wf S hs) ∧ (Rep S t i) ∧ (t.size ≤ 1000000) ∧ (S.reads + (↑t.size : Int) ≤ 3000000000000000000) ∧ (∀ S' : Arn, (∀ o : Option Ent, (((S') = (rdS S (lsT t (fun k => decide (k > key)) none).snd)) → (((o) = ((lsT t (fun k => decide (k > key)) none).fst)) → (K (SV.tup [(TV.agg [(At.val (Value.int IntKind.i64 ((o.getD (0, 0)).fst))), (At.val (Value.int IntKind.i64 ((o.getD (0, 0)).snd)))]), (TV.at (At.val (Value.bool (o.isSome))))]) [(Chunk.box [(At.ptr 1 0), (At.slc 2), (At.slc 3), (At.val (Value.int IntKind.u64 (S'.reads)))]), (Chunk.box [(At.slc 4), (At.slc 5), (At.slc 6), (At.val (Value.int IntKind.u32 (S'.fresh)))]), (Chunk.row true (EC.node) (S'.nodes)), (Chunk.row true (EC.int) (S'.counts)), (Chunk.row true (EC.bool) (S'.used)), (Chunk.row true (EC.u32) (S'.gen)), (Chunk.row true (EC.u32) (S'.rel))] [0])))))))) = _ by kernel_rfl) ⟨hs, t, hw, hr, h1, h2, h⟩
theorem s_lu_above : SoundT C0 86 tLu_above := by
  refine .ofW [0] Try.func86 (by decide) rfl fun args H K h hB => ?_
  unfold tLu_above at h
  split at h <;> try exact h.elim
  unfold arM at h
  split at h <;> try exact h.elim
  rename_i i key _ rd fr nd ct us gn rl
  obtain ⟨hs, t, h1, h2, h3, h4, h5⟩ := h
  exact ⟨aLu_above, ⟨frame C0.ok s_nr_above _, trivial⟩, vc_lu_above ⟨us, gn, rl, fr, nd, ct, rd⟩ i key K hs t h1 h2 h3 h4 h5⟩
def tAdm_floor : Tfm C0 := fun args H K => match args, H with
  | [.at (.val (.int .i64 k)), .at (.ptr 0 0)], [.box [.val (.int .i64 key)]] => K (.one (.at (vB (decide (k ≤ key))))) [.box [vI key]] []
  | _, _ => False
theorem s_adm_floor : SoundT C0 148 tAdm_floor := by
  refine .of Try.func148 (by decide) rfl fun args H K h hB => ⟨A0, trivial, ?_⟩
  unfold tAdm_floor at h
  split at h <;> try exact h.elim
  exact Eq.mp (show _ = _ by kernel_rfl) h
noncomputable def aNr_floor (S : Arn) (t : Tr) (key : Int) : Ann C0 := { Γ := [(60, frameT [] tNode), (148, frameT [] tAdm_floor), (150, frameT [] tEntry)], inv := fun n => match n with
  | 4 => some { X := XNr gtT S t (fun k => decide (k ≤ key)), sl := [10, 9, 8, 6], tf := fun x => [vi .u32 x.i, vb x.b.isSome, .one (.at (.ptr 8 0)), .one (.at (.ptr 9 0))], hf := fun x => chA key (rdS S x.m) ++ [.box [vI (x.b.getD (0, 0)).1, vI (x.b.getD (0, 0)).2], .box [vI 0, vI 0]], μ := fun x => x.t'.size, wr := [0] }
  | _ => none }
def tNr_floor : Tfm C0 := fun args H K => match args with
  | [.at (.ptr 0 0), .at (.val (.int .u32 i)), .at (.fn 148 [1])] => caM H fun key S => ∃ hs t, Wf S hs ∧ Rep S t i ∧ t.size ≤ 1000000 ∧ S.reads + t.size ≤ 3000000000000000000 ∧
    ∀ S' o, S' = rdS S (gtT t (fun k => decide (k ≤ key)) none).2 → o = (gtT t (fun k => decide (k ≤ key)) none).1 → K (.tup [entO o, .at (vB o.isSome)]) (chA key S') [0]
  | _ => False
noncomputable def aLu_floor : Ann C0 := { Γ := [(147, frameT [] tNr_floor)] }
def tLu_floor : Tfm C0 := fun args H K => match args with
  | [.at (.ptr 0 0), .at (.val (.int .u32 i)), .at (.val (.int .i64 key))] => arM H fun S => ∃ hs t, Wf S hs ∧ Rep S t i ∧ t.size ≤ 1000000 ∧ S.reads + t.size ≤ 3000000000000000000 ∧
    ∀ S' o, S' = rdS S (gtT t (fun k => decide (k ≤ key)) none).2 → o = (gtT t (fun k => decide (k ≤ key)) none).1 → K (.tup [entO o, .at (vB o.isSome)]) (chS S') [0]
  | _ => False
theorem vc_nr_floor (S : Arn) (i key : Int) (K : KT) (hs : List Int) (t : Tr) (hw : Wf S hs) (hr : Rep S t i) (h1 : t.size ≤ 1000000) (h2 : S.reads + t.size ≤ 3000000000000000000)
    (h : ∀ S' o, S' = rdS S (gtT t (fun k => decide (k ≤ key)) none).2 → o = (gtT t (fun k => decide (k ≤ key)) none).1 → K (.tup [entO o, .at (vB o.isSome)]) (chA key S') [0]) :
    vc C0 (aNr_floor S t key) Try.f147 [.at (.ptr 0 0), .at (vU i), .at (.fn 148 [1])] (chA key S) (normK 8 (wideK [0] K)) := by
  refine Eq.mp (show ((∃ x : XNr gtT S t fun k => decide (k ≤ key), (True ∧ (True ∧ ((At.fn 148 [1]) = (At.fn 148 [1])) ∧ True ∧ True ∧ ((Value.bool false) = (Value.bool (x.b.isSome))) ∧ ((Value.int IntKind.u32 (i)) = (Value.int IntKind.u32 (x.i))) ∧ True) ∧ (True ∧ True ∧ True ∧ ((Value.int IntKind.u64 (S.reads)) = (Value.int IntKind.u64 ((rdS S x.m).reads))) ∧ True) ∧ (((Value.int IntKind.i64 (key)) = (Value.int IntKind.i64 (key))) ∧ True) ∧ (True ∧ True ∧ True ∧ ((Value.int IntKind.u32 (S.fresh)) = (Value.int IntKind.u32 ((rdS S x.m).fresh))) ∧ True) ∧ ((S.nodes) = ((rdS S x.m).nodes)) ∧ ((S.counts) = ((rdS S x.m).counts)) ∧ ((S.used) = ((rdS S x.m).used)) ∧ ((S.gen) = ((rdS S x.m).gen)) ∧ ((S.rel) = ((rdS S x.m).rel)) ∧ (((Value.int IntKind.i64 0) = (Value.int IntKind.i64 ((x.b.getD (0, 0)).fst))) ∧ ((Value.int IntKind.i64 0) = (Value.int IntKind.i64 ((x.b.getD (0, 0)).snd))) ∧ True) ∧ (((Value.int IntKind.i64 0) = (Value.int IntKind.i64 0)) ∧ ((Value.int IntKind.i64 0) = (Value.int IntKind.i64 0)) ∧ True) ∧ True)) ∧
(∀ x : XNr gtT S t fun k => decide (k ≤ key), (True → (brS (x.i != 0) (((inU x.i) ∧ (exW (rdS S x.m)) ∧ ((rdS S x.m).reads < 4000000000000000000) ∧ (∀ S' : Arn, (((S') = (rdS (rdS S x.m) ((rdS S x.m).us x.i).toNat)) → (brS (!(rdS S x.m).us x.i)
    ((K (SV.tup [(TV.agg [(At.val (Value.int IntKind.i64 ((x.b.getD (0, 0)).fst))), (At.val (Value.int IntKind.i64 ((x.b.getD (0, 0)).snd)))]), (TV.at (At.val (Value.bool (x.b.isSome))))]) [(Chunk.box [(At.ptr 2 0), (At.slc 3), (At.slc 4), (At.val (Value.int IntKind.u64 (S'.reads)))]), (Chunk.box [(At.val (Value.int IntKind.i64 (key)))]), (Chunk.box [(At.slc 5), (At.slc 6), (At.slc 7), (At.val (Value.int IntKind.u32 (S'.fresh)))]), (Chunk.row true (EC.node) (S'.nodes)), (Chunk.row true (EC.int) (S'.counts)), (Chunk.row true (EC.bool) (S'.used)), (Chunk.row true (EC.u32) (S'.gen)), (Chunk.row true (EC.u32) (S'.rel))] [0])) ((brS (!decide (((rdS S x.m).nd x.i).key ≤ key)) ((∃ x' : XNr gtT S t fun k => decide (k ≤ key), (True ∧ ((True ∧ ((At.fn 148 [1]) = (At.fn 148 [1])) ∧ True ∧ True ∧ ((Value.bool (x.b.isSome)) = (Value.bool (x'.b.isSome))) ∧ ((Value.int IntKind.u32 (((rdS S x.m).nd x.i).left)) = (Value.int IntKind.u32 (x'.i))) ∧ True) ∧ (True ∧ True ∧ True ∧ ((Value.int IntKind.u64 (S'.reads)) = (Value.int IntKind.u64 ((rdS S x'.m).reads))) ∧ True) ∧ (((Value.int IntKind.i64 (key)) = (Value.int IntKind.i64 (key))) ∧ True) ∧ (True ∧ True ∧ True ∧ ((Value.int IntKind.u32 (S'.fresh)) = (Value.int IntKind.u32 ((rdS S x'.m).fresh))) ∧ True) ∧ ((S'.nodes) = ((rdS S x'.m).nodes)) ∧ ((S'.counts) = ((rdS S x'.m).counts)) ∧ ((S'.used) = ((rdS S x'.m).used)) ∧ ((S'.gen) = ((rdS S x'.m).gen)) ∧ ((S'.rel) = ((rdS S x'.m).rel)) ∧
    (((Value.int IntKind.i64 ((x.b.getD (0, 0)).fst)) = (Value.int IntKind.i64 ((x'.b.getD (0, 0)).fst))) ∧ ((Value.int IntKind.i64 ((x.b.getD (0, 0)).snd)) = (Value.int IntKind.i64 ((x'.b.getD (0, 0)).snd))) ∧ True) ∧ (((Value.int IntKind.i64 0) = (Value.int IntKind.i64 0)) ∧ ((Value.int IntKind.i64 0) = (Value.int IntKind.i64 0)) ∧ True) ∧ True) ∧ (x'.t'.size < x.t'.size)))) ((∃ x' : XNr gtT S t fun k => decide (k ≤ key), (True ∧ ((True ∧ ((At.fn 148 [1]) = (At.fn 148 [1])) ∧ True ∧ True ∧ ((Value.bool true) = (Value.bool (x'.b.isSome))) ∧ ((Value.int IntKind.u32 (((rdS S x.m).nd x.i).right)) = (Value.int IntKind.u32 (x'.i))) ∧ True) ∧ (True ∧ True ∧ True ∧ ((Value.int IntKind.u64 (S'.reads)) = (Value.int IntKind.u64 ((rdS S x'.m).reads))) ∧ True) ∧ (((Value.int IntKind.i64 (key)) = (Value.int IntKind.i64 (key))) ∧ True) ∧ (True ∧ True ∧ True ∧ ((Value.int IntKind.u32 (S'.fresh)) = (Value.int IntKind.u32 ((rdS S x'.m).fresh))) ∧ True) ∧ ((S'.nodes) = ((rdS S x'.m).nodes)) ∧ ((S'.counts) = ((rdS S x'.m).counts)) ∧ ((S'.used) = ((rdS S x'.m).used)) ∧ ((S'.gen) = ((rdS S x'.m).gen)) ∧ ((S'.rel) = ((rdS S x'.m).rel)) ∧ (((Value.int IntKind.i64 (((rdS S x.m).nd x.i).key)) = (Value.int IntKind.i64 ((x'.b.getD (0, 0)).fst))) ∧ ((Value.int IntKind.i64 (((rdS S x.m).nd x.i).value)) = (Value.int IntKind.i64 ((x'.b.getD (0, 0)).snd))) ∧ True) ∧ (((Value.int IntKind.i64 0) = (Value.int IntKind.i64 0)) ∧ ((Value.int IntKind.i64 0) = (Value.int IntKind.i64 0)) ∧ True) ∧ True) ∧
    (x'.t'.size < x.t'.size))))))))))) ((K (SV.tup [(TV.agg [(At.val (Value.int IntKind.i64 ((x.b.getD (0, 0)).fst))), (At.val (Value.int IntKind.i64 ((x.b.getD (0, 0)).snd)))]), (TV.at (At.val (Value.bool (x.b.isSome))))]) [(Chunk.box [(At.ptr 2 0), (At.slc 3), (At.slc 4), (At.val (Value.int IntKind.u64 ((rdS S x.m).reads)))]), (Chunk.box [(At.val (Value.int IntKind.i64 (key)))]), (Chunk.box [(At.slc 5), (At.slc 6), (At.slc 7), (At.val (Value.int IntKind.u32 ((rdS S x.m).fresh)))]), (Chunk.row true (EC.node) ((rdS S x.m).nodes)), (Chunk.row true (EC.int) ((rdS S x.m).counts)), (Chunk.row true (EC.bool) ((rdS S x.m).used)), (Chunk.row true (EC.u32) ((rdS S x.m).gen)), (Chunk.row true (EC.u32) ((rdS S x.m).rel))] [0])))))) = _ by kernel_rfl) ?_
  have hrd := hw.rds
  have hb := gtT_le t (fun k => decide (k ≤ key)) none
  refine ⟨⟨⟨i, t, none, 0, hr, by simp, Nat.le_refl _⟩, ?_⟩, fun x _ => ?_⟩
  · (repeat' first | exact trivial | exact rfl | refine And.intro ?_ ?_)
    rw [rdS_zero]
  obtain ⟨xi, xt, xb, xm, h1', hb2, h3⟩ := x
  dsimp only
  have hxm : xm ≤ (gtT t (fun k => decide (k ≤ key)) none).2 := by rw [hb2]; exact Nat.le_add_right _ _
  have hwx : Wf (rdS S xm) hs := hw.rd (by omega)
  refine brS_of (fun c => ?_) fun c => ?_
  · have c : xi ≠ 0 := by simpa using c
    cases xt with
    | nil => exact absurd h1' c
    | node l k v r =>
      obtain ⟨r1, r2, r3, r4, r5⟩ := h1'
      have hsz : l.size + r.size + 1 = (Tr.node l k v r).size := by simp [Tr.size]; omega
      refine ⟨inU_of hw (.inr r1), ⟨_, hwx⟩, by show S.reads + (xm : Int) < _; omega, fun S1 e1 => brS_of (fun d => ?_) fun _ => ?_⟩
      · have d : (!S.us xi) = true := d
        have d : S.us xi = false := by simpa using d
        rw [r1] at d; cases d
      have e1 : S1 = rdS S (xm + 1) := by rw [e1, rdS_rdS]; show rdS S (xm + (S.us xi).toNat) = _; rw [r1]; rfl
      subst e1
      have ek : ((rdS S xm).nd xi).key = k := r2
      have ev : ((rdS S xm).nd xi).value = v := r3
      rw [ek, ev]
      refine brS_of (fun d => ?_) fun d => ?_
      · have hc : ¬ decide (k ≤ key) = true := by simpa using d
        refine ⟨⟨(S.nd xi).left, l, xb, xm + 1, r4, by rw [hb2]; simp only [gtT, if_neg hc]; exact Prod.ext rfl (by show _ = _; simp only []; omega), by omega⟩, ?_⟩
        (repeat' first | exact trivial | exact rfl | refine And.intro ?_ ?_)
        show l.size < (Tr.node l k v r).size; omega
      · have hc : decide (k ≤ key) = true := by simpa using d
        refine ⟨⟨(S.nd xi).right, r, some (k, v), xm + 1, r5, by rw [hb2]; simp only [gtT, if_pos hc]; exact Prod.ext rfl (by show _ = _; simp only []; omega), by omega⟩, ?_⟩
        (repeat' first | exact trivial | exact rfl | refine And.intro ?_ ?_)
        show r.size < (Tr.node l k v r).size; omega
  · have c : xi = 0 := by simpa using c
    subst c
    have e := h1'.zero hw
    subst e
    exact h _ xb (by rw [hb2]; simp [gtT]) (by rw [hb2]; simp [gtT])
theorem s_nr_floor : SoundT C0 147 tNr_floor := by
  refine .ofW [0] Try.func147 (by decide) rfl fun args H K h hB => ?_
  unfold tNr_floor at h
  split at h <;> try exact h.elim
  unfold caM at h
  split at h <;> try exact h.elim
  rename_i i _ rd key fr nd ct us gn rl
  obtain ⟨hs, t, h1, h2, h3, h4, h5⟩ := h
  exact ⟨aNr_floor ⟨us, gn, rl, fr, nd, ct, rd⟩ t key, ⟨frame C0.ok s_node _, frame C0.ok s_adm_floor _, frame C0.ok s_entry _, trivial⟩, vc_nr_floor ⟨us, gn, rl, fr, nd, ct, rd⟩ i key K hs t h1 h2 h3 h4 h5⟩
theorem vc_lu_floor (S : Arn) (i key : Int) (K : KT) (hs : List Int) (t : Tr) (hw : Wf S hs) (hr : Rep S t i) (h1 : t.size ≤ 1000000) (h2 : S.reads + t.size ≤ 3000000000000000000)
    (h : ∀ S' o, S' = rdS S (gtT t (fun k => decide (k ≤ key)) none).2 → o = (gtT t (fun k => decide (k ≤ key)) none).1 → K (.tup [entO o, .at (vB o.isSome)]) (chS S') [0]) :
    vc C0 aLu_floor Try.f125 [.at (.ptr 0 0), .at (vU i), .at (vI key)] (chS S) (normK 7 (wideK [0] K)) :=
  Eq.mp (show (∃ hs : List Int, (∃ t : Tr, ((Wf S hs) ∧ (Rep S t i) ∧ (t.size ≤ 1000000) ∧ (S.reads + (↑t.size : Int) ≤ 3000000000000000000) ∧ (∀ S' : Arn, (∀ o : Option Ent, (((S') = (rdS S (gtT t (fun k => decide (k ≤ key)) none).snd)) → (((o) = ((gtT t (fun k => decide (k ≤ key)) none).fst)) → (K (SV.tup [(TV.agg [(At.val (Value.int IntKind.i64 ((o.getD (0, 0)).fst))), (At.val (Value.int IntKind.i64 ((o.getD (0, 0)).snd)))]), (TV.at (At.val (Value.bool (o.isSome))))]) [(Chunk.box [(At.ptr 1 0), (At.slc 2), (At.slc 3), (At.val (Value.int IntKind.u64 (S'.reads)))]), (Chunk.box [(At.slc 4), (At.slc 5), (At.slc 6), (At.val (Value.int IntKind.u32 (S'.fresh)))]), (Chunk.row true (EC.node) (S'.nodes)), (Chunk.row true (EC.int) (S'.counts)), (Chunk.row true (EC.bool) (S'.used)), (Chunk.row true (EC.u32) (S'.gen)), (Chunk.row true (EC.u32) (S'.rel))] [0])))))))) = _ by kernel_rfl) ⟨hs, t, hw, hr, h1, h2, h⟩
theorem s_lu_floor : SoundT C0 125 tLu_floor := by
  refine .ofW [0] Try.func125 (by decide) rfl fun args H K h hB => ?_
  unfold tLu_floor at h
  split at h <;> try exact h.elim
  unfold arM at h
  split at h <;> try exact h.elim
  rename_i i key _ rd fr nd ct us gn rl
  obtain ⟨hs, t, h1, h2, h3, h4, h5⟩ := h
  exact ⟨aLu_floor, ⟨frame C0.ok s_nr_floor _, trivial⟩, vc_lu_floor ⟨us, gn, rl, fr, nd, ct, rd⟩ i key K hs t h1 h2 h3 h4 h5⟩
def tAdm_below : Tfm C0 := fun args H K => match args, H with
  | [.at (.val (.int .i64 k)), .at (.ptr 0 0)], [.box [.val (.int .i64 key)]] => K (.one (.at (vB (decide (k < key))))) [.box [vI key]] []
  | _, _ => False
theorem s_adm_below : SoundT C0 149 tAdm_below := by
  refine .of Try.func149 (by decide) rfl fun args H K h hB => ⟨A0, trivial, ?_⟩
  unfold tAdm_below at h
  split at h <;> try exact h.elim
  exact Eq.mp (show _ = _ by kernel_rfl) h
noncomputable def aNr_below (S : Arn) (t : Tr) (key : Int) : Ann C0 := { Γ := [(60, frameT [] tNode), (149, frameT [] tAdm_below), (150, frameT [] tEntry)], inv := fun n => match n with
  | 4 => some { X := XNr gtT S t (fun k => decide (k < key)), sl := [10, 9, 8, 6], tf := fun x => [vi .u32 x.i, vb x.b.isSome, .one (.at (.ptr 8 0)), .one (.at (.ptr 9 0))], hf := fun x => chA key (rdS S x.m) ++ [.box [vI (x.b.getD (0, 0)).1, vI (x.b.getD (0, 0)).2], .box [vI 0, vI 0]], μ := fun x => x.t'.size, wr := [0] }
  | _ => none }
def tNr_below : Tfm C0 := fun args H K => match args with
  | [.at (.ptr 0 0), .at (.val (.int .u32 i)), .at (.fn 149 [1])] => caM H fun key S => ∃ hs t, Wf S hs ∧ Rep S t i ∧ t.size ≤ 1000000 ∧ S.reads + t.size ≤ 3000000000000000000 ∧
    ∀ S' o, S' = rdS S (gtT t (fun k => decide (k < key)) none).2 → o = (gtT t (fun k => decide (k < key)) none).1 → K (.tup [entO o, .at (vB o.isSome)]) (chA key S') [0]
  | _ => False
noncomputable def aLu_below : Ann C0 := { Γ := [(147, frameT [] tNr_below)] }
def tLu_below : Tfm C0 := fun args H K => match args with
  | [.at (.ptr 0 0), .at (.val (.int .u32 i)), .at (.val (.int .i64 key))] => arM H fun S => ∃ hs t, Wf S hs ∧ Rep S t i ∧ t.size ≤ 1000000 ∧ S.reads + t.size ≤ 3000000000000000000 ∧
    ∀ S' o, S' = rdS S (gtT t (fun k => decide (k < key)) none).2 → o = (gtT t (fun k => decide (k < key)) none).1 → K (.tup [entO o, .at (vB o.isSome)]) (chS S') [0]
  | _ => False
theorem vc_nr_below (S : Arn) (i key : Int) (K : KT) (hs : List Int) (t : Tr) (hw : Wf S hs) (hr : Rep S t i) (h1 : t.size ≤ 1000000) (h2 : S.reads + t.size ≤ 3000000000000000000)
    (h : ∀ S' o, S' = rdS S (gtT t (fun k => decide (k < key)) none).2 → o = (gtT t (fun k => decide (k < key)) none).1 → K (.tup [entO o, .at (vB o.isSome)]) (chA key S') [0]) :
    vc C0 (aNr_below S t key) Try.f147 [.at (.ptr 0 0), .at (vU i), .at (.fn 149 [1])] (chA key S) (normK 8 (wideK [0] K)) := by
  refine Eq.mp (show ((∃ x : XNr gtT S t fun k => decide (k < key), (True ∧ (True ∧ ((At.fn 149 [1]) = (At.fn 149 [1])) ∧ True ∧ True ∧ ((Value.bool false) = (Value.bool (x.b.isSome))) ∧ ((Value.int IntKind.u32 (i)) = (Value.int IntKind.u32 (x.i))) ∧ True) ∧ (True ∧ True ∧ True ∧ ((Value.int IntKind.u64 (S.reads)) = (Value.int IntKind.u64 ((rdS S x.m).reads))) ∧ True) ∧ (((Value.int IntKind.i64 (key)) = (Value.int IntKind.i64 (key))) ∧ True) ∧ (True ∧ True ∧ True ∧ ((Value.int IntKind.u32 (S.fresh)) = (Value.int IntKind.u32 ((rdS S x.m).fresh))) ∧ True) ∧ ((S.nodes) = ((rdS S x.m).nodes)) ∧ ((S.counts) = ((rdS S x.m).counts)) ∧ ((S.used) = ((rdS S x.m).used)) ∧ ((S.gen) = ((rdS S x.m).gen)) ∧ ((S.rel) = ((rdS S x.m).rel)) ∧ (((Value.int IntKind.i64 0) = (Value.int IntKind.i64 ((x.b.getD (0, 0)).fst))) ∧ ((Value.int IntKind.i64 0) = (Value.int IntKind.i64 ((x.b.getD (0, 0)).snd))) ∧ True) ∧ (((Value.int IntKind.i64 0) = (Value.int IntKind.i64 0)) ∧ ((Value.int IntKind.i64 0) = (Value.int IntKind.i64 0)) ∧ True) ∧ True)) ∧
(∀ x : XNr gtT S t fun k => decide (k < key), (True → (brS (x.i != 0) (((inU x.i) ∧ (exW (rdS S x.m)) ∧ ((rdS S x.m).reads < 4000000000000000000) ∧ (∀ S' : Arn, (((S') = (rdS (rdS S x.m) ((rdS S x.m).us x.i).toNat)) → (brS (!(rdS S x.m).us x.i)
    ((K (SV.tup [(TV.agg [(At.val (Value.int IntKind.i64 ((x.b.getD (0, 0)).fst))), (At.val (Value.int IntKind.i64 ((x.b.getD (0, 0)).snd)))]), (TV.at (At.val (Value.bool (x.b.isSome))))]) [(Chunk.box [(At.ptr 2 0), (At.slc 3), (At.slc 4), (At.val (Value.int IntKind.u64 (S'.reads)))]), (Chunk.box [(At.val (Value.int IntKind.i64 (key)))]), (Chunk.box [(At.slc 5), (At.slc 6), (At.slc 7), (At.val (Value.int IntKind.u32 (S'.fresh)))]), (Chunk.row true (EC.node) (S'.nodes)), (Chunk.row true (EC.int) (S'.counts)), (Chunk.row true (EC.bool) (S'.used)), (Chunk.row true (EC.u32) (S'.gen)), (Chunk.row true (EC.u32) (S'.rel))] [0])) ((brS (!decide (((rdS S x.m).nd x.i).key < key)) ((∃ x' : XNr gtT S t fun k => decide (k < key), (True ∧ ((True ∧ ((At.fn 149 [1]) = (At.fn 149 [1])) ∧ True ∧ True ∧ ((Value.bool (x.b.isSome)) = (Value.bool (x'.b.isSome))) ∧ ((Value.int IntKind.u32 (((rdS S x.m).nd x.i).left)) = (Value.int IntKind.u32 (x'.i))) ∧ True) ∧ (True ∧ True ∧ True ∧ ((Value.int IntKind.u64 (S'.reads)) = (Value.int IntKind.u64 ((rdS S x'.m).reads))) ∧ True) ∧ (((Value.int IntKind.i64 (key)) = (Value.int IntKind.i64 (key))) ∧ True) ∧ (True ∧ True ∧ True ∧ ((Value.int IntKind.u32 (S'.fresh)) = (Value.int IntKind.u32 ((rdS S x'.m).fresh))) ∧ True) ∧ ((S'.nodes) = ((rdS S x'.m).nodes)) ∧ ((S'.counts) = ((rdS S x'.m).counts)) ∧ ((S'.used) = ((rdS S x'.m).used)) ∧ ((S'.gen) = ((rdS S x'.m).gen)) ∧ ((S'.rel) = ((rdS S x'.m).rel)) ∧
    (((Value.int IntKind.i64 ((x.b.getD (0, 0)).fst)) = (Value.int IntKind.i64 ((x'.b.getD (0, 0)).fst))) ∧ ((Value.int IntKind.i64 ((x.b.getD (0, 0)).snd)) = (Value.int IntKind.i64 ((x'.b.getD (0, 0)).snd))) ∧ True) ∧ (((Value.int IntKind.i64 0) = (Value.int IntKind.i64 0)) ∧ ((Value.int IntKind.i64 0) = (Value.int IntKind.i64 0)) ∧ True) ∧ True) ∧ (x'.t'.size < x.t'.size)))) ((∃ x' : XNr gtT S t fun k => decide (k < key), (True ∧ ((True ∧ ((At.fn 149 [1]) = (At.fn 149 [1])) ∧ True ∧ True ∧ ((Value.bool true) = (Value.bool (x'.b.isSome))) ∧ ((Value.int IntKind.u32 (((rdS S x.m).nd x.i).right)) = (Value.int IntKind.u32 (x'.i))) ∧ True) ∧ (True ∧ True ∧ True ∧ ((Value.int IntKind.u64 (S'.reads)) = (Value.int IntKind.u64 ((rdS S x'.m).reads))) ∧ True) ∧ (((Value.int IntKind.i64 (key)) = (Value.int IntKind.i64 (key))) ∧ True) ∧ (True ∧ True ∧ True ∧ ((Value.int IntKind.u32 (S'.fresh)) = (Value.int IntKind.u32 ((rdS S x'.m).fresh))) ∧ True) ∧ ((S'.nodes) = ((rdS S x'.m).nodes)) ∧ ((S'.counts) = ((rdS S x'.m).counts)) ∧ ((S'.used) = ((rdS S x'.m).used)) ∧ ((S'.gen) = ((rdS S x'.m).gen)) ∧ ((S'.rel) = ((rdS S x'.m).rel)) ∧ (((Value.int IntKind.i64 (((rdS S x.m).nd x.i).key)) = (Value.int IntKind.i64 ((x'.b.getD (0, 0)).fst))) ∧ ((Value.int IntKind.i64 (((rdS S x.m).nd x.i).value)) = (Value.int IntKind.i64 ((x'.b.getD (0, 0)).snd))) ∧ True) ∧ (((Value.int IntKind.i64 0) = (Value.int IntKind.i64 0)) ∧ ((Value.int IntKind.i64 0) = (Value.int IntKind.i64 0)) ∧ True) ∧ True) ∧
    (x'.t'.size < x.t'.size))))))))))) ((K (SV.tup [(TV.agg [(At.val (Value.int IntKind.i64 ((x.b.getD (0, 0)).fst))), (At.val (Value.int IntKind.i64 ((x.b.getD (0, 0)).snd)))]), (TV.at (At.val (Value.bool (x.b.isSome))))]) [(Chunk.box [(At.ptr 2 0), (At.slc 3), (At.slc 4), (At.val (Value.int IntKind.u64 ((rdS S x.m).reads)))]), (Chunk.box [(At.val (Value.int IntKind.i64 (key)))]), (Chunk.box [(At.slc 5), (At.slc 6), (At.slc 7), (At.val (Value.int IntKind.u32 ((rdS S x.m).fresh)))]), (Chunk.row true (EC.node) ((rdS S x.m).nodes)), (Chunk.row true (EC.int) ((rdS S x.m).counts)), (Chunk.row true (EC.bool) ((rdS S x.m).used)), (Chunk.row true (EC.u32) ((rdS S x.m).gen)), (Chunk.row true (EC.u32) ((rdS S x.m).rel))] [0])))))) = _ by kernel_rfl) ?_
  have hrd := hw.rds
  have hb := gtT_le t (fun k => decide (k < key)) none
  refine ⟨⟨⟨i, t, none, 0, hr, by simp, Nat.le_refl _⟩, ?_⟩, fun x _ => ?_⟩
  · (repeat' first | exact trivial | exact rfl | refine And.intro ?_ ?_)
    rw [rdS_zero]
  obtain ⟨xi, xt, xb, xm, h1', hb2, h3⟩ := x
  dsimp only
  have hxm : xm ≤ (gtT t (fun k => decide (k < key)) none).2 := by rw [hb2]; exact Nat.le_add_right _ _
  have hwx : Wf (rdS S xm) hs := hw.rd (by omega)
  refine brS_of (fun c => ?_) fun c => ?_
  · have c : xi ≠ 0 := by simpa using c
    cases xt with
    | nil => exact absurd h1' c
    | node l k v r =>
      obtain ⟨r1, r2, r3, r4, r5⟩ := h1'
      have hsz : l.size + r.size + 1 = (Tr.node l k v r).size := by simp [Tr.size]; omega
      refine ⟨inU_of hw (.inr r1), ⟨_, hwx⟩, by show S.reads + (xm : Int) < _; omega, fun S1 e1 => brS_of (fun d => ?_) fun _ => ?_⟩
      · have d : (!S.us xi) = true := d
        have d : S.us xi = false := by simpa using d
        rw [r1] at d; cases d
      have e1 : S1 = rdS S (xm + 1) := by rw [e1, rdS_rdS]; show rdS S (xm + (S.us xi).toNat) = _; rw [r1]; rfl
      subst e1
      have ek : ((rdS S xm).nd xi).key = k := r2
      have ev : ((rdS S xm).nd xi).value = v := r3
      rw [ek, ev]
      refine brS_of (fun d => ?_) fun d => ?_
      · have hc : ¬ decide (k < key) = true := by simpa using d
        refine ⟨⟨(S.nd xi).left, l, xb, xm + 1, r4, by rw [hb2]; simp only [gtT, if_neg hc]; exact Prod.ext rfl (by show _ = _; simp only []; omega), by omega⟩, ?_⟩
        (repeat' first | exact trivial | exact rfl | refine And.intro ?_ ?_)
        show l.size < (Tr.node l k v r).size; omega
      · have hc : decide (k < key) = true := by simpa using d
        refine ⟨⟨(S.nd xi).right, r, some (k, v), xm + 1, r5, by rw [hb2]; simp only [gtT, if_pos hc]; exact Prod.ext rfl (by show _ = _; simp only []; omega), by omega⟩, ?_⟩
        (repeat' first | exact trivial | exact rfl | refine And.intro ?_ ?_)
        show r.size < (Tr.node l k v r).size; omega
  · have c : xi = 0 := by simpa using c
    subst c
    have e := h1'.zero hw
    subst e
    exact h _ xb (by rw [hb2]; simp [gtT]) (by rw [hb2]; simp [gtT])
theorem s_nr_below : SoundT C0 147 tNr_below := by
  refine .ofW [0] Try.func147 (by decide) rfl fun args H K h hB => ?_
  unfold tNr_below at h
  split at h <;> try exact h.elim
  unfold caM at h
  split at h <;> try exact h.elim
  rename_i i _ rd key fr nd ct us gn rl
  obtain ⟨hs, t, h1, h2, h3, h4, h5⟩ := h
  exact ⟨aNr_below ⟨us, gn, rl, fr, nd, ct, rd⟩ t key, ⟨frame C0.ok s_node _, frame C0.ok s_adm_below _, frame C0.ok s_entry _, trivial⟩, vc_nr_below ⟨us, gn, rl, fr, nd, ct, rd⟩ i key K hs t h1 h2 h3 h4 h5⟩
theorem vc_lu_below (S : Arn) (i key : Int) (K : KT) (hs : List Int) (t : Tr) (hw : Wf S hs) (hr : Rep S t i) (h1 : t.size ≤ 1000000) (h2 : S.reads + t.size ≤ 3000000000000000000)
    (h : ∀ S' o, S' = rdS S (gtT t (fun k => decide (k < key)) none).2 → o = (gtT t (fun k => decide (k < key)) none).1 → K (.tup [entO o, .at (vB o.isSome)]) (chS S') [0]) :
    vc C0 aLu_below Try.f126 [.at (.ptr 0 0), .at (vU i), .at (vI key)] (chS S) (normK 7 (wideK [0] K)) :=
  Eq.mp (show (∃ hs : List Int, (∃ t : Tr, ((Wf S hs) ∧ (Rep S t i) ∧ (t.size ≤ 1000000) ∧ (S.reads + (↑t.size : Int) ≤ 3000000000000000000) ∧ (∀ S' : Arn, (∀ o : Option Ent, (((S') = (rdS S (gtT t (fun k => decide (k < key)) none).snd)) → (((o) = ((gtT t (fun k => decide (k < key)) none).fst)) → (K (SV.tup [(TV.agg [(At.val (Value.int IntKind.i64 ((o.getD (0, 0)).fst))), (At.val (Value.int IntKind.i64 ((o.getD (0, 0)).snd)))]), (TV.at (At.val (Value.bool (o.isSome))))]) [(Chunk.box [(At.ptr 1 0), (At.slc 2), (At.slc 3), (At.val (Value.int IntKind.u64 (S'.reads)))]), (Chunk.box [(At.slc 4), (At.slc 5), (At.slc 6), (At.val (Value.int IntKind.u32 (S'.fresh)))]), (Chunk.row true (EC.node) (S'.nodes)), (Chunk.row true (EC.int) (S'.counts)), (Chunk.row true (EC.bool) (S'.used)), (Chunk.row true (EC.u32) (S'.gen)), (Chunk.row true (EC.u32) (S'.rel))] [0])))))))) = _ by kernel_rfl) ⟨hs, t, hw, hr, h1, h2, h⟩
theorem s_lu_below : SoundT C0 126 tLu_below := by
  refine .ofW [0] Try.func126 (by decide) rfl fun args H K h hB => ?_
  unfold tLu_below at h
  split at h <;> try exact h.elim
  unfold arM at h
  split at h <;> try exact h.elim
  rename_i i key _ rd fr nd ct us gn rl
  obtain ⟨hs, t, h1, h2, h3, h4, h5⟩ := h
  exact ⟨aLu_below, ⟨frame C0.ok s_nr_below _, trivial⟩, vc_lu_below ⟨us, gn, rl, fr, nd, ct, rd⟩ i key K hs t h1 h2 h3 h4 h5⟩
end Go.Proofs.Ytmjnoiajenoinaa.Sx
end
section
/- Range, Slice and List; Build. -/
namespace Go.Proofs.Ytmjnoiajenoinaa.Sx
open Go

/-KEEP Wf exW inU live Arn.cap Arn.free maxSize mkNode makeS relA nxt NodeR BuildR Rep lk pl rdS Tr.size rangeR sliceR ne0-/
def tLkA : Tfm C0 := fun args H K => match args with
  | [.at (.ptr 0 0), .at (.val (.int .u32 i)), .at (.val (.int .i64 lo)), .at (.val (.int .i64 hi))] => lsM H fun lim S out => ∃ hs t, Wf S hs ∧ Rep S t i ∧ t.size ≤ 1000000 ∧ out.length + t.size ≤ 3000000 ∧ S.reads + t.size ≤ 3000000000000000000 ∧
    ∀ S' out', S' = rdS S (lk t lo hi (room lim out)).2 → out' = out ++ (lk t lo hi (room lim out)).1 → K (.tup []) (chL lim S' out') [0, 1, 2]
  | _ => False
def tPlA : Tfm C0 := fun args H K => match args with
  | [.at (.ptr 0 0), .at (.val (.int .u32 i)), .at (.val (.int .i64 x)), .at (.val (.int .i64 y))] => lsM H fun lim S out => ∃ hs t, Wf S hs ∧ Rep S t i ∧ t.size ≤ 1000000 ∧ out.length + t.size ≤ 3000000 ∧ S.reads + 2 * t.size ≤ 3000000000000000000 ∧ 0 ≤ x ∧ y ≤ t.size ∧
    ∀ S' out', S' = rdS S (pl t x y).2 → out' = out ++ (pl t x y).1 → K (.tup []) (chL lim S' out') [0, 1, 2]
  | _ => False
def rangeR (t : Tr) (lo hi lim : Int) : List Ent × Nat := if lim ≤ 0 ∨ hi < lo then ([], 0) else lk t lo hi lim.toNat
def sliceR (t : Tr) (x y : Int) : List Ent × Nat := if x < 0 ∨ y < x then ([], 0) else if (t.size : Int) < y then ([], ne0 t) else ((pl t x y).1, ne0 t + (pl t x y).2)
noncomputable def aRange : Ann C0 := { Γ := [(136, frameT [] tLkA)] }
def tRange : Tfm C0 := fun args H K => match args with
  | [.at (.ptr 0 0), .at (.val (.int .u32 i)), .at (.val (.int .i64 lo)), .at (.val (.int .i64 hi)), .at (.val (.int .i64 lim))] => arM H fun S => ∃ hs t, Wf S hs ∧ Rep S t i ∧ t.size ≤ 1000000 ∧ S.reads + t.size ≤ 3000000000000000000 ∧
    ∀ S' (out : List Ent), S' = rdS S (rangeR t lo hi lim).2 → out = (rangeR t lo hi lim).1 → K (.one (.at (.slc 7))) (chS S' ++ [.row true EC.ent out]) [0]
  | _ => False
def tSlice : Tfm C0 := fun args H K => match args with
  | [.at (.ptr 0 0), .at (.val (.int .u32 i)), .at (.val (.int .i64 x)), .at (.val (.int .i64 y))] => arM H fun S => ∃ hs t, Wf S hs ∧ Rep S t i ∧ t.size ≤ 1000000 ∧ S.reads + 2 * t.size ≤ 2000000000000000000 ∧
    ∀ S' (out : List Ent), S' = rdS S (sliceR t x y).2 → out = (sliceR t x y).1 → K (.one (.at (.slc 7))) (chS S' ++ [.row true EC.ent out]) [0]
  | _ => False
noncomputable def aList : Ann C0 := { Γ := [(110, frameT [] tRange)] }
def tList : Tfm C0 := fun args H K => match args with
  | [.at (.ptr 0 0), .at (.val (.int .u32 i))] => arM H fun S => ∃ hs t, Wf S hs ∧ Rep S t i ∧ t.size ≤ 1000000 ∧ S.reads + t.size ≤ 3000000000000000000 ∧
    ∀ S' (out : List Ent), S' = rdS S (rangeR t (-9223372036854775808) 9223372036854775807 2147483647).2 → out = (rangeR t (-9223372036854775808) 9223372036854775807 2147483647).1 → K (.one (.at (.slc 7))) (chS S' ++ [.row true EC.ent out]) [0]
  | _ => False
def tNodeW : Tfm C0 := fun args H K => match args with
  | [.at (.ptr 0 0), .at (.val (.int .u32 l)), .agg [.val (.int .i64 k), .val (.int .i64 v)], .at (.val (.int .u32 r))] => arM H fun S => ∃ hs tl tr, Wf S (l :: r :: hs) ∧ Rep S tl l ∧ Rep S tr r ∧ tl.size + tr.size ≤ 1000000 ∧ 0 < S.free ∧ hs.length ≤ 900000000 ∧
    ∀ S' i, NodeR S hs k v tl tr S' i → K (.one (.at (vU i))) (chS S') W7
  | _ => False
noncomputable def aNodeW : Ann C0 := { Γ := [(13, frameT [] tMakeOk), (14, frameT [] tGive)] }
def tBld (n : Nat) : Tfm C0 := fun args H K => match args with
  | [.at (.ptr 0 0), .at (.slc 7)] => arMr H fun S rest => match rest with
    | [.row false .ent l] => ∃ hs, Wf S hs ∧ l.length < n ∧ l.length ≤ 100000 ∧ (l.length : Int) ≤ S.free ∧ hs.length + l.length ≤ 800000000 ∧ ∀ S' i, BuildR S hs l S' i → K (.one (.at (vU i))) (chS S' ++ [.row false EC.ent l]) W7
    | _ => False
  | _ => False
structure XBld (P : Arn → Int → Prop) where
  S : Arn
  i : Int
  h : P S i
noncomputable def aBld (n : Nat) (l : List Ent) (P : Arn → Int → Prop) : Ann C0 := { Γ := [(132, frameT [] (tBld n)), (120, frameT [] tNodeW)], inv := fun k => match k with
  | 1005 => some { X := XBld P, sl := [6], tf := fun x => [vi .u32 x.i], hf := fun x => chS x.S ++ [.row false EC.ent l], wr := W7 }
  | _ => none }
end Go.Proofs.Ytmjnoiajenoinaa.Sx
end
section
/- Plain laws of patches: apply, compose, rebase, invert. No program in sight. -/
namespace Go.Proofs.Ytmjnoiajenoinaa

/-! ### Apply -/
def optE (k : Int) (v : Option Int) : List Ent := (v.map fun v => (k, v)).toList

def appGo : List (Option Ent × Option Chg) → Option (List Ent)
  | [] => some []
  | (x, none) :: t => (appGo t).map (x.toList ++ ·)
  | (x, some c) :: t => if x.map Prod.snd = c.before then (appGo t).map (optE c.key c.after ++ ·) else none

/-- What applying comes to: the list, if the patch fits. -/
def app (l : List Ent) (p : List Chg) : Option (List Ent) := appGo (pEC l p)

/-- What is still to be made, behind what has been made. -/
def AppAt (l : List Ent) (p : List Chg) (i k : Nat) (acc : List Ent) : Prop := app l p = (appGo (pEC (l.drop i) (p.drop k))).map (acc ++ ·)
theorem AppAt.start (l : List Ent) (p : List Chg) : AppAt l p 0 0 [] := by
  unfold AppAt app; rw [List.drop_zero, List.drop_zero]; cases appGo (pEC l p) <;> rfl
theorem appGo_keep {l' : List Ent} {p' : List Chg} {x : Ent} {c : Chg} (h : x.1 < c.key) : appGo (pEC (x :: l') (c :: p')) = (appGo (pEC l' (c :: p'))).map (x :: ·) := by
  show appGo (pairs Prod.fst Chg.key (x :: l') (c :: p')) = _
  rw [pairs, if_pos h]; rfl
theorem AppAt.keep {l : List Ent} {p : List Chg} {i k : Nat} {acc : List Ent} {x : Ent} {c : Chg} (h : AppAt l p i k acc) (hl : l.drop i = x :: l.drop (i + 1)) (hp : p.drop k = c :: p.drop (k + 1)) (hlt : x.1 < c.key) : AppAt l p (i + 1) k (acc ++ [x]) := by
  unfold AppAt at *
  rw [h, hl, hp, appGo_keep hlt, ← hp, Option.map_map]
  congr 1
  funext t; simp
/-- The element at i, if it has the key of the change. -/
def at1 (l : List Ent) (i : Nat) (q : Int) : Option Ent := match l[i]? with
  | some x => if x.1 = q then some x else none
  | none => none
theorem AppAt.take {l : List Ent} {p : List Chg} {i k : Nat} {acc : List Ent} {x : Ent} {c : Chg} (h : AppAt l p i k acc) (hl : l.drop i = x :: l.drop (i + 1)) (hp : p.drop k = c :: p.drop (k + 1)) (he : x.1 = c.key) :
    if some x.2 = c.before then AppAt l p (i + 1) (k + 1) (acc ++ optE c.key c.after) else app l p = none := by
  have e : pEC (x :: l.drop (i + 1)) (c :: p.drop (k + 1)) = (some x, some c) :: pEC (l.drop (i + 1)) (p.drop (k + 1)) := by
    show pairs Prod.fst Chg.key _ _ = _
    rw [pairs, if_neg (by omega), if_neg (by omega)]
  split
  · rename_i hb
    unfold AppAt at *
    rw [h, hl, hp, e]
    simp only [appGo, Option.map_some, hb, if_true, Option.map_map]
    congr 1
    funext t; simp
  · rename_i hb
    unfold AppAt at h
    rw [h, hl, hp, e]
    simp only [appGo, Option.map_some, hb, if_false, Option.map_none]
theorem AppAt.new {l : List Ent} {p : List Chg} {i k : Nat} {acc : List Ent} {c : Chg} (h : AppAt l p i k acc) (hl : l.drop i = [] ∨ ∃ x t, l.drop i = x :: t ∧ c.key < x.1) (hp : p.drop k = c :: p.drop (k + 1)) :
    if none = c.before then AppAt l p i (k + 1) (acc ++ optE c.key c.after) else app l p = none := by
  have e : pEC (l.drop i) (c :: p.drop (k + 1)) = (none, some c) :: pEC (l.drop i) (p.drop (k + 1)) := by
    show pairs Prod.fst Chg.key _ _ = _ :: pairs Prod.fst Chg.key _ _
    rcases hl with hl | ⟨x, t, hl, hlt⟩
    · rw [hl, pairs]
    · rw [hl, pairs, if_neg (by omega), if_pos hlt]
  split
  · rename_i hb
    unfold AppAt at *
    rw [h, hp, e]
    simp only [appGo, Option.map_none, hb, if_true, Option.map_map]
    congr 1
    funext t; simp
  · rename_i hb
    unfold AppAt at h
    rw [h, hp, e]
    simp only [appGo, Option.map_none, hb, if_false]
theorem AppAt.fin {l : List Ent} {p : List Chg} {i k : Nat} {acc : List Ent} (h : AppAt l p i k acc) (hk : p.length ≤ k) : app l p = some (acc ++ l.drop i) := by
  unfold AppAt at h
  rw [h, List.drop_eq_nil_of_le hk]
  have : ∀ m : List Ent, appGo (pEC m []) = some m := by
    intro m
    induction m with
    | nil => simp [pairs, appGo]
    | cons x t ih => simp [pairs, appGo, ih]
  rw [this]; rfl

/-- The value of a key behind a patch. -/
def put (x : Option Int) (c : Option Chg) : Option Int := match c with
  | none => x
  | some c => c.after

def emit1 (z : Option Ent × Option Chg) : Option Ent := (put (z.1.map Prod.snd) z.2).map fun v => (pkey Prod.fst Chg.key z, v)

/-- The patch fits the list: each change finds the value that it says. -/
def Fits (l : List Ent) (p : List Chg) : Prop := ∀ c ∈ p, getE l c.key = c.before
instance (l : List Ent) (p : List Chg) : Decidable (Fits l p) := by unfold Fits; infer_instance

/-! ### Invert -/
def inv1 (c : Chg) : Chg := (mkChg c.key c.after c.before).getD ⟨0, 0, 0, 0⟩
def inv (p : List Chg) : List Chg := p.map inv1

end Go.Proofs.Ytmjnoiajenoinaa
end
section
/- Plain laws of patches: compose and rebase. No program in sight. -/
namespace Go.Proofs.Ytmjnoiajenoinaa

/-! ### Compose -/
def comp1 : Option Chg × Option Chg → List Chg
  | (some c, none) => [c]
  | (none, some d) => [d]
  | (some c, some d) => (mkChg c.key c.before d.after).toList
  | (none, none) => []
def meet1 : Option Chg × Option Chg → Bool
  | (some c, some d) => decide (c.after = d.before)
  | _ => true

def compGo : List (Option Chg × Option Chg) → Option (List Chg)
  | [] => some []
  | z :: t => if meet1 z then (compGo t).map (comp1 z ++ ·) else none

/-- What composing two valid patches comes to. -/
def comp (p q : List Chg) : Option (List Chg) := compGo (pC p q)

/-! ### Rebase -/
def keep1 : Option Chg × Option Chg → List Chg
  | (some c, none) => [c]
  | _ => []
def conf1 : Option Chg × Option Chg → List Int
  | (some c, some d) => if c.after = d.after then [] else [c.key]
  | _ => []
def base1 : Option Chg × Option Chg → Bool
  | (some c, some d) => decide (c.before = d.before)
  | _ => true

def rebGo : List (Option Chg × Option Chg) → Option (List Chg × List Int)
  | [] => some ([], [])
  | z :: t => if base1 z then (rebGo t).map (fun r => (keep1 z ++ r.1, conf1 z ++ r.2)) else none

def reb (p q : List Chg) : Option (List Chg × List Int) := rebGo (pC p q)

/-- The same, along the first patch alone. -/
def rebP : List (Chg × Option Chg) → Option (List Chg × List Int)
  | [] => some ([], [])
  | (c, d) :: t => if base1 (some c, d) then (rebP t).map (fun r => (keep1 (some c, d) ++ r.1, conf1 (some c, d) ++ r.2)) else none

/-- A key that both sides changed, differently. -/
def Cf (l m n : List Ent) (k : Int) : Prop := getE m k ≠ getE n k ∧ getE l k ≠ getE m k ∧ getE l k ≠ getE n k
instance (l m n : List Ent) (k : Int) : Decidable (Cf l m n k) := by unfold Cf; infer_instance

def confO (z : Option Chg × Option Chg) : Option Int := match z with
  | (some c, some d) => if c.after = d.after then none else some c.key
  | _ => none
def keepO (z : Option Chg × Option Chg) : Option Chg := match z with
  | (some c, none) => some c
  | _ => none

end Go.Proofs.Ytmjnoiajenoinaa
end
section
/- Plain laws of insertion into ascending lists, of key lists, of unions. No program in sight. -/
namespace Go.Proofs.Ytmjnoiajenoinaa

def insGo (e : Ent) : Bool → List Ent → List Ent
  | put, [] => if put then [] else [e]
  | put, x :: t => (if !put && decide (e.1 ≤ x.1) then [e] else []) ++ ((if x.1 = e.1 then [] else [x]) ++ insGo e (put || decide (e.1 ≤ x.1)) t)

theorem insGo_len (e : Ent) : ∀ (l : List Ent) (put : Bool), (insGo e put l).length ≤ l.length + (if put then 0 else 1) := by
  intro l
  induction l with
  | nil => intro put; cases put <;> simp [insGo]
  | cons x t ih =>
    intro put
    simp only [insGo, List.length_append, List.length_cons]
    have h1 := ih (put || decide (e.1 ≤ x.1))
    have h2 : (if x.1 = e.1 then ([] : List Ent) else [x]).length ≤ 1 := by split <;> simp
    cases put
    · by_cases h : e.1 ≤ x.1
      · simp [h] at h1 ⊢; omega
      · simp [h] at h1 ⊢; omega
    · simp at h1 ⊢; omega

/-- The list with an entry put in. -/
abbrev insE (l : List Ent) (e : Ent) : List Ent := insGo e false l

theorem insE_len (l : List Ent) (e : Ent) : (insE l e).length ≤ l.length + 1 := by simpa using insGo_len e l false

theorem insGo_true {e : Ent} : ∀ {l : List Ent}, (∀ x ∈ l, e.1 < x.1) → insGo e true l = l := by
  intro l
  induction l with
  | nil => intro _; simp [insGo]
  | cons x t ih =>
    intro h
    have hx := h x List.mem_cons_self
    have : ¬ x.1 = e.1 := by omega
    simp [insGo, this, ih fun y hy => h y (List.mem_cons_of_mem _ hy)]

theorem insE_cons {e x : Ent} {t : List Ent} (h : Asc (x :: t)) : insE (x :: t) e = if e.1 < x.1 then e :: x :: t else if x.1 = e.1 then e :: t else x :: insE t e := by
  have hh := h.head
  rcases Int.lt_trichotomy e.1 x.1 with c | c | c
  · have h1 : e.1 ≤ x.1 := by omega
    have h2 : ¬ x.1 = e.1 := by omega
    simp [insE, insGo, h1, h2, c, insGo_true (e := e) (l := t) fun y hy => by have := hh y hy; omega]
  · have h1 : e.1 ≤ x.1 := by omega
    have h2 : ¬ e.1 < x.1 := by omega
    simp [insE, insGo, c, insGo_true (e := e) (l := t) fun y hy => by have := hh y hy; omega]
  · have h1 : ¬ e.1 ≤ x.1 := by omega
    have h2 : ¬ x.1 = e.1 := by omega
    have h3 : ¬ e.1 < x.1 := by omega
    simp [insE, insGo, h1, h2, h3]

theorem insE_mem {l : List Ent} {e z : Ent} (h : Asc l) (hz : z ∈ insE l e) : z = e ∨ z ∈ l := by
  induction l with
  | nil => simp [insE, insGo] at hz; exact .inl hz
  | cons x t ih =>
    rw [insE_cons h] at hz
    split at hz
    · rcases List.mem_cons.1 hz with rfl | hz
      · exact .inl rfl
      · exact .inr hz
    · split at hz
      · rcases List.mem_cons.1 hz with rfl | hz
        · exact .inl rfl
        · exact .inr (List.mem_cons_of_mem _ hz)
      · rcases List.mem_cons.1 hz with rfl | hz
        · exact .inr List.mem_cons_self
        · rcases ih h.tail hz with rfl | hz
          · exact .inl rfl
          · exact .inr (List.mem_cons_of_mem _ hz)

theorem insE_asc {l : List Ent} (e : Ent) (h : Asc l) : Asc (insE l e) := by
  induction l with
  | nil => simp [insE, insGo, Srt]
  | cons x t ih =>
    rw [insE_cons h]
    split
    · rename_i c
      exact Srt.cons h fun y hy => by
        rcases List.mem_cons.1 hy with rfl | hy
        · exact c
        · have := h.head y hy; omega
    · split
      · rename_i c
        exact Srt.cons h.tail fun y hy => by have := h.head y hy; omega
      · rename_i c1 c2
        refine Srt.cons (ih h.tail) fun y hy => ?_
        rcases insE_mem h.tail hy with rfl | hy
        · omega
        · exact h.head y hy

theorem insE_get {l : List Ent} (e : Ent) (h : Asc l) (q : Int) : getE (insE l e) q = if e.1 = q then some e.2 else getE l q := by
  obtain ⟨k, v⟩ := e
  induction l with
  | nil => simp [insE, insGo, getE]
  | cons x t ih =>
    obtain ⟨a, b⟩ := x
    rw [insE_cons h]
    by_cases c1 : k < a
    · simp only [if_pos c1, getE]
    · rw [if_neg c1]
      by_cases c2 : a = k
      · subst c2; simp [getE]
        split <;> simp_all
      · rw [if_neg c2]
        simp only [getE, ih h.tail]
        by_cases c3 : a = q
        · simp [c3, show ¬ k = q by omega]
        · simp [c3]

/-- The keys of a list of entries, put together. -/
def keysOf (xs : List Int) : List Ent := xs.foldl (fun acc k => insE acc (k, 0)) []

/-- All keys of three lists, ascending. -/
def keys3 (l m n : List Ent) : List Int := (keysOf ((l ++ m ++ n).map Prod.fst)).map Prod.fst

/-- The value that a policy chooses. -/
def chooseP (p v w : Int) : Int := if p = 1 then v else if p = 2 then w else if p = 3 then RowKit.wrap64 (v + w) else if p = 4 then (if w < v then w else v) else (if v < w then w else v)

def uniStep (l : List Ent) (p : Int) (out : List Ent) (e : Ent) : List Ent := insE out (e.1, match getE l e.1 with | some v => chooseP p v e.2 | none => e.2)
/-- The union of two lists, by a policy. -/
def uniE (l m : List Ent) (p : Int) : List Ent := m.foldl (uniStep l p) l

/-- A valid list out of the first entries of a raw one. -/
def listE (raw : List Ent) (most : Nat) : List Ent := (raw.take most).foldl insE []

theorem listE_spec (raw : List Ent) (most : Nat) : Asc (listE raw most) ∧ (listE raw most).length ≤ most := by
  unfold listE
  have h1 : (raw.take most).length ≤ most := List.length_take_le _ _
  generalize raw.take most = xs at h1
  have : ∀ (xs acc : List Ent), Asc acc → Asc (xs.foldl insE acc) ∧ (xs.foldl insE acc).length ≤ acc.length + xs.length := by
    intro xs
    induction xs with
    | nil => intro acc h; exact ⟨h, by simp⟩
    | cons x t ih =>
      intro acc h
      have := ih _ (insE_asc x h)
      have h2 := insE_len acc x
      exact ⟨this.1, by simp only [List.foldl_cons, List.length_cons]; omega⟩
  have := this xs [] Srt.nil
  exact ⟨this.1, by simp at this; omega⟩

end Go.Proofs.Ytmjnoiajenoinaa
end
