/- A part of the proof. -/
import Derived.Test.YtmjnoiajenoinaaG6
import Derived.Test.YtmjnoiajenoinaaG7
section
/- Law CompactCopies: build, expected. -/
namespace Go.Proofs.Ytmjnoiajenoinaa.Sx
open Go

/-KEEP Wf Kept exW inU allV live rdS Arn.cap Arn.free makeS newS BuR eSt-/
abbrev eSt (l : List LStepT) (n : Nat) : LStepT := l.getD n ⟨false, 0, 0, 0, 0⟩
/-- What build holds. -/
structure BuR (S : Arn) (h : List Int) : Prop where
  wf : Wf S h
  pos : 0 < h.length
  le : h.length ≤ 61
  rd : S.reads = 0
  cap : S.cap ≤ 40
structure XBu (P : Arn → List Int → Nat → Prop) where
  S : Arn
  h : List Int
  k : Nat
  p : P S h k
structure XBv (P : Arn → List Int → Nat → Int → Int → Prop) where
  S : Arn
  h : List Int
  k : Nat
  i : Int
  j : Int
  p : P S h k i j
noncomputable def aBu (P1 : Arn → List Int → Nat → Prop) (P2 P3 : Arn → List Int → Nat → Int → Int → Prop) (l : List LStepT) : Ann C0 := { quiet := [10], Γ := [(11, frameT [] tNew), (10, frameT [] tMod), (14, frameT [] tRelease), (13, frameT [] tMake)], trunc := fun _ => false, inv := fun n => match n with
  | 6 => some { X := XBu P1, sl := [7, 9, 10], tf := fun x => [.one (.at (.ptr 1 0)), .one (.at (.slc 8)), vi .i64 x.k], hf := fun x => [.row false EC.lstep l] ++ chSk 1 x.S ++ [.row true EC.u32 x.h], μ := fun x => 60 - x.k }
  | 1009 => some { X := XBv P2, sl := [7, 9, 10, 11, 12], tf := fun x => [.one (.at (.ptr 1 0)), .one (.at (.slc 8)), vi .i64 x.k, vi .i64 x.i, vi .i64 x.j], hf := fun x => [.row false EC.lstep l] ++ chSk 1 x.S ++ [.row true EC.u32 x.h], rel := fun T _ x => slotI T 10 x.k }
  | 1014 => some { X := XBv P3, sl := [7, 9, 10, 11], tf := fun x => [.one (.at (.ptr 1 0)), .one (.at (.slc 8)), vi .i64 x.k, vi .i64 x.i], hf := fun x => [.row false EC.lstep l] ++ chSk 1 x.S ++ [.row true EC.u32 x.h], rel := fun T _ x => slotI T 10 x.k }
  | _ => none }
def tBu : Tfm C0 := fun args H K => match args, H with
  | [.at (.val (.int .i64 n)), .at (.slc 0)], [.row false .lstep l] => 1 ≤ n ∧ n ≤ 40 ∧ ∀ S h, BuR S h → K (.tup [.at (.ptr 1 0), .at (.slc 2), .at (vB true)]) ([.row false EC.lstep l, .box [.ptr 3 0, .slc 4, .slc 5, vU64 S.reads], .row true EC.u32 h, .box [.slc 6, .slc 7, .slc 8, vU S.fresh], .row true EC.node S.nodes, .row true EC.int S.counts, .row true EC.bool S.used, .row true EC.u32 S.gen, .row true EC.u32 S.rel]) []
  | _, _ => False
def PBu1 : Arn → List Int → Nat → Prop := fun S h k => k ≤ 60 ∧ h.length ≤ k + 1 ∧ BuR S h
def PBu2 : Arn → List Int → Nat → Int → Int → Prop := fun S h k i j => k < 60 ∧ h.length ≤ k + 1 ∧ BuR S h ∧ (0 ≤ i ∧ i < h.length) ∧ 0 ≤ j ∧ j < h.length
def PBu3 : Arn → List Int → Nat → Int → Int → Prop := fun S h k i _ => k < 60 ∧ h.length ≤ k + 1 ∧ (1 ≤ i ∧ i < h.length) ∧ BuR S (h.take i.toNat ++ h.drop (i.toNat + 1))
theorem getD_in {l : List Int} {i : Nat} (h : i < l.length) : l.getD i 0 ∈ l := by
  rw [List.getD_eq_getElem?_getD, List.getElem?_eq_getElem h]; exact List.getElem_mem h
theorem perm_out {l : List Int} {i : Nat} (h : i < l.length) : l.Perm (l.getD i 0 :: (l.take i ++ l.drop (i + 1))) := by
  have e : l = l.take i ++ (l.getD i 0 :: l.drop (i + 1)) := by
    have d := List.drop_eq_getElem_cons h
    rw [List.getD_eq_getElem?_getD, List.getElem?_eq_getElem h]
    show l = l.take i ++ (l[i] :: l.drop (i + 1))
    rw [← d, List.take_append_drop]
  conv => lhs; rw [e]
  exact List.perm_middle
theorem vc_bu (l : List LStepT) (n : Int) (K : KT) (n1 : 1 ≤ n) (n2 : n ≤ 40) (h : ∀ S h, BuR S h → K (.tup [.at (.ptr 1 0), .at (.slc 2), .at (vB true)]) ([.row false EC.lstep l, .box [.ptr 3 0, .slc 4, .slc 5, vU64 S.reads], .row true EC.u32 h, .box [.slc 6, .slc 7, .slc 8, vU S.fresh], .row true EC.node S.nodes, .row true EC.int S.counts, .row true EC.bool S.used, .row true EC.u32 S.gen, .row true EC.u32 S.rel]) []) :
    vc C0 (aBu PBu1 PBu2 PBu3 l) Try.f20 [.at (vI n), .at (.slc 0)] [.row false EC.lstep l] (normK 1 K) := by
  generalize hP1 : PBu1 = P1
  generalize hP2 : PBu2 = P2
  generalize hP3 : PBu3 = P3
  refine Eq.mp (show (((n < 1 ∨ 65536 < n) →
(K (SV.tup [(TV.at (At.val (Value.pointer none))), (TV.at (At.slc 1)), (TV.at (At.val (Value.bool false)))]) [(Chunk.row false (EC.lstep) (l)), (Chunk.row true (EC.u32) [])] [])) ∧
((1 ≤ n) →
((n ≤ 65536) →
(∀ S : Arn, (((S) = (newS n.toNat)) → ((∃ x : XBu P1, (True ∧ (True ∧ True ∧ True ∧ ((Value.int IntKind.i64 0) = (Value.int IntKind.i64 ((↑x.k : Int)))) ∧ True) ∧ ((l) = (l)) ∧ (True ∧ True ∧ True ∧ ((Value.int IntKind.u64 (S.reads)) = (Value.int IntKind.u64 (x.S.reads))) ∧ True) ∧ (True ∧ True ∧ True ∧ ((Value.int IntKind.u32 (S.fresh)) = (Value.int IntKind.u32 (x.S.fresh))) ∧ True) ∧ ((S.nodes) = (x.S.nodes)) ∧ ((S.counts) = (x.S.counts)) ∧ ((S.used) = (x.S.used)) ∧ ((S.gen) = (x.S.gen)) ∧ ((S.rel) = (x.S.rel)) ∧ ([0] = (x.h)) ∧ True)) ∧ (∀ x : XBu P1, (True → (brS (decide ((↑x.k : Int) < (↑l.length : Int))) ((brS (decide ((↑x.k : Int) < 60)) ((((0 ≤ (↑x.k : Int)) ∧ ((↑x.k : Int) < (↑l.length : Int)) ∧ (0 ≤ (↑x.k : Int)) ∧ ((↑x.k : Int) < (↑l.length : Int)) ∧ (0 < (↑x.h.length : Int)) ∧ ((↑x.h.length : Int) ≤ 9223372036854775807) ∧ (∀ x1 : Int, (((x1) = ((eSt l (↑x.k : Int).toNat).left % (↑x.h.length : Int))) → ((0 < (↑x.h.length : Int)) ∧ ((↑x.h.length : Int) ≤ 9223372036854775807) ∧ (∀ x2 : Int, (((x2) = ((eSt l (↑x.k : Int).toNat).right % (↑x.h.length : Int))) → (∃ x3 : XBv P2, ((((↑x.k : Int)) = ((↑x3.k : Int))) ∧ (True ∧ True ∧ True ∧ ((Value.int IntKind.i64 ((↑x.k : Int))) = (Value.int IntKind.i64 ((↑x3.k : Int)))) ∧
    ((Value.int IntKind.i64 (x1)) = (Value.int IntKind.i64 (x3.i))) ∧ ((Value.int IntKind.i64 (x2)) = (Value.int IntKind.i64 (x3.j))) ∧ True) ∧ ((l) = (l)) ∧ (True ∧ True ∧ True ∧ ((Value.int IntKind.u64 (x.S.reads)) = (Value.int IntKind.u64 (x3.S.reads))) ∧ True) ∧ (True ∧ True ∧ True ∧ ((Value.int IntKind.u32 (x.S.fresh)) = (Value.int IntKind.u32 (x3.S.fresh))) ∧ True) ∧ ((x.S.nodes) = (x3.S.nodes)) ∧ ((x.S.counts) = (x3.S.counts)) ∧ ((x.S.used) = (x3.S.used)) ∧ ((x.S.gen) = (x3.S.gen)) ∧ ((x.S.rel) = (x3.S.rel)) ∧ ((x.h) = (x3.h)) ∧ True)))))))) ∧ (∀ x1 : XBv P2, ((((↑x.k : Int)) = ((↑x1.k : Int))) → ((0 ≤ (↑x1.k : Int)) ∧ ((↑x1.k : Int) < (↑l.length : Int)) ∧ (brS ((eSt l (↑x1.k : Int).toNat).drop) ((brS (x1.i == 0) ((∃ x' : XBu P1, (True ∧ ((True ∧ True ∧ True ∧ ((Value.int IntKind.i64 (IntKind.i64.wrap ((↑x1.k : Int) + 1))) = (Value.int IntKind.i64 ((↑x'.k : Int)))) ∧ True) ∧ ((l) = (l)) ∧ (True ∧ True ∧ True ∧ ((Value.int IntKind.u64 (x1.S.reads)) = (Value.int IntKind.u64 (x'.S.reads))) ∧ True) ∧ (True ∧ True ∧ True ∧ ((Value.int IntKind.u32 (x1.S.fresh)) = (Value.int IntKind.u32 (x'.S.fresh))) ∧ True) ∧ ((x1.S.nodes) = (x'.S.nodes)) ∧ ((x1.S.counts) = (x'.S.counts)) ∧ ((x1.S.used) = (x'.S.used)) ∧ ((x1.S.gen) = (x'.S.gen)) ∧ ((x1.S.rel) = (x'.S.rel)) ∧ ((x1.h) = (x'.h)) ∧ True) ∧ (60 - x'.k < 60 - x.k)))) ((((0 ≤ x1.i) ∧ (x1.i < (↑x1.h.length : Int)) ∧ (∃ hs : List Int, ((Wf x1.S (x1.h.getD x1.i.toNat 0 :: hs)) ∧ (∀ S' : Arn, (∀ fr : Int, ((Wf S' hs) → ((Kept x1.S S') →
    (((fr + (↑S'.nu : Int)) = ((↑x1.S.nu : Int))) → (((1 < x1.S.ct (x1.h.getD x1.i.toNat 0)) → (((x1.S.us (x1.h.getD x1.i.toNat 0)) = true) → ((S') = (decS x1.S (x1.h.getD x1.i.toNat 0))))) → ((((x1.S.us (x1.h.getD x1.i.toNat 0)) = false) → ((S') = (x1.S))) → (∃ x2 : XBv P3, ((((↑x1.k : Int)) = ((↑x2.k : Int))) ∧ (True ∧ True ∧ True ∧ ((Value.int IntKind.i64 ((↑x1.k : Int))) = (Value.int IntKind.i64 ((↑x2.k : Int)))) ∧ ((Value.int IntKind.i64 (x1.i)) = (Value.int IntKind.i64 (x2.i))) ∧ ((Value.int IntKind.i64 (x1.j)) = (Value.int IntKind.i64 (x1.j))) ∧ True) ∧ ((l) = (l)) ∧ (True ∧ True ∧ True ∧ ((Value.int IntKind.u64 (S'.reads)) = (Value.int IntKind.u64 (x2.S.reads))) ∧ True) ∧ (True ∧ True ∧ True ∧ ((Value.int IntKind.u32 (S'.fresh)) = (Value.int IntKind.u32 (x2.S.fresh))) ∧ True) ∧ ((S'.nodes) = (x2.S.nodes)) ∧ ((S'.counts) = (x2.S.counts)) ∧ ((S'.used) = (x2.S.used)) ∧ ((S'.gen) = (x2.S.gen)) ∧ ((S'.rel) = (x2.S.rel)) ∧ ((x1.h) = (x2.h)) ∧ True)))))))))))) ∧ (∀ x2 : XBv P3, ((((↑x1.k : Int)) = ((↑x2.k : Int))) → (((0 : Int) ≤ 0) ∧ (0 ≤ x2.i) ∧ (x2.i ≤ (↑x2.h.length : Int)) ∧ (0 ≤ IntKind.i64.wrap (x2.i + 1)) ∧ (IntKind.i64.wrap (x2.i + 1) ≤ (↑x2.h.length : Int)) ∧ ((↑x2.h.length : Int) ≤ (↑x2.h.length : Int)) ∧ ((([] : List Ent).length + (List.drop (Int.toNat 0) (List.take x2.i.toNat x2.h)).length) * bytesOf C0 EC.u32 ≤ 140737488355328) ∧
    ((([] ++ List.drop 0 (List.take x2.i.toNat x2.h)).length + (List.drop (IntKind.i64.wrap (x2.i + 1)).toNat (List.take (↑x2.h.length : Int).toNat x2.h)).length) * bytesOf C0 EC.u32 ≤ 140737488355328) ∧ (∃ x' : XBu P1, (True ∧ ((True ∧ True ∧ True ∧ ((Value.int IntKind.i64 (IntKind.i64.wrap ((↑x2.k : Int) + 1))) = (Value.int IntKind.i64 ((↑x'.k : Int)))) ∧ True) ∧ ((l) = (l)) ∧ (True ∧ True ∧ True ∧ ((Value.int IntKind.u64 (x2.S.reads)) = (Value.int IntKind.u64 (x'.S.reads))) ∧ True) ∧ (True ∧ True ∧ True ∧ ((Value.int IntKind.u32 (x2.S.fresh)) = (Value.int IntKind.u32 (x'.S.fresh))) ∧ True) ∧ ((x2.S.nodes) = (x'.S.nodes)) ∧ ((x2.S.counts) = (x'.S.counts)) ∧ ((x2.S.used) = (x'.S.used)) ∧ ((x2.S.gen) = (x'.S.gen)) ∧ ((x2.S.rel) = (x'.S.rel)) ∧ (([] ++ List.drop 0 (List.take x2.i.toNat x2.h) ++ List.drop (IntKind.i64.wrap (x2.i + 1)).toNat (List.take (↑x2.h.length : Int).toNat x2.h)) = (x'.h)) ∧ True) ∧ (60 - x'.k < 60 - x.k)))))))))) (((0 ≤ (↑x1.k : Int)) ∧ ((↑x1.k : Int) < (↑l.length : Int)) ∧ (0 ≤ (↑x1.k : Int)) ∧ ((↑x1.k : Int) < (↑l.length : Int)) ∧ (0 ≤ x1.i) ∧ (x1.i < (↑x1.h.length : Int)) ∧ (0 ≤ x1.j) ∧ (x1.j < (↑x1.h.length : Int)) ∧ (exW x1.S) ∧ (live x1.S (x1.h.getD x1.i.toNat 0)) ∧ (live x1.S (x1.h.getD x1.j.toNat 0)) ∧ ((maxSize < (mkNode x1.S (eSt l (↑x1.k : Int).toNat).key (eSt l (↑x1.k : Int).toNat).value (x1.h.getD x1.i.toNat 0) (x1.h.getD x1.j.toNat 0)).size) → (∃ x' : XBu P1, (True ∧ ((True ∧ True ∧ True ∧
    ((Value.int IntKind.i64 (IntKind.i64.wrap ((↑x1.k : Int) + 1))) = (Value.int IntKind.i64 ((↑x'.k : Int)))) ∧ True) ∧ ((l) = (l)) ∧ (True ∧ True ∧ True ∧ ((Value.int IntKind.u64 (x1.S.reads)) = (Value.int IntKind.u64 (x'.S.reads))) ∧ True) ∧ (True ∧ True ∧ True ∧ ((Value.int IntKind.u32 (x1.S.fresh)) = (Value.int IntKind.u32 (x'.S.fresh))) ∧ True) ∧ ((x1.S.nodes) = (x'.S.nodes)) ∧ ((x1.S.counts) = (x'.S.counts)) ∧ ((x1.S.used) = (x'.S.used)) ∧ ((x1.S.gen) = (x'.S.gen)) ∧ ((x1.S.rel) = (x'.S.rel)) ∧ ((x1.h) = (x'.h)) ∧ True) ∧ (60 - x'.k < 60 - x.k)))) ∧ (((mkNode x1.S (eSt l (↑x1.k : Int).toNat).key (eSt l (↑x1.k : Int).toNat).value (x1.h.getD x1.i.toNat 0) (x1.h.getD x1.j.toNat 0)).size ≤ maxSize) → (((x1.S.free) = 0) → (∃ x' : XBu P1, (True ∧ ((True ∧ True ∧ True ∧ ((Value.int IntKind.i64 (IntKind.i64.wrap ((↑x1.k : Int) + 1))) = (Value.int IntKind.i64 ((↑x'.k : Int)))) ∧ True) ∧ ((l) = (l)) ∧ (True ∧ True ∧ True ∧ ((Value.int IntKind.u64 (x1.S.reads)) = (Value.int IntKind.u64 (x'.S.reads))) ∧ True) ∧ (True ∧ True ∧ True ∧ ((Value.int IntKind.u32 (x1.S.fresh)) = (Value.int IntKind.u32 (x'.S.fresh))) ∧ True) ∧ ((x1.S.nodes) = (x'.S.nodes)) ∧ ((x1.S.counts) = (x'.S.counts)) ∧ ((x1.S.used) = (x'.S.used)) ∧ ((x1.S.gen) = (x'.S.gen)) ∧ ((x1.S.rel) = (x'.S.rel)) ∧ ((x1.h) = (x'.h)) ∧ True) ∧ (60 - x'.k < 60 - x.k))))) ∧ (((mkNode x1.S (eSt l (↑x1.k : Int).toNat).key (eSt l (↑x1.k : Int).toNat).value (x1.h.getD x1.i.toNat 0) (x1.h.getD x1.j.toNat 0)).size ≤ maxSize) →
    ((0 < x1.S.free) → (∀ S' : Arn, (∀ i : Int, (((S') = (makeS x1.S (eSt l (↑x1.k : Int).toNat).key (eSt l (↑x1.k : Int).toNat).value (x1.h.getD x1.i.toNat 0) (x1.h.getD x1.j.toNat 0))) → (((i) = (nxt x1.S)) → (((x1.h.length + [i].length) * bytesOf C0 EC.u32 ≤ 140737488355328) ∧ (∃ x' : XBu P1, (True ∧ ((True ∧ True ∧ True ∧ ((Value.int IntKind.i64 (IntKind.i64.wrap ((↑x1.k : Int) + 1))) = (Value.int IntKind.i64 ((↑x'.k : Int)))) ∧ True) ∧ ((l) = (l)) ∧ (True ∧ True ∧ True ∧ ((Value.int IntKind.u64 (S'.reads)) = (Value.int IntKind.u64 (x'.S.reads))) ∧ True) ∧ (True ∧ True ∧ True ∧ ((Value.int IntKind.u32 (S'.fresh)) = (Value.int IntKind.u32 (x'.S.fresh))) ∧ True) ∧ ((S'.nodes) = (x'.S.nodes)) ∧ ((S'.counts) = (x'.S.counts)) ∧ ((S'.used) = (x'.S.used)) ∧ ((S'.gen) = (x'.S.gen)) ∧ ((S'.rel) = (x'.S.rel)) ∧ ((x1.h ++ [i]) = (x'.h)) ∧ True) ∧ (60 - x'.k < 60 - x.k)))))))))))))))))) ((K (SV.tup [(TV.at (At.ptr 1 0)), (TV.at (At.slc 2)), (TV.at (At.val (Value.bool true)))]) [(Chunk.row false (EC.lstep) (l)), (Chunk.box [(At.ptr 3 0), (At.slc 4), (At.slc 5), (At.val (Value.int IntKind.u64 (x.S.reads)))]), (Chunk.row true (EC.u32) (x.h)), (Chunk.box [(At.slc 6), (At.slc 7), (At.slc 8), (At.val (Value.int IntKind.u32 (x.S.fresh)))]), (Chunk.row true (EC.node) (x.S.nodes)), (Chunk.row true (EC.int) (x.S.counts)), (Chunk.row true (EC.bool) (x.S.used)), (Chunk.row true (EC.u32) (x.S.gen)), (Chunk.row true (EC.u32) (x.S.rel))] []))))
    ((K (SV.tup [(TV.at (At.ptr 1 0)), (TV.at (At.slc 2)), (TV.at (At.val (Value.bool true)))]) [(Chunk.row false (EC.lstep) (l)), (Chunk.box [(At.ptr 3 0), (At.slc 4), (At.slc 5), (At.val (Value.int IntKind.u64 (x.S.reads)))]), (Chunk.row true (EC.u32) (x.h)), (Chunk.box [(At.slc 6), (At.slc 7), (At.slc 8), (At.val (Value.int IntKind.u32 (x.S.fresh)))]), (Chunk.row true (EC.node) (x.S.nodes)), (Chunk.row true (EC.int) (x.S.counts)), (Chunk.row true (EC.bool) (x.S.used)), (Chunk.row true (EC.u32) (x.S.gen)), (Chunk.row true (EC.u32) (x.S.rel))] []))))))))))) = _ by kernel_rfl) ?_
  subst hP1 hP2 hP3
  refine ⟨fun c => by omega, fun _ _ S eS => ⟨⟨⟨S, [0], 0, Nat.zero_le _, by simp, ?_⟩, ?_⟩, fun x _ => brS_of (fun z => brS_of (fun y => ⟨?_, fun x1 ex => ?_⟩) fun y => ?_) fun z => ?_⟩⟩
  · have c : S.cap = n := by
      rw [eS]
      unfold Arn.cap
      show ((List.replicate (n.toNat + 1) false).length : Int) - 1 = n
      rw [List.length_replicate]; omega
    exact ⟨by rw [eS]; exact (Wf.new (by omega) (by omega)).zero_cons (by simp), by simp, by simp, by rw [eS]; rfl, by omega⟩
  · (repeat' first | exact trivial | exact rfl | refine And.intro ?_ ?_)
  · obtain ⟨S, hl, k, k6, kl, b⟩ := x
    dsimp only at z y ⊢
    have z : k < l.length := by have := of_decide_eq_true z; omega
    have y : k < 60 := by have := of_decide_eq_true y; omega
    have hp := b.pos
    have hle := b.le
    refine ⟨by omega, by omega, by omega, by omega, by omega, by omega, fun i ei => ⟨by omega, by omega, fun j ej => ⟨⟨S, hl, k, i, j, y, kl, b, by rw [ei]; exact ⟨Int.emod_nonneg _ (by omega), Int.emod_lt_of_pos _ (by omega)⟩, by rw [ej]; exact ⟨Int.emod_nonneg _ (by omega), Int.emod_lt_of_pos _ (by omega)⟩⟩, ?_⟩⟩⟩
    (repeat' first | exact trivial | exact rfl | refine And.intro ?_ ?_)
  · obtain ⟨_, _, k0, _, _, _⟩ := x
    obtain ⟨S, hl, k, i, j, k6, kl, b, ⟨i0, i1⟩, j0, j1⟩ := x1
    dsimp only at ex z y ⊢
    obtain rfl : k0 = k := by omega
    have z : k0 < l.length := by have := of_decide_eq_true z; omega
    have hle := b.le
    have me : 60 - (k0 + 1) < 60 - k0 := by omega
    rw [wrap_id (x := (k0 : Int) + 1) (by omega) (by omega)]
    have ii : i.toNat < hl.length := by omega
    have mi := getD_in ii
    have mj := getD_in (l := hl) (i := j.toNat) (by omega)
    have li := b.wf.held _ mi
    have lj := b.wf.held _ mj
    refine ⟨by omega, by omega, brS_of (fun c => brS_of (fun d => ?_) fun d => ⟨⟨by omega, by omega, _, b.wf.perm (perm_out ii), fun S' fr w' kp _ _ _ => ?_⟩, fun x2 ex2 => ?_⟩) fun c => ⟨by omega, by omega, by omega, by omega, by omega, by omega, by omega, by omega, ⟨_, b.wf⟩, li, lj, fun _ => ?_, fun _ _ => ?_, fun sz fr S' i' e1 e2 => ⟨?_, ?_⟩⟩⟩
    · refine ⟨⟨S, hl, k0 + 1, k6, by omega, b⟩, trivial, ?_, me⟩
      (repeat' first | exact trivial | exact rfl | refine And.intro ?_ ?_)
    · have d : i ≠ 0 := by simpa using d
      have ca : S'.cap = S.cap := by unfold Arn.cap; rw [kp.len]
      refine ⟨⟨S', hl, k0, i, j, k6, kl, ⟨by omega, i1⟩, ⟨w', ?_, ?_, by rw [kp.rds]; exact b.rd, by rw [ca]; exact b.cap⟩⟩, rfl, ?_⟩
      · rw [List.length_append, List.length_take, List.length_drop]; omega
      · rw [List.length_append, List.length_take, List.length_drop]; omega
      · (repeat' first | exact trivial | exact rfl | refine And.intro ?_ ?_)
    · obtain ⟨S2, h2, k2, i2, j2, k62, kl2, ⟨i02, i12⟩, b2⟩ := x2
      dsimp only at ex2 ⊢
      obtain rfl : k0 = k2 := by omega
      have e0 : ([] : List Int) ++ List.drop 0 (List.take i2.toNat h2) ++ List.drop (IntKind.i64.wrap (i2 + 1)).toNat (List.take ((h2.length : Int)).toNat h2) = h2.take i2.toNat ++ h2.drop (i2.toNat + 1) := by
        rw [wrap_id (x := i2 + 1) (by omega) (by omega), show ((h2.length : Int)).toNat = h2.length from rfl, List.take_length, List.drop_zero, List.nil_append, show (i2 + 1).toNat = i2.toNat + 1 by omega]
      have l1 := b2.le
      have l2 : (h2.take i2.toNat ++ h2.drop (i2.toNat + 1)).length = h2.length - 1 := by rw [List.length_append, List.length_take, List.length_drop]; omega
      rw [wrap_id (x := (k0 : Int) + 1) (by omega) (by omega)]
      refine ⟨by decide, by omega, by omega, by rw [wrap_id (by omega) (by omega)]; omega, by rw [wrap_id (by omega) (by omega)]; omega, by omega, ?_, ?_, ⟨⟨S2, h2.take i2.toNat ++ h2.drop (i2.toNat + 1), k0 + 1, k62, by omega, b2⟩, trivial, ?_, me⟩⟩
      · rw [bytes_u32, List.length_drop, List.length_take]; simp; omega
      · rw [bytes_u32, List.length_append, List.length_drop, List.length_drop, List.length_take, List.length_take]; simp; omega
      · (repeat' first | exact trivial | exact rfl | exact e0 | refine And.intro ?_ ?_)
    · refine ⟨⟨S, hl, k0 + 1, k6, by omega, b⟩, trivial, ?_, me⟩
      (repeat' first | exact trivial | exact rfl | refine And.intro ?_ ?_)
    · refine ⟨⟨S, hl, k0 + 1, k6, by omega, b⟩, trivial, ?_, me⟩
      (repeat' first | exact trivial | exact rfl | refine And.intro ?_ ?_)
    · rw [bytes_u32, List.length_singleton]; omega
    · have w' := b.wf.make (k := (eSt l k0).key) (v := (eSt l k0).value) li lj fr sz (by omega)
      rw [← e2] at w'
      have e1 : S' = makeS S (eSt l k0).key (eSt l k0).value (hl.getD i.toNat 0) (hl.getD j.toNat 0) := e1
      rw [← e1] at w'
      have us : S'.used.length = S.used.length := by rw [e1]; exact List.length_set
      have ca : S'.cap = S.cap := by unfold Arn.cap; rw [us]
      have hr : S'.reads = S.reads := by rw [e1]; rfl
      refine ⟨⟨S', _, k0 + 1, k6, by rw [List.length_append, List.length_singleton]; omega, ⟨w'.perm (List.perm_append_singleton _ _).symm, by simp, by rw [List.length_append, List.length_singleton]; omega, by rw [hr]; exact b.rd, by rw [ca]; exact b.cap⟩⟩, trivial, ?_, me⟩
      (repeat' first | exact trivial | exact rfl | refine And.intro ?_ ?_)
  · exact h _ _ x.p.2.2
  · exact h _ _ x.p.2.2
theorem s_bu : SoundT C0 20 tBu := by
  refine .of Try.func20 (by decide) rfl fun args H K h hB => ?_
  unfold tBu at h
  split at h <;> try exact h.elim
  rename_i n l
  refine ⟨_, ?_, vc_bu l n K h.1 h.2.1 h.2.2⟩
  exact ⟨frame C0.ok s_new _, frame C0.ok s_mod _, frame C0.ok s_release _, frame C0.ok s_make _, trivial⟩
end Go.Proofs.Ytmjnoiajenoinaa.Sx
end
section
/- Law CompactCopies: expected. -/
namespace Go.Proofs.Ytmjnoiajenoinaa.Sx
open Go

/-KEEP Wf Kept exW inU allV allVb live rdS Arn.cap Arn.free DgW NumsD slotsOf orderOf plcN slF atF cntL kidsL upF ExB kidsU-/
def slF (B : Arn) (c : Nat) (k : Nat) (f : Nat → Int) : List SlotT := (List.range c).map fun j => if j < k then ⟨true, f j, 1, B.nd ((j : Int) + 1)⟩ else SlotT.zero
def atF (n : Nat) (l : List Int) : List Int := (List.range n).map fun (x : Nat) => plcN l x
structure ExB (d : List SlotT) (rs : List Int) (c : Int) (B : Arn) (l o : List Int) : Prop where
  ex : ∃ S hs, d = slotsOf S ∧ Wf S hs ∧ NumsA S rs [] l ∧ (∀ r ∈ rs, r = 0 ∨ S.us r = true) ∧ CpB S l c l.length o B
  eo : o = rs.map (plcN l)
  av : allVb rs
  le : (l.length : Int) ≤ c
  c1 : 1 ≤ c
  c2 : c ≤ 65536
  rl : rs.length ≤ 1000000
structure XEx (P : List Int → List Int → Nat → Prop) where
  l : List Int
  at' : List Int
  i : Nat
  h : P l at' i
structure XEy (P : List Int → List Int → List SlotT → Nat → Prop) where
  l : List Int
  at' : List Int
  w : List SlotT
  i : Nat
  h : P l at' w i
structure XEz (P : List Int → List Int → List SlotT → List Int → Nat → Prop) where
  l : List Int
  at' : List Int
  w : List SlotT
  q : List Int
  i : Nat
  h : P l at' w q i
structure XEw (P : List Int → List SlotT → List Int → List Int → Nat → Prop) where
  l : List Int
  w : List SlotT
  q : List Int
  f : List Int
  i : Nat
  h : P l w q f i
noncomputable def aEx (P1 : List Int → List Int → Nat → Prop) (P2 : List Int → List Int → List SlotT → Nat → Prop) (P3 P4 : List Int → List Int → List SlotT → List Int → Nat → Prop) (P5 : List Int → List SlotT → List Int → List Int → Nat → Prop) (c : Int) (d : List SlotT) (fl rs : List Int) : Ann C0 := { Γ := [(22, frameT [] tN28), (67, frameT [] tInE)], inv := fun k => match k with
  | 4 => some { X := XEx P1, sl := [3, 6, 8, 9, 10], tf := fun x => [.one (.at (.ptr 3 0)), .one (.at (.ptr 4 0)), .one (.at (.slc 7)), .one (.at (.slc 8)), vi .i64 x.i], hf := fun x => [.row false EC.slot d, .row false EC.u32 fl, .row false EC.u32 rs, .box [.slc 0, .slc 1], .box [.slc 5, .slc 6], .row true EC.slot [], .row true EC.u32 [], .row true EC.u32 x.l, .row true EC.u32 x.at'], μ := fun x => x.l.length - x.i }
  | 9 => some { X := XEy P2, sl := [3, 6, 8, 9, 11, 12], tf := fun x => [.one (.at (.ptr 3 0)), .one (.at (.ptr 4 0)), .one (.at (.slc 7)), .one (.at (.slc 8)), .one (.at (.ptr 9 0)), vi .i64 x.i], hf := fun x => [.row false EC.slot d, .row false EC.u32 fl, .row false EC.u32 rs, .box [.slc 0, .slc 1], .box [.slc 5, .slc 6], .row true EC.slot [], .row true EC.u32 [], .row true EC.u32 x.l, .row true EC.u32 x.at', .box [.slc 10, .slc 11], .row true EC.slot x.w, .row true EC.u32 []], μ := fun x => x.l.length - x.i }
  | 16 => some { X := XEz P3, sl := [6, 8, 9, 11, 14, 15], tf := fun x => [.one (.at (.ptr 3 0)), .one (.at (.slc 6)), .one (.at (.slc 7)), .one (.at (.ptr 8 0)), .one (.at (.slc 11)), vi .i64 x.i], hf := fun x => [.row false EC.slot d, .row false EC.u32 fl, .row false EC.u32 rs, .box [.slc 4, .slc 5], .row true EC.slot [], .row true EC.u32 [], .row true EC.u32 x.l, .row true EC.u32 x.at', .box [.slc 9, .slc 10], .row true EC.slot x.w, .row true EC.u32 [], .row true EC.int x.q], μ := fun x => x.l.length - x.i }
  | 21 => some { X := XEz P4, sl := [6, 8, 9, 11, 16, 17], tf := fun x => [.one (.at (.ptr 3 0)), .one (.at (.slc 6)), .one (.at (.slc 7)), .one (.at (.ptr 8 0)), .one (.at (.slc 11)), vi .i64 x.i], hf := fun x => [.row false EC.slot d, .row false EC.u32 fl, .row false EC.u32 rs, .box [.slc 4, .slc 5], .row true EC.slot [], .row true EC.u32 [], .row true EC.u32 x.l, .row true EC.u32 x.at', .box [.slc 9, .slc 10], .row true EC.slot x.w, .row true EC.u32 [], .row true EC.u32 x.q], μ := fun x => rs.length - x.i }
  | 27 => some { X := XEw P5, sl := [6, 11, 16, 18], tf := fun x => [.one (.at (.ptr 3 0)), .one (.at (.ptr 6 0)), .one (.at (.slc 9)), vi .i64 x.i], hf := fun x => [.row false EC.slot d, .row false EC.u32 fl, .row false EC.u32 rs, .box [.slc 4, .slc 5], .row true EC.slot [], .row true EC.u32 [], .box [.slc 7, .slc 8], .row true EC.slot x.w, .row true EC.u32 x.f, .row true EC.u32 x.q], μ := fun x => c.toNat - x.i }
  | _ => none }
def tEx : Tfm C0 := fun args H K => match args, H with
  | [.agg [.slc 0, .slc 1], .at (.val (.int .i64 c)), .at (.slc 2)], [.row false .slot d, .row false .u32 fl, .row false .u32 rs] => ∃ B l o, ExB d rs c B l o ∧ ∀ w f q, w = slotsOf B → f = orderOf B → q = o → K (.tup [.agg [.slc 3, .slc 4], .at (.slc 5)]) [.row false EC.slot d, .row false EC.u32 fl, .row false EC.u32 rs, .row true EC.slot w, .row true EC.u32 f, .row true EC.u32 q] []
  | _, _ => False
section
variable {B : Arn} {c k n : Nat} {f : Nat → Int} {l : List Int}
theorem atF_len : (atF n l).length = n := by simp [atF]
theorem atF_get {x : Int} (h0 : 0 ≤ x) (h : x.toNat < n) : (atF n l).getD x.toNat 0 = plcN l x := by
  unfold atF
  rw [List.getD_eq_getElem?_getD, List.getElem?_map, List.getElem?_range h]
  show plcN l ((x.toNat : Nat) : Int) = _
  rw [show ((x.toNat : Nat) : Int) = x by omega]
theorem atF_nil (n : Nat) : List.replicate n (0 : Int) = atF n [] := by
  unfold atF
  refine List.ext_getElem (by simp) fun i h1 h2 => by simp [plcN]
theorem atF_set {j v : Int} (h0 : 0 ≤ j) (hj : j ∉ l) (hv : v = (l.length : Int) + 1) : (atF n l).set j.toNat v = atF n (l ++ [j]) := by
  unfold atF
  refine List.ext_getElem (by simp) fun i h1 h2 => ?_
  simp only [List.getElem_set, List.getElem_map, List.getElem_range]
  rw [plcN_snoc _ _ _ hj]
  by_cases e : j.toNat = i
  · rw [if_pos e, if_pos (by omega), hv]
  · rw [if_neg e, if_neg (by omega)]
theorem slF_len : (slF B c k f).length = c := by simp [slF]
theorem slF_get {j : Nat} (h : j < c) : (slF B c k f).getD j SlotT.zero = if j < k then ⟨true, f j, 1, B.nd ((j : Int) + 1)⟩ else SlotT.zero := by
  unfold slF
  rw [List.getD_eq_getElem?_getD, List.getElem?_map, List.getElem?_range h]; rfl
theorem slF_nil : List.replicate c SlotT.zero = slF B c 0 f := by
  unfold slF
  refine List.ext_getElem (by simp) fun i h1 h2 => by simp
theorem slF_step {x : SlotT} (hx : x = ⟨true, f k, 1, B.nd ((k : Int) + 1)⟩) : (slF B c k f).set k x = slF B c (k + 1) f := by
  unfold slF
  refine List.ext_getElem (by simp) fun i h1 h2 => ?_
  simp only [List.getElem_set, List.getElem_map, List.getElem_range]
  by_cases e : k = i
  · subst e; rw [if_pos rfl, if_pos (by omega), hx]
  · rw [if_neg e]
    by_cases y : i < k
    · rw [if_pos y, if_pos (by omega)]
    · rw [if_neg y, if_neg (by omega)]
theorem slF_set {g : Nat → Int} {j : Nat} {x : SlotT} (hj : j < k) (hx : x = ⟨true, g j, 1, B.nd ((j : Int) + 1)⟩) (hg : ∀ i, i ≠ j → g i = f i) : (slF B c k f).set j x = slF B c k g := by
  unfold slF
  refine List.ext_getElem (by simp) fun i h1 h2 => ?_
  simp only [List.getElem_set, List.getElem_map, List.getElem_range]
  by_cases e : j = i
  · subst e; rw [if_pos rfl, if_pos hj, hx]
  · rw [if_neg e]
    by_cases y : i < k
    · rw [if_pos y, if_pos y, hg i (fun q => e q.symm)]
    · rw [if_neg y, if_neg y]
theorem slF_ext {g : Nat → Int} (h : ∀ i, i < k → f i = g i) : slF B c k f = slF B c k g := by
  unfold slF
  refine List.map_congr_left fun i _ => ?_
  by_cases y : i < k
  · rw [if_pos y, if_pos y, h i y]
  · rw [if_neg y, if_neg y]
theorem kidsL_eq : ∀ (d e : List SlotT), (d.map fun x => (x.alloc, x.node)) = (e.map fun x => (x.alloc, x.node)) → kidsL d = kidsL e
  | [], [], _ => rfl
  | [], _ :: _, h => by simp at h
  | _ :: _, [], h => by simp at h
  | x :: d, y :: e, h => by
    simp only [List.map_cons, List.cons.injEq, Prod.mk.injEq] at h
    have ih := kidsL_eq d e h.2
    unfold kidsL at ih ⊢
    rw [List.flatMap_cons, List.flatMap_cons, ih, h.1.1, h.1.2]
end
/-- The numbers of edges into the slots. -/
def ckF (B : Arn) (j : Nat) : Int := (((kidsL (slotsOf B)).count ((j : Int) + 1) : Nat) : Int)
section
variable {d : List SlotT} {rs : List Int} {c : Int} {B : Arn} {l o : List Int}
theorem ExB.ncap (h : ExB d rs c B l o) : ncap B = c.toNat := by
  obtain ⟨S, hs, _, _, _, _, cp⟩ := h.ex
  have := cp.len
  unfold Sx.ncap; omega
theorem ExB.kids (h : ExB d rs c B l o) (f : Nat → Int) : kidsL (slF B c.toNat l.length f) = kidsL (slotsOf B) := by
  obtain ⟨S, hs, _, _, _, _, cp⟩ := h.ex
  refine kidsL_eq _ _ ?_
  unfold slF slotsOf
  rw [h.ncap, List.map_map, List.map_map]
  refine List.map_congr_left fun j _ => ?_
  show ((if j < l.length then (⟨true, f j, 1, B.nd ((j : Int) + 1)⟩ : SlotT) else SlotT.zero).alloc, (if j < l.length then (⟨true, f j, 1, B.nd ((j : Int) + 1)⟩ : SlotT) else SlotT.zero).node) = (B.us ((j : Int) + 1), B.nd ((j : Int) + 1))
  by_cases y : j < l.length
  · rw [if_pos y, (cp.us _).2 (by omega)]
  · have u : B.us ((j : Int) + 1) = false := by
      cases u : B.us ((j : Int) + 1) with
      | false => rfl
      | true => have := (cp.us _).1 u; omega
    rw [if_neg y, u, cp.wf.zero _ u]; rfl
theorem ExB.fin (h : ExB d rs c B l o) : slF B c.toNat l.length (fun j => ckF B j + (o.count ((j : Int) + 1) : Nat)) = slotsOf B := by
  obtain ⟨S, hs, _, _, _, _, cp⟩ := h.ex
  have cl := clean_slots cp.wf (List.Perm.refl o)
  unfold slF
  conv => rhs; unfold slotsOf
  rw [h.ncap]
  refine List.map_congr_left fun j hj => ?_
  have hj : j < Sx.ncap B := by rw [h.ncap]; exact List.mem_range.1 hj
  have ct := cl.count j (by rw [slotsOf_len]; exact hj)
  rw [slotsOf_get B hj] at ct
  by_cases y : j < l.length
  · have u : B.us ((j : Int) + 1) = true := (cp.us _).2 (by omega)
    have g : B.gn ((j : Int) + 1) = 1 := by rw [cp.gn _ (by omega), if_pos (by omega)]
    rw [if_pos y]
    have e : (slotAt B j).alloc = true := u
    rw [if_pos e] at ct
    unfold slotAt at ct ⊢
    rw [u] at ct ⊢
    rw [g]
    dsimp only at ct ⊢
    rw [ct]; rfl
  · have u : B.us ((j : Int) + 1) = false := by
      cases u : B.us ((j : Int) + 1) with
      | false => rfl
      | true => have := (cp.us _).1 u; omega
    have g : B.gn ((j : Int) + 1) = 0 := by rw [cp.gn _ (by omega), if_neg (by omega)]
    rw [if_neg y]
    unfold slotAt
    rw [u, g, cp.wf.zero _ u]; rfl
theorem ExB.ord (h : ExB d rs c B l o) : orderOf B = upTo (l.length : Int) (c.toNat - l.length) := by
  obtain ⟨S, hs, _, _, _, _, cp⟩ := h.ex
  have := cp.len
  have := h.le
  unfold orderOf orderL
  rw [cp.rel, cp.fresh]
  show upTo _ _ = _
  congr 1
  omega
/-- A node of the list, in the dump. -/
theorem ExB.node (h : ExB d rs c B l o) {i : Nat} (hi : i < l.length) {j : Int} (ej : j = l.getD i 0) : (1 ≤ j ∧ j ≤ d.length ∧ j ∉ l.take i) ∧ (eS d (j - 1).toNat).node.key = (B.nd ((i : Int) + 1)).key ∧
    (∀ a : List Int, a = atF (d.length + 1) l → (0 ≤ (eS d (j - 1).toNat).node.left ∧ (eS d (j - 1).toNat).node.left ≤ d.length) ∧ (0 ≤ (eS d (j - 1).toNat).node.right ∧ (eS d (j - 1).toNat).node.right ≤ d.length) ∧
      (⟨(eS d (j - 1).toNat).node.key, (eS d (j - 1).toNat).node.value, a.getD (eS d (j - 1).toNat).node.left.toNat 0, a.getD (eS d (j - 1).toNat).node.right.toNat 0, (eS d (j - 1).toNat).node.size, (eS d (j - 1).toNat).node.sum, (eS d (j - 1).toNat).node.min, (eS d (j - 1).toNat).node.max⟩ : NodeT) = B.nd ((i : Int) + 1)) := by
  obtain ⟨S, hs, ed, hw, nn, ok, cp⟩ := h.ex
  have ls := LsN.of hw nn
  have hj : l[i]? = some j := by rw [ej]; exact getD_sm hi
  obtain ⟨u, _⟩ := ls.ord i j hj
  have p := hw.pos u
  have dl : (d.length : Int) = S.used.length - 1 := by rw [ed, slotsOf_len]; unfold Sx.ncap; omega
  have en : (eS d (j - 1).toNat).node = S.nd j := by rw [ed]; exact sltD_slots hw u
  have eb := cp.nd i j hi hj
  have kd := hw.kid j u
  have rng : ∀ x : Int, x = 0 ∨ S.us x = true → 0 ≤ x ∧ x ≤ d.length := fun x hx => by
    rcases hx with e | e
    · omega
    · have := hw.pos e; omega
  have kl := rng _ kd.1
  have kr := rng _ kd.2
  rw [en, eb]
  refine ⟨⟨p.1, by omega, fun q => ?_⟩, rfl, fun a ea => ⟨kl, kr, ?_⟩⟩
  · obtain ⟨m, hm, e, z⟩ := take_plc ls.nd q
    have := plcN_at ls.nd hj
    omega
  · rw [ea, atF_get kl.1 (by omega), atF_get kr.1 (by omega)]; rfl
theorem ExB.root (h : ExB d rs c B l o) {i : Nat} (hi : i < rs.length) {r : Int} (er : r = rs.getD i 0) : (0 ≤ r ∧ r ≤ d.length) ∧ ((r = 0 ∧ plcN l r = 0) ∨ (r ≠ 0 ∧ 1 ≤ plcN l r ∧ plcN l r ≤ l.length)) := by
  obtain ⟨S, hs, ed, hw, nn, ok, cp⟩ := h.ex
  have ls := LsN.of hw nn
  have dl : (d.length : Int) = S.used.length - 1 := by
    have := hw.n1
    rw [ed, slotsOf_len]; unfold Sx.ncap; omega
  have hm : r ∈ rs := by rw [er]; exact List.mem_of_getElem? (getD_sm hi)
  have n1 := hw.n1
  rcases ok r hm with e | u
  · exact ⟨by omega, .inl ⟨e, by rw [e]; exact ls.plc0 hw⟩⟩
  · have p := hw.pos u
    exact ⟨by omega, .inr ⟨by omega, (plcN_get (nn.roots r hm u)).2, (plcN_rng l r).2⟩⟩
end
def PEx1 (d : List SlotT) (l : List Int) : List Int → List Int → Nat → Prop := fun l' a i => l' = l ∧ i ≤ l.length ∧ a = atF (d.length + 1) (l.take i)
def PEx2 (d : List SlotT) (B : Arn) (c : Int) (l : List Int) : List Int → List Int → List SlotT → Nat → Prop := fun l' a w i => l' = l ∧ i ≤ l.length ∧ a = atF (d.length + 1) l ∧ w = slF B c.toNat i fun _ => 0
def PEx3 (d : List SlotT) (B : Arn) (c : Int) (l : List Int) : List Int → List Int → List SlotT → List Int → Nat → Prop := fun l' a w q i => l' = l ∧ i ≤ l.length ∧ a = atF (d.length + 1) l ∧ q = cntL (kidsL (slotsOf B)) c.toNat ∧ w = slF B c.toNat l.length fun j => if j < i then ckF B j else 0
def PEx4 (d : List SlotT) (B : Arn) (c : Int) (l rs o : List Int) : List Int → List Int → List SlotT → List Int → Nat → Prop := fun l' a w q i => l' = l ∧ i ≤ rs.length ∧ a = atF (d.length + 1) l ∧ q = o.take i ∧ w = slF B c.toNat l.length fun j => ckF B j + ((o.take i).count ((j : Int) + 1) : Nat)
def PEx5 (B : Arn) (c : Int) (l o : List Int) : List Int → List SlotT → List Int → List Int → Nat → Prop := fun _ w q f i => (l.length ≤ i ∧ (i : Int) ≤ c) ∧ w = slotsOf B ∧ q = o ∧ f = upTo (l.length : Int) (i - l.length)
theorem vc_ex (c : Int) (d : List SlotT) (fl rs : List Int) (K : KT) (B : Arn) (l o : List Int) (h : ExB d rs c B l o) (hk : ∀ w f q, w = slotsOf B → f = orderOf B → q = o → K (.tup [.agg [.slc 3, .slc 4], .at (.slc 5)]) [.row false EC.slot d, .row false EC.u32 fl, .row false EC.u32 rs, .row true EC.slot w, .row true EC.u32 f, .row true EC.u32 q] []) :
    vc C0 (aEx (PEx1 d l) (PEx2 d B c l) (PEx3 d B c l) (PEx4 d B c l rs o) (PEx5 B c l o) c d fl rs) Try.f25 [.agg [.slc 0, .slc 1], .at (vI c), .at (.slc 2)] [.row false EC.slot d, .row false EC.u32 fl, .row false EC.u32 rs] (normK 3 K) := by
  generalize hP1 : PEx1 d l = P1
  generalize hP2 : PEx2 d B c l = P2
  generalize hP3 : PEx3 d B c l = P3
  generalize hP4 : PEx4 d B c l rs o = P4
  generalize hP5 : PEx5 B c l o = P5
  refine Eq.mp (show ((DgW d) ∧
(rs.length ≤ 1000000) ∧
(allVb rs) ∧
(∀ l : List Int, ((NumsD d rs [] l) → ((0 ≤ IntKind.i64.wrap ((↑d.length : Int) + 1)) ∧ (IntKind.i64.wrap ((↑d.length : Int) + 1) ≤ IntKind.i64.wrap ((↑d.length : Int) + 1)) ∧ (IntKind.i64.wrap ((↑d.length : Int) + 1) * (↑(bytesOf C0 EC.u32) : Int) ≤ 140737488355328) ∧ (∃ x : XEx P1, (True ∧ (((Value.int IntKind.i64 (c)) = (Value.int IntKind.i64 (c))) ∧ True ∧ True ∧ True ∧ True ∧ True ∧ ((Value.int IntKind.i64 0) = (Value.int IntKind.i64 ((↑x.i : Int)))) ∧ True) ∧ ((d) = (d)) ∧ ((fl) = (fl)) ∧ ((rs) = (rs)) ∧ (True ∧ True ∧ True) ∧ (True ∧ True ∧ True) ∧ ((([] : List SlotT) = [])) ∧ ((([] : List Int) = [])) ∧ ((l) = (x.l)) ∧ ((List.replicate (IntKind.i64.wrap ((↑d.length : Int) + 1)).toNat (0 : Int)) = (x.at')) ∧ True)) ∧ (∀ x : XEx P1, (True → (brS (decide ((↑x.i : Int) < (↑x.l.length : Int))) (((0 ≤ (↑x.i : Int)) ∧ ((↑x.i : Int) < (↑x.l.length : Int)) ∧ (0 ≤ x.l.getD (↑x.i : Int).toNat 0) ∧ (x.l.getD (↑x.i : Int).toNat 0 < (↑x.at'.length : Int)) ∧ (∃ x' : XEx P1, (True ∧ ((((Value.int IntKind.i64 (c)) = (Value.int IntKind.i64 (c))) ∧ True ∧ True ∧ True ∧ True ∧ True ∧ ((Value.int IntKind.i64 (IntKind.i64.wrap ((↑x.i : Int) + 1))) = (Value.int IntKind.i64 ((↑x'.i : Int)))) ∧ True) ∧ ((d) = (d)) ∧ ((fl) = (fl)) ∧ ((rs) = (rs)) ∧ (True ∧ True ∧ True) ∧ (True ∧ True ∧ True) ∧ ((([] : List SlotT) = [])) ∧ ((([] : List Int) = [])) ∧ ((x.l) = (x'.l)) ∧
    ((x.at'.set (x.l.getD (↑x.i : Int).toNat 0).toNat (IntKind.u32.wrap (IntKind.i64.wrap ((↑x.i : Int) + 1)))) = (x'.at')) ∧ True) ∧ (x'.l.length - x'.i < x.l.length - x.i))))) (((0 ≤ c) ∧ (c ≤ c) ∧ (c * (↑(bytesOf C0 EC.slot) : Int) ≤ 140737488355328) ∧ (∃ x1 : XEy P2, (True ∧ (((Value.int IntKind.i64 (c)) = (Value.int IntKind.i64 (c))) ∧ True ∧ True ∧ True ∧ True ∧ True ∧ True ∧ ((Value.int IntKind.i64 0) = (Value.int IntKind.i64 ((↑x1.i : Int)))) ∧ True) ∧ ((d) = (d)) ∧ ((fl) = (fl)) ∧ ((rs) = (rs)) ∧ (True ∧ True ∧ True) ∧ (True ∧ True ∧ True) ∧ ((([] : List SlotT) = [])) ∧ ((([] : List Int) = [])) ∧ ((x.l) = (x1.l)) ∧ ((x.at') = (x1.at')) ∧ (True ∧ True ∧ True) ∧ ((List.replicate c.toNat { alloc := false, count := 0, gen := 0, node := { key := 0, value := 0, left := 0, right := 0, size := 0, sum := 0, min := 0, max := 0 : NodeT } : SlotT }) = (x1.w)) ∧ ((([] : List Int) = [])) ∧ True)) ∧ (∀ x1 : XEy P2, (True → (brS (decide ((↑x1.i : Int) < (↑x1.l.length : Int))) (((0 ≤ (↑x1.i : Int)) ∧ ((↑x1.i : Int) < (↑x1.l.length : Int)) ∧ (0 ≤ IntKind.u32.wrap (x1.l.getD (↑x1.i : Int).toNat 0 - 1)) ∧ (IntKind.u32.wrap (x1.l.getD (↑x1.i : Int).toNat 0 - 1) < (↑d.length : Int)) ∧ ((IntKind.u32.wrap (↑x1.at'.length : Int) ≠ 0) ∧ (0 ≤ (eS d (IntKind.u32.wrap (x1.l.getD (↑x1.i : Int).toNat 0 - 1)).toNat).node.left.tmod (IntKind.u32.wrap (↑x1.at'.length : Int))) ∧
    ((eS d (IntKind.u32.wrap (x1.l.getD (↑x1.i : Int).toNat 0 - 1)).toNat).node.left.tmod (IntKind.u32.wrap (↑x1.at'.length : Int)) < (↑x1.at'.length : Int)) ∧ (IntKind.u32.wrap (↑x1.at'.length : Int) ≠ 0) ∧ (0 ≤ (eS d (IntKind.u32.wrap (x1.l.getD (↑x1.i : Int).toNat 0 - 1)).toNat).node.right.tmod (IntKind.u32.wrap (↑x1.at'.length : Int))) ∧ ((eS d (IntKind.u32.wrap (x1.l.getD (↑x1.i : Int).toNat 0 - 1)).toNat).node.right.tmod (IntKind.u32.wrap (↑x1.at'.length : Int)) < (↑x1.at'.length : Int)) ∧ (0 ≤ (↑x1.i : Int)) ∧ ((↑x1.i : Int) < (↑x1.w.length : Int)) ∧ (∃ x' : XEy P2, (True ∧ ((((Value.int IntKind.i64 (c)) = (Value.int IntKind.i64 (c))) ∧ True ∧ True ∧ True ∧ True ∧ True ∧ True ∧ ((Value.int IntKind.i64 (IntKind.i64.wrap ((↑x1.i : Int) + 1))) = (Value.int IntKind.i64 ((↑x'.i : Int)))) ∧ True) ∧ ((d) = (d)) ∧ ((fl) = (fl)) ∧ ((rs) = (rs)) ∧ (True ∧ True ∧ True) ∧ (True ∧ True ∧ True) ∧ ((([] : List SlotT) = [])) ∧ ((([] : List Int) = [])) ∧ ((x1.l) = (x'.l)) ∧ ((x1.at') = (x'.at')) ∧ (True ∧ True ∧ True) ∧
    ((x1.w.set (↑x1.i : Int).toNat { alloc := true, count := 0, gen := 1, node := { key := (eS d (IntKind.u32.wrap (x1.l.getD (↑x1.i : Int).toNat 0 - 1)).toNat).node.key, value := (eS d (IntKind.u32.wrap (x1.l.getD (↑x1.i : Int).toNat 0 - 1)).toNat).node.value, left := x1.at'.getD ((eS d (IntKind.u32.wrap (x1.l.getD (↑x1.i : Int).toNat 0 - 1)).toNat).node.left.tmod (IntKind.u32.wrap (↑x1.at'.length : Int))).toNat 0, right := x1.at'.getD ((eS d (IntKind.u32.wrap (x1.l.getD (↑x1.i : Int).toNat 0 - 1)).toNat).node.right.tmod (IntKind.u32.wrap (↑x1.at'.length : Int))).toNat 0, size := (eS d (IntKind.u32.wrap (x1.l.getD (↑x1.i : Int).toNat 0 - 1)).toNat).node.size, sum := (eS d (IntKind.u32.wrap (x1.l.getD (↑x1.i : Int).toNat 0 - 1)).toNat).node.sum, min := (eS d (IntKind.u32.wrap (x1.l.getD (↑x1.i : Int).toNat 0 - 1)).toNat).node.min, max := (eS d (IntKind.u32.wrap (x1.l.getD (↑x1.i : Int).toNat 0 - 1)).toNat).node.max : NodeT } : SlotT }) = (x'.w)) ∧ ((([] : List Int) = [])) ∧ True) ∧ (x'.l.length - x'.i < x1.l.length - x1.i)))) ∧ (IntKind.u32.wrap (↑x1.at'.length : Int) ≠ 0) ∧ (0 ≤ (eS d (IntKind.u32.wrap (x1.l.getD (↑x1.i : Int).toNat 0 - 1)).toNat).node.right.tmod (IntKind.u32.wrap (↑x1.at'.length : Int))) ∧ ((eS d (IntKind.u32.wrap (x1.l.getD (↑x1.i : Int).toNat 0 - 1)).toNat).node.right.tmod (IntKind.u32.wrap (↑x1.at'.length : Int)) < (↑x1.at'.length : Int)) ∧ (IntKind.u32.wrap (↑x1.at'.length : Int) ≠ 0) ∧
    (0 ≤ (eS d (IntKind.u32.wrap (x1.l.getD (↑x1.i : Int).toNat 0 - 1)).toNat).node.left.tmod (IntKind.u32.wrap (↑x1.at'.length : Int))) ∧ ((eS d (IntKind.u32.wrap (x1.l.getD (↑x1.i : Int).toNat 0 - 1)).toNat).node.left.tmod (IntKind.u32.wrap (↑x1.at'.length : Int)) < (↑x1.at'.length : Int)) ∧ (0 ≤ (↑x1.i : Int)) ∧ ((↑x1.i : Int) < (↑x1.w.length : Int)) ∧ (∃ x' : XEy P2, (True ∧ ((((Value.int IntKind.i64 (c)) = (Value.int IntKind.i64 (c))) ∧ True ∧ True ∧ True ∧ True ∧ True ∧ True ∧ ((Value.int IntKind.i64 (IntKind.i64.wrap ((↑x1.i : Int) + 1))) = (Value.int IntKind.i64 ((↑x'.i : Int)))) ∧ True) ∧ ((d) = (d)) ∧ ((fl) = (fl)) ∧ ((rs) = (rs)) ∧ (True ∧ True ∧ True) ∧ (True ∧ True ∧ True) ∧ ((([] : List SlotT) = [])) ∧ ((([] : List Int) = [])) ∧ ((x1.l) = (x'.l)) ∧ ((x1.at') = (x'.at')) ∧ (True ∧ True ∧ True) ∧
    ((x1.w.set (↑x1.i : Int).toNat { alloc := true, count := 0, gen := 1, node := { key := (eS d (IntKind.u32.wrap (x1.l.getD (↑x1.i : Int).toNat 0 - 1)).toNat).node.key, value := (eS d (IntKind.u32.wrap (x1.l.getD (↑x1.i : Int).toNat 0 - 1)).toNat).node.value, left := x1.at'.getD ((eS d (IntKind.u32.wrap (x1.l.getD (↑x1.i : Int).toNat 0 - 1)).toNat).node.left.tmod (IntKind.u32.wrap (↑x1.at'.length : Int))).toNat 0, right := x1.at'.getD ((eS d (IntKind.u32.wrap (x1.l.getD (↑x1.i : Int).toNat 0 - 1)).toNat).node.right.tmod (IntKind.u32.wrap (↑x1.at'.length : Int))).toNat 0, size := (eS d (IntKind.u32.wrap (x1.l.getD (↑x1.i : Int).toNat 0 - 1)).toNat).node.size, sum := (eS d (IntKind.u32.wrap (x1.l.getD (↑x1.i : Int).toNat 0 - 1)).toNat).node.sum, min := (eS d (IntKind.u32.wrap (x1.l.getD (↑x1.i : Int).toNat 0 - 1)).toNat).node.min, max := (eS d (IntKind.u32.wrap (x1.l.getD (↑x1.i : Int).toNat 0 - 1)).toNat).node.max : NodeT } : SlotT }) = (x'.w)) ∧ ((([] : List Int) = [])) ∧ True) ∧ (x'.l.length - x'.i < x1.l.length - x1.i))))) (((x1.w.length ≤ 100000) ∧ (kidsU x1.w) ∧ (∀ o : List Int, (((o) = (cntL (kidsL x1.w) x1.w.length)) → ((∃ x2 : XEz P3, (True ∧ (((Value.int IntKind.i64 (c)) = (Value.int IntKind.i64 (c))) ∧ True ∧ True ∧ True ∧ True ∧ True ∧ True ∧ ((Value.int IntKind.i64 0) = (Value.int IntKind.i64 ((↑x2.i : Int)))) ∧ True) ∧ ((d) = (d)) ∧ ((fl) = (fl)) ∧ ((rs) = (rs)) ∧ (True ∧ True ∧ True) ∧ ((([] : List SlotT) = [])) ∧ ((([] : List Int) = [])) ∧ ((x1.l) = (x2.l)) ∧
    ((x1.at') = (x2.at')) ∧ (True ∧ True ∧ True) ∧ ((x1.w) = (x2.w)) ∧ ((([] : List Int) = [])) ∧ ((o) = (x2.q)) ∧ True)) ∧ (∀ x2 : XEz P3, (True → (brS (decide ((↑x2.i : Int) < (↑x2.l.length : Int))) (((0 ≤ (↑x2.i : Int)) ∧ ((↑x2.i : Int) < (↑x2.q.length : Int)) ∧ (0 ≤ (↑x2.i : Int)) ∧ ((↑x2.i : Int) < (↑x2.w.length : Int)) ∧ (∃ x' : XEz P3, (True ∧ ((((Value.int IntKind.i64 (c)) = (Value.int IntKind.i64 (c))) ∧ True ∧ True ∧ True ∧ True ∧ True ∧ True ∧ ((Value.int IntKind.i64 (IntKind.i64.wrap ((↑x2.i : Int) + 1))) = (Value.int IntKind.i64 ((↑x'.i : Int)))) ∧ True) ∧ ((d) = (d)) ∧ ((fl) = (fl)) ∧ ((rs) = (rs)) ∧ (True ∧ True ∧ True) ∧ ((([] : List SlotT) = [])) ∧ ((([] : List Int) = [])) ∧ ((x2.l) = (x'.l)) ∧ ((x2.at') = (x'.at')) ∧ (True ∧ True ∧ True) ∧ ((x2.w.set (↑x2.i : Int).toNat { alloc := (eS x2.w (↑x2.i : Int).toNat).alloc, count := x2.q.getD (↑x2.i : Int).toNat 0, gen := (eS x2.w (↑x2.i : Int).toNat).gen, node := (eS x2.w (↑x2.i : Int).toNat).node : SlotT }) = (x'.w)) ∧ ((([] : List Int) = [])) ∧ ((x2.q) = (x'.q)) ∧ True) ∧ (x'.l.length - x'.i < x2.l.length - x2.i))))) (((∃ x3 : XEz P4, (True ∧ (((Value.int IntKind.i64 (c)) = (Value.int IntKind.i64 (c))) ∧ True ∧ True ∧ True ∧ True ∧ True ∧ True ∧ ((Value.int IntKind.i64 0) = (Value.int IntKind.i64 ((↑x3.i : Int)))) ∧ True) ∧ ((d) = (d)) ∧ ((fl) = (fl)) ∧ ((rs) = (rs)) ∧ (True ∧ True ∧ True) ∧ ((([] : List SlotT) = [])) ∧ ((([] : List Int) = [])) ∧ ((x2.l) = (x3.l)) ∧ ((x2.at') = (x3.at')) ∧ (True ∧ True ∧ True) ∧
    ((x2.w) = (x3.w)) ∧ ((([] : List Int) = [])) ∧ ([] = (x3.q)) ∧ True)) ∧ (∀ x3 : XEz P4, (True → (brS (decide ((↑x3.i : Int) < (↑rs.length : Int))) (((0 ≤ (↑x3.i : Int)) ∧ ((↑x3.i : Int) < (↑rs.length : Int)) ∧ (0 ≤ rs.getD (↑x3.i : Int).toNat 0) ∧ (rs.getD (↑x3.i : Int).toNat 0 < (↑x3.at'.length : Int)) ∧ ((x3.q.length + [x3.at'.getD (rs.getD (↑x3.i : Int).toNat 0).toNat 0].length) * bytesOf C0 EC.u32 ≤ 140737488355328) ∧ (0 ≤ (↑x3.i : Int)) ∧ ((↑x3.i : Int) < (↑rs.length : Int)) ∧ (brS (rs.getD (↑x3.i : Int).toNat 0 != 0) (((0 ≤ (↑x3.i : Int)) ∧ ((↑x3.i : Int) < (↑rs.length : Int)) ∧ (0 ≤ rs.getD (↑x3.i : Int).toNat 0) ∧ (rs.getD (↑x3.i : Int).toNat 0 < (↑x3.at'.length : Int)) ∧ (0 ≤ IntKind.u32.wrap (x3.at'.getD (rs.getD (↑x3.i : Int).toNat 0).toNat 0 - 1)) ∧ (IntKind.u32.wrap (x3.at'.getD (rs.getD (↑x3.i : Int).toNat 0).toNat 0 - 1) < (↑x3.w.length : Int)) ∧ (0 ≤ IntKind.u32.wrap (x3.at'.getD (rs.getD (↑x3.i : Int).toNat 0).toNat 0 - 1)) ∧ (IntKind.u32.wrap (x3.at'.getD (rs.getD (↑x3.i : Int).toNat 0).toNat 0 - 1) < (↑x3.w.length : Int)) ∧ (∃ x' : XEz P4, (True ∧ ((((Value.int IntKind.i64 (c)) = (Value.int IntKind.i64 (c))) ∧ True ∧ True ∧ True ∧ True ∧ True ∧ True ∧ ((Value.int IntKind.i64 (IntKind.i64.wrap ((↑x3.i : Int) + 1))) = (Value.int IntKind.i64 ((↑x'.i : Int)))) ∧ True) ∧ ((d) = (d)) ∧ ((fl) = (fl)) ∧ ((rs) = (rs)) ∧ (True ∧ True ∧ True) ∧ ((([] : List SlotT) = [])) ∧ ((([] : List Int) = [])) ∧ ((x3.l) = (x'.l)) ∧ ((x3.at') = (x'.at')) ∧ (True ∧ True ∧ True) ∧
    ((x3.w.set (IntKind.u32.wrap (x3.at'.getD (rs.getD (↑x3.i : Int).toNat 0).toNat 0 - 1)).toNat { alloc := (eS x3.w (IntKind.u32.wrap (x3.at'.getD (rs.getD (↑x3.i : Int).toNat 0).toNat 0 - 1)).toNat).alloc, count := IntKind.i64.wrap ((eS x3.w (IntKind.u32.wrap (x3.at'.getD (rs.getD (↑x3.i : Int).toNat 0).toNat 0 - 1)).toNat).count + 1), gen := (eS x3.w (IntKind.u32.wrap (x3.at'.getD (rs.getD (↑x3.i : Int).toNat 0).toNat 0 - 1)).toNat).gen, node := (eS x3.w (IntKind.u32.wrap (x3.at'.getD (rs.getD (↑x3.i : Int).toNat 0).toNat 0 - 1)).toNat).node : SlotT }) = (x'.w)) ∧ ((([] : List Int) = [])) ∧ ((x3.q ++ [x3.at'.getD (rs.getD (↑x3.i : Int).toNat 0).toNat 0]) = (x'.q)) ∧ True) ∧ (rs.length - x'.i < rs.length - x3.i))))) ((∃ x' : XEz P4, (True ∧ ((((Value.int IntKind.i64 (c)) = (Value.int IntKind.i64 (c))) ∧ True ∧ True ∧ True ∧ True ∧ True ∧ True ∧ ((Value.int IntKind.i64 (IntKind.i64.wrap ((↑x3.i : Int) + 1))) = (Value.int IntKind.i64 ((↑x'.i : Int)))) ∧ True) ∧ ((d) = (d)) ∧ ((fl) = (fl)) ∧ ((rs) = (rs)) ∧ (True ∧ True ∧ True) ∧ ((([] : List SlotT) = [])) ∧ ((([] : List Int) = [])) ∧ ((x3.l) = (x'.l)) ∧ ((x3.at') = (x'.at')) ∧ (True ∧ True ∧ True) ∧ ((x3.w) = (x'.w)) ∧ ((([] : List Int) = [])) ∧ ((x3.q ++ [x3.at'.getD (rs.getD (↑x3.i : Int).toNat 0).toNat 0]) = (x'.q)) ∧ True) ∧ (rs.length - x'.i < rs.length - x3.i))))))) (((∃ x4 : XEw P5, (True ∧ (((Value.int IntKind.i64 (c)) = (Value.int IntKind.i64 (c))) ∧ True ∧ True ∧ True ∧
    ((Value.int IntKind.i64 ((↑x3.l.length : Int))) = (Value.int IntKind.i64 ((↑x4.i : Int)))) ∧ True) ∧ ((d) = (d)) ∧ ((fl) = (fl)) ∧ ((rs) = (rs)) ∧ (True ∧ True ∧ True) ∧ ((([] : List SlotT) = [])) ∧ ((([] : List Int) = [])) ∧ (True ∧ True ∧ True) ∧ ((x3.w) = (x4.w)) ∧ ([] = (x4.f)) ∧ ((x3.q) = (x4.q)) ∧ True)) ∧ (∀ x4 : XEw P5, (True → (brS (decide ((↑x4.i : Int) < c)) ((((x4.f.length + [IntKind.u32.wrap (IntKind.i64.wrap ((↑x4.i : Int) + 1))].length) * bytesOf C0 EC.u32 ≤ 140737488355328) ∧ (∃ x' : XEw P5, (True ∧ ((((Value.int IntKind.i64 (c)) = (Value.int IntKind.i64 (c))) ∧ True ∧ True ∧ True ∧ ((Value.int IntKind.i64 (IntKind.i64.wrap ((↑x4.i : Int) + 1))) = (Value.int IntKind.i64 ((↑x'.i : Int)))) ∧ True) ∧ ((d) = (d)) ∧ ((fl) = (fl)) ∧ ((rs) = (rs)) ∧ (True ∧ True ∧ True) ∧ ((([] : List SlotT) = [])) ∧ ((([] : List Int) = [])) ∧ (True ∧ True ∧ True) ∧ ((x4.w) = (x'.w)) ∧ ((x4.f ++ [IntKind.u32.wrap (IntKind.i64.wrap ((↑x4.i : Int) + 1))]) = (x'.f)) ∧ ((x4.q) = (x'.q)) ∧ True) ∧ (c.toNat - x'.i < c.toNat - x4.i))))) ((K (SV.tup [(TV.agg [(At.slc 3), (At.slc 4)]), (TV.at (At.slc 5))]) [(Chunk.row false (EC.slot) (d)), (Chunk.row false (EC.u32) (fl)), (Chunk.row false (EC.u32) (rs)), (Chunk.row true (EC.slot) (x4.w)), (Chunk.row true (EC.u32) (x4.f)), (Chunk.row true (EC.u32) (x4.q))] [])))))))))))))))))))))))))))))))) = _ by kernel_rfl) ?_
  subst hP1 hP2 hP3 hP4 hP5
  have c1 := h.c1
  have c2 := h.c2
  have le := h.le
  have rl := h.rl
  obtain ⟨S, hs, ed, hw, nn, ok, cp⟩ := id h.ex
  have n1 := hw.n1
  have n2 := hw.n2
  have dl : (d.length : Int) = S.used.length - 1 := by rw [ed, slotsOf_len]; unfold Sx.ncap; omega
  have ls := LsN.of hw nn
  have ol : o.length = rs.length := by rw [h.eo, List.length_map]
  refine ⟨by rw [ed]; exact dgW_slots hw, rl, h.av, fun l1 nl => ?_⟩
  have el : l1 = l := (numD_A hw (by rw [ed] at nl; exact nl)).det nn
  subst el
  rw [wrap_id (x := (d.length : Int) + 1) (by omega) (by omega), bytes_u32]
  refine ⟨by omega, by omega, by omega, ⟨⟨l1, List.replicate ((d.length : Int) + 1).toNat 0, 0, rfl, Nat.zero_le _, ?_⟩, ?_⟩, fun x _ => brS_of (fun z => ?_) fun z => ?_⟩
  · rw [show ((d.length : Int) + 1).toNat = d.length + 1 by omega]; exact atF_nil _
  · (repeat' first | exact trivial | exact rfl | refine And.intro ?_ ?_)
  · skip
    obtain ⟨l', a, i, e1, hi, ea⟩ := x
    subst e1
    dsimp only at z ⊢
    have z : i < l'.length := by have := of_decide_eq_true z; omega
    obtain ⟨⟨j1, j2, j3⟩, _⟩ := h.node z rfl
    have ts : l'.take (i + 1) = l'.take i ++ [l'.getD i 0] := takeD_snoc z
    rw [show ((i : Int)).toNat = i from rfl]
    generalize l'.getD i 0 = j at j1 j2 j3 ts ⊢
    have al : a.length = d.length + 1 := by rw [ea, atF_len]
    have tl : (l'.take i).length = i := by rw [List.length_take]; omega
    rw [wrap_id (x := (i : Int) + 1) (by omega) (by omega), wrap_u32 (x := (i : Int) + 1) (by omega) (by omega)]
    refine ⟨by omega, by omega, by omega, by omega, ⟨l', a.set j.toNat ((i : Int) + 1), i + 1, rfl, z, ?_⟩, trivial, ?_, Nat.sub_lt_sub_left z (Nat.lt_succ_self i)⟩
    · rw [ea, ts]
      exact atF_set (by omega) j3 (by rw [tl])
    · (repeat' first | exact trivial | exact rfl | refine And.intro ?_ ?_)
  obtain ⟨l', a, i, e1, hi, ea⟩ := x
  subst e1
  dsimp only at z ⊢
  have z : i = l'.length := by have := of_decide_eq_false z; omega
  rw [z, List.take_length] at ea
  rw [bytes_slot]
  refine ⟨by omega, by omega, by omega, ⟨⟨l', a, _, 0, rfl, Nat.zero_le _, ea, slF_nil⟩, ?_⟩, fun x _ => brS_of (fun z => ?_) fun z => ?_⟩
  · (repeat' first | exact trivial | exact rfl | refine And.intro ?_ ?_)
  · obtain ⟨l2, a, w, i, e1, hi, ea, ew⟩ := x
    subst e1
    dsimp only at z ⊢
    have z : i < l2.length := by have := of_decide_eq_true z; omega
    obtain ⟨⟨j1, j2, j3⟩, _, nd⟩ := h.node z rfl
    rw [show ((i : Int)).toNat = i from rfl]
    generalize l2.getD i 0 = j at j1 j2 j3 nd ⊢
    obtain ⟨⟨q1, q2⟩, ⟨q3, q4⟩, en⟩ := nd a ea
    have al : a.length = d.length + 1 := by rw [ea, atF_len]
    have wl : w.length = c.toNat := by rw [ew, slF_len]
    rw [wrap_u32 (x := j - 1) (by omega) (by omega), wrap_u32 (x := (a.length : Int)) (by omega) (by omega), wrap_id (x := (i : Int) + 1) (by omega) (by omega), Int.tmod_eq_of_lt q1 (by omega), Int.tmod_eq_of_lt q3 (by omega), en]
    have st := slF_step (B := B) (c := c.toNat) (k := i) (f := fun _ => 0) (x := ⟨true, 0, 1, B.nd ((i : Int) + 1)⟩) rfl
    rw [← ew] at st
    refine ⟨by omega, by omega, by omega, by omega, ?_⟩
    (repeat' refine And.intro ?_ ?_)
    all_goals first | omega | skip
    all_goals
      refine ⟨⟨l2, a, _, i + 1, rfl, z, ea, st⟩, trivial, ?_, Nat.sub_lt_sub_left z (Nat.lt_succ_self i)⟩
      (repeat' first | exact trivial | exact rfl | refine And.intro ?_ ?_)
  obtain ⟨l2, a, w, i, e1, hi, ea, ew⟩ := x
  subst e1
  dsimp only at z ⊢
  have z : i = l2.length := by have := of_decide_eq_false z; omega
  have wl : w.length = c.toNat := by rw [ew, slF_len]
  rw [z] at ew
  have ek : kidsL w = kidsL (slotsOf B) := by rw [ew]; exact h.kids _
  have ku : kidsU w := fun x hx => by
    obtain ⟨j, hj⟩ := List.mem_iff_getElem?.1 hx
    have hjl : j < w.length := (List.getElem?_eq_some_iff.1 hj).1
    have ex : x = w.getD j SlotT.zero := by rw [List.getD_eq_getElem?_getD, hj]; rfl
    rw [ex, ew, slF_get (by omega)]
    by_cases y : j < l2.length
    · rw [if_pos y]
      have k := cp_kid cp (p := j) y
      exact ⟨⟨k.1.1, by show (B.nd ((j : Int) + 1)).left < _; omega⟩, k.2.1, by show (B.nd ((j : Int) + 1)).right < _; omega⟩
    · rw [if_neg y]
      exact ⟨⟨by decide, by decide⟩, by decide, by decide⟩
  refine ⟨by omega, ku, fun q eq => ⟨⟨⟨l2, a, w, q, 0, rfl, Nat.zero_le _, ea, by rw [eq, wl, ek], ?_⟩, ?_⟩, fun x _ => brS_of (fun z => ?_) fun z => ?_⟩⟩
  · rw [ew]
    exact slF_ext fun i _ => by rw [if_neg (Nat.not_lt_zero i)]
  · (repeat' first | exact trivial | exact rfl | refine And.intro ?_ ?_)
  · obtain ⟨l3, a, w, q, i, e1, hi, ea, eq, ew⟩ := x
    subst e1
    dsimp only at z ⊢
    have z : i < l3.length := by have := of_decide_eq_true z; omega
    rw [show ((i : Int)).toNat = i from rfl, wrap_id (x := (i : Int) + 1) (by omega) (by omega)]
    have wl : w.length = c.toNat := by rw [ew, slF_len]
    have ql : q.length = c.toNat := by rw [eq, cntL_len]
    have es : eS w i = ⟨true, 0, 1, B.nd ((i : Int) + 1)⟩ := by
      show w.getD i SlotT.zero = _
      rw [ew, slF_get (by omega), if_pos z, if_neg (Nat.lt_irrefl i)]
    have eqi : q.getD i 0 = ckF B i := by rw [eq, cntL_get _ _ _ (by omega)]; rfl
    rw [es, eqi]
    have st := slF_set (B := B) (c := c.toNat) (k := l3.length) (f := fun j => if j < i then ckF B j else 0) (g := fun j => if j < i + 1 then ckF B j else 0) (j := i) (x := ⟨true, ckF B i, 1, B.nd ((i : Int) + 1)⟩) z (by rw [if_pos (Nat.lt_succ_self i)]) fun x hx => by
      by_cases y : x < i
      · rw [if_pos y, if_pos (by omega)]
      · rw [if_neg y, if_neg (by omega)]
    rw [← ew] at st
    refine ⟨by omega, by omega, by omega, by omega, ⟨l3, a, _, q, i + 1, rfl, z, ea, eq, st⟩, trivial, ?_, Nat.sub_lt_sub_left z (Nat.lt_succ_self i)⟩
    (repeat' first | exact trivial | exact rfl | refine And.intro ?_ ?_)
  obtain ⟨l3, a, w, q, i, e1, hi, ea, eq, ew⟩ := x
  subst e1
  dsimp only at z ⊢
  have z : i = l3.length := by have := of_decide_eq_false z; omega
  refine ⟨⟨⟨l3, a, w, [], 0, rfl, Nat.zero_le _, ea, rfl, ?_⟩, ?_⟩, fun x _ => brS_of (fun z => ?_) fun z => ?_⟩
  · rw [ew]
    exact slF_ext fun j hj => by rw [if_pos (by omega)]; simp
  · (repeat' first | exact trivial | exact rfl | refine And.intro ?_ ?_)
  · obtain ⟨l4, a, w, q, i, e1, hi, ea, eq, ew⟩ := x
    subst e1
    dsimp only at z ⊢
    have z : i < rs.length := by have := of_decide_eq_true z; omega
    rw [show ((i : Int)).toNat = i from rfl, wrap_id (x := (i : Int) + 1) (by omega) (by omega)]
    obtain ⟨⟨r0, r1⟩, rr⟩ := h.root z rfl
    have ts : o.take (i + 1) = o.take i ++ [plcN l4 (rs.getD i 0)] := by
      rw [takeD_snoc (dft := (0 : Int)) (by omega), h.eo]
      congr 2
      rw [List.getD_eq_getElem?_getD, List.getElem?_map, getD_sm (d := 0) z]; rfl
    generalize rs.getD i 0 = r at r0 r1 rr ts ⊢
    have al : a.length = d.length + 1 := by rw [ea, atF_len]
    have wl : w.length = c.toNat := by rw [ew, slF_len]
    have ag : a.getD r.toNat 0 = plcN l4 r := by rw [ea]; exact atF_get r0 (by omega)
    have ql : q.length = i := by rw [eq, List.length_take]; omega
    rw [ag]
    have eq1 : q ++ [plcN l4 r] = o.take (i + 1) := by rw [ts, eq]
    have me : rs.length - (i + 1) < rs.length - i := Nat.sub_lt_sub_left z (Nat.lt_succ_self i)
    refine ⟨by omega, by omega, r0, by omega, by rw [List.length_singleton]; omega, by omega, by omega, brS_of (fun y => ?_) fun y => ?_⟩
    · have y : r ≠ 0 := by simpa using y
      obtain ⟨_, p1, p2⟩ := rr.resolve_left fun e => y e.1
      rw [wrap_u32 (x := plcN l4 r - 1) (by omega) (by omega)]
      have pn : (plcN l4 r - 1).toNat < l4.length := by omega
      have pe : (((plcN l4 r - 1).toNat : Nat) : Int) + 1 = plcN l4 r := by omega
      have es : eS w (plcN l4 r - 1).toNat = ⟨true, ckF B (plcN l4 r - 1).toNat + ((o.take i).count (plcN l4 r) : Nat), 1, B.nd (plcN l4 r)⟩ := by
        show w.getD _ SlotT.zero = _
        rw [ew, slF_get (by omega), if_pos pn, pe]
      have k1 : 0 ≤ ckF B (plcN l4 r - 1).toNat ∧ ckF B (plcN l4 r - 1).toNat ≤ 1000000 := by
        have a1 := List.count_le_length (a := (((plcN l4 r - 1).toNat : Nat) : Int) + 1) (l := kidsL (slotsOf B))
        have a2 : (kidsL (slotsOf B)).length ≤ 2 * (slotsOf B).length := by
          generalize slotsOf B = D
          induction D with
          | nil => simp [kidsL]
          | cons x D ih =>
            unfold kidsL at ih ⊢
            rw [List.flatMap_cons, List.length_append, List.length_cons]
            have q : (if x.alloc = true then [x.node.left, x.node.right] else []).length ≤ 2 := by split <;> simp
            omega
        rw [slotsOf_len, h.ncap] at a2
        unfold ckF
        omega
      have k2 := List.count_le_length (a := plcN l4 r) (l := o.take i)
      have k3 : (o.take i).length ≤ i := by rw [List.length_take]; omega
      rw [es]
      dsimp only
      rw [wrap_id (by omega) (by omega)]
      have st := slF_set (B := B) (c := c.toNat) (k := l4.length) (f := fun j => ckF B j + ((o.take i).count ((j : Int) + 1) : Nat)) (g := fun j => ckF B j + ((o.take (i + 1)).count ((j : Int) + 1) : Nat)) (j := (plcN l4 r - 1).toNat) (x := ⟨true, ckF B (plcN l4 r - 1).toNat + ((o.take i).count (plcN l4 r) : Nat) + 1, 1, B.nd (plcN l4 r)⟩) pn (by
        rw [pe, ts, List.count_append, List.count_singleton_self]
        congr 1) fun x hx => by
        have nm : (x : Int) + 1 ∉ [plcN l4 r] := fun m => by have := List.mem_singleton.1 m; omega
        rw [ts, List.count_append, List.count_eq_zero.2 nm, Nat.add_zero]
      rw [← ew] at st
      refine ⟨by omega, by omega, r0, by omega, by omega, by omega, by omega, by omega, ⟨l4, a, _, _, i + 1, rfl, z, ea, eq1, st⟩, trivial, ?_, me⟩
      (repeat' first | exact trivial | exact rfl | refine And.intro ?_ ?_)
    · have y : r = 0 := by simpa using y
      obtain ⟨_, p0⟩ := rr.resolve_right fun e => e.1 y
      refine ⟨⟨l4, a, w, _, i + 1, rfl, z, ea, eq1, ?_⟩, trivial, ?_, me⟩
      · rw [ew]
        refine slF_ext fun j _ => ?_
        have nm : (j : Int) + 1 ∉ [(0 : Int)] := fun m => by have := List.mem_singleton.1 m; omega
        rw [ts, List.count_append, p0, List.count_eq_zero.2 nm, Nat.add_zero]
      · (repeat' first | exact trivial | exact rfl | refine And.intro ?_ ?_)
  obtain ⟨l4, a, w, q, i, e1, hi, ea, eq, ew⟩ := x
  subst e1
  dsimp only at z ⊢
  have z : i = o.length := by have := of_decide_eq_false z; omega
  rw [z, List.take_length] at eq ew
  refine ⟨⟨⟨l4, w, q, [], l4.length, ⟨Nat.le_refl _, le⟩, by rw [ew]; exact h.fin, eq, by rw [Nat.sub_self]; rfl⟩, ?_⟩, fun x _ => brS_of (fun z => ?_) fun z => ?_⟩
  · (repeat' first | exact trivial | exact rfl | refine And.intro ?_ ?_)
  · obtain ⟨l5, w, q, f, i, ⟨hi, hc⟩, ew, eq, ef⟩ := x
    dsimp only at z ⊢
    have z : (i : Int) < c := of_decide_eq_true z
    rw [wrap_id (x := (i : Int) + 1) (by omega) (by omega), wrap_u32 (x := (i : Int) + 1) (by omega) (by omega)]
    have fl' : f.length = i - l4.length := by rw [ef]; simp [upTo]
    refine ⟨by rw [List.length_singleton]; omega, ⟨l5, w, q, f ++ [(i : Int) + 1], i + 1, ⟨by omega, by omega⟩, ew, eq, ?_⟩, trivial, ?_, by show c.toNat - (i + 1) < c.toNat - i; omega⟩
    · rw [ef, show i + 1 - l4.length = (i - l4.length) + 1 by omega]
      unfold upTo
      rw [List.range_succ, List.map_append, List.map_singleton]
      congr 2; omega
    · (repeat' first | exact trivial | exact rfl | refine And.intro ?_ ?_)
  · obtain ⟨l5, w, q, f, i, ⟨hi, hc⟩, ew, eq, ef⟩ := x
    dsimp only at z ⊢
    have z : i = c.toNat := by have := of_decide_eq_false z; omega
    exact hk w f q ew (by rw [ef, h.ord, z]) eq
theorem s_ex : SoundT C0 25 tEx := by
  refine .of Try.func25 (by decide) rfl fun args H K h hB => ?_
  unfold tEx at h
  split at h <;> try exact h.elim
  rename_i c d fl rs
  obtain ⟨B, l, o, h1, h2⟩ := h
  refine ⟨_, ?_, vc_ex c d fl rs K B l o h1 h2⟩
  exact ⟨frame C0.ok s_n28 _, frame C0.ok s_ine _, trivial⟩
end Go.Proofs.Ytmjnoiajenoinaa.Sx
end
