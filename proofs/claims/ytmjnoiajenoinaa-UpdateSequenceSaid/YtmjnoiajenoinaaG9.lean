/- A part of the proof. -/
import Derived.Test.YtmjnoiajenoinaaG4
import Derived.Test.YtmjnoiajenoinaaG5
section
/- The order of the free slots, and the arena's Dump. -/
/-KEEP exW inU Arn.cap Arn.free-/
namespace Go.Proofs.Ytmjnoiajenoinaa.Sx
open Go

def upTo (fr : Int) (n : Nat) : List Int := (List.range n).map fun (k : Nat) => fr + 1 + (k : Int)
def orderL (us : List Bool) (rl : List Int) (fr : Int) : List Int := rl.reverse ++ upTo fr ((us.length : Int) - 1 - fr).toNat
structure XOr1 (rl : List Int) where
  k : Nat
  h : k ≤ rl.length
structure XOr2 (us : List Bool) (fr : Int) where
  n : Nat
  h : n ≤ ((us.length : Int) - 1 - fr).toNat
noncomputable def aOrder (us : List Bool) (gn rl : List Int) (fr : Int) : Ann C0 := { Γ := [(62, frameT [] tSlFree), (79, frameT [] tSlCap)], inv := fun n => match n with
  | 3 => some { X := XOr1 rl, sl := [4, 3], tf := fun x => [vi .i64 ((x.k : Int) - 1), .one (.at (.slc 4))], hf := fun x => slC us gn rl fr ++ [.row true EC.u32 (rl.drop x.k).reverse], μ := fun x => x.k }
  | 7 => some { X := XOr2 us fr, sl := [5, 3], tf := fun x => [vi .i64 (fr + 1 + (x.n : Int)), .one (.at (.slc 4))], hf := fun x => slC us gn rl fr ++ [.row true EC.u32 (rl.reverse ++ upTo fr x.n)], μ := fun x => ((us.length : Int) - 1 - fr).toNat - x.n }
  | _ => none }
def tOrder : Tfm C0 := fun args H K => match args with
  | [.at (.ptr 0 0)] => slM H fun us gn rl fr => 1 ≤ us.length ∧ us.length ≤ 65537 ∧ rl.length ≤ 65537 ∧ 0 ≤ fr ∧ fr ≤ us.length - 1 ∧ ∀ o : List Int, o = orderL us rl fr → K (.one (.at (.slc 4))) (slC us gn rl fr ++ [.row true EC.u32 o]) []
  | _ => False
def SlotT.zero : SlotT := ⟨false, 0, 0, NodeT.zero⟩
def slotAt (S : Arn) (k : Nat) : SlotT := ⟨S.us ((k : Int) + 1), if S.us ((k : Int) + 1) then S.ct ((k : Int) + 1) else 0, S.gn ((k : Int) + 1), S.nd ((k : Int) + 1)⟩
def ncap (S : Arn) : Nat := S.used.length - 1
def slotsOf (S : Arn) : List SlotT := (List.range (ncap S)).map (slotAt S)
def orderOf (S : Arn) : List Int := orderL S.used S.rel S.fresh
structure XDu (S : Arn) where
  i : Nat
  h : i ≤ ncap S
def fillS (S : Arn) (i : Nat) : List SlotT := (List.range i).map (slotAt S) ++ List.replicate (ncap S - i) SlotT.zero
noncomputable def aDump (S : Arn) : Ann C0 := { quiet := [56, 19, 64, 35], Γ := [(35, frameT [] tCap), (63, frameT [] tOrder), (56, frameT [] tSlAllocated), (19, frameT [] tCount), (64, frameT [] tGen)], inv := fun n => match n with
  | 1002 => some { X := Unit, sl := [3, 2], tf := fun _ => [.one (.at (.ptr 7 0)), .one (.at (.ptr 10 0))], hf := fun _ => chS S ++ [.box [.slc 8, .slc 9], .row true EC.slot (fillS S 0), .row true EC.u32 (orderOf S), .box [.slc 11, .slc 12], .row true EC.slot [], .row true EC.u32 []] }
  | 3 => some { X := XDu S, sl := [18, 3, 2], tf := fun x => [vi .i64 x.i, .one (.at (.ptr 7 0)), .one (.at (.ptr 10 0))], hf := fun x => chS S ++ [.box [.slc 8, .slc 9], .row true EC.slot (fillS S x.i), .row true EC.u32 (orderOf S), .box [.slc 11, .slc 12], .row true EC.slot [], .row true EC.u32 []], μ := fun x => ncap S - x.i }
  | _ => none }
def tDump : Tfm C0 := fun args H K => match args with
  | [.at (.ptr 0 0)] => arM H fun S => exW S ∧ ∀ (d : List SlotT) (o : List Int), d = slotsOf S → o = orderOf S → K (.one (.agg [.slc 7, .slc 8])) (chS S ++ [.row true EC.slot d, .row true EC.u32 o]) []
  | _ => False
theorem upTo_snoc (fr : Int) (n : Nat) : upTo fr n ++ [fr + 1 + (n : Int)] = upTo fr (n + 1) := by
  unfold upTo; rw [List.range_succ, List.map_append]; rfl
theorem vc_order (us : List Bool) (gn rl : List Int) (fr : Int) (K : KT) (h1 : 1 ≤ us.length) (h2 : us.length ≤ 65537) (h3 : rl.length ≤ 65537) (h4 : 0 ≤ fr) (h5 : fr ≤ us.length - 1) (h : ∀ o : List Int, o = orderL us rl fr → K (.one (.at (.slc 4))) (slC us gn rl fr ++ [.row true EC.u32 o]) []) :
    vc C0 (aOrder us gn rl fr) Try.f63 [.at (.ptr 0 0)] (slC us gn rl fr) (normK 4 K) := by
  refine Eq.mp (show ((1 ≤ us.length) ∧
(us.length ≤ 65537) ∧
(rl.length ≤ 65537) ∧
(0 ≤ fr) ∧
(fr ≤ 65537) ∧
((0 : Int) ≤ 0) ∧
(0 ≤ (↑rl.length : Int) + ((↑us.length : Int) - 1) - fr) ∧
(((↑rl.length : Int) + ((↑us.length : Int) - 1) - fr) * (↑(bytesOf C0 EC.u32) : Int) ≤ 140737488355328) ∧
(∃ x : XOr1 rl, (True ∧ (True ∧ True ∧ ((Value.int IntKind.i64 (IntKind.i64.wrap ((↑rl.length : Int) - 1))) = (Value.int IntKind.i64 ((↑x.k : Int) - 1))) ∧ True) ∧ (True ∧ True ∧ True ∧ ((Value.int IntKind.u32 (fr)) = (Value.int IntKind.u32 (fr))) ∧ True) ∧ ((us) = (us)) ∧ ((gn) = (gn)) ∧ ((rl) = (rl)) ∧ ([] = ((List.drop x.k rl).reverse)) ∧ True)) ∧
(∀ x : XOr1 rl, (True → (brS (decide ((↑x.k : Int) - 1 ≥ 0)) (((0 ≤ (↑x.k : Int) - 1) ∧ ((↑x.k : Int) - 1 < (↑rl.length : Int)) ∧ (((List.drop x.k rl).reverse.length + [rl.getD ((↑x.k : Int) - 1).toNat 0].length) * bytesOf C0 EC.u32 ≤ 140737488355328) ∧ (∃ x' : XOr1 rl, (True ∧ ((True ∧ True ∧ ((Value.int IntKind.i64 (IntKind.i64.wrap ((↑x.k : Int) - 1 - 1))) = (Value.int IntKind.i64 ((↑x'.k : Int) - 1))) ∧ True) ∧ (True ∧ True ∧ True ∧ ((Value.int IntKind.u32 (fr)) = (Value.int IntKind.u32 (fr))) ∧ True) ∧ ((us) = (us)) ∧ ((gn) = (gn)) ∧ ((rl) = (rl)) ∧ (((List.drop x.k rl).reverse ++ [rl.getD ((↑x.k : Int) - 1).toNat 0]) = ((List.drop x'.k rl).reverse)) ∧ True) ∧ (x'.k < x.k))))) (((∃ x1 : XOr2 us fr, (True ∧ (True ∧ True ∧ ((Value.int IntKind.i64 (IntKind.i64.wrap (IntKind.i64.wrap fr + 1))) = (Value.int IntKind.i64 (fr + 1 + (↑x1.n : Int)))) ∧ True) ∧ (True ∧
    True ∧ True ∧ ((Value.int IntKind.u32 (fr)) = (Value.int IntKind.u32 (fr))) ∧ True) ∧ ((us) = (us)) ∧ ((gn) = (gn)) ∧ ((rl) = (rl)) ∧ (((List.drop x.k rl).reverse) = (rl.reverse ++ upTo fr x1.n)) ∧ True)) ∧ (∀ x1 : XOr2 us fr, (True → ((1 ≤ us.length) ∧ (us.length ≤ 65537) ∧ (brS (decide (fr + 1 + (↑x1.n : Int) ≤ (↑us.length : Int) - 1)) (((((rl.reverse ++ upTo fr x1.n).length + [IntKind.u32.wrap (fr + 1 + (↑x1.n : Int))].length) * bytesOf C0 EC.u32 ≤ 140737488355328) ∧ (∃ x' : XOr2 us fr, (True ∧ ((True ∧ True ∧ ((Value.int IntKind.i64 (IntKind.i64.wrap (fr + 1 + (↑x1.n : Int) + 1))) = (Value.int IntKind.i64 (fr + 1 + (↑x'.n : Int)))) ∧ True) ∧ (True ∧ True ∧ True ∧ ((Value.int IntKind.u32 (fr)) = (Value.int IntKind.u32 (fr))) ∧ True) ∧ ((us) = (us)) ∧ ((gn) = (gn)) ∧ ((rl) = (rl)) ∧ ((rl.reverse ++ upTo fr x1.n ++ [IntKind.u32.wrap (fr + 1 + (↑x1.n : Int))]) = (rl.reverse ++ upTo fr x'.n)) ∧ True) ∧ (((↑us.length : Int) - 1 - fr).toNat - x'.n < ((↑us.length : Int) - 1 - fr).toNat - x1.n))))) ((K (SV.one (TV.at (At.slc 4))) [(Chunk.box [(At.slc 1), (At.slc 2), (At.slc 3), (At.val (Value.int IntKind.u32 (fr)))]), (Chunk.row true (EC.bool) (us)), (Chunk.row true (EC.u32) (gn)), (Chunk.row true (EC.u32) (rl)), (Chunk.row true (EC.u32) (rl.reverse ++ upTo fr x1.n))] [])))))))))))) = _ by kernel_rfl) ?_
  rw [bytes_u32]
  rw [wrap_id (x := (rl.length : Int) - 1) (by omega) (by omega), wrap_id (x := fr) (by omega) (by omega), wrap_id (x := fr + 1) (by omega) (by omega)]
  refine ⟨h1, h2, h3, h4, by omega, by decide, by omega, by omega, ⟨⟨rl.length, Nat.le_refl _⟩, trivial, ⟨trivial, trivial, rfl, trivial⟩, ⟨trivial, trivial, trivial, rfl, trivial⟩, rfl, rfl, rfl, by simp, trivial⟩, fun x _ => brS_of (fun c => ?_) fun c => ?_⟩
  · have c : 1 ≤ x.k := by have := of_decide_eq_true c; omega
    have hk := x.h
    have hg : rl[x.k - 1]? = some (rl.getD (x.k - 1) 0) := by simp [List.getD_eq_getElem?_getD, List.getElem?_eq_getElem (show x.k - 1 < rl.length by omega)]
    rw [wrap_id (by omega) (by omega), show ((x.k : Int) - 1).toNat = x.k - 1 by omega]
    refine ⟨by omega, by omega, ?_, ⟨x.k - 1, by omega⟩, trivial, ⟨⟨trivial, trivial, ?_, trivial⟩, ⟨trivial, trivial, trivial, rfl, trivial⟩, rfl, rfl, rfl, ?_, trivial⟩, ?_⟩
    · simp; omega
    · congr 1; show (x.k : Int) - 1 - 1 = ((x.k - 1 : Nat) : Int) - 1; omega
    · show _ = (rl.drop (x.k - 1)).reverse
      rw [drop_cons hg, List.reverse_cons, show x.k - 1 + 1 = x.k by omega]
    · show x.k - 1 < x.k; omega
  · have c : x.k = 0 := by have := of_decide_eq_false c; omega
    refine ⟨⟨⟨0, Nat.zero_le _⟩, trivial, ⟨trivial, trivial, by congr 1; show fr + 1 = fr + 1 + ((0 : Nat) : Int); omega, trivial⟩, ⟨trivial, trivial, trivial, rfl, trivial⟩, rfl, rfl, rfl, by rw [c]; simp [upTo], trivial⟩, fun y _ => ⟨h1, h2, brS_of (fun d => ?_) fun d => ?_⟩⟩
    · have d : fr + 1 + (y.n : Int) ≤ us.length - 1 := of_decide_eq_true d
      have hul : (upTo fr y.n).length = y.n := by simp [upTo]
      rw [wrap_u32 (by omega) (by omega), wrap_id (by omega) (by omega)]
      refine ⟨?_, ⟨y.n + 1, by omega⟩, trivial, ⟨⟨trivial, trivial, ?_, trivial⟩, ⟨trivial, trivial, trivial, rfl, trivial⟩, rfl, rfl, rfl, ?_, trivial⟩, ?_⟩
      · simp [hul]; omega
      · congr 1; show fr + 1 + (y.n : Int) + 1 = fr + 1 + ((y.n + 1 : Nat) : Int); omega
      · show _ = rl.reverse ++ upTo fr (y.n + 1)
        rw [← upTo_snoc, List.append_assoc]
      · show _ - (y.n + 1) < _; omega
    · have d : ¬ fr + 1 + (y.n : Int) ≤ us.length - 1 := of_decide_eq_false d
      have hn : y.n = ((us.length : Int) - 1 - fr).toNat := by have := y.h; omega
      exact h _ (by unfold orderL; rw [hn])
theorem s_order : SoundT C0 63 tOrder := by
  refine .of Try.func63 (by decide) rfl fun args H K h hB => ?_
  unfold tOrder at h
  split at h <;> try exact h.elim
  unfold slM at h
  split at h <;> try exact h.elim
  rename_i fr us gn rl
  obtain ⟨h1, h2, h3, h4, h5, h6⟩ := h
  exact ⟨aOrder us gn rl fr, ⟨frame C0.ok s_slFree _, frame C0.ok s_slCap _, trivial⟩, vc_order us gn rl fr K h1 h2 h3 h4 h5 h6⟩
theorem fill_zero (S : Arn) : List.replicate (ncap S) SlotT.zero = fillS S 0 := by simp [fillS]
theorem fill_len (S : Arn) (i : Nat) (h : i ≤ ncap S) : (fillS S i).length = ncap S := by simp [fillS]; omega
theorem fill_next (S : Arn) {i : Nat} (h : i < ncap S) : (fillS S i).set i (slotAt S i) = fillS S (i + 1) := by
  unfold fillS
  obtain ⟨m, hm⟩ : ∃ m, ncap S - i = m + 1 := ⟨ncap S - i - 1, by omega⟩
  rw [hm, show ncap S - (i + 1) = m by omega, List.range_succ, List.map_append, List.replicate_succ, List.set_append_right _ _ (by simp)]
  simp
theorem fill_all (S : Arn) : fillS S (ncap S) = slotsOf S := by simp [fillS, slotsOf]
theorem vc_dump (S : Arn) (K : KT) (hw : exW S) (h : ∀ (d : List SlotT) (o : List Int), d = slotsOf S → o = orderOf S → K (.one (.agg [.slc 7, .slc 8])) (chS S ++ [.row true EC.slot d, .row true EC.u32 o]) []) :
    vc C0 (aDump S) Try.f21 [.at (.ptr 0 0)] (chS S) (normK 7 K) := by
  refine Eq.mp (show ((((exW S) ∧
((0 ≤ S.cap) ∧
(S.cap ≤ S.cap) ∧
(S.cap * (↑(bytesOf C0 EC.slot) : Int) ≤ 140737488355328) ∧
(((1 ≤ S.used.length) ∧
(S.used.length ≤ 65537) ∧
(S.rel.length ≤ 65537) ∧
(0 ≤ S.fresh) ∧
(S.fresh ≤ (↑S.used.length : Int) - 1) ∧
(∀ o : List Int, (((o) = (orderL S.used S.rel S.fresh)) → (∃ x : Unit, (True ∧ (True ∧ True ∧ True ∧ True) ∧ (True ∧ True ∧ True ∧ ((Value.int IntKind.u64 (S.reads)) = (Value.int IntKind.u64 (S.reads))) ∧ True) ∧ (True ∧ True ∧ True ∧ ((Value.int IntKind.u32 (S.fresh)) = (Value.int IntKind.u32 (S.fresh))) ∧ True) ∧ ((S.nodes) = (S.nodes)) ∧ ((S.counts) = (S.counts)) ∧ ((S.used) = (S.used)) ∧ ((S.gen) = (S.gen)) ∧ ((S.rel) = (S.rel)) ∧ (True ∧ True ∧ True) ∧ ((List.replicate S.cap.toNat { alloc := false, count := 0, gen := 0, node := { key := 0, value := 0, left := 0, right := 0, size := 0, sum := 0, min := 0, max := 0 : NodeT } : SlotT }) = (fillS S 0)) ∧ ((o) = (orderOf S)) ∧ (True ∧ True ∧ True) ∧ ((([] : List SlotT) = [])) ∧ ((([] : List Int) = [])) ∧ True))))) ∧
(1 ≤ S.used.length) ∧
(S.used.length ≤ 65537) ∧
(S.rel.length ≤ 65537) ∧
(0 ≤ S.fresh) ∧
(S.fresh ≤ (↑S.used.length : Int) - 1) ∧
(∀ o : List Int, (((o) = (orderL S.used S.rel S.fresh)) → (∃ x : Unit, (True ∧ (True ∧ True ∧ True ∧ True) ∧ (True ∧ True ∧ True ∧ ((Value.int IntKind.u64 (S.reads)) = (Value.int IntKind.u64 (S.reads))) ∧ True) ∧ (True ∧ True ∧ True ∧ ((Value.int IntKind.u32 (S.fresh)) = (Value.int IntKind.u32 (S.fresh))) ∧ True) ∧ ((S.nodes) = (S.nodes)) ∧
    ((S.counts) = (S.counts)) ∧ ((S.used) = (S.used)) ∧ ((S.gen) = (S.gen)) ∧ ((S.rel) = (S.rel)) ∧ (True ∧ True ∧ True) ∧ ((List.replicate S.cap.toNat { alloc := false, count := 0, gen := 0, node := { key := 0, value := 0, left := 0, right := 0, size := 0, sum := 0, min := 0, max := 0 : NodeT } : SlotT }) = (fillS S 0)) ∧ ((o) = (orderOf S)) ∧ (True ∧ True ∧ True) ∧ ((([] : List SlotT) = [])) ∧ ((([] : List Int) = [])) ∧ True))))) ∧
(1 ≤ S.used.length) ∧
(S.used.length ≤ 65537) ∧
(S.rel.length ≤ 65537) ∧
(0 ≤ S.fresh) ∧
(S.fresh ≤ (↑S.used.length : Int) - 1) ∧
(∀ o : List Int, (((o) = (orderL S.used S.rel S.fresh)) → (∃ x : Unit, (True ∧ (True ∧ True ∧ True ∧ True) ∧ (True ∧ True ∧ True ∧ ((Value.int IntKind.u64 (S.reads)) = (Value.int IntKind.u64 (S.reads))) ∧ True) ∧ (True ∧ True ∧ True ∧ ((Value.int IntKind.u32 (S.fresh)) = (Value.int IntKind.u32 (S.fresh))) ∧ True) ∧ ((S.nodes) = (S.nodes)) ∧ ((S.counts) = (S.counts)) ∧ ((S.used) = (S.used)) ∧ ((S.gen) = (S.gen)) ∧ ((S.rel) = (S.rel)) ∧ (True ∧ True ∧ True) ∧ ((List.replicate S.cap.toNat { alloc := false, count := 0, gen := 0, node := { key := 0, value := 0, left := 0, right := 0, size := 0, sum := 0, min := 0, max := 0 : NodeT } : SlotT }) = (fillS S 0)) ∧ ((o) = (orderOf S)) ∧ (True ∧ True ∧ True) ∧ ((([] : List SlotT) = [])) ∧ ((([] : List Int) = [])) ∧
    True))))) ∧
(((0 ≤ S.cap) ∧
(S.cap ≤ S.cap) ∧
(S.cap * (↑(bytesOf C0 EC.slot) : Int) ≤ 140737488355328) ∧
((1 ≤ S.used.length) ∧
(S.used.length ≤ 65537) ∧
(S.rel.length ≤ 65537) ∧
(0 ≤ S.fresh) ∧
(S.fresh ≤ (↑S.used.length : Int) - 1) ∧
(∀ o : List Int, (((o) = (orderL S.used S.rel S.fresh)) → (∃ x : Unit, (True ∧ (True ∧ True ∧ True ∧ True) ∧ (True ∧ True ∧ True ∧ ((Value.int IntKind.u64 (S.reads)) = (Value.int IntKind.u64 (S.reads))) ∧ True) ∧ (True ∧ True ∧ True ∧ ((Value.int IntKind.u32 (S.fresh)) = (Value.int IntKind.u32 (S.fresh))) ∧ True) ∧ ((S.nodes) = (S.nodes)) ∧ ((S.counts) = (S.counts)) ∧ ((S.used) = (S.used)) ∧ ((S.gen) = (S.gen)) ∧ ((S.rel) = (S.rel)) ∧ (True ∧ True ∧ True) ∧ ((List.replicate S.cap.toNat { alloc := false, count := 0, gen := 0, node := { key := 0, value := 0, left := 0, right := 0, size := 0, sum := 0, min := 0, max := 0 : NodeT } : SlotT }) = (fillS S 0)) ∧ ((o) = (orderOf S)) ∧ (True ∧ True ∧ True) ∧ ((([] : List SlotT) = [])) ∧ ((([] : List Int) = [])) ∧ True))))) ∧
(1 ≤ S.used.length) ∧
(S.used.length ≤ 65537) ∧
(S.rel.length ≤ 65537) ∧
(0 ≤ S.fresh) ∧
(S.fresh ≤ (↑S.used.length : Int) - 1) ∧
(∀ o : List Int, (((o) = (orderL S.used S.rel S.fresh)) → (∃ x : Unit, (True ∧ (True ∧ True ∧ True ∧ True) ∧ (True ∧ True ∧ True ∧ ((Value.int IntKind.u64 (S.reads)) = (Value.int IntKind.u64 (S.reads))) ∧ True) ∧ (True ∧ True ∧ True ∧ ((Value.int IntKind.u32 (S.fresh)) = (Value.int IntKind.u32 (S.fresh))) ∧ True) ∧ ((S.nodes) = (S.nodes)) ∧
    ((S.counts) = (S.counts)) ∧ ((S.used) = (S.used)) ∧ ((S.gen) = (S.gen)) ∧ ((S.rel) = (S.rel)) ∧ (True ∧ True ∧ True) ∧ ((List.replicate S.cap.toNat { alloc := false, count := 0, gen := 0, node := { key := 0, value := 0, left := 0, right := 0, size := 0, sum := 0, min := 0, max := 0 : NodeT } : SlotT }) = (fillS S 0)) ∧ ((o) = (orderOf S)) ∧ (True ∧ True ∧ True) ∧ ((([] : List SlotT) = [])) ∧ ((([] : List Int) = [])) ∧ True))))) ∧
((1 ≤ S.used.length) ∧
(S.used.length ≤ 65537) ∧
(S.rel.length ≤ 65537) ∧
(0 ≤ S.fresh) ∧
(S.fresh ≤ (↑S.used.length : Int) - 1) ∧
(∀ o : List Int, (((o) = (orderL S.used S.rel S.fresh)) → (((0 ≤ S.cap) ∧ (S.cap ≤ S.cap) ∧ (S.cap * (↑(bytesOf C0 EC.slot) : Int) ≤ 140737488355328) ∧ (∃ x : Unit, (True ∧ (True ∧ True ∧ True ∧ True) ∧ (True ∧ True ∧ True ∧ ((Value.int IntKind.u64 (S.reads)) = (Value.int IntKind.u64 (S.reads))) ∧ True) ∧ (True ∧ True ∧ True ∧ ((Value.int IntKind.u32 (S.fresh)) = (Value.int IntKind.u32 (S.fresh))) ∧ True) ∧ ((S.nodes) = (S.nodes)) ∧ ((S.counts) = (S.counts)) ∧ ((S.used) = (S.used)) ∧ ((S.gen) = (S.gen)) ∧ ((S.rel) = (S.rel)) ∧ (True ∧ True ∧ True) ∧ ((List.replicate S.cap.toNat { alloc := false, count := 0, gen := 0, node := { key := 0, value := 0, left := 0, right := 0, size := 0, sum := 0, min := 0, max := 0 : NodeT } : SlotT }) = (fillS S 0)) ∧ ((o) = (orderOf S)) ∧ (True ∧ True ∧ True) ∧ ((([] : List SlotT) = [])) ∧ ((([] : List Int) = [])) ∧ True))) ∧ (0 ≤ S.cap) ∧ (S.cap ≤ S.cap) ∧
    (S.cap * (↑(bytesOf C0 EC.slot) : Int) ≤ 140737488355328) ∧ (∃ x : Unit, (True ∧ (True ∧ True ∧ True ∧ True) ∧ (True ∧ True ∧ True ∧ ((Value.int IntKind.u64 (S.reads)) = (Value.int IntKind.u64 (S.reads))) ∧ True) ∧ (True ∧ True ∧ True ∧ ((Value.int IntKind.u32 (S.fresh)) = (Value.int IntKind.u32 (S.fresh))) ∧ True) ∧ ((S.nodes) = (S.nodes)) ∧ ((S.counts) = (S.counts)) ∧ ((S.used) = (S.used)) ∧ ((S.gen) = (S.gen)) ∧ ((S.rel) = (S.rel)) ∧ (True ∧ True ∧ True) ∧ ((List.replicate S.cap.toNat { alloc := false, count := 0, gen := 0, node := { key := 0, value := 0, left := 0, right := 0, size := 0, sum := 0, min := 0, max := 0 : NodeT } : SlotT }) = (fillS S 0)) ∧ ((o) = (orderOf S)) ∧ (True ∧ True ∧ True) ∧ ((([] : List SlotT) = [])) ∧ ((([] : List Int) = [])) ∧ True)))))) ∧
((0 ≤ S.cap) ∧
(S.cap ≤ S.cap) ∧
(S.cap * (↑(bytesOf C0 EC.slot) : Int) ≤ 140737488355328) ∧
(1 ≤ S.used.length) ∧
(S.used.length ≤ 65537) ∧
(S.rel.length ≤ 65537) ∧
(0 ≤ S.fresh) ∧
(S.fresh ≤ (↑S.used.length : Int) - 1) ∧
(∀ o : List Int, (((o) = (orderL S.used S.rel S.fresh)) → (∃ x : Unit, (True ∧ (True ∧ True ∧ True ∧ True) ∧ (True ∧ True ∧ True ∧ ((Value.int IntKind.u64 (S.reads)) = (Value.int IntKind.u64 (S.reads))) ∧ True) ∧ (True ∧ True ∧ True ∧ ((Value.int IntKind.u32 (S.fresh)) = (Value.int IntKind.u32 (S.fresh))) ∧ True) ∧ ((S.nodes) = (S.nodes)) ∧ ((S.counts) = (S.counts)) ∧ ((S.used) = (S.used)) ∧ ((S.gen) = (S.gen)) ∧ ((S.rel) = (S.rel)) ∧ (True ∧ True ∧ True) ∧
    ((List.replicate S.cap.toNat { alloc := false, count := 0, gen := 0, node := { key := 0, value := 0, left := 0, right := 0, size := 0, sum := 0, min := 0, max := 0 : NodeT } : SlotT }) = (fillS S 0)) ∧ ((o) = (orderOf S)) ∧ (True ∧ True ∧ True) ∧ ((([] : List SlotT) = [])) ∧ ((([] : List Int) = [])) ∧ True))))) ∧
(1 ≤ S.used.length) ∧
(S.used.length ≤ 65537) ∧
(S.rel.length ≤ 65537) ∧
(0 ≤ S.fresh) ∧
(S.fresh ≤ (↑S.used.length : Int) - 1) ∧
(∀ o : List Int, (((o) = (orderL S.used S.rel S.fresh)) → ((0 ≤ S.cap) ∧ (S.cap ≤ S.cap) ∧ (S.cap * (↑(bytesOf C0 EC.slot) : Int) ≤ 140737488355328) ∧ (∃ x : Unit, (True ∧ (True ∧ True ∧ True ∧ True) ∧ (True ∧ True ∧ True ∧ ((Value.int IntKind.u64 (S.reads)) = (Value.int IntKind.u64 (S.reads))) ∧ True) ∧ (True ∧ True ∧ True ∧ ((Value.int IntKind.u32 (S.fresh)) = (Value.int IntKind.u32 (S.fresh))) ∧ True) ∧ ((S.nodes) = (S.nodes)) ∧ ((S.counts) = (S.counts)) ∧ ((S.used) = (S.used)) ∧ ((S.gen) = (S.gen)) ∧ ((S.rel) = (S.rel)) ∧ (True ∧ True ∧ True) ∧ ((List.replicate S.cap.toNat { alloc := false, count := 0, gen := 0, node := { key := 0, value := 0, left := 0, right := 0, size := 0, sum := 0, min := 0, max := 0 : NodeT } : SlotT }) = (fillS S 0)) ∧ ((o) = (orderOf S)) ∧ (True ∧ True ∧ True) ∧ ((([] : List SlotT) = [])) ∧ ((([] : List Int) = [])) ∧
    True)))))) ∧
((0 ≤ S.cap) ∧
(S.cap ≤ S.cap) ∧
(S.cap * (↑(bytesOf C0 EC.slot) : Int) ≤ 140737488355328) ∧
(1 ≤ S.used.length) ∧
(S.used.length ≤ 65537) ∧
(S.rel.length ≤ 65537) ∧
(0 ≤ S.fresh) ∧
(S.fresh ≤ (↑S.used.length : Int) - 1) ∧
(∀ o : List Int, (((o) = (orderL S.used S.rel S.fresh)) → (∃ x : Unit, (True ∧ (True ∧ True ∧ True ∧ True) ∧ (True ∧ True ∧ True ∧ ((Value.int IntKind.u64 (S.reads)) = (Value.int IntKind.u64 (S.reads))) ∧ True) ∧ (True ∧ True ∧ True ∧ ((Value.int IntKind.u32 (S.fresh)) = (Value.int IntKind.u32 (S.fresh))) ∧ True) ∧ ((S.nodes) = (S.nodes)) ∧ ((S.counts) = (S.counts)) ∧ ((S.used) = (S.used)) ∧ ((S.gen) = (S.gen)) ∧ ((S.rel) = (S.rel)) ∧ (True ∧ True ∧ True) ∧ ((List.replicate S.cap.toNat { alloc := false, count := 0, gen := 0, node := { key := 0, value := 0, left := 0, right := 0, size := 0, sum := 0, min := 0, max := 0 : NodeT } : SlotT }) = (fillS S 0)) ∧ ((o) = (orderOf S)) ∧ (True ∧ True ∧ True) ∧ ((([] : List SlotT) = [])) ∧ ((([] : List Int) = [])) ∧ True))))) ∧
((0 ≤ S.cap) ∧
(S.cap ≤ S.cap) ∧
(S.cap * (↑(bytesOf C0 EC.slot) : Int) ≤ 140737488355328) ∧
(1 ≤ S.used.length) ∧
(S.used.length ≤ 65537) ∧
(S.rel.length ≤ 65537) ∧
(0 ≤ S.fresh) ∧
(S.fresh ≤ (↑S.used.length : Int) - 1) ∧
(∀ o : List Int, (((o) = (orderL S.used S.rel S.fresh)) → (∃ x : Unit, (True ∧ (True ∧ True ∧ True ∧ True) ∧ (True ∧ True ∧ True ∧ ((Value.int IntKind.u64 (S.reads)) = (Value.int IntKind.u64 (S.reads))) ∧ True) ∧ (True ∧ True ∧ True ∧
    ((Value.int IntKind.u32 (S.fresh)) = (Value.int IntKind.u32 (S.fresh))) ∧ True) ∧ ((S.nodes) = (S.nodes)) ∧ ((S.counts) = (S.counts)) ∧ ((S.used) = (S.used)) ∧ ((S.gen) = (S.gen)) ∧ ((S.rel) = (S.rel)) ∧ (True ∧ True ∧ True) ∧ ((List.replicate S.cap.toNat { alloc := false, count := 0, gen := 0, node := { key := 0, value := 0, left := 0, right := 0, size := 0, sum := 0, min := 0, max := 0 : NodeT } : SlotT }) = (fillS S 0)) ∧ ((o) = (orderOf S)) ∧ (True ∧ True ∧ True) ∧ ((([] : List SlotT) = [])) ∧ ((([] : List Int) = [])) ∧ True))))) ∧
(1 ≤ S.used.length) ∧
(S.used.length ≤ 65537) ∧
(S.rel.length ≤ 65537) ∧
(0 ≤ S.fresh) ∧
(S.fresh ≤ (↑S.used.length : Int) - 1) ∧
(∀ o : List Int, (((o) = (orderL S.used S.rel S.fresh)) → ((0 ≤ S.cap) ∧ (S.cap ≤ S.cap) ∧ (S.cap * (↑(bytesOf C0 EC.slot) : Int) ≤ 140737488355328) ∧ (∃ x : Unit, (True ∧ (True ∧ True ∧ True ∧ True) ∧ (True ∧ True ∧ True ∧ ((Value.int IntKind.u64 (S.reads)) = (Value.int IntKind.u64 (S.reads))) ∧ True) ∧ (True ∧ True ∧ True ∧ ((Value.int IntKind.u32 (S.fresh)) = (Value.int IntKind.u32 (S.fresh))) ∧ True) ∧ ((S.nodes) = (S.nodes)) ∧ ((S.counts) = (S.counts)) ∧ ((S.used) = (S.used)) ∧ ((S.gen) = (S.gen)) ∧ ((S.rel) = (S.rel)) ∧ (True ∧ True ∧ True) ∧ ((List.replicate S.cap.toNat { alloc := false, count := 0, gen := 0, node := { key := 0, value := 0, left := 0, right := 0, size := 0, sum := 0, min := 0, max := 0 : NodeT } : SlotT }) = (fillS S 0)) ∧ ((o) = (orderOf S)) ∧ (True ∧ True ∧ True) ∧
    ((([] : List SlotT) = [])) ∧ ((([] : List Int) = [])) ∧ True)))))) ∧
(((exW S) ∧
((0 ≤ S.cap) ∧
(S.cap ≤ S.cap) ∧
(S.cap * (↑(bytesOf C0 EC.slot) : Int) ≤ 140737488355328) ∧
((1 ≤ S.used.length) ∧
(S.used.length ≤ 65537) ∧
(S.rel.length ≤ 65537) ∧
(0 ≤ S.fresh) ∧
(S.fresh ≤ (↑S.used.length : Int) - 1) ∧
(∀ o : List Int, (((o) = (orderL S.used S.rel S.fresh)) → (∃ x : Unit, (True ∧ (True ∧ True ∧ True ∧ True) ∧ (True ∧ True ∧ True ∧ ((Value.int IntKind.u64 (S.reads)) = (Value.int IntKind.u64 (S.reads))) ∧ True) ∧ (True ∧ True ∧ True ∧ ((Value.int IntKind.u32 (S.fresh)) = (Value.int IntKind.u32 (S.fresh))) ∧ True) ∧ ((S.nodes) = (S.nodes)) ∧ ((S.counts) = (S.counts)) ∧ ((S.used) = (S.used)) ∧ ((S.gen) = (S.gen)) ∧ ((S.rel) = (S.rel)) ∧ (True ∧ True ∧ True) ∧ ((List.replicate S.cap.toNat { alloc := false, count := 0, gen := 0, node := { key := 0, value := 0, left := 0, right := 0, size := 0, sum := 0, min := 0, max := 0 : NodeT } : SlotT }) = (fillS S 0)) ∧ ((o) = (orderOf S)) ∧ (True ∧ True ∧ True) ∧ ((([] : List SlotT) = [])) ∧ ((([] : List Int) = [])) ∧ True))))) ∧
(1 ≤ S.used.length) ∧
(S.used.length ≤ 65537) ∧
(S.rel.length ≤ 65537) ∧
(0 ≤ S.fresh) ∧
(S.fresh ≤ (↑S.used.length : Int) - 1) ∧
(∀ o : List Int, (((o) = (orderL S.used S.rel S.fresh)) → (∃ x : Unit, (True ∧ (True ∧ True ∧ True ∧ True) ∧ (True ∧ True ∧ True ∧ ((Value.int IntKind.u64 (S.reads)) = (Value.int IntKind.u64 (S.reads))) ∧ True) ∧ (True ∧ True ∧ True ∧
    ((Value.int IntKind.u32 (S.fresh)) = (Value.int IntKind.u32 (S.fresh))) ∧ True) ∧ ((S.nodes) = (S.nodes)) ∧ ((S.counts) = (S.counts)) ∧ ((S.used) = (S.used)) ∧ ((S.gen) = (S.gen)) ∧ ((S.rel) = (S.rel)) ∧ (True ∧ True ∧ True) ∧ ((List.replicate S.cap.toNat { alloc := false, count := 0, gen := 0, node := { key := 0, value := 0, left := 0, right := 0, size := 0, sum := 0, min := 0, max := 0 : NodeT } : SlotT }) = (fillS S 0)) ∧ ((o) = (orderOf S)) ∧ (True ∧ True ∧ True) ∧ ((([] : List SlotT) = [])) ∧ ((([] : List Int) = [])) ∧ True))))) ∧
((1 ≤ S.used.length) ∧
(S.used.length ≤ 65537) ∧
(S.rel.length ≤ 65537) ∧
(0 ≤ S.fresh) ∧
(S.fresh ≤ (↑S.used.length : Int) - 1) ∧
(∀ o : List Int, (((o) = (orderL S.used S.rel S.fresh)) → (((0 ≤ S.cap) ∧ (S.cap ≤ S.cap) ∧ (S.cap * (↑(bytesOf C0 EC.slot) : Int) ≤ 140737488355328) ∧ (∃ x : Unit, (True ∧ (True ∧ True ∧ True ∧ True) ∧ (True ∧ True ∧ True ∧ ((Value.int IntKind.u64 (S.reads)) = (Value.int IntKind.u64 (S.reads))) ∧ True) ∧ (True ∧ True ∧ True ∧ ((Value.int IntKind.u32 (S.fresh)) = (Value.int IntKind.u32 (S.fresh))) ∧ True) ∧ ((S.nodes) = (S.nodes)) ∧ ((S.counts) = (S.counts)) ∧ ((S.used) = (S.used)) ∧ ((S.gen) = (S.gen)) ∧ ((S.rel) = (S.rel)) ∧ (True ∧ True ∧ True) ∧ ((List.replicate S.cap.toNat { alloc := false, count := 0, gen := 0, node := { key := 0, value := 0, left := 0, right := 0, size := 0, sum := 0, min := 0, max := 0 : NodeT } : SlotT }) = (fillS S 0)) ∧ ((o) = (orderOf S)) ∧ (True ∧ True ∧ True) ∧
    ((([] : List SlotT) = [])) ∧ ((([] : List Int) = [])) ∧ True))) ∧ (0 ≤ S.cap) ∧ (S.cap ≤ S.cap) ∧ (S.cap * (↑(bytesOf C0 EC.slot) : Int) ≤ 140737488355328) ∧ (∃ x : Unit, (True ∧ (True ∧ True ∧ True ∧ True) ∧ (True ∧ True ∧ True ∧ ((Value.int IntKind.u64 (S.reads)) = (Value.int IntKind.u64 (S.reads))) ∧ True) ∧ (True ∧ True ∧ True ∧ ((Value.int IntKind.u32 (S.fresh)) = (Value.int IntKind.u32 (S.fresh))) ∧ True) ∧ ((S.nodes) = (S.nodes)) ∧ ((S.counts) = (S.counts)) ∧ ((S.used) = (S.used)) ∧ ((S.gen) = (S.gen)) ∧ ((S.rel) = (S.rel)) ∧ (True ∧ True ∧ True) ∧ ((List.replicate S.cap.toNat { alloc := false, count := 0, gen := 0, node := { key := 0, value := 0, left := 0, right := 0, size := 0, sum := 0, min := 0, max := 0 : NodeT } : SlotT }) = (fillS S 0)) ∧ ((o) = (orderOf S)) ∧ (True ∧ True ∧ True) ∧ ((([] : List SlotT) = [])) ∧ ((([] : List Int) = [])) ∧ True)))))) ∧
((0 ≤ S.cap) ∧
(S.cap ≤ S.cap) ∧
(S.cap * (↑(bytesOf C0 EC.slot) : Int) ≤ 140737488355328) ∧
(1 ≤ S.used.length) ∧
(S.used.length ≤ 65537) ∧
(S.rel.length ≤ 65537) ∧
(0 ≤ S.fresh) ∧
(S.fresh ≤ (↑S.used.length : Int) - 1) ∧
(∀ o : List Int, (((o) = (orderL S.used S.rel S.fresh)) → (∃ x : Unit, (True ∧ (True ∧ True ∧ True ∧ True) ∧ (True ∧ True ∧ True ∧ ((Value.int IntKind.u64 (S.reads)) = (Value.int IntKind.u64 (S.reads))) ∧ True) ∧ (True ∧ True ∧ True ∧ ((Value.int IntKind.u32 (S.fresh)) = (Value.int IntKind.u32 (S.fresh))) ∧ True) ∧ ((S.nodes) = (S.nodes)) ∧ ((S.counts) = (S.counts)) ∧ ((S.used) = (S.used)) ∧
    ((S.gen) = (S.gen)) ∧ ((S.rel) = (S.rel)) ∧ (True ∧ True ∧ True) ∧ ((List.replicate S.cap.toNat { alloc := false, count := 0, gen := 0, node := { key := 0, value := 0, left := 0, right := 0, size := 0, sum := 0, min := 0, max := 0 : NodeT } : SlotT }) = (fillS S 0)) ∧ ((o) = (orderOf S)) ∧ (True ∧ True ∧ True) ∧ ((([] : List SlotT) = [])) ∧ ((([] : List Int) = [])) ∧ True))))) ∧
(1 ≤ S.used.length) ∧
(S.used.length ≤ 65537) ∧
(S.rel.length ≤ 65537) ∧
(0 ≤ S.fresh) ∧
(S.fresh ≤ (↑S.used.length : Int) - 1) ∧
(∀ o : List Int, (((o) = (orderL S.used S.rel S.fresh)) → ((0 ≤ S.cap) ∧ (S.cap ≤ S.cap) ∧ (S.cap * (↑(bytesOf C0 EC.slot) : Int) ≤ 140737488355328) ∧ (∃ x : Unit, (True ∧ (True ∧ True ∧ True ∧ True) ∧ (True ∧ True ∧ True ∧ ((Value.int IntKind.u64 (S.reads)) = (Value.int IntKind.u64 (S.reads))) ∧ True) ∧ (True ∧ True ∧ True ∧ ((Value.int IntKind.u32 (S.fresh)) = (Value.int IntKind.u32 (S.fresh))) ∧ True) ∧ ((S.nodes) = (S.nodes)) ∧ ((S.counts) = (S.counts)) ∧ ((S.used) = (S.used)) ∧ ((S.gen) = (S.gen)) ∧ ((S.rel) = (S.rel)) ∧ (True ∧ True ∧ True) ∧ ((List.replicate S.cap.toNat { alloc := false, count := 0, gen := 0, node := { key := 0, value := 0, left := 0, right := 0, size := 0, sum := 0, min := 0, max := 0 : NodeT } : SlotT }) = (fillS S 0)) ∧ ((o) = (orderOf S)) ∧ (True ∧ True ∧ True) ∧ ((([] : List SlotT) = [])) ∧ ((([] : List Int) = [])) ∧
    True)))))) ∧
(exW S) ∧
((0 ≤ S.cap) ∧
(S.cap ≤ S.cap) ∧
(S.cap * (↑(bytesOf C0 EC.slot) : Int) ≤ 140737488355328) ∧
(1 ≤ S.used.length) ∧
(S.used.length ≤ 65537) ∧
(S.rel.length ≤ 65537) ∧
(0 ≤ S.fresh) ∧
(S.fresh ≤ (↑S.used.length : Int) - 1) ∧
(∀ o : List Int, (((o) = (orderL S.used S.rel S.fresh)) → (∃ x : Unit, (True ∧ (True ∧ True ∧ True ∧ True) ∧ (True ∧ True ∧ True ∧ ((Value.int IntKind.u64 (S.reads)) = (Value.int IntKind.u64 (S.reads))) ∧ True) ∧ (True ∧ True ∧ True ∧ ((Value.int IntKind.u32 (S.fresh)) = (Value.int IntKind.u32 (S.fresh))) ∧ True) ∧ ((S.nodes) = (S.nodes)) ∧ ((S.counts) = (S.counts)) ∧ ((S.used) = (S.used)) ∧ ((S.gen) = (S.gen)) ∧ ((S.rel) = (S.rel)) ∧ (True ∧ True ∧ True) ∧ ((List.replicate S.cap.toNat { alloc := false, count := 0, gen := 0, node := { key := 0, value := 0, left := 0, right := 0, size := 0, sum := 0, min := 0, max := 0 : NodeT } : SlotT }) = (fillS S 0)) ∧ ((o) = (orderOf S)) ∧ (True ∧ True ∧ True) ∧ ((([] : List SlotT) = [])) ∧ ((([] : List Int) = [])) ∧ True))))) ∧
(1 ≤ S.used.length) ∧
(S.used.length ≤ 65537) ∧
(S.rel.length ≤ 65537) ∧
(0 ≤ S.fresh) ∧
(S.fresh ≤ (↑S.used.length : Int) - 1) ∧
(∀ o : List Int, (((o) = (orderL S.used S.rel S.fresh)) → ((0 ≤ S.cap) ∧ (S.cap ≤ S.cap) ∧ (S.cap * (↑(bytesOf C0 EC.slot) : Int) ≤ 140737488355328) ∧ (∃ x : Unit, (True ∧ (True ∧ True ∧ True ∧ True) ∧ (True ∧ True ∧ True ∧ ((Value.int IntKind.u64 (S.reads)) = (Value.int IntKind.u64 (S.reads))) ∧ True) ∧ (True ∧ True ∧ True ∧
    ((Value.int IntKind.u32 (S.fresh)) = (Value.int IntKind.u32 (S.fresh))) ∧ True) ∧ ((S.nodes) = (S.nodes)) ∧ ((S.counts) = (S.counts)) ∧ ((S.used) = (S.used)) ∧ ((S.gen) = (S.gen)) ∧ ((S.rel) = (S.rel)) ∧ (True ∧ True ∧ True) ∧ ((List.replicate S.cap.toNat { alloc := false, count := 0, gen := 0, node := { key := 0, value := 0, left := 0, right := 0, size := 0, sum := 0, min := 0, max := 0 : NodeT } : SlotT }) = (fillS S 0)) ∧ ((o) = (orderOf S)) ∧ (True ∧ True ∧ True) ∧ ((([] : List SlotT) = [])) ∧ ((([] : List Int) = [])) ∧ True)))))) ∧
((exW S) ∧
((0 ≤ S.cap) ∧
(S.cap ≤ S.cap) ∧
(S.cap * (↑(bytesOf C0 EC.slot) : Int) ≤ 140737488355328) ∧
(1 ≤ S.used.length) ∧
(S.used.length ≤ 65537) ∧
(S.rel.length ≤ 65537) ∧
(0 ≤ S.fresh) ∧
(S.fresh ≤ (↑S.used.length : Int) - 1) ∧
(∀ o : List Int, (((o) = (orderL S.used S.rel S.fresh)) → (∃ x : Unit, (True ∧ (True ∧ True ∧ True ∧ True) ∧ (True ∧ True ∧ True ∧ ((Value.int IntKind.u64 (S.reads)) = (Value.int IntKind.u64 (S.reads))) ∧ True) ∧ (True ∧ True ∧ True ∧ ((Value.int IntKind.u32 (S.fresh)) = (Value.int IntKind.u32 (S.fresh))) ∧ True) ∧ ((S.nodes) = (S.nodes)) ∧ ((S.counts) = (S.counts)) ∧ ((S.used) = (S.used)) ∧ ((S.gen) = (S.gen)) ∧ ((S.rel) = (S.rel)) ∧ (True ∧ True ∧ True) ∧ ((List.replicate S.cap.toNat { alloc := false, count := 0, gen := 0, node := { key := 0, value := 0, left := 0, right := 0, size := 0, sum := 0, min := 0, max := 0 : NodeT } : SlotT }) = (fillS S 0)) ∧ ((o) = (orderOf S)) ∧ (True ∧ True ∧ True) ∧
    ((([] : List SlotT) = [])) ∧ ((([] : List Int) = [])) ∧ True))))) ∧
((0 ≤ S.cap) ∧
(S.cap ≤ S.cap) ∧
(S.cap * (↑(bytesOf C0 EC.slot) : Int) ≤ 140737488355328) ∧
(1 ≤ S.used.length) ∧
(S.used.length ≤ 65537) ∧
(S.rel.length ≤ 65537) ∧
(0 ≤ S.fresh) ∧
(S.fresh ≤ (↑S.used.length : Int) - 1) ∧
(∀ o : List Int, (((o) = (orderL S.used S.rel S.fresh)) → (∃ x : Unit, (True ∧ (True ∧ True ∧ True ∧ True) ∧ (True ∧ True ∧ True ∧ ((Value.int IntKind.u64 (S.reads)) = (Value.int IntKind.u64 (S.reads))) ∧ True) ∧ (True ∧ True ∧ True ∧ ((Value.int IntKind.u32 (S.fresh)) = (Value.int IntKind.u32 (S.fresh))) ∧ True) ∧ ((S.nodes) = (S.nodes)) ∧ ((S.counts) = (S.counts)) ∧ ((S.used) = (S.used)) ∧ ((S.gen) = (S.gen)) ∧ ((S.rel) = (S.rel)) ∧ (True ∧ True ∧ True) ∧ ((List.replicate S.cap.toNat { alloc := false, count := 0, gen := 0, node := { key := 0, value := 0, left := 0, right := 0, size := 0, sum := 0, min := 0, max := 0 : NodeT } : SlotT }) = (fillS S 0)) ∧ ((o) = (orderOf S)) ∧ (True ∧ True ∧ True) ∧ ((([] : List SlotT) = [])) ∧ ((([] : List Int) = [])) ∧ True))))) ∧
(1 ≤ S.used.length) ∧
(S.used.length ≤ 65537) ∧
(S.rel.length ≤ 65537) ∧
(0 ≤ S.fresh) ∧
(S.fresh ≤ (↑S.used.length : Int) - 1) ∧
(∀ o : List Int, (((o) = (orderL S.used S.rel S.fresh)) → ((0 ≤ S.cap) ∧ (S.cap ≤ S.cap) ∧ (S.cap * (↑(bytesOf C0 EC.slot) : Int) ≤ 140737488355328) ∧ (∃ x : Unit, (True ∧ (True ∧ True ∧ True ∧ True) ∧ (True ∧ True ∧ True ∧ ((Value.int IntKind.u64 (S.reads)) = (Value.int IntKind.u64 (S.reads))) ∧
    True) ∧ (True ∧ True ∧ True ∧ ((Value.int IntKind.u32 (S.fresh)) = (Value.int IntKind.u32 (S.fresh))) ∧ True) ∧ ((S.nodes) = (S.nodes)) ∧ ((S.counts) = (S.counts)) ∧ ((S.used) = (S.used)) ∧ ((S.gen) = (S.gen)) ∧ ((S.rel) = (S.rel)) ∧ (True ∧ True ∧ True) ∧ ((List.replicate S.cap.toNat { alloc := false, count := 0, gen := 0, node := { key := 0, value := 0, left := 0, right := 0, size := 0, sum := 0, min := 0, max := 0 : NodeT } : SlotT }) = (fillS S 0)) ∧ ((o) = (orderOf S)) ∧ (True ∧ True ∧ True) ∧ ((([] : List SlotT) = [])) ∧ ((([] : List Int) = [])) ∧ True)))))) ∧
(exW S) ∧
((0 ≤ S.cap) ∧
(S.cap ≤ S.cap) ∧
(S.cap * (↑(bytesOf C0 EC.slot) : Int) ≤ 140737488355328) ∧
(1 ≤ S.used.length) ∧
(S.used.length ≤ 65537) ∧
(S.rel.length ≤ 65537) ∧
(0 ≤ S.fresh) ∧
(S.fresh ≤ (↑S.used.length : Int) - 1) ∧
(∀ o : List Int, (((o) = (orderL S.used S.rel S.fresh)) → (∃ x : Unit, (True ∧ (True ∧ True ∧ True ∧ True) ∧ (True ∧ True ∧ True ∧ ((Value.int IntKind.u64 (S.reads)) = (Value.int IntKind.u64 (S.reads))) ∧ True) ∧ (True ∧ True ∧ True ∧ ((Value.int IntKind.u32 (S.fresh)) = (Value.int IntKind.u32 (S.fresh))) ∧ True) ∧ ((S.nodes) = (S.nodes)) ∧ ((S.counts) = (S.counts)) ∧ ((S.used) = (S.used)) ∧ ((S.gen) = (S.gen)) ∧ ((S.rel) = (S.rel)) ∧ (True ∧ True ∧ True) ∧ ((List.replicate S.cap.toNat { alloc := false, count := 0, gen := 0, node := { key := 0, value := 0, left := 0, right := 0, size := 0, sum := 0, min := 0, max := 0 : NodeT } : SlotT }) = (fillS S 0)) ∧ ((o) = (orderOf S)) ∧ (True ∧
    True ∧ True) ∧ ((([] : List SlotT) = [])) ∧ ((([] : List Int) = [])) ∧ True))))) ∧
(1 ≤ S.used.length) ∧
(S.used.length ≤ 65537) ∧
(S.rel.length ≤ 65537) ∧
(0 ≤ S.fresh) ∧
(S.fresh ≤ (↑S.used.length : Int) - 1) ∧
(∀ o : List Int, (((o) = (orderL S.used S.rel S.fresh)) → ((0 ≤ S.cap) ∧ (S.cap ≤ S.cap) ∧ (S.cap * (↑(bytesOf C0 EC.slot) : Int) ≤ 140737488355328) ∧ (∃ x : Unit, (True ∧ (True ∧ True ∧ True ∧ True) ∧ (True ∧ True ∧ True ∧ ((Value.int IntKind.u64 (S.reads)) = (Value.int IntKind.u64 (S.reads))) ∧ True) ∧ (True ∧ True ∧ True ∧ ((Value.int IntKind.u32 (S.fresh)) = (Value.int IntKind.u32 (S.fresh))) ∧ True) ∧ ((S.nodes) = (S.nodes)) ∧ ((S.counts) = (S.counts)) ∧ ((S.used) = (S.used)) ∧ ((S.gen) = (S.gen)) ∧ ((S.rel) = (S.rel)) ∧ (True ∧ True ∧ True) ∧ ((List.replicate S.cap.toNat { alloc := false, count := 0, gen := 0, node := { key := 0, value := 0, left := 0, right := 0, size := 0, sum := 0, min := 0, max := 0 : NodeT } : SlotT }) = (fillS S 0)) ∧ ((o) = (orderOf S)) ∧ (True ∧ True ∧ True) ∧ ((([] : List SlotT) = [])) ∧ ((([] : List Int) = [])) ∧ True)))))) ∧
(∀ x : Unit, (True → ((∃ x1 : XDu S, (True ∧ (True ∧ True ∧ True ∧ ((Value.int IntKind.i64 ((↑(fillS S 0).length : Int))) = (Value.int IntKind.i64 ((↑(fillS S 0).length : Int)))) ∧ ((Value.int IntKind.i64 0) = (Value.int IntKind.i64 ((↑x1.i : Int)))) ∧ True) ∧ (True ∧ True ∧ True ∧ ((Value.int IntKind.u64 (S.reads)) = (Value.int IntKind.u64 (S.reads))) ∧ True) ∧ (True ∧ True ∧ True ∧
    ((Value.int IntKind.u32 (S.fresh)) = (Value.int IntKind.u32 (S.fresh))) ∧ True) ∧ ((S.nodes) = (S.nodes)) ∧ ((S.counts) = (S.counts)) ∧ ((S.used) = (S.used)) ∧ ((S.gen) = (S.gen)) ∧ ((S.rel) = (S.rel)) ∧ (True ∧ True ∧ True) ∧ ((fillS S 0) = (fillS S x1.i)) ∧ ((orderOf S) = (orderOf S)) ∧ (True ∧ True ∧ True) ∧ ((([] : List SlotT) = [])) ∧ ((([] : List Int) = [])) ∧ True)) ∧ (∀ x1 : XDu S, (True → (brS (decide ((↑x1.i : Int) < (↑(fillS S 0).length : Int))) (((0 ≤ IntKind.u32.wrap (IntKind.i64.wrap ((↑x1.i : Int) + 1))) ∧ (IntKind.u32.wrap (IntKind.i64.wrap ((↑x1.i : Int) + 1)) < (↑S.nodes.length : Int)) ∧ (0 ≤ IntKind.u32.wrap (IntKind.i64.wrap ((↑x1.i : Int) + 1))) ∧ (IntKind.u32.wrap (IntKind.i64.wrap ((↑x1.i : Int) + 1)) < 4294967296) ∧ (S.used.length ≤ 65537) ∧ (inU (IntKind.u32.wrap (IntKind.i64.wrap ((↑x1.i : Int) + 1)))) ∧ (exW S) ∧ (inU (IntKind.u32.wrap (IntKind.i64.wrap ((↑x1.i : Int) + 1)))) ∧ (exW S) ∧ (0 ≤ (↑x1.i : Int)) ∧ ((↑x1.i : Int) < (↑(fillS S x1.i).length : Int)) ∧ (∃ x' : XDu S, (True ∧ ((True ∧ True ∧ True ∧ ((Value.int IntKind.i64 ((↑(fillS S 0).length : Int))) = (Value.int IntKind.i64 ((↑(fillS S 0).length : Int)))) ∧ ((Value.int IntKind.i64 (IntKind.i64.wrap ((↑x1.i : Int) + 1))) = (Value.int IntKind.i64 ((↑x'.i : Int)))) ∧ True) ∧ (True ∧ True ∧ True ∧ ((Value.int IntKind.u64 (S.reads)) = (Value.int IntKind.u64 (S.reads))) ∧ True) ∧ (True ∧ True ∧ True ∧ ((Value.int IntKind.u32 (S.fresh)) = (Value.int IntKind.u32 (S.fresh))) ∧ True) ∧
    ((S.nodes) = (S.nodes)) ∧ ((S.counts) = (S.counts)) ∧ ((S.used) = (S.used)) ∧ ((S.gen) = (S.gen)) ∧ ((S.rel) = (S.rel)) ∧ (True ∧ True ∧ True) ∧ (((fillS S x1.i).set (↑x1.i : Int).toNat { alloc := S.us (IntKind.u32.wrap (IntKind.i64.wrap ((↑x1.i : Int) + 1))), count := if S.us (IntKind.u32.wrap (IntKind.i64.wrap ((↑x1.i : Int) + 1))) = true then S.ct (IntKind.u32.wrap (IntKind.i64.wrap ((↑x1.i : Int) + 1))) else 0, gen := S.gn (IntKind.u32.wrap (IntKind.i64.wrap ((↑x1.i : Int) + 1))), node := S.nd (IntKind.u32.wrap (IntKind.i64.wrap ((↑x1.i : Int) + 1))) : SlotT }) = (fillS S x'.i)) ∧ ((orderOf S) = (orderOf S)) ∧ (True ∧ True ∧ True) ∧ ((([] : List SlotT) = [])) ∧ ((([] : List Int) = [])) ∧ True) ∧ (ncap S - x'.i < ncap S - x1.i))))) ((K (SV.one (TV.agg [(At.slc 7), (At.slc 8)])) [(Chunk.box [(At.ptr 1 0), (At.slc 2), (At.slc 3), (At.val (Value.int IntKind.u64 (S.reads)))]), (Chunk.box [(At.slc 4), (At.slc 5), (At.slc 6), (At.val (Value.int IntKind.u32 (S.fresh)))]), (Chunk.row true (EC.node) (S.nodes)), (Chunk.row true (EC.int) (S.counts)), (Chunk.row true (EC.bool) (S.used)), (Chunk.row true (EC.u32) (S.gen)), (Chunk.row true (EC.u32) (S.rel)), (Chunk.row true (EC.slot) (fillS S x1.i)), (Chunk.row true (EC.u32) (orderOf S))] []))))))))) = _ by kernel_rfl) ?_
  rw [bytes_slot]
  have hw0 := hw
  obtain ⟨hs, hw⟩ := hw
  have hn1 := hw.n1; have hn2 := hw.n2; have hnn := hw.nnod; have hfr := hw.fr; have hfree := hw.free_nonneg
  have hcap : S.cap = (ncap S : Int) := by unfold Arn.cap ncap; omega
  have hc1 : (ncap S : Int) + 1 = S.used.length := by unfold ncap; omega
  have z1 : List.replicate S.cap.toNat SlotT.zero = fillS S 0 := by rw [hcap, ← fill_zero]; rfl
  refine ⟨?_, fun x _ => ⟨⟨⟨0, Nat.zero_le _⟩, ?_⟩, fun y _ => brS_of (fun c => ?_) fun c => ?_⟩⟩
  · (repeat' first | exact trivial | exact hw0 | exact z1 | assumption | exact rfl | omega | refine And.intro ?_ ?_ | refine fun o ho => ?_ | refine ⟨(), ?_⟩)
  · (repeat' first | exact trivial | exact rfl | refine And.intro ?_ ?_)
  · rw [fill_len S 0 (Nat.zero_le _)] at c
    have c : y.i < ncap S := by have := of_decide_eq_true c; omega
    rw [wrap_id (x := (y.i : Int) + 1) (by omega) (by omega), wrap_u32 (by omega) (by omega)]
    refine ⟨by omega, by omega, by omega, by omega, hn2, ⟨by omega, by omega⟩, hw0, ⟨by omega, by omega⟩, hw0, by omega, by rw [fill_len S y.i y.h]; omega, ⟨y.i + 1, c⟩, trivial, ⟨⟨trivial, trivial, trivial, rfl, by congr 1, trivial⟩, ⟨trivial, trivial, trivial, rfl, trivial⟩, ⟨trivial, trivial, trivial, rfl, trivial⟩, rfl, rfl, rfl, rfl, rfl, ⟨trivial, trivial, trivial⟩, fill_next S c, rfl, ⟨trivial, trivial, trivial⟩, rfl, rfl, trivial⟩, ?_⟩
    show ncap S - (y.i + 1) < _; omega
  · rw [fill_len S 0 (Nat.zero_le _)] at c
    have c : y.i = ncap S := by have := of_decide_eq_false c; have := y.h; omega
    exact h _ _ (by rw [c, fill_all]) rfl
theorem s_dump : SoundT C0 21 tDump := by
  refine .of Try.func21 (by decide) rfl fun args H K h hB => ?_
  unfold tDump at h
  split at h <;> try exact h.elim
  unfold arM at h
  split at h <;> try exact h.elim
  rename_i rd fr nd ct us gn rl
  exact ⟨aDump ⟨us, gn, rl, fr, nd, ct, rd⟩, ⟨frame C0.ok s_cap _, frame C0.ok s_order _, frame C0.ok s_slAllocated _, frame C0.ok s_count _, frame C0.ok s_gen _, trivial⟩, vc_dump ⟨us, gn, rl, fr, nd, ct, rd⟩ K h.1 h.2⟩
end Go.Proofs.Ytmjnoiajenoinaa.Sx
end
section
/- A dump's allocated slots, edges, marks; the reference's Check; Sound. -/
namespace Go.Proofs.Ytmjnoiajenoinaa.Sx
open Go

/-KEEP Wf exW inU allU Arn.cap Arn.free alcD cntL kidsL slotsOf orderOf MarksR CleanD kidsU-/
def alcD (d : List SlotT) (i : Int) : Bool := decide (1 ≤ i) && (decide (i ≤ (d.length : Int)) && (d.getD (i - 1).toNat SlotT.zero).alloc)
def cntL (l : List Int) (n : Nat) : List Int := (List.range n).map fun (j : Nat) => ((l.count ((j : Int) + 1) : Nat) : Int)
def kidsL (d : List SlotT) : List Int := d.flatMap fun x => if x.alloc = true then [x.node.left, x.node.right] else []
def allU (l : List Int) : Prop := ∀ x ∈ l, inU x
def kidsU (d : List SlotT) : Prop := ∀ x ∈ d, inU x.node.left ∧ inU x.node.right
def mkd (m : List Bool) (i : Int) : Prop := 1 ≤ i ∧ m.getD (i - 1).toNat false = true
def sltD (d : List SlotT) (i : Int) : SlotT := d.getD (i - 1).toNat SlotT.zero
abbrev eS (d : List SlotT) (i : Nat) : SlotT := d.getD i SlotT.zero
structure MarksR (d : List SlotT) (roots : List Int) (m : List Bool) : Prop where
  len : m.length = d.length
  root : ∀ i ∈ roots, alcD d i = true → mkd m i
  left : ∀ i, mkd m i → alcD d (sltD d i).node.left = true → mkd m (sltD d i).node.left
  right : ∀ i, mkd m i → alcD d (sltD d i).node.right = true → mkd m (sltD d i).node.right
def szD (d : List SlotT) (i : Int) : Int := if alcD d i = true then (sltD d i).node.size else 0
structure CleanD (d : List SlotT) (fl roots : List Int) : Prop where
  free : ∀ i < d.length, fl.count ((i : Int) + 1) = if (d.getD i SlotT.zero).alloc = true then 0 else 1
  left : ∀ i < d.length, (d.getD i SlotT.zero).alloc = true → (d.getD i SlotT.zero).node.left = 0 ∨ alcD d (d.getD i SlotT.zero).node.left = true
  right : ∀ i < d.length, (d.getD i SlotT.zero).alloc = true → (d.getD i SlotT.zero).node.right = 0 ∨ alcD d (d.getD i SlotT.zero).node.right = true
  size : ∀ i < d.length, (d.getD i SlotT.zero).alloc = true → (d.getD i SlotT.zero).node.size = 1 + szD d (d.getD i SlotT.zero).node.left + szD d (d.getD i SlotT.zero).node.right
  zr : ∀ i < d.length, 0 ≤ (d.getD i SlotT.zero).node.size ∧ (d.getD i SlotT.zero).node.size ≤ 4294967296
  count : ∀ i < d.length, (d.getD i SlotT.zero).count = if (d.getD i SlotT.zero).alloc = true then ((kidsL d).count ((i : Int) + 1) : Int) + (roots.count ((i : Int) + 1) : Int) else 0
  mark : ∀ m, MarksR d roots m → ∀ i < d.length, (d.getD i SlotT.zero).alloc = true → m.getD i false = true
  rng : ∀ x ∈ fl, 1 ≤ x ∧ x ≤ d.length
  held : ∀ x ∈ roots, x = 0 ∨ alcD d x = true
def tAlc : Tfm C0 := fun args H K => match args, H with
  | [.agg [.slc 0, .slc 1], .at (.val (.int .u32 i))], [.row false .slot d, .row false .u32 fl] => inU i ∧ d.length ≤ 1000000 ∧ K (.one (.at (vB (alcD d i)))) [.row false EC.slot d, .row false EC.u32 fl] []
  | _, _ => False
def tKids : Tfm C0 := fun args H K => match args, H with
  | [.agg [.val (.bool _), .val (.int .i64 _), .val (.int .u32 _), .val (.int .i64 _), .val (.int .i64 _), .val (.int .u32 l), .val (.int .u32 r), .val (.int .i64 _), .val (.int .i64 _), .val (.int .i64 _), .val (.int .i64 _)]], [] => K (.one (.agg [vU l, vU r])) [] []
  | _, _ => False
structure XIx (n : Nat) where
  i : Nat
  h : i ≤ n
structure XIn (d : List SlotT) where
  i : Nat
  h : i < d.length
noncomputable def aInE (d : List SlotT) (fl : List Int) : Ann C0 := { Γ := [(113, frameT [] tKids)], rounds := fun n => if n = 7 then 3 else 0, inv := fun n => match n with
  | 3 => some { X := XIx d.length, sl := [4, 1, 3], tf := fun x => [vi .i64 x.i, .one (.at (.ptr 2 0)), .one (.at (.slc 3))], hf := fun x => [.row false EC.slot d, .row false EC.u32 fl, .box [.slc 0, .slc 1], .row true EC.int (cntL (kidsL (d.take x.i)) d.length)], μ := fun x => d.length - x.i }
  | 1004 => some { X := XIn d, sl := [4, 1, 3], tf := fun x => [vi .i64 x.i, .one (.at (.ptr 2 0)), .one (.at (.slc 3))], hf := fun x => [.row false EC.slot d, .row false EC.u32 fl, .box [.slc 0, .slc 1], .row true EC.int (cntL (kidsL (d.take (x.i + 1))) d.length)], rel := fun T _ z => slotI T 4 z.i }
  | _ => none }
def tInE : Tfm C0 := fun args H K => match args, H with
  | [.agg [.slc 0, .slc 1]], [.row false .slot d, .row false .u32 fl] => d.length ≤ 100000 ∧ kidsU d ∧ ∀ o, o = cntL (kidsL d) d.length → K (.one (.at (.slc 2))) [.row false EC.slot d, .row false EC.u32 fl, .row true EC.int o] []
  | _, _ => False
noncomputable def aCnt (l : List Int) (n : Int) : Ann C0 := { Γ := [], inv := fun k => match k with
  | 3 => some { X := XIx l.length, sl := [6, 5], tf := fun x => [vi .i64 x.i, .one (.at (.slc 1))], hf := fun x => [.row false EC.u32 l, .row true EC.int (cntL (l.take x.i) n.toNat)], μ := fun x => l.length - x.i }
  | _ => none }
def tCnt : Tfm C0 := fun args H K => match args, H with
  | [.at (.slc 0), .at (.val (.int .i64 n))], [.row false .u32 l] => 0 ≤ n ∧ n ≤ 100000 ∧ l.length ≤ 1000000 ∧ allU l ∧ ∀ o, o = cntL l n.toNat → K (.one (.at (.slc 1))) [.row false EC.u32 l, .row true EC.int o] []
  | _, _ => False
structure XMks (P : List Bool → List Int → Prop) where
  m : List Bool
  w : List Int
  h : P m w
noncomputable def aMk (P : List Bool → List Int → Prop) (d : List SlotT) (fl roots : List Int) : Ann C0 := { Γ := [(23, frameT [] tAlc), (113, frameT [] tKids)], trunc := fun n => n = 28, inv := fun k => match k with
  | 3 => some { X := XMks P, sl := [2, 5, 6], tf := fun _ => [.one (.at (.ptr 3 0)), .one (.at (.slc 4)), .one (.at (.slc 5))], hf := fun x => [.row false EC.slot d, .row false EC.u32 fl, .row false EC.u32 roots, .box [.slc 0, .slc 1], .row true EC.bool x.m, .row true EC.u32 x.w], μ := fun x => x.w.length + 3 * x.m.count false }
  | _ => none }
def tMk : Tfm C0 := fun args H K => match args, H with
  | [.agg [.slc 0, .slc 1], .at (.slc 2)], [.row false .slot d, .row false .u32 fl, .row false .u32 roots] => d.length ≤ 100000 ∧ roots.length ≤ 1000000 ∧ kidsU d ∧ allU roots ∧ ∀ m, MarksR d roots m → K (.one (.at (.slc 3))) [.row false EC.slot d, .row false EC.u32 fl, .row false EC.u32 roots, .row true EC.bool m] []
  | _, _ => False
theorem alcD_at {d : List SlotT} {i : Int} (h1 : 1 ≤ i) (h2 : i ≤ (d.length : Int)) : alcD d i = (d.getD (i - 1).toNat SlotT.zero).alloc := by simp [alcD, h1, h2]
theorem alcD_lo {d : List SlotT} {i : Int} (h : ¬ 1 ≤ i) : alcD d i = false := by simp [alcD, h]
theorem alcD_hi {d : List SlotT} {i : Int} (h : ¬ i ≤ (d.length : Int)) : alcD d i = false := by simp [alcD, h]
theorem alcD_rng {d : List SlotT} {i : Int} (h : alcD d i = true) : 1 ≤ i ∧ i ≤ (d.length : Int) := by simp [alcD] at h; exact ⟨h.1, h.2.1⟩
theorem vc_alc (d : List SlotT) (fl : List Int) (i : Int) (K : KT) (h1 : inU i) (h2 : d.length ≤ 1000000) (h : K (.one (.at (vB (alcD d i)))) [.row false EC.slot d, .row false EC.u32 fl] []) :
    vc C0 A0 Try.f23 [.agg [.slc 0, .slc 1], .at (vU i)] [.row false EC.slot d, .row false EC.u32 fl] (normK 2 K) := by
  refine Eq.mp (show (brS (decide (i ≥ 1)) ((brS (decide (IntKind.u64.wrap i ≤ IntKind.u64.wrap (↑d.length : Int))) (((0 ≤ IntKind.u32.wrap (i - 1)) ∧ (IntKind.u32.wrap (i - 1) < (↑d.length : Int)) ∧ (K (SV.one (TV.at (At.val (Value.bool ((d.getD (IntKind.u32.wrap (i - 1)).toNat { alloc := false, count := 0, gen := 0, node := { key := 0, value := 0, left := 0, right := 0, size := 0, sum := 0, min := 0, max := 0 : NodeT } : SlotT }).alloc))))) [(Chunk.row false (EC.slot) (d)), (Chunk.row false (EC.u32) (fl))] []))) ((K (SV.one (TV.at (At.val (Value.bool false)))) [(Chunk.row false (EC.slot) (d)), (Chunk.row false (EC.u32) (fl))] [])))) ((K (SV.one (TV.at (At.val (Value.bool false)))) [(Chunk.row false (EC.slot) (d)), (Chunk.row false (EC.u32) (fl))] []))) = _ by kernel_rfl) ?_
  obtain ⟨ha, hb⟩ := h1
  rw [wrap_u64 (x := i) ha (by omega), wrap_u64 (x := (d.length : Int)) (by omega) (by omega)]
  refine brS_of (fun c => ?_) fun c => ?_
  · have c : 1 ≤ i := by have := of_decide_eq_true c; omega
    rw [wrap_u32 (by omega) (by omega)]
    refine brS_of (fun e => ?_) fun e => ?_
    · have e : i ≤ (d.length : Int) := of_decide_eq_true e
      rw [alcD_at c e] at h
      exact ⟨by omega, by omega, h⟩
    · rw [alcD_hi (of_decide_eq_false e)] at h; exact h
  · rw [alcD_lo (by have := of_decide_eq_false c; omega)] at h; exact h
theorem s_alc : SoundT C0 23 tAlc := by
  refine .of Try.func23 (by decide) rfl fun args H K h hB => ?_
  unfold tAlc at h
  split at h <;> try exact h.elim
  rename_i i d fl
  exact ⟨A0, trivial, vc_alc d fl i K h.1 h.2.1 h.2.2⟩
theorem vc_kids (al : Bool) (c g k v l r s sm mn mx : Int) (K : KT) (h : K (.one (.agg [vU l, vU r])) [] []) :
    vc C0 A0 Try.f113 [.agg [.val (.bool al), .val (.int .i64 c), .val (.int .u32 g), vI k, vI v, vU l, vU r, vI s, vI sm, vI mn, vI mx]] [] (normK 0 K) := by
  refine Eq.mp (show (K (SV.one (TV.agg [(At.val (Value.int IntKind.u32 (l))), (At.val (Value.int IntKind.u32 (r)))])) [] []) = _ by kernel_rfl) ?_
  exact h
theorem s_kids : SoundT C0 113 tKids := by
  refine .of Try.func113 (by decide) rfl fun args H K h hB => ?_
  unfold tKids at h
  split at h <;> try exact h.elim
  exact ⟨A0, trivial, vc_kids _ _ _ _ _ _ _ _ _ _ _ K h⟩
theorem cntL_len (l : List Int) (n : Nat) : (cntL l n).length = n := by simp [cntL]
theorem cntL_nil (n : Nat) : List.replicate n (0 : Int) = cntL [] n := by
  unfold cntL
  refine List.ext_getElem (by simp) fun i h1 h2 => by simp
theorem cntL_get (l : List Int) (n j : Nat) (h : j < n) : (cntL l n).getD j 0 = ((l.count ((j : Int) + 1) : Nat) : Int) := by
  unfold cntL
  simp [List.getD_eq_getElem?_getD, h]
theorem cntL_snoc_in {l : List Int} {n : Nat} {x : Int} (h1 : 1 ≤ x) (h2 : x ≤ n) : (cntL l n).set (x - 1).toNat ((cntL l n).getD (x - 1).toNat 0 + 1) = cntL (l ++ [x]) n := by
  rw [cntL_get l n _ (by omega)]
  unfold cntL
  refine List.ext_getElem (by simp) fun i h3 h4 => ?_
  simp only [List.getElem_set, List.getElem_map, List.getElem_range, List.count_append]
  by_cases e : (x - 1).toNat = i
  · rw [if_pos e]
    have ex : ((i : Int) + 1) = x := by omega
    have ey : (((x - 1).toNat : Int) + 1) = x := by omega
    rw [ex, ey]; simp
  · rw [if_neg e]
    have : [x].count ((i : Int) + 1) = 0 := List.count_eq_zero.2 (by simp; omega)
    rw [this]; simp
theorem cntL_snoc_out {l : List Int} {n : Nat} {x : Int} (h : ¬ (1 ≤ x ∧ x ≤ n)) : cntL (l ++ [x]) n = cntL l n := by
  unfold cntL
  refine List.map_congr_left fun i hi => ?_
  have hi : i < n := List.mem_range.1 hi
  have : [x].count ((i : Int) + 1) = 0 := List.count_eq_zero.2 (by simp; omega)
  rw [List.count_append, this]; simp
theorem takeD_snoc {α : Type} {l : List α} {i : Nat} {dft : α} (h : i < l.length) : l.take (i + 1) = l.take i ++ [l.getD i dft] := by
  rw [List.take_add_one, List.getD_eq_getElem?_getD, List.getElem?_eq_getElem h]; rfl
theorem cntL_rng (l : List Int) (n j : Nat) (h : j < n) : 0 ≤ (cntL l n).getD j 0 ∧ (cntL l n).getD j 0 ≤ l.length := by
  rw [cntL_get l n j h]
  have := List.count_le_length (a := (j : Int) + 1) (l := l)
  omega
theorem vc_cnt (l : List Int) (n : Int) (K : KT) (h1 : 0 ≤ n) (h2 : n ≤ 100000) (h3 : l.length ≤ 1000000) (h4 : ∀ x ∈ l, inU x) (h : ∀ o, o = cntL l n.toNat → K (.one (.at (.slc 1))) [.row false EC.u32 l, .row true EC.int o] []) :
    vc C0 (aCnt l n) Try.f139 [.at (.slc 0), .at (vI n)] [.row false EC.u32 l] (normK 1 K) := by
  refine Eq.mp (show ((0 ≤ n) ∧
(n ≤ n) ∧
(n * (↑(bytesOf C0 EC.int) : Int) ≤ 140737488355328) ∧
(∃ x : XIx l.length, (True ∧ (True ∧ ((Value.int IntKind.i64 (n)) = (Value.int IntKind.i64 (n))) ∧ True ∧ ((Value.int IntKind.i64 0) = (Value.int IntKind.i64 ((↑x.i : Int)))) ∧ True) ∧ ((l) = (l)) ∧ ((List.replicate n.toNat 0) = (cntL (List.take x.i l) n.toNat)) ∧ True)) ∧
(∀ x : XIx l.length, (True → (brS (decide ((↑x.i : Int) < (↑l.length : Int))) (((0 ≤ (↑x.i : Int)) ∧ ((↑x.i : Int) < (↑l.length : Int)) ∧ (brS (decide (l.getD (↑x.i : Int).toNat 0 ≥ 1)) (((0 ≤ (↑x.i : Int)) ∧ ((↑x.i : Int) < (↑l.length : Int)) ∧ (brS (decide (IntKind.u64.wrap (l.getD (↑x.i : Int).toNat 0) ≤ IntKind.u64.wrap n)) (((0 ≤ (↑x.i : Int)) ∧ ((↑x.i : Int) < (↑l.length : Int)) ∧ (0 ≤ IntKind.u32.wrap (l.getD (↑x.i : Int).toNat 0 - 1)) ∧ (IntKind.u32.wrap (l.getD (↑x.i : Int).toNat 0 - 1) < (↑(cntL (List.take x.i l) n.toNat).length : Int)) ∧ (0 ≤ IntKind.u32.wrap (l.getD (↑x.i : Int).toNat 0 - 1)) ∧ (IntKind.u32.wrap (l.getD (↑x.i : Int).toNat 0 - 1) < (↑(cntL (List.take x.i l) n.toNat).length : Int)) ∧ (∃ x' : XIx l.length, (True ∧ ((True ∧ ((Value.int IntKind.i64 (n)) = (Value.int IntKind.i64 (n))) ∧ True ∧ ((Value.int IntKind.i64 (IntKind.i64.wrap ((↑x.i : Int) + 1))) = (Value.int IntKind.i64 ((↑x'.i : Int)))) ∧ True) ∧ ((l) = (l)) ∧
    (((cntL (List.take x.i l) n.toNat).set (IntKind.u32.wrap (l.getD (↑x.i : Int).toNat 0 - 1)).toNat (IntKind.i64.wrap ((cntL (List.take x.i l) n.toNat).getD (IntKind.u32.wrap (l.getD (↑x.i : Int).toNat 0 - 1)).toNat 0 + 1))) = (cntL (List.take x'.i l) n.toNat)) ∧ True) ∧ (l.length - x'.i < l.length - x.i))))) ((∃ x' : XIx l.length, (True ∧ ((True ∧ ((Value.int IntKind.i64 (n)) = (Value.int IntKind.i64 (n))) ∧ True ∧ ((Value.int IntKind.i64 (IntKind.i64.wrap ((↑x.i : Int) + 1))) = (Value.int IntKind.i64 ((↑x'.i : Int)))) ∧ True) ∧ ((l) = (l)) ∧ ((cntL (List.take x.i l) n.toNat) = (cntL (List.take x'.i l) n.toNat)) ∧ True) ∧ (l.length - x'.i < l.length - x.i))))))) ((∃ x' : XIx l.length, (True ∧ ((True ∧ ((Value.int IntKind.i64 (n)) = (Value.int IntKind.i64 (n))) ∧ True ∧ ((Value.int IntKind.i64 (IntKind.i64.wrap ((↑x.i : Int) + 1))) = (Value.int IntKind.i64 ((↑x'.i : Int)))) ∧ True) ∧ ((l) = (l)) ∧ ((cntL (List.take x.i l) n.toNat) = (cntL (List.take x'.i l) n.toNat)) ∧ True) ∧ (l.length - x'.i < l.length - x.i))))))) ((K (SV.one (TV.at (At.slc 1))) [(Chunk.row false (EC.u32) (l)), (Chunk.row true (EC.int) (cntL (List.take x.i l) n.toNat))] [])))))) = _ by kernel_rfl) ?_
  rw [bytes_int]
  refine ⟨h1, Int.le_refl _, by omega, ⟨⟨0, Nat.zero_le _⟩, ⟨trivial, ⟨trivial, rfl, trivial, rfl, trivial⟩, rfl, cntL_nil _, trivial⟩⟩, fun x _ => brS_of (fun c => ?_) fun c => ?_⟩
  · have c : x.i < l.length := by have := of_decide_eq_true c; omega
    have hx : l.getD x.i 0 ∈ l := by rw [List.getD_eq_getElem?_getD, List.getElem?_eq_getElem c]; exact List.getElem_mem c
    have hu := h4 _ hx
    have ts := takeD_snoc (dft := (0 : Int)) c
    rw [show ((x.i : Int)).toNat = x.i from rfl]
    generalize l.getD x.i 0 = v at *
    obtain ⟨u1, u2⟩ := hu
    rw [wrap_u64 (x := v) u1 (by omega), wrap_u64 (x := n) h1 (by omega), wrap_id (x := (x.i : Int) + 1) (by omega) (by omega)]
    have hne : ∀ (w : List Int), w = cntL (l.take (x.i + 1)) n.toNat → (∃ x' : XIx l.length, (True ∧ ((True ∧ ((Value.int IntKind.i64 (n)) = (Value.int IntKind.i64 (n))) ∧ True ∧ ((Value.int IntKind.i64 ((x.i : Int) + 1)) = (Value.int IntKind.i64 ((↑x'.i : Int)))) ∧ True) ∧ ((l) = (l)) ∧ (w = (cntL (List.take x'.i l) n.toNat)) ∧ True) ∧ (l.length - x'.i < l.length - x.i))) := fun w hw => ⟨⟨x.i + 1, c⟩, trivial, ⟨⟨trivial, rfl, trivial, rfl, trivial⟩, rfl, hw, trivial⟩, by show l.length - (x.i + 1) < _; omega⟩
    refine ⟨by omega, by omega, brS_of (fun e => ?_) fun e => ?_⟩
    · have e : 1 ≤ v := by have := of_decide_eq_true e; omega
      refine ⟨by omega, by omega, brS_of (fun f => ?_) fun f => ?_⟩
      · have f : v ≤ n := of_decide_eq_true f
        have hr := cntL_rng (l.take x.i) n.toNat (v - 1).toNat (by omega)
        have hl : (l.take x.i).length ≤ l.length := by simp; omega
        rw [wrap_u32 (x := v - 1) (by omega) (by omega), cntL_len]
        rw [wrap_id (x := (cntL (l.take x.i) n.toNat).getD (v - 1).toNat 0 + 1) (by omega) (by omega)]
        refine ⟨by omega, by omega, by omega, by omega, by omega, by omega, hne _ ?_⟩
        rw [ts]; exact cntL_snoc_in e (by omega)
      · refine hne _ ?_
        rw [ts, cntL_snoc_out]
        have := of_decide_eq_false f; omega
    · refine hne _ ?_
      rw [ts, cntL_snoc_out]
      have := of_decide_eq_false e; omega
  · have c : x.i = l.length := by have := of_decide_eq_false c; have := x.h; omega
    exact h _ (by rw [c, List.take_length])
theorem s_cnt : SoundT C0 139 tCnt := by
  refine .of Try.func139 (by decide) rfl fun args H K h hB => ?_
  unfold tCnt at h
  split at h <;> try exact h.elim
  rename_i n l
  exact ⟨aCnt l n, trivial, vc_cnt l n K h.1 h.2.1 h.2.2.1 h.2.2.2.1 h.2.2.2.2⟩
structure PMk (d : List SlotT) (roots : List Int) (m : List Bool) (w : List Int) : Prop where
  len : m.length = d.length
  u : ∀ x ∈ w, inU x
  wl : w.length + 2 * m.count false ≤ roots.length + 2 * d.length
  root : ∀ i ∈ roots, alcD d i = true → mkd m i ∨ i ∈ w
  left : ∀ i, mkd m i → alcD d (sltD d i).node.left = true → mkd m (sltD d i).node.left ∨ (sltD d i).node.left ∈ w
  right : ∀ i, mkd m i → alcD d (sltD d i).node.right = true → mkd m (sltD d i).node.right ∨ (sltD d i).node.right ∈ w
theorem PMk.start (d : List SlotT) (roots : List Int) (h : ∀ x ∈ roots, inU x) : PMk d roots (List.replicate d.length false) roots := by
  have z : ∀ i, ¬ mkd (List.replicate d.length false) i := fun i hi => by
    have := hi.2
    rw [getD_replicate] at this; cases this
  exact ⟨by simp, h, by simp, fun i hi _ => .inr hi, fun i hi => (z i hi).elim, fun i hi => (z i hi).elim⟩
theorem PMk.done {d : List SlotT} {roots : List Int} {m : List Bool} (h : PMk d roots m []) : MarksR d roots m :=
  ⟨h.len, fun i a b => (h.root i a b).resolve_right (by simp), fun i a b => (h.left i a b).resolve_right (by simp), fun i a b => (h.right i a b).resolve_right (by simp)⟩
/-- What was taken from the work needs no mark: it is marked, or not allocated. -/
theorem PMk.skip {d : List SlotT} {roots : List Int} {m : List Bool} {w : List Int} {x : Int} (h : PMk d roots m (w ++ [x])) (hx : alcD d x = true → mkd m x) : PMk d roots m w := by
  have key : ∀ j, alcD d j = true → mkd m j ∨ j ∈ w ++ [x] → mkd m j ∨ j ∈ w := fun j ha hj => by
    rcases hj with hj | hj
    · exact .inl hj
    · rcases List.mem_append.1 hj with hj | hj
      · exact .inr hj
      · have e : j = x := by simpa using hj
        subst e; exact .inl (hx ha)
  refine ⟨h.len, fun y hy => h.u y (by simp [hy]), by have := h.wl; simp at this; omega, fun i a b => key i b (h.root i a b), fun i a b => key _ b (h.left i a b), fun i a b => key _ b (h.right i a b)⟩
theorem count_mark {m : List Bool} {k : Nat} (h1 : k < m.length) (h2 : m.getD k false = false) : (m.set k true).count false + 1 = m.count false := by
  have := countP_set' (fun b : Bool => b == false) m k true false h1
  rw [h2] at this
  simpa [List.count] using this
theorem PMk.mark {d : List SlotT} {roots : List Int} {m : List Bool} {w : List Int} {x : Int} (h : PMk d roots m (w ++ [x])) (hx : alcD d x = true) (hm : m.getD (x - 1).toNat false = false) (hk : inU (sltD d x).node.left ∧ inU (sltD d x).node.right) :
    PMk d roots (m.set (x - 1).toNat true) (w ++ [(sltD d x).node.left, (sltD d x).node.right]) := by
  obtain ⟨x1, x2⟩ := alcD_rng hx
  have hl := h.len
  have hs : ∀ j, mkd (m.set (x - 1).toNat true) j ↔ j = x ∨ mkd m j := fun j => by
    unfold mkd
    rw [getD_set]
    constructor
    · rintro ⟨a, b⟩
      by_cases e : j = x
      · exact .inl e
      · rw [if_neg (by omega)] at b; exact .inr ⟨a, b⟩
    · rintro (e | ⟨a, b⟩)
      · subst e; exact ⟨x1, by rw [if_pos ⟨rfl, by omega⟩]⟩
      · refine ⟨a, ?_⟩
        split
        · rfl
        · exact b
  have key : ∀ j, mkd m j ∨ j ∈ w ++ [x] → mkd (m.set (x - 1).toNat true) j ∨ j ∈ w ++ [(sltD d x).node.left, (sltD d x).node.right] := fun j hj => by
    rw [hs]
    rcases hj with hj | hj
    · exact .inl (.inr hj)
    · rcases List.mem_append.1 hj with hj | hj
      · exact .inr (by simp [hj])
      · exact .inl (.inl (by simpa using hj))
  have hc := count_mark (m := m) (k := (x - 1).toNat) (by omega) hm
  have l1 : (w ++ [(sltD d x).node.left, (sltD d x).node.right]).length = w.length + 2 := by simp
  have l2 : (w ++ [x]).length = w.length + 1 := by simp
  refine ⟨by simp [hl], fun y hy => ?_, by have := h.wl; omega, fun i a b => key i (h.root i a b), fun i a b => ?_, fun i a b => ?_⟩
  · simp at hy
    rcases hy with hy | hy | hy
    · exact h.u y (by simp [hy])
    · subst hy; exact hk.1
    · subst hy; exact hk.2
  · rcases (hs i).1 a with e | e
    · subst e; exact .inr (by simp)
    · exact key _ (h.left i e b)
  · rcases (hs i).1 a with e | e
    · subst e; exact .inr (by simp)
    · exact key _ (h.right i e b)
theorem vc_mk (d : List SlotT) (fl roots : List Int) (K : KT) (h1 : d.length ≤ 100000) (h2 : roots.length ≤ 1000000) (h3 : kidsU d) (h4 : ∀ x ∈ roots, inU x) (h : ∀ m, MarksR d roots m → K (.one (.at (.slc 3))) [.row false EC.slot d, .row false EC.u32 fl, .row false EC.u32 roots, .row true EC.bool m] []) :
    vc C0 (aMk (PMk d roots) d fl roots) Try.f138 [.agg [.slc 0, .slc 1], .at (.slc 2)] [.row false EC.slot d, .row false EC.u32 fl, .row false EC.u32 roots] (normK 3 K) := by
  generalize hP : PMk d roots = P
  refine Eq.mp (show ((0 ≤ (↑d.length : Int)) ∧
((↑d.length : Int) ≤ (↑d.length : Int)) ∧
((↑d.length : Int) * (↑(bytesOf C0 EC.bool) : Int) ≤ 140737488355328) ∧
((([] : List Ent).length + roots.length) * bytesOf C0 EC.u32 ≤ 140737488355328) ∧
(∃ x : XMks P, (True ∧ (True ∧ True ∧ True ∧ True) ∧ ((d) = (d)) ∧ ((fl) = (fl)) ∧ ((roots) = (roots)) ∧ (True ∧ True ∧ True) ∧ ((List.replicate (↑d.length : Int).toNat false) = (x.m)) ∧ (([] ++ roots) = (x.w)) ∧ True)) ∧
(∀ x : XMks P, (True → (brS (decide ((↑x.w.length : Int) > 0)) (((0 ≤ IntKind.i64.wrap ((↑x.w.length : Int) - 1)) ∧ (IntKind.i64.wrap ((↑x.w.length : Int) - 1) < (↑x.w.length : Int)) ∧ (0 ≤ IntKind.i64.wrap ((↑x.w.length : Int) - 1)) ∧ (IntKind.i64.wrap ((↑x.w.length : Int) - 1) ≤ (↑x.w.length : Int)) ∧ (inU (x.w.getD (IntKind.i64.wrap ((↑x.w.length : Int) - 1)).toNat 0)) ∧ (d.length ≤ 1000000) ∧ (brS (!alcD d (x.w.getD (IntKind.i64.wrap ((↑x.w.length : Int) - 1)).toNat 0)) ((∃ x' : XMks P, (True ∧ ((True ∧ True ∧ True ∧ True) ∧ ((d) = (d)) ∧ ((fl) = (fl)) ∧ ((roots) = (roots)) ∧ (True ∧ True ∧ True) ∧ ((x.m) = (x'.m)) ∧ ((List.take (IntKind.i64.wrap ((↑x.w.length : Int) - 1)).toNat x.w) = (x'.w)) ∧ True) ∧ (x'.w.length + 3 * List.count false x'.m < x.w.length + 3 * List.count false x.m)))) (((0 ≤ IntKind.u32.wrap (x.w.getD (IntKind.i64.wrap ((↑x.w.length : Int) - 1)).toNat 0 - 1)) ∧ (IntKind.u32.wrap (x.w.getD (IntKind.i64.wrap ((↑x.w.length : Int) - 1)).toNat 0 - 1) < (↑x.m.length : Int)) ∧
    (brS (x.m.getD (IntKind.u32.wrap (x.w.getD (IntKind.i64.wrap ((↑x.w.length : Int) - 1)).toNat 0 - 1)).toNat false) ((∃ x' : XMks P, (True ∧ ((True ∧ True ∧ True ∧ True) ∧ ((d) = (d)) ∧ ((fl) = (fl)) ∧ ((roots) = (roots)) ∧ (True ∧ True ∧ True) ∧ ((x.m) = (x'.m)) ∧ ((List.take (IntKind.i64.wrap ((↑x.w.length : Int) - 1)).toNat x.w) = (x'.w)) ∧ True) ∧ (x'.w.length + 3 * List.count false x'.m < x.w.length + 3 * List.count false x.m)))) (((0 ≤ IntKind.u32.wrap (x.w.getD (IntKind.i64.wrap ((↑x.w.length : Int) - 1)).toNat 0 - 1)) ∧ (IntKind.u32.wrap (x.w.getD (IntKind.i64.wrap ((↑x.w.length : Int) - 1)).toNat 0 - 1) < (↑x.m.length : Int)) ∧ (0 ≤ IntKind.u32.wrap (x.w.getD (IntKind.i64.wrap ((↑x.w.length : Int) - 1)).toNat 0 - 1)) ∧ (IntKind.u32.wrap (x.w.getD (IntKind.i64.wrap ((↑x.w.length : Int) - 1)).toNat 0 - 1) < (↑d.length : Int)) ∧ ((0 : Int) ≤ 0) ∧ (0 < ((2 : Nat) : Int)) ∧ ((0 : Int) ≤ 1) ∧ (1 < ((2 : Nat) : Int)) ∧
    (((List.take (IntKind.i64.wrap ((↑x.w.length : Int) - 1)).toNat x.w).length + [(d.getD (IntKind.u32.wrap (x.w.getD (IntKind.i64.wrap ((↑x.w.length : Int) - 1)).toNat 0 - 1)).toNat { alloc := false, count := 0, gen := 0, node := { key := 0, value := 0, left := 0, right := 0, size := 0, sum := 0, min := 0, max := 0 : NodeT } : SlotT }).node.left, (d.getD (IntKind.u32.wrap (x.w.getD (IntKind.i64.wrap ((↑x.w.length : Int) - 1)).toNat 0 - 1)).toNat { alloc := false, count := 0, gen := 0, node := { key := 0, value := 0, left := 0, right := 0, size := 0, sum := 0, min := 0, max := 0 : NodeT } : SlotT }).node.right].length) * bytesOf C0 EC.u32 ≤ 140737488355328) ∧ (∃ x' : XMks P, (True ∧ ((True ∧ True ∧ True ∧ True) ∧ ((d) = (d)) ∧ ((fl) = (fl)) ∧ ((roots) = (roots)) ∧ (True ∧ True ∧ True) ∧ ((x.m.set (IntKind.u32.wrap (x.w.getD (IntKind.i64.wrap ((↑x.w.length : Int) - 1)).toNat 0 - 1)).toNat true) = (x'.m)) ∧
    ((List.take (IntKind.i64.wrap ((↑x.w.length : Int) - 1)).toNat x.w ++ [(d.getD (IntKind.u32.wrap (x.w.getD (IntKind.i64.wrap ((↑x.w.length : Int) - 1)).toNat 0 - 1)).toNat { alloc := false, count := 0, gen := 0, node := { key := 0, value := 0, left := 0, right := 0, size := 0, sum := 0, min := 0, max := 0 : NodeT } : SlotT }).node.left, (d.getD (IntKind.u32.wrap (x.w.getD (IntKind.i64.wrap ((↑x.w.length : Int) - 1)).toNat 0 - 1)).toNat { alloc := false, count := 0, gen := 0, node := { key := 0, value := 0, left := 0, right := 0, size := 0, sum := 0, min := 0, max := 0 : NodeT } : SlotT }).node.right]) = (x'.w)) ∧ True) ∧ (x'.w.length + 3 * List.count false x'.m < x.w.length + 3 * List.count false x.m))))))))))) ((K (SV.one (TV.at (At.slc 3))) [(Chunk.row false (EC.slot) (d)), (Chunk.row false (EC.u32) (fl)), (Chunk.row false (EC.u32) (roots)), (Chunk.row true (EC.bool) (x.m))] [])))))) = _ by kernel_rfl) ?_
  subst hP
  rw [bytes_bool, bytes_u32]
  refine ⟨by omega, Int.le_refl _, by omega, by simp; omega, ⟨⟨_, _, PMk.start d roots h4⟩, ⟨trivial, ⟨trivial, trivial, trivial, trivial⟩, rfl, rfl, rfl, ⟨trivial, trivial, trivial⟩, rfl, rfl, trivial⟩⟩, fun x _ => ?_⟩
  obtain ⟨m, w, hp⟩ := x
  dsimp only
  refine brS_of (fun c => ?_) fun c => ?_
  · have c : 0 < w.length := by have := of_decide_eq_true c; omega
    have hwl := hp.wl
    have hml := hp.len
    have ew := list_last (d := (0 : Int)) c
    rw [wrap_id (x := (w.length : Int) - 1) (by omega) (by omega), show ((w.length : Int) - 1).toNat = w.length - 1 by omega]
    have lw : (w.take (w.length - 1)).length + 1 = w.length := by simp; omega
    have hux : inU (w.getD (w.length - 1) 0) := hp.u _ (by rw [← ew]; simp)
    generalize w.getD (w.length - 1) 0 = v at *
    generalize w.take (w.length - 1) = q at *
    subst ew
    refine ⟨by omega, by omega, by omega, by omega, hux, by omega, brS_of (fun e => ?_) fun e => ?_⟩
    · have e : alcD d v = false := by simpa using e
      refine ⟨⟨m, q, hp.skip (by rw [e]; intro z; cases z)⟩, trivial, ⟨⟨trivial, trivial, trivial, trivial⟩, rfl, rfl, rfl, ⟨trivial, trivial, trivial⟩, rfl, rfl, trivial⟩, ?_⟩
      show q.length + 3 * m.count false < _
      simp
    · have e : alcD d v = true := by simpa using e
      obtain ⟨v1, v2⟩ := alcD_rng e
      rw [wrap_u32 (x := v - 1) (by omega) (by omega)]
      refine ⟨by omega, by omega, brS_of (fun f => ?_) fun f => ?_⟩
      · refine ⟨⟨m, q, hp.skip fun _ => ⟨v1, f⟩⟩, trivial, ⟨⟨trivial, trivial, trivial, trivial⟩, rfl, rfl, rfl, ⟨trivial, trivial, trivial⟩, rfl, rfl, trivial⟩, ?_⟩
        show q.length + 3 * m.count false < _
        simp
      · have hd : (v - 1).toNat < d.length := by omega
        have hmem : sltD d v ∈ d := by unfold sltD; rw [List.getD_eq_getElem?_getD, List.getElem?_eq_getElem hd]; exact List.getElem_mem hd
        have hc := count_mark (m := m) (k := (v - 1).toNat) (by omega) f
        have hb : m.count false ≤ m.length := List.count_le_length
        have l2 : (q ++ [v]).length = q.length + 1 := by simp
        have l3 : (q ++ [(sltD d v).node.left, (sltD d v).node.right]).length = q.length + 2 := by simp
        refine ⟨by omega, by omega, by omega, by omega, by decide, by decide, by decide, by decide, (show (q.length + 2) * 4 ≤ 140737488355328 by omega), ⟨_, _, hp.mark e f (h3 _ hmem)⟩, trivial, ⟨⟨trivial, trivial, trivial, trivial⟩, rfl, rfl, rfl, ⟨trivial, trivial, trivial⟩, rfl, rfl, trivial⟩, ?_⟩
        show (q ++ [(sltD d v).node.left, (sltD d v).node.right]).length + 3 * (m.set (v - 1).toNat true).count false < (q ++ [v]).length + 3 * m.count false
        omega
  · have c : w = [] := by have := of_decide_eq_false c; exact List.length_eq_zero_iff.1 (by omega)
    subst c
    exact h m hp.done
theorem s_mk : SoundT C0 138 tMk := by
  refine .of Try.func138 (by decide) rfl fun args H K h hB => ?_
  unfold tMk at h
  split at h <;> try exact h.elim
  rename_i d fl roots
  exact ⟨aMk (PMk d roots) d fl roots, ⟨frame C0.ok s_alc _, frame C0.ok s_kids _, trivial⟩, vc_mk d fl roots K h.1 h.2.1 h.2.2.1 h.2.2.2.1 h.2.2.2.2⟩
/-! ### The plain law: a whole arena's dump is clean. -/
theorem slotsOf_len (S : Arn) : (slotsOf S).length = ncap S := by simp [slotsOf]
theorem slotsOf_get (S : Arn) {i : Nat} (h : i < ncap S) : (slotsOf S).getD i SlotT.zero = slotAt S i := by
  simp [slotsOf, List.getD_eq_getElem?_getD, h]
theorem us_hi {S : Arn} {i : Int} (h : (ncap S : Int) < i) : S.us i = false := by
  cases hb : S.us i with
  | false => rfl
  | true => have := getD_false hb; unfold ncap at h; omega
theorem alcD_slots {S : Arn} {hs : List Int} (w : Wf S hs) (i : Int) : alcD (slotsOf S) i = S.us i := by
  by_cases h1 : 1 ≤ i
  · by_cases h2 : i ≤ (ncap S : Int)
    · rw [alcD_at h1 (by rw [slotsOf_len]; exact h2), slotsOf_get S (by omega)]
      show S.us _ = S.us i
      congr 1; omega
    · rw [alcD_hi (by rw [slotsOf_len]; exact h2), us_hi (by omega)]
  · rw [alcD_lo h1, w.us0 (by omega)]
theorem sltD_slots {S : Arn} {hs : List Int} (w : Wf S hs) {i : Int} (h : S.us i = true) : (sltD (slotsOf S) i).node = S.nd i := by
  have hp := w.pos h
  have h2 : (i - 1).toNat < ncap S := by unfold ncap; omega
  unfold sltD
  rw [slotsOf_get S h2]
  show S.nd _ = S.nd i
  congr 1; omega
theorem szD_slots {S : Arn} {hs : List Int} (w : Wf S hs) (i : Int) : szD (slotsOf S) i = (S.nd i).size := by
  unfold szD
  rw [alcD_slots w]
  cases hb : S.us i with
  | false => rw [w.zero i hb]; rfl
  | true => rw [if_pos rfl, sltD_slots w hb]
theorem mem_upTo {fr : Int} {n : Nat} {x : Int} : x ∈ upTo fr n ↔ fr + 1 ≤ x ∧ x ≤ fr + n := by
  unfold upTo
  simp only [List.mem_map, List.mem_range]
  constructor
  · rintro ⟨k, hk, rfl⟩; omega
  · rintro ⟨h1, h2⟩; exact ⟨(x - fr - 1).toNat, by omega, by omega⟩
theorem upTo_nodup (fr : Int) (n : Nat) : (upTo fr n).Nodup := by
  unfold upTo
  refine List.pairwise_map.2 (List.nodup_range.imp fun h e => h (by omega))
theorem order_mem {S : Arn} {hs : List Int} (w : Wf S hs) (x : Int) : x ∈ orderOf S ↔ (1 ≤ x ∧ x ≤ (ncap S : Int)) ∧ S.us x = false := by
  have hfr := w.fr
  unfold orderOf orderL
  rw [List.mem_append, List.mem_reverse, mem_upTo]
  have hn : (ncap S : Int) = S.used.length - 1 := by have := w.n1; unfold ncap; omega
  constructor
  · rintro (h | h)
    · have hr := w.rel x h
      refine ⟨by omega, ?_⟩
      cases hb : S.us x with
      | false => rfl
      | true => exact absurd h ((w.use x).1 hb).2.2
    · refine ⟨by omega, ?_⟩
      cases hb : S.us x with
      | false => rfl
      | true => have := ((w.use x).1 hb).2.1; omega
  · rintro ⟨h1, h2⟩
    by_cases e : x ≤ S.fresh
    · refine .inl ?_
      by_cases hm : x ∈ S.rel
      · exact hm
      · rw [(w.use x).2 ⟨h1.1, e, hm⟩] at h2; cases h2
    · exact .inr (by omega)
theorem order_nodup {S : Arn} {hs : List Int} (w : Wf S hs) : (orderOf S).Nodup := by
  unfold orderOf orderL
  refine List.nodup_append.2 ⟨List.pairwise_reverse.2 (w.dup.imp fun h => h.symm), upTo_nodup _ _, fun a ha b hb => ?_⟩
  have := w.rel a (List.mem_reverse.1 ha)
  have := mem_upTo.1 hb
  omega
theorem order_len {S : Arn} {hs : List Int} (w : Wf S hs) : (orderOf S).length ≤ 131074 := by
  have h1 := w.n2; have h2 := w.nus; have h3 := w.fr
  unfold orderOf orderL upTo
  simp; omega
theorem kids_count {S : Arn} {hs : List Int} (w : Wf S hs) {j : Int} (hj : 1 ≤ j) : ∀ L : List Nat,
    ((L.map (slotAt S)).flatMap fun x => if x.alloc = true then [x.node.left, x.node.right] else []).count j = (L.map fun (k : Nat) => S.nd ((k : Int) + 1)).countP (fun x => x.left == j) + (L.map fun (k : Nat) => S.nd ((k : Int) + 1)).countP (fun x => x.right == j)
  | [] => rfl
  | k :: L => by
    have ih := kids_count w hj L
    simp only [List.map_cons, List.flatMap_cons, List.count_append, List.countP_cons, ih]
    have e1 : (slotAt S k).alloc = S.us ((k : Int) + 1) := rfl
    have e2 : (slotAt S k).node = S.nd ((k : Int) + 1) := rfl
    rw [e1, e2]
    cases hb : S.us ((k : Int) + 1) with
    | false =>
      rw [w.zero _ hb]
      have z1 : (NodeT.zero.left == j) = false := by simp [NodeT.zero]; omega
      have z2 : (NodeT.zero.right == j) = false := by simp [NodeT.zero]; omega
      simp [z1, z2]
    | true => simp only [if_true, List.count_cons, List.count_nil]; omega
theorem kids_indeg {S : Arn} {hs : List Int} (w : Wf S hs) {j : Int} (hj : 1 ≤ j) : (kidsL (slotsOf S)).count j = S.indeg j := by
  unfold kidsL slotsOf
  rw [kids_count w hj]
  have hn : S.nodes = S.nd 0 :: (List.range (ncap S)).map fun (k : Nat) => S.nd ((k : Int) + 1) := by
    have h1 := w.nnod; have h2 := w.n1
    have hc : ncap S = S.used.length - 1 := rfl
    refine List.ext_getElem (by simp; omega) fun i a b => ?_
    cases i with
    | zero => unfold Arn.nd; simp [List.getD_eq_getElem?_getD, List.getElem?_eq_getElem a]
    | succ i =>
      simp only [List.getElem_cons_succ, List.getElem_map, List.getElem_range]
      unfold Arn.nd
      rw [show ((i : Int) + 1).toNat = i + 1 by omega, List.getD_eq_getElem?_getD, List.getElem?_eq_getElem a]; rfl
  have z : S.nd 0 = NodeT.zero := w.nd0
  unfold Arn.indeg
  conv => rhs; rw [hn, z]
  have z1 : (NodeT.zero.left == j) = false := by simp [NodeT.zero]; omega
  have z2 : (NodeT.zero.right == j) = false := by simp [NodeT.zero]; omega
  simp only [List.countP_cons, z1, z2]
  simp
theorem kidsU_slots {S : Arn} {hs : List Int} (w : Wf S hs) : kidsU (slotsOf S) := by
  have hn := w.n2
  have key : ∀ c, c = 0 ∨ S.us c = true → inU c := fun c h => by
    rcases h with rfl | h
    · exact ⟨by omega, by omega⟩
    · have := w.pos h; exact ⟨by omega, by omega⟩
  intro x hx
  unfold slotsOf at hx
  obtain ⟨k, hk, rfl⟩ := List.mem_map.1 hx
  show inU (S.nd _).left ∧ inU (S.nd _).right
  cases hb : S.us ((k : Int) + 1) with
  | false => rw [w.zero _ hb]; exact ⟨key 0 (.inl rfl), key 0 (.inl rfl)⟩
  | true => exact ⟨key _ (w.kid _ hb).1, key _ (w.kid _ hb).2⟩
theorem Wf.inU_held {S : Arn} {hs : List Int} (w : Wf S hs) {x : Int} (h : x ∈ hs) : inU x := by
  have hn := w.n2
  rcases w.held x h with rfl | h
  · exact ⟨by omega, by omega⟩
  · have := w.pos h; exact ⟨by omega, by omega⟩
theorem clean_slots {S : Arn} {hs roots : List Int} (w : Wf S hs) (p : roots.Perm hs) : CleanD (slotsOf S) (orderOf S) roots where
  free i hi := by
    rw [slotsOf_len] at hi
    rw [slotsOf_get S hi]
    show _ = if S.us ((i : Int) + 1) = true then 0 else 1
    have hm := order_mem w ((i : Int) + 1)
    cases hb : S.us ((i : Int) + 1) with
    | true => rw [if_pos rfl]; exact List.count_eq_zero.2 fun h => by have := (hm.1 h).2; rw [hb] at this; cases this
    | false => rw [if_neg (by simp)]; exact List.Nodup.count (order_nodup w) |>.trans (by rw [if_pos (hm.2 ⟨by omega, hb⟩)])
  left i hi hb := by
    rw [slotsOf_len] at hi
    rw [slotsOf_get S hi] at hb ⊢
    rw [alcD_slots w]
    exact (w.kid _ hb).1
  right i hi hb := by
    rw [slotsOf_len] at hi
    rw [slotsOf_get S hi] at hb ⊢
    rw [alcD_slots w]
    exact (w.kid _ hb).2
  size i hi hb := by
    rw [slotsOf_len] at hi
    rw [slotsOf_get S hi] at hb ⊢
    rw [szD_slots w, szD_slots w]
    exact (w.siz _ hb).2.2
  zr i hi := by
    rw [slotsOf_len] at hi
    rw [slotsOf_get S hi]
    have := w.size_nonneg ((i : Int) + 1)
    unfold maxSize at this
    show 0 ≤ (S.nd _).size ∧ (S.nd _).size ≤ 4294967296
    omega
  count i hi := by
    rw [slotsOf_len] at hi
    rw [slotsOf_get S hi]
    show (if S.us ((i : Int) + 1) = true then S.ct ((i : Int) + 1) else 0) = if S.us ((i : Int) + 1) = true then _ else 0
    cases hb : S.us ((i : Int) + 1) with
    | false => rfl
    | true =>
      rw [if_pos rfl, if_pos rfl, kids_indeg w (by omega), p.count_eq, (w.cnt _ hb).1]
  mark m hm i hi hb := by
    rw [slotsOf_len] at hi
    rw [slotsOf_get S hi] at hb
    have hb : S.us ((i : Int) + 1) = true := hb
    have key : ∀ j, Rch S hs j → mkd m j := fun j hj => by
      induction hj with
      | root h1 h2 => exact hm.root _ (p.mem_iff.2 h1) (by rw [alcD_slots w]; exact h2)
      | left h1 h2 ih => have := hm.left _ ih; rw [sltD_slots w h1.us, alcD_slots w] at this; exact this h2
      | right h1 h2 ih => have := hm.right _ ih; rw [sltD_slots w h1.us, alcD_slots w] at this; exact this h2
    have := (key _ (w.reached hb)).2
    rw [show ((i : Int) + 1 - 1).toNat = i by omega] at this
    exact this
  rng x hx := by rw [slotsOf_len]; exact ((order_mem w x).1 hx).1
  held x hx := by rw [alcD_slots w]; exact w.held x (p.mem_iff.1 hx)
def ineQ (out : List Int) (c : Int) (al : Bool) (ja jb : Prop) (G : List Int → Prop) : Prop :=
  brS al (ja ∧ jb ∧ brS (decide (c ≥ 1)) (ja ∧ jb ∧ brS (decide (IntKind.u64.wrap c ≤ IntKind.u64.wrap (out.length : Int))) (ja ∧ jb ∧ 0 ≤ IntKind.u32.wrap (c - 1) ∧ IntKind.u32.wrap (c - 1) < (out.length : Int) ∧ 0 ≤ IntKind.u32.wrap (c - 1) ∧ IntKind.u32.wrap (c - 1) < (out.length : Int) ∧
    G (out.set (IntKind.u32.wrap (c - 1)).toNat (IntKind.i64.wrap (out.getD (IntKind.u32.wrap (c - 1)).toNat 0 + 1)))) (G out)) (G out)) (G out)
theorem ineQ_of {out L : List Int} {n : Nat} {c : Int} {al : Bool} {ja jb : Prop} {G : List Int → Prop} (e : out = cntL L n) (hu : inU c) (hn : n ≤ 100000) (hL : L.length ≤ 1000000) (ha : ja) (hb : jb) (hG : ∀ o, o = cntL (L ++ if al = true then [c] else []) n → G o) : ineQ out c al ja jb G := by
  obtain ⟨u1, u2⟩ := hu
  have hl : out.length = n := by rw [e, cntL_len]
  unfold ineQ
  rw [hl, wrap_u64 (x := c) u1 (by omega), wrap_u64 (x := (n : Int)) (by omega) (by omega)]
  refine brS_of (fun z => ⟨ha, hb, brS_of (fun c1 => ⟨ha, hb, brS_of (fun c2 => ?_) fun c2 => ?_⟩) fun c1 => ?_⟩) fun z => ?_
  · have c1 : 1 ≤ c := by have := of_decide_eq_true c1; omega
    have c2 : c ≤ (n : Int) := of_decide_eq_true c2
    rw [wrap_u32 (x := c - 1) (by omega) (by omega)]
    refine ⟨ha, hb, by omega, by omega, by omega, by omega, hG _ ?_⟩
    have hr := cntL_rng L n (c - 1).toNat (by omega)
    rw [← e] at hr
    rw [if_pos z, wrap_id (by omega) (by omega), e]
    exact cntL_snoc_in c1 c2
  · have c2 : ¬ c ≤ (n : Int) := of_decide_eq_false c2
    refine hG _ ?_
    rw [if_pos z, cntL_snoc_out (by omega)]; exact e
  · have c1 : ¬ 1 ≤ c := by have := of_decide_eq_false c1; omega
    refine hG _ ?_
    rw [if_pos z, cntL_snoc_out (by omega)]; exact e
  · refine hG _ ?_
    rw [z, if_neg (by simp), List.append_nil]; exact e
theorem kidsL_len (d : List SlotT) : (kidsL d).length ≤ 2 * d.length := by
  induction d with
  | nil => exact Nat.le_refl _
  | cons x d ih =>
    have e : kidsL (x :: d) = (if x.alloc = true then [x.node.left, x.node.right] else []) ++ kidsL d := rfl
    rw [e, List.length_append, List.length_cons]
    split <;> simp <;> omega
theorem kidsL_snoc {d : List SlotT} {i : Nat} (h : i < d.length) : kidsL (d.take (i + 1)) = (kidsL (d.take i) ++ if (eS d i).alloc = true then [(eS d i).node.left] else []) ++ if (eS d i).alloc = true then [(eS d i).node.right] else [] := by
  rw [takeD_snoc (dft := SlotT.zero) h]
  unfold kidsL
  rw [List.flatMap_append]
  show _ ++ ((if (eS d i).alloc = true then _ else _) ++ []) = _
  cases (eS d i).alloc <;> simp
theorem vc_ine (d : List SlotT) (fl : List Int) (K : KT) (h1 : d.length ≤ 100000) (h2 : kidsU d) (h : ∀ o, o = cntL (kidsL d) d.length → K (.one (.at (.slc 2))) [.row false EC.slot d, .row false EC.u32 fl, .row true EC.int o] []) :
    vc C0 (aInE d fl) Try.f67 [.agg [.slc 0, .slc 1]] [.row false EC.slot d, .row false EC.u32 fl] (normK 2 K) := by
  refine Eq.mp (show ((0 ≤ (↑d.length : Int)) ∧
((↑d.length : Int) ≤ (↑d.length : Int)) ∧
((↑d.length : Int) * (↑(bytesOf C0 EC.int) : Int) ≤ 140737488355328) ∧
(∃ x : XIx d.length, (True ∧ (True ∧ True ∧ ((Value.int IntKind.i64 0) = (Value.int IntKind.i64 ((↑x.i : Int)))) ∧ True) ∧ ((d) = (d)) ∧ ((fl) = (fl)) ∧ (True ∧ True ∧ True) ∧ ((List.replicate (↑d.length : Int).toNat (0 : Int)) = (cntL (kidsL (List.take x.i d)) d.length)) ∧ True)) ∧
(∀ x : XIx d.length, (True → (brS (decide ((↑x.i : Int) < (↑d.length : Int))) ((((0 ≤ (↑x.i : Int)) ∧ ((↑x.i : Int) < (↑d.length : Int)) ∧ (0 ≤ (↑x.i : Int)) ∧ ((↑x.i : Int) < (↑d.length : Int)) ∧ (brS ((d.getD (↑x.i : Int).toNat { alloc := false, count := 0, gen := 0, node := { key := 0, value := 0, left := 0, right := 0, size := 0, sum := 0, min := 0, max := 0 : NodeT } : SlotT }).alloc) ((((0 : Int) ≤ 0) ∧ (0 < ((2 : Nat) : Int)) ∧ (brS (decide ((d.getD (↑x.i : Int).toNat { alloc := false, count := 0, gen := 0, node := { key := 0, value := 0, left := 0, right := 0, size := 0, sum := 0, min := 0, max := 0 : NodeT } : SlotT }).node.left ≥ 1)) ((((0 : Int) ≤ 0) ∧ (0 < ((2 : Nat) : Int)) ∧ (brS (decide (IntKind.u64.wrap (d.getD (↑x.i : Int).toNat { alloc := false, count := 0, gen := 0, node := { key := 0, value := 0, left := 0, right := 0, size := 0, sum := 0, min := 0, max := 0 : NodeT } : SlotT }).node.left ≤ IntKind.u64.wrap (↑(cntL (kidsL (List.take x.i d)) d.length).length : Int))) ((((0 : Int) ≤ 0) ∧ (0 < ((2 : Nat) : Int)) ∧
    (0 ≤ IntKind.u32.wrap ((d.getD (↑x.i : Int).toNat { alloc := false, count := 0, gen := 0, node := { key := 0, value := 0, left := 0, right := 0, size := 0, sum := 0, min := 0, max := 0 : NodeT } : SlotT }).node.left - 1)) ∧ (IntKind.u32.wrap ((d.getD (↑x.i : Int).toNat { alloc := false, count := 0, gen := 0, node := { key := 0, value := 0, left := 0, right := 0, size := 0, sum := 0, min := 0, max := 0 : NodeT } : SlotT }).node.left - 1) < (↑(cntL (kidsL (List.take x.i d)) d.length).length : Int)) ∧ (0 ≤ IntKind.u32.wrap ((d.getD (↑x.i : Int).toNat { alloc := false, count := 0, gen := 0, node := { key := 0, value := 0, left := 0, right := 0, size := 0, sum := 0, min := 0, max := 0 : NodeT } : SlotT }).node.left - 1)) ∧ (IntKind.u32.wrap ((d.getD (↑x.i : Int).toNat { alloc := false, count := 0, gen := 0, node := { key := 0, value := 0, left := 0, right := 0, size := 0, sum := 0, min := 0, max := 0 : NodeT } : SlotT }).node.left - 1) < (↑(cntL (kidsL (List.take x.i d)) d.length).length : Int)) ∧ (0 ≤ (↑x.i : Int)) ∧ ((↑x.i : Int) < (↑d.length : Int)) ∧ (brS ((d.getD (↑x.i : Int).toNat { alloc := false, count := 0, gen := 0, node := { key := 0, value := 0, left := 0, right := 0, size := 0, sum := 0, min := 0, max := 0 : NodeT } : SlotT }).alloc) (((0 ≤ IntKind.i64.wrap (0 + 1)) ∧ (IntKind.i64.wrap (0 + 1) < ((2 : Nat) : Int)) ∧
    (brS (decide ((d.getD (↑x.i : Int).toNat { alloc := false, count := 0, gen := 0, node := { key := 0, value := 0, left := 0, right := 0, size := 0, sum := 0, min := 0, max := 0 : NodeT } : SlotT }).node.right ≥ 1)) (((0 ≤ IntKind.i64.wrap (0 + 1)) ∧ (IntKind.i64.wrap (0 + 1) < ((2 : Nat) : Int)) ∧ (brS (decide (IntKind.u64.wrap (d.getD (↑x.i : Int).toNat { alloc := false, count := 0, gen := 0, node := { key := 0, value := 0, left := 0, right := 0, size := 0, sum := 0, min := 0, max := 0 : NodeT } : SlotT }).node.right ≤ IntKind.u64.wrap (↑((cntL (kidsL (List.take x.i d)) d.length).set (IntKind.u32.wrap ((d.getD (↑x.i : Int).toNat { alloc := false, count := 0, gen := 0, node := { key := 0, value := 0, left := 0, right := 0, size := 0, sum := 0, min := 0, max := 0 : NodeT } : SlotT }).node.left - 1)).toNat (IntKind.i64.wrap ((cntL (kidsL (List.take x.i d)) d.length).getD (IntKind.u32.wrap ((d.getD (↑x.i : Int).toNat { alloc := false, count := 0, gen := 0, node := { key := 0, value := 0, left := 0, right := 0, size := 0, sum := 0, min := 0, max := 0 : NodeT } : SlotT }).node.left - 1)).toNat 0 + 1))).length : Int))) (((0 ≤ IntKind.i64.wrap (0 + 1)) ∧ (IntKind.i64.wrap (0 + 1) < ((2 : Nat) : Int)) ∧ (0 ≤ IntKind.u32.wrap ((d.getD (↑x.i : Int).toNat { alloc := false, count := 0, gen := 0, node := { key := 0, value := 0, left := 0, right := 0, size := 0, sum := 0, min := 0, max := 0 : NodeT } : SlotT }).node.right - 1)) ∧
    (IntKind.u32.wrap ((d.getD (↑x.i : Int).toNat { alloc := false, count := 0, gen := 0, node := { key := 0, value := 0, left := 0, right := 0, size := 0, sum := 0, min := 0, max := 0 : NodeT } : SlotT }).node.right - 1) < (↑((cntL (kidsL (List.take x.i d)) d.length).set (IntKind.u32.wrap ((d.getD (↑x.i : Int).toNat { alloc := false, count := 0, gen := 0, node := { key := 0, value := 0, left := 0, right := 0, size := 0, sum := 0, min := 0, max := 0 : NodeT } : SlotT }).node.left - 1)).toNat (IntKind.i64.wrap ((cntL (kidsL (List.take x.i d)) d.length).getD (IntKind.u32.wrap ((d.getD (↑x.i : Int).toNat { alloc := false, count := 0, gen := 0, node := { key := 0, value := 0, left := 0, right := 0, size := 0, sum := 0, min := 0, max := 0 : NodeT } : SlotT }).node.left - 1)).toNat 0 + 1))).length : Int)) ∧ (0 ≤ IntKind.u32.wrap ((d.getD (↑x.i : Int).toNat { alloc := false, count := 0, gen := 0, node := { key := 0, value := 0, left := 0, right := 0, size := 0, sum := 0, min := 0, max := 0 : NodeT } : SlotT }).node.right - 1)) ∧
    (IntKind.u32.wrap ((d.getD (↑x.i : Int).toNat { alloc := false, count := 0, gen := 0, node := { key := 0, value := 0, left := 0, right := 0, size := 0, sum := 0, min := 0, max := 0 : NodeT } : SlotT }).node.right - 1) < (↑((cntL (kidsL (List.take x.i d)) d.length).set (IntKind.u32.wrap ((d.getD (↑x.i : Int).toNat { alloc := false, count := 0, gen := 0, node := { key := 0, value := 0, left := 0, right := 0, size := 0, sum := 0, min := 0, max := 0 : NodeT } : SlotT }).node.left - 1)).toNat (IntKind.i64.wrap ((cntL (kidsL (List.take x.i d)) d.length).getD (IntKind.u32.wrap ((d.getD (↑x.i : Int).toNat { alloc := false, count := 0, gen := 0, node := { key := 0, value := 0, left := 0, right := 0, size := 0, sum := 0, min := 0, max := 0 : NodeT } : SlotT }).node.left - 1)).toNat 0 + 1))).length : Int)) ∧ (∃ x1 : XIn d, ((((↑x.i : Int)) = ((↑x1.i : Int))) ∧ (True ∧ True ∧ ((Value.int IntKind.i64 ((↑x.i : Int))) = (Value.int IntKind.i64 ((↑x1.i : Int)))) ∧ True) ∧ ((d) = (d)) ∧ ((fl) = (fl)) ∧ (True ∧ True ∧ True) ∧
    ((((cntL (kidsL (List.take x.i d)) d.length).set (IntKind.u32.wrap ((d.getD (↑x.i : Int).toNat { alloc := false, count := 0, gen := 0, node := { key := 0, value := 0, left := 0, right := 0, size := 0, sum := 0, min := 0, max := 0 : NodeT } : SlotT }).node.left - 1)).toNat (IntKind.i64.wrap ((cntL (kidsL (List.take x.i d)) d.length).getD (IntKind.u32.wrap ((d.getD (↑x.i : Int).toNat { alloc := false, count := 0, gen := 0, node := { key := 0, value := 0, left := 0, right := 0, size := 0, sum := 0, min := 0, max := 0 : NodeT } : SlotT }).node.left - 1)).toNat 0 + 1))).set (IntKind.u32.wrap ((d.getD (↑x.i : Int).toNat { alloc := false, count := 0, gen := 0, node := { key := 0, value := 0, left := 0, right := 0, size := 0, sum := 0, min := 0, max := 0 : NodeT } : SlotT }).node.right - 1)).toNat (IntKind.i64.wrap (((cntL (kidsL (List.take x.i d)) d.length).set (IntKind.u32.wrap ((d.getD (↑x.i : Int).toNat { alloc := false, count := 0, gen := 0, node := { key := 0, value := 0, left := 0, right := 0, size := 0, sum := 0, min := 0, max := 0 : NodeT } : SlotT }).node.left - 1)).toNat (IntKind.i64.wrap ((cntL (kidsL (List.take x.i d)) d.length).getD (IntKind.u32.wrap ((d.getD (↑x.i : Int).toNat { alloc := false, count := 0, gen := 0, node := { key := 0, value := 0, left := 0, right := 0, size := 0, sum := 0, min := 0, max := 0 : NodeT } : SlotT }).node.left - 1)).toNat 0 + 1))).getD (IntKind.u32.wrap ((d.getD (↑x.i : Int).toNat { alloc := false, count := 0, gen := 0, node := { key := 0, value := 0, left := 0, right := 0, size := 0, sum := 0, min := 0, max := 0 : NodeT } : SlotT }).node.right - 1)).toNat 0 + 1))) = (cntL (kidsL (List.take (x1.i + 1) d)) d.length)) ∧
    True)))) ((∃ x1 : XIn d, ((((↑x.i : Int)) = ((↑x1.i : Int))) ∧ (True ∧ True ∧ ((Value.int IntKind.i64 ((↑x.i : Int))) = (Value.int IntKind.i64 ((↑x1.i : Int)))) ∧ True) ∧ ((d) = (d)) ∧ ((fl) = (fl)) ∧ (True ∧ True ∧ True) ∧ (((cntL (kidsL (List.take x.i d)) d.length).set (IntKind.u32.wrap ((d.getD (↑x.i : Int).toNat { alloc := false, count := 0, gen := 0, node := { key := 0, value := 0, left := 0, right := 0, size := 0, sum := 0, min := 0, max := 0 : NodeT } : SlotT }).node.left - 1)).toNat (IntKind.i64.wrap ((cntL (kidsL (List.take x.i d)) d.length).getD (IntKind.u32.wrap ((d.getD (↑x.i : Int).toNat { alloc := false, count := 0, gen := 0, node := { key := 0, value := 0, left := 0, right := 0, size := 0, sum := 0, min := 0, max := 0 : NodeT } : SlotT }).node.left - 1)).toNat 0 + 1))) = (cntL (kidsL (List.take (x1.i + 1) d)) d.length)) ∧ True)))))) ((∃ x1 : XIn d, ((((↑x.i : Int)) = ((↑x1.i : Int))) ∧ (True ∧ True ∧ ((Value.int IntKind.i64 ((↑x.i : Int))) = (Value.int IntKind.i64 ((↑x1.i : Int)))) ∧ True) ∧ ((d) = (d)) ∧ ((fl) = (fl)) ∧ (True ∧ True ∧ True) ∧
    (((cntL (kidsL (List.take x.i d)) d.length).set (IntKind.u32.wrap ((d.getD (↑x.i : Int).toNat { alloc := false, count := 0, gen := 0, node := { key := 0, value := 0, left := 0, right := 0, size := 0, sum := 0, min := 0, max := 0 : NodeT } : SlotT }).node.left - 1)).toNat (IntKind.i64.wrap ((cntL (kidsL (List.take x.i d)) d.length).getD (IntKind.u32.wrap ((d.getD (↑x.i : Int).toNat { alloc := false, count := 0, gen := 0, node := { key := 0, value := 0, left := 0, right := 0, size := 0, sum := 0, min := 0, max := 0 : NodeT } : SlotT }).node.left - 1)).toNat 0 + 1))) = (cntL (kidsL (List.take (x1.i + 1) d)) d.length)) ∧ True)))))) ((∃ x1 : XIn d, ((((↑x.i : Int)) = ((↑x1.i : Int))) ∧ (True ∧ True ∧ ((Value.int IntKind.i64 ((↑x.i : Int))) = (Value.int IntKind.i64 ((↑x1.i : Int)))) ∧ True) ∧ ((d) = (d)) ∧ ((fl) = (fl)) ∧ (True ∧ True ∧ True) ∧ (((cntL (kidsL (List.take x.i d)) d.length).set (IntKind.u32.wrap ((d.getD (↑x.i : Int).toNat { alloc := false, count := 0, gen := 0, node := { key := 0, value := 0, left := 0, right := 0, size := 0, sum := 0, min := 0, max := 0 : NodeT } : SlotT }).node.left - 1)).toNat (IntKind.i64.wrap ((cntL (kidsL (List.take x.i d)) d.length).getD (IntKind.u32.wrap ((d.getD (↑x.i : Int).toNat { alloc := false, count := 0, gen := 0, node := { key := 0, value := 0, left := 0, right := 0, size := 0, sum := 0, min := 0, max := 0 : NodeT } : SlotT }).node.left - 1)).toNat 0 + 1))) = (cntL (kidsL (List.take (x1.i + 1) d)) d.length)) ∧ True))))))
    (((0 ≤ (↑x.i : Int)) ∧ ((↑x.i : Int) < (↑d.length : Int)) ∧ (brS ((d.getD (↑x.i : Int).toNat { alloc := false, count := 0, gen := 0, node := { key := 0, value := 0, left := 0, right := 0, size := 0, sum := 0, min := 0, max := 0 : NodeT } : SlotT }).alloc) (((0 ≤ IntKind.i64.wrap (0 + 1)) ∧ (IntKind.i64.wrap (0 + 1) < ((2 : Nat) : Int)) ∧ (brS (decide ((d.getD (↑x.i : Int).toNat { alloc := false, count := 0, gen := 0, node := { key := 0, value := 0, left := 0, right := 0, size := 0, sum := 0, min := 0, max := 0 : NodeT } : SlotT }).node.right ≥ 1)) (((0 ≤ IntKind.i64.wrap (0 + 1)) ∧ (IntKind.i64.wrap (0 + 1) < ((2 : Nat) : Int)) ∧ (brS (decide (IntKind.u64.wrap (d.getD (↑x.i : Int).toNat { alloc := false, count := 0, gen := 0, node := { key := 0, value := 0, left := 0, right := 0, size := 0, sum := 0, min := 0, max := 0 : NodeT } : SlotT }).node.right ≤ IntKind.u64.wrap (↑(cntL (kidsL (List.take x.i d)) d.length).length : Int))) (((0 ≤ IntKind.i64.wrap (0 + 1)) ∧ (IntKind.i64.wrap (0 + 1) < ((2 : Nat) : Int)) ∧ (0 ≤ IntKind.u32.wrap ((d.getD (↑x.i : Int).toNat { alloc := false, count := 0, gen := 0, node := { key := 0, value := 0, left := 0, right := 0, size := 0, sum := 0, min := 0, max := 0 : NodeT } : SlotT }).node.right - 1)) ∧
    (IntKind.u32.wrap ((d.getD (↑x.i : Int).toNat { alloc := false, count := 0, gen := 0, node := { key := 0, value := 0, left := 0, right := 0, size := 0, sum := 0, min := 0, max := 0 : NodeT } : SlotT }).node.right - 1) < (↑(cntL (kidsL (List.take x.i d)) d.length).length : Int)) ∧ (0 ≤ IntKind.u32.wrap ((d.getD (↑x.i : Int).toNat { alloc := false, count := 0, gen := 0, node := { key := 0, value := 0, left := 0, right := 0, size := 0, sum := 0, min := 0, max := 0 : NodeT } : SlotT }).node.right - 1)) ∧ (IntKind.u32.wrap ((d.getD (↑x.i : Int).toNat { alloc := false, count := 0, gen := 0, node := { key := 0, value := 0, left := 0, right := 0, size := 0, sum := 0, min := 0, max := 0 : NodeT } : SlotT }).node.right - 1) < (↑(cntL (kidsL (List.take x.i d)) d.length).length : Int)) ∧ (∃ x1 : XIn d, ((((↑x.i : Int)) = ((↑x1.i : Int))) ∧ (True ∧ True ∧ ((Value.int IntKind.i64 ((↑x.i : Int))) = (Value.int IntKind.i64 ((↑x1.i : Int)))) ∧ True) ∧ ((d) = (d)) ∧ ((fl) = (fl)) ∧ (True ∧ True ∧ True) ∧
    (((cntL (kidsL (List.take x.i d)) d.length).set (IntKind.u32.wrap ((d.getD (↑x.i : Int).toNat { alloc := false, count := 0, gen := 0, node := { key := 0, value := 0, left := 0, right := 0, size := 0, sum := 0, min := 0, max := 0 : NodeT } : SlotT }).node.right - 1)).toNat (IntKind.i64.wrap ((cntL (kidsL (List.take x.i d)) d.length).getD (IntKind.u32.wrap ((d.getD (↑x.i : Int).toNat { alloc := false, count := 0, gen := 0, node := { key := 0, value := 0, left := 0, right := 0, size := 0, sum := 0, min := 0, max := 0 : NodeT } : SlotT }).node.right - 1)).toNat 0 + 1))) = (cntL (kidsL (List.take (x1.i + 1) d)) d.length)) ∧ True)))) ((∃ x1 : XIn d, ((((↑x.i : Int)) = ((↑x1.i : Int))) ∧ (True ∧ True ∧ ((Value.int IntKind.i64 ((↑x.i : Int))) = (Value.int IntKind.i64 ((↑x1.i : Int)))) ∧ True) ∧ ((d) = (d)) ∧ ((fl) = (fl)) ∧ (True ∧ True ∧ True) ∧ ((cntL (kidsL (List.take x.i d)) d.length) = (cntL (kidsL (List.take (x1.i + 1) d)) d.length)) ∧ True)))))) ((∃ x1 : XIn d, ((((↑x.i : Int)) = ((↑x1.i : Int))) ∧ (True ∧ True ∧ ((Value.int IntKind.i64 ((↑x.i : Int))) = (Value.int IntKind.i64 ((↑x1.i : Int)))) ∧ True) ∧ ((d) = (d)) ∧ ((fl) = (fl)) ∧ (True ∧ True ∧ True) ∧ ((cntL (kidsL (List.take x.i d)) d.length) = (cntL (kidsL (List.take (x1.i + 1) d)) d.length)) ∧ True)))))) ((∃ x1 : XIn d, ((((↑x.i : Int)) = ((↑x1.i : Int))) ∧ (True ∧ True ∧ ((Value.int IntKind.i64 ((↑x.i : Int))) = (Value.int IntKind.i64 ((↑x1.i : Int)))) ∧ True) ∧ ((d) = (d)) ∧ ((fl) = (fl)) ∧ (True ∧ True ∧ True) ∧
    ((cntL (kidsL (List.take x.i d)) d.length) = (cntL (kidsL (List.take (x1.i + 1) d)) d.length)) ∧ True))))))))) (((0 ≤ (↑x.i : Int)) ∧ ((↑x.i : Int) < (↑d.length : Int)) ∧ (brS ((d.getD (↑x.i : Int).toNat { alloc := false, count := 0, gen := 0, node := { key := 0, value := 0, left := 0, right := 0, size := 0, sum := 0, min := 0, max := 0 : NodeT } : SlotT }).alloc) (((0 ≤ IntKind.i64.wrap (0 + 1)) ∧ (IntKind.i64.wrap (0 + 1) < ((2 : Nat) : Int)) ∧ (brS (decide ((d.getD (↑x.i : Int).toNat { alloc := false, count := 0, gen := 0, node := { key := 0, value := 0, left := 0, right := 0, size := 0, sum := 0, min := 0, max := 0 : NodeT } : SlotT }).node.right ≥ 1)) (((0 ≤ IntKind.i64.wrap (0 + 1)) ∧ (IntKind.i64.wrap (0 + 1) < ((2 : Nat) : Int)) ∧ (brS (decide (IntKind.u64.wrap (d.getD (↑x.i : Int).toNat { alloc := false, count := 0, gen := 0, node := { key := 0, value := 0, left := 0, right := 0, size := 0, sum := 0, min := 0, max := 0 : NodeT } : SlotT }).node.right ≤ IntKind.u64.wrap (↑(cntL (kidsL (List.take x.i d)) d.length).length : Int))) (((0 ≤ IntKind.i64.wrap (0 + 1)) ∧ (IntKind.i64.wrap (0 + 1) < ((2 : Nat) : Int)) ∧ (0 ≤ IntKind.u32.wrap ((d.getD (↑x.i : Int).toNat { alloc := false, count := 0, gen := 0, node := { key := 0, value := 0, left := 0, right := 0, size := 0, sum := 0, min := 0, max := 0 : NodeT } : SlotT }).node.right - 1)) ∧
    (IntKind.u32.wrap ((d.getD (↑x.i : Int).toNat { alloc := false, count := 0, gen := 0, node := { key := 0, value := 0, left := 0, right := 0, size := 0, sum := 0, min := 0, max := 0 : NodeT } : SlotT }).node.right - 1) < (↑(cntL (kidsL (List.take x.i d)) d.length).length : Int)) ∧ (0 ≤ IntKind.u32.wrap ((d.getD (↑x.i : Int).toNat { alloc := false, count := 0, gen := 0, node := { key := 0, value := 0, left := 0, right := 0, size := 0, sum := 0, min := 0, max := 0 : NodeT } : SlotT }).node.right - 1)) ∧ (IntKind.u32.wrap ((d.getD (↑x.i : Int).toNat { alloc := false, count := 0, gen := 0, node := { key := 0, value := 0, left := 0, right := 0, size := 0, sum := 0, min := 0, max := 0 : NodeT } : SlotT }).node.right - 1) < (↑(cntL (kidsL (List.take x.i d)) d.length).length : Int)) ∧ (∃ x1 : XIn d, ((((↑x.i : Int)) = ((↑x1.i : Int))) ∧ (True ∧ True ∧ ((Value.int IntKind.i64 ((↑x.i : Int))) = (Value.int IntKind.i64 ((↑x1.i : Int)))) ∧ True) ∧ ((d) = (d)) ∧ ((fl) = (fl)) ∧ (True ∧ True ∧ True) ∧
    (((cntL (kidsL (List.take x.i d)) d.length).set (IntKind.u32.wrap ((d.getD (↑x.i : Int).toNat { alloc := false, count := 0, gen := 0, node := { key := 0, value := 0, left := 0, right := 0, size := 0, sum := 0, min := 0, max := 0 : NodeT } : SlotT }).node.right - 1)).toNat (IntKind.i64.wrap ((cntL (kidsL (List.take x.i d)) d.length).getD (IntKind.u32.wrap ((d.getD (↑x.i : Int).toNat { alloc := false, count := 0, gen := 0, node := { key := 0, value := 0, left := 0, right := 0, size := 0, sum := 0, min := 0, max := 0 : NodeT } : SlotT }).node.right - 1)).toNat 0 + 1))) = (cntL (kidsL (List.take (x1.i + 1) d)) d.length)) ∧ True)))) ((∃ x1 : XIn d, ((((↑x.i : Int)) = ((↑x1.i : Int))) ∧ (True ∧ True ∧ ((Value.int IntKind.i64 ((↑x.i : Int))) = (Value.int IntKind.i64 ((↑x1.i : Int)))) ∧ True) ∧ ((d) = (d)) ∧ ((fl) = (fl)) ∧ (True ∧ True ∧ True) ∧ ((cntL (kidsL (List.take x.i d)) d.length) = (cntL (kidsL (List.take (x1.i + 1) d)) d.length)) ∧ True)))))) ((∃ x1 : XIn d, ((((↑x.i : Int)) = ((↑x1.i : Int))) ∧ (True ∧ True ∧ ((Value.int IntKind.i64 ((↑x.i : Int))) = (Value.int IntKind.i64 ((↑x1.i : Int)))) ∧ True) ∧ ((d) = (d)) ∧ ((fl) = (fl)) ∧ (True ∧ True ∧ True) ∧ ((cntL (kidsL (List.take x.i d)) d.length) = (cntL (kidsL (List.take (x1.i + 1) d)) d.length)) ∧ True)))))) ((∃ x1 : XIn d, ((((↑x.i : Int)) = ((↑x1.i : Int))) ∧ (True ∧ True ∧ ((Value.int IntKind.i64 ((↑x.i : Int))) = (Value.int IntKind.i64 ((↑x1.i : Int)))) ∧ True) ∧ ((d) = (d)) ∧ ((fl) = (fl)) ∧ (True ∧ True ∧ True) ∧
    ((cntL (kidsL (List.take x.i d)) d.length) = (cntL (kidsL (List.take (x1.i + 1) d)) d.length)) ∧ True))))))))) (((0 ≤ (↑x.i : Int)) ∧ ((↑x.i : Int) < (↑d.length : Int)) ∧ (brS ((d.getD (↑x.i : Int).toNat { alloc := false, count := 0, gen := 0, node := { key := 0, value := 0, left := 0, right := 0, size := 0, sum := 0, min := 0, max := 0 : NodeT } : SlotT }).alloc) (((0 ≤ IntKind.i64.wrap (0 + 1)) ∧ (IntKind.i64.wrap (0 + 1) < ((2 : Nat) : Int)) ∧ (brS (decide ((d.getD (↑x.i : Int).toNat { alloc := false, count := 0, gen := 0, node := { key := 0, value := 0, left := 0, right := 0, size := 0, sum := 0, min := 0, max := 0 : NodeT } : SlotT }).node.right ≥ 1)) (((0 ≤ IntKind.i64.wrap (0 + 1)) ∧ (IntKind.i64.wrap (0 + 1) < ((2 : Nat) : Int)) ∧ (brS (decide (IntKind.u64.wrap (d.getD (↑x.i : Int).toNat { alloc := false, count := 0, gen := 0, node := { key := 0, value := 0, left := 0, right := 0, size := 0, sum := 0, min := 0, max := 0 : NodeT } : SlotT }).node.right ≤ IntKind.u64.wrap (↑(cntL (kidsL (List.take x.i d)) d.length).length : Int))) (((0 ≤ IntKind.i64.wrap (0 + 1)) ∧ (IntKind.i64.wrap (0 + 1) < ((2 : Nat) : Int)) ∧ (0 ≤ IntKind.u32.wrap ((d.getD (↑x.i : Int).toNat { alloc := false, count := 0, gen := 0, node := { key := 0, value := 0, left := 0, right := 0, size := 0, sum := 0, min := 0, max := 0 : NodeT } : SlotT }).node.right - 1)) ∧
    (IntKind.u32.wrap ((d.getD (↑x.i : Int).toNat { alloc := false, count := 0, gen := 0, node := { key := 0, value := 0, left := 0, right := 0, size := 0, sum := 0, min := 0, max := 0 : NodeT } : SlotT }).node.right - 1) < (↑(cntL (kidsL (List.take x.i d)) d.length).length : Int)) ∧ (0 ≤ IntKind.u32.wrap ((d.getD (↑x.i : Int).toNat { alloc := false, count := 0, gen := 0, node := { key := 0, value := 0, left := 0, right := 0, size := 0, sum := 0, min := 0, max := 0 : NodeT } : SlotT }).node.right - 1)) ∧ (IntKind.u32.wrap ((d.getD (↑x.i : Int).toNat { alloc := false, count := 0, gen := 0, node := { key := 0, value := 0, left := 0, right := 0, size := 0, sum := 0, min := 0, max := 0 : NodeT } : SlotT }).node.right - 1) < (↑(cntL (kidsL (List.take x.i d)) d.length).length : Int)) ∧ (∃ x1 : XIn d, ((((↑x.i : Int)) = ((↑x1.i : Int))) ∧ (True ∧ True ∧ ((Value.int IntKind.i64 ((↑x.i : Int))) = (Value.int IntKind.i64 ((↑x1.i : Int)))) ∧ True) ∧ ((d) = (d)) ∧ ((fl) = (fl)) ∧ (True ∧ True ∧ True) ∧
    (((cntL (kidsL (List.take x.i d)) d.length).set (IntKind.u32.wrap ((d.getD (↑x.i : Int).toNat { alloc := false, count := 0, gen := 0, node := { key := 0, value := 0, left := 0, right := 0, size := 0, sum := 0, min := 0, max := 0 : NodeT } : SlotT }).node.right - 1)).toNat (IntKind.i64.wrap ((cntL (kidsL (List.take x.i d)) d.length).getD (IntKind.u32.wrap ((d.getD (↑x.i : Int).toNat { alloc := false, count := 0, gen := 0, node := { key := 0, value := 0, left := 0, right := 0, size := 0, sum := 0, min := 0, max := 0 : NodeT } : SlotT }).node.right - 1)).toNat 0 + 1))) = (cntL (kidsL (List.take (x1.i + 1) d)) d.length)) ∧ True)))) ((∃ x1 : XIn d, ((((↑x.i : Int)) = ((↑x1.i : Int))) ∧ (True ∧ True ∧ ((Value.int IntKind.i64 ((↑x.i : Int))) = (Value.int IntKind.i64 ((↑x1.i : Int)))) ∧ True) ∧ ((d) = (d)) ∧ ((fl) = (fl)) ∧ (True ∧ True ∧ True) ∧ ((cntL (kidsL (List.take x.i d)) d.length) = (cntL (kidsL (List.take (x1.i + 1) d)) d.length)) ∧ True)))))) ((∃ x1 : XIn d, ((((↑x.i : Int)) = ((↑x1.i : Int))) ∧ (True ∧ True ∧ ((Value.int IntKind.i64 ((↑x.i : Int))) = (Value.int IntKind.i64 ((↑x1.i : Int)))) ∧ True) ∧ ((d) = (d)) ∧ ((fl) = (fl)) ∧ (True ∧ True ∧ True) ∧ ((cntL (kidsL (List.take x.i d)) d.length) = (cntL (kidsL (List.take (x1.i + 1) d)) d.length)) ∧ True)))))) ((∃ x1 : XIn d, ((((↑x.i : Int)) = ((↑x1.i : Int))) ∧ (True ∧ True ∧ ((Value.int IntKind.i64 ((↑x.i : Int))) = (Value.int IntKind.i64 ((↑x1.i : Int)))) ∧ True) ∧ ((d) = (d)) ∧ ((fl) = (fl)) ∧ (True ∧ True ∧ True) ∧
    ((cntL (kidsL (List.take x.i d)) d.length) = (cntL (kidsL (List.take (x1.i + 1) d)) d.length)) ∧ True)))))))) ∧ (∀ x1 : XIn d, ((((↑x.i : Int)) = ((↑x1.i : Int))) → (∃ x' : XIx d.length, (True ∧ ((True ∧ True ∧ ((Value.int IntKind.i64 (IntKind.i64.wrap ((↑x1.i : Int) + 1))) = (Value.int IntKind.i64 ((↑x'.i : Int)))) ∧ True) ∧ ((d) = (d)) ∧ ((fl) = (fl)) ∧ (True ∧ True ∧ True) ∧ ((cntL (kidsL (List.take (x1.i + 1) d)) d.length) = (cntL (kidsL (List.take x'.i d)) d.length)) ∧ True) ∧ (d.length - x'.i < d.length - x.i))))))) ((K (SV.one (TV.at (At.slc 2))) [(Chunk.row false (EC.slot) (d)), (Chunk.row false (EC.u32) (fl)), (Chunk.row true (EC.int) (cntL (kidsL (List.take x.i d)) d.length))] [])))))) = _ by kernel_rfl) ?_
  rw [bytes_int]
  refine ⟨by omega, Int.le_refl _, by omega, ⟨⟨0, Nat.zero_le _⟩, trivial, ⟨trivial, trivial, rfl, trivial⟩, rfl, rfl, ⟨trivial, trivial, trivial⟩, cntL_nil _, trivial⟩, fun x _ => brS_of (fun c => ?_) fun c => ?_⟩
  · have c : x.i < d.length := by have := of_decide_eq_true c; omega
    have hm : eS d x.i ∈ d := by unfold eS; rw [List.getD_eq_getElem?_getD, List.getElem?_eq_getElem c]; exact List.getElem_mem c
    obtain ⟨k1, k2⟩ := h2 _ hm
    have ks := kidsL_snoc c
    have kl := kidsL_len (d.take x.i)
    have tl : (d.take x.i).length ≤ d.length := by simp; omega
    have xa : (0 : Int) ≤ (x.i : Int) := by omega
    have xb : (x.i : Int) < (d.length : Int) := by omega
    refine ⟨?_, fun y e => ⟨⟨y.i + 1, y.h⟩, trivial, ⟨⟨trivial, trivial, ?_, trivial⟩, rfl, rfl, ⟨trivial, trivial, trivial⟩, rfl, trivial⟩, ?_⟩⟩
    · show _ ∧ _ ∧ _ ∧ _ ∧ ineQ (cntL (kidsL (d.take x.i)) d.length) (eS d x.i).node.left (eS d x.i).alloc ((0 : Int) ≤ 0) ((0 : Int) < 2) fun o => (0 : Int) ≤ (x.i : Int) ∧ (x.i : Int) < (d.length : Int) ∧ ineQ o (eS d x.i).node.right (eS d x.i).alloc (0 ≤ IntKind.i64.wrap (0 + 1)) (IntKind.i64.wrap (0 + 1) < 2) fun o => ∃ x1 : XIn d, (((x.i : Int) = (x1.i : Int)) ∧ (True ∧ True ∧ (Value.int IntKind.i64 (x.i : Int) = Value.int IntKind.i64 (x1.i : Int)) ∧ True) ∧ (d = d) ∧ (fl = fl) ∧ (True ∧ True ∧ True) ∧ (o = cntL (kidsL (d.take (x1.i + 1))) d.length) ∧ True)
      refine ⟨xa, xb, xa, xb, ineQ_of rfl k1 h1 (by omega) (by decide) (by decide) fun o ho => ⟨xa, xb, ineQ_of ho k2 h1 ?_ (by decide) (by decide) fun o ho => ⟨⟨x.i, c⟩, rfl, ⟨trivial, trivial, rfl, trivial⟩, rfl, rfl, ⟨trivial, trivial, trivial⟩, by rw [ho, ks], trivial⟩⟩⟩
      rw [List.length_append]
      split <;> simp <;> omega
    · have := y.h
      rw [wrap_id (by omega) (by omega)]; congr 1
    · have e : (x.i : Int) = (y.i : Int) := e
      show d.length - (y.i + 1) < d.length - x.i
      have := y.h; omega
  · have c : x.i = d.length := by have := of_decide_eq_false c; have := x.h; omega
    exact h _ (by rw [c, List.take_length])
theorem s_ine : SoundT C0 67 tInE := by
  refine .of Try.func67 (by decide) rfl fun args H K h hB => ?_
  unfold tInE at h
  split at h <;> try exact h.elim
  rename_i d fl
  exact ⟨aInE d fl, ⟨frame C0.ok s_kids _, trivial⟩, vc_ine d fl K h.1 h.2.1 h.2.2⟩
end Go.Proofs.Ytmjnoiajenoinaa.Sx
end
section
/- Equal dumps, and the count of a slot of a dump. -/
namespace Go.Proofs.Ytmjnoiajenoinaa.Sx
open Go

/-KEEP Wf exW inU alcD slotsOf orderOf-/
end Go.Proofs.Ytmjnoiajenoinaa.Sx
end
