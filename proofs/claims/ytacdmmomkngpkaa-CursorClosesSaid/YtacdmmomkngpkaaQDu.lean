/- The order of the free slots, and the arena's Dump. -/
import Derived.Test.YtacdmmomkngpkaaQAr
import Derived.Test.YtacdmmomkngpkaaPatD
/-KEEP exW inU Arn.cap Arn.free-/
namespace Go.Proofs.Ytacdmmomkngpkaa.Sx
open Go

def upTo (fr : Int) (n : Nat) : List Int := (List.range n).map fun (k : Nat) => fr + 1 + (k : Int)
def orderL (us : List Bool) (rl : List Int) (fr : Int) : List Int := rl.reverse ++ upTo fr ((us.length : Int) - 1 - fr).toNat
structure XOr1 (rl : List Int) where
  k : Nat
  h : k ≤ rl.length
structure XOr2 (us : List Bool) (fr : Int) where
  n : Nat
  h : n ≤ ((us.length : Int) - 1 - fr).toNat
noncomputable def aOrder (us : List Bool) (gn rl : List Int) (fr : Int) : Ann C0 := { Γ := [(77, frameT [] tSlFree), (111, frameT [] tSlCap)], inv := fun n => match n with
  | 3 => some { X := XOr1 rl, sl := [4, 3], tf := fun x => [vi .i64 ((x.k : Int) - 1), .one (.at (.slc 4))], hf := fun x => slC us gn rl fr ++ [.row true EC.u32 (rl.drop x.k).reverse], μ := fun x => x.k }
  | 7 => some { X := XOr2 us fr, sl := [5, 3], tf := fun x => [vi .i64 (fr + 1 + (x.n : Int)), .one (.at (.slc 4))], hf := fun x => slC us gn rl fr ++ [.row true EC.u32 (rl.reverse ++ upTo fr x.n)], μ := fun x => ((us.length : Int) - 1 - fr).toNat - x.n }
  | _ => none }
def tOrder : Tfm C0 := fun args H K => match args with
  | [.at (.ptr 0 0)] => slM H fun us gn rl fr => 1 ≤ us.length ∧ us.length ≤ 65537 ∧ rl.length ≤ 65537 ∧ 0 ≤ fr ∧ fr ≤ us.length - 1 ∧ ∀ o : List Int, o = orderL us rl fr → K (.one (.at (.slc 4))) (slC us gn rl fr ++ [.row true EC.u32 o]) []
  | _ => False
def SlotT.zero : SlotT := ⟨false, 0, 0, NodeT.zero⟩
def slotAt (S : Arn) (k : Nat) : SlotT := ⟨S.us ((k : Int) + 1), if S.us ((k : Int) + 1) then S.ct ((k : Int) + 1) else 0, S.gn ((k : Int) + 1), S.nd ((k : Int) + 1)⟩
def ncap (S : Arn) : Nat := S.used.length - 1
def slotsOf (S : Arn) : List SlotT := (List.range (ncap S)).map (slotAt S)
def orderOf (S : Arn) : List Int := orderL S.used S.rel S.fresh
structure XDu (S : Arn) where
  i : Nat
  h : i ≤ ncap S
def fillS (S : Arn) (i : Nat) : List SlotT := (List.range i).map (slotAt S) ++ List.replicate (ncap S - i) SlotT.zero
noncomputable def aDump (S : Arn) : Ann C0 := { quiet := [71, 22, 80, 66], Γ := [(66, frameT [] tCap), (79, frameT [] tOrder), (71, frameT [] tSlAllocated), (22, frameT [] tCount), (80, frameT [] tGen)], inv := fun n => match n with
  | 1002 => some { X := Unit, sl := [3, 2], tf := fun _ => [.one (.at (.ptr 7 0)), .one (.at (.ptr 10 0))], hf := fun _ => chS S ++ [.box [.slc 8, .slc 9], .row true EC.slot (fillS S 0), .row true EC.u32 (orderOf S), .box [.slc 11, .slc 12], .row true EC.slot [], .row true EC.u32 []] }
  | 3 => some { X := XDu S, sl := [18, 3, 2], tf := fun x => [vi .i64 x.i, .one (.at (.ptr 7 0)), .one (.at (.ptr 10 0))], hf := fun x => chS S ++ [.box [.slc 8, .slc 9], .row true EC.slot (fillS S x.i), .row true EC.u32 (orderOf S), .box [.slc 11, .slc 12], .row true EC.slot [], .row true EC.u32 []], μ := fun x => ncap S - x.i }
  | _ => none }
def tDump : Tfm C0 := fun args H K => match args with
  | [.at (.ptr 0 0)] => arM H fun S => exW S ∧ ∀ (d : List SlotT) (o : List Int), d = slotsOf S → o = orderOf S → K (.one (.agg [.slc 7, .slc 8])) (chS S ++ [.row true EC.slot d, .row true EC.u32 o]) []
  | _ => False
theorem upTo_snoc (fr : Int) (n : Nat) : upTo fr n ++ [fr + 1 + (n : Int)] = upTo fr (n + 1) := by
  unfold upTo; rw [List.range_succ, List.map_append]; rfl
theorem vc_order (us : List Bool) (gn rl : List Int) (fr : Int) (K : KT) (h1 : 1 ≤ us.length) (h2 : us.length ≤ 65537) (h3 : rl.length ≤ 65537) (h4 : 0 ≤ fr) (h5 : fr ≤ us.length - 1) (h : ∀ o : List Int, o = orderL us rl fr → K (.one (.at (.slc 4))) (slC us gn rl fr ++ [.row true EC.u32 o]) []) :
    vc C0 (aOrder us gn rl fr) Try.f79 [.at (.ptr 0 0)] (slC us gn rl fr) (normK 4 K) := by
  refine Eq.mp (show ((1 ≤ us.length) ∧
(us.length ≤ 65537) ∧
(rl.length ≤ 65537) ∧
(0 ≤ fr) ∧
(fr ≤ 65537) ∧
((0 : Int) ≤ 0) ∧
(0 ≤ (↑rl.length : Int) + ((↑us.length : Int) - 1) - fr) ∧
(((↑rl.length : Int) + ((↑us.length : Int) - 1) - fr) * (↑(bytesOf C0 EC.u32) : Int) ≤ 140737488355328) ∧
(∃ x : XOr1 rl,
  (True ∧
  (True ∧
  True ∧
  ((Value.int IntKind.i64 (IntKind.i64.wrap ((↑rl.length : Int) - 1))) = (Value.int IntKind.i64 ((↑x.k : Int) - 1))) ∧
  True) ∧
  (True ∧
  True ∧
  True ∧
  ((Value.int IntKind.u32 (fr)) = (Value.int IntKind.u32 (fr))) ∧
  True) ∧
  ((us) = (us)) ∧
  ((gn) = (gn)) ∧
  ((rl) = (rl)) ∧
  ([] = ((List.drop x.k rl).reverse)) ∧
  True)) ∧
(∀ x : XOr1 rl,
  (True →
  (brS (decide ((↑x.k : Int) - 1 ≥ 0))
    (((0 ≤ (↑x.k : Int) - 1) ∧
    ((↑x.k : Int) - 1 < (↑rl.length : Int)) ∧
    (((List.drop x.k rl).reverse.length + [rl.getD ((↑x.k : Int) - 1).toNat 0].length) * bytesOf C0 EC.u32 ≤ 140737488355328) ∧
    (∃ x' : XOr1 rl,
      (True ∧
      ((True ∧
      True ∧
      ((Value.int IntKind.i64 (IntKind.i64.wrap ((↑x.k : Int) - 1 - 1))) = (Value.int IntKind.i64 ((↑x'.k : Int) - 1))) ∧
      True) ∧
      (True ∧
      True ∧
      True ∧
      ((Value.int IntKind.u32 (fr)) = (Value.int IntKind.u32 (fr))) ∧
      True) ∧
      ((us) = (us)) ∧
      ((gn) = (gn)) ∧
      ((rl) = (rl)) ∧
      (((List.drop x.k rl).reverse ++ [rl.getD ((↑x.k : Int) - 1).toNat 0]) = ((List.drop x'.k rl).reverse)) ∧
      True) ∧
      (x'.k < x.k)))))
    (((∃ x1 : XOr2 us fr,
      (True ∧
      (True ∧
      True ∧
      ((Value.int IntKind.i64 (IntKind.i64.wrap (IntKind.i64.wrap fr + 1))) = (Value.int IntKind.i64 (fr + 1 + (↑x1.n : Int)))) ∧
      True) ∧
      (True ∧
      True ∧
      True ∧
      ((Value.int IntKind.u32 (fr)) = (Value.int IntKind.u32 (fr))) ∧
      True) ∧
      ((us) = (us)) ∧
      ((gn) = (gn)) ∧
      ((rl) = (rl)) ∧
      (((List.drop x.k rl).reverse) = (rl.reverse ++ upTo fr x1.n)) ∧
      True)) ∧
    (∀ x1 : XOr2 us fr,
      (True →
      ((1 ≤ us.length) ∧
      (us.length ≤ 65537) ∧
      (brS (decide (fr + 1 + (↑x1.n : Int) ≤ (↑us.length : Int) - 1))
        (((((rl.reverse ++ upTo fr x1.n).length + [IntKind.u32.wrap (fr + 1 + (↑x1.n : Int))].length) * bytesOf C0 EC.u32 ≤ 140737488355328) ∧
        (∃ x' : XOr2 us fr,
          (True ∧
          ((True ∧
          True ∧
          ((Value.int IntKind.i64 (IntKind.i64.wrap (fr + 1 + (↑x1.n : Int) + 1))) = (Value.int IntKind.i64 (fr + 1 + (↑x'.n : Int)))) ∧
          True) ∧
          (True ∧
          True ∧
          True ∧
          ((Value.int IntKind.u32 (fr)) = (Value.int IntKind.u32 (fr))) ∧
          True) ∧
          ((us) = (us)) ∧
          ((gn) = (gn)) ∧
          ((rl) = (rl)) ∧
          ((rl.reverse ++ upTo fr x1.n ++ [IntKind.u32.wrap (fr + 1 + (↑x1.n : Int))]) = (rl.reverse ++ upTo fr x'.n)) ∧
          True) ∧
          (((↑us.length : Int) - 1 - fr).toNat - x'.n < ((↑us.length : Int) - 1 - fr).toNat - x1.n)))))
        ((K (SV.one (TV.at (At.slc 4))) [(Chunk.box [(At.slc 1), (At.slc 2), (At.slc 3), (At.val (Value.int IntKind.u32 (fr)))]), (Chunk.row true (EC.bool) (us)), (Chunk.row true (EC.u32) (gn)), (Chunk.row true (EC.u32) (rl)), (Chunk.row true (EC.u32) (rl.reverse ++ upTo fr x1.n))] [])))))))))))) = _ by kernel_rfl) ?_
  rw [bytes_u32]
  rw [wrap_id (x := (rl.length : Int) - 1) (by omega) (by omega), wrap_id (x := fr) (by omega) (by omega), wrap_id (x := fr + 1) (by omega) (by omega)]
  refine ⟨h1, h2, h3, h4, by omega, by decide, by omega, by omega, ⟨⟨rl.length, Nat.le_refl _⟩, trivial, ⟨trivial, trivial, rfl, trivial⟩, ⟨trivial, trivial, trivial, rfl, trivial⟩, rfl, rfl, rfl, by simp, trivial⟩, fun x _ => brS_of (fun c => ?_) fun c => ?_⟩
  · have c : 1 ≤ x.k := by have := of_decide_eq_true c; omega
    have hk := x.h
    have hg : rl[x.k - 1]? = some (rl.getD (x.k - 1) 0) := by simp [List.getD_eq_getElem?_getD, List.getElem?_eq_getElem (show x.k - 1 < rl.length by omega)]
    rw [wrap_id (by omega) (by omega), show ((x.k : Int) - 1).toNat = x.k - 1 by omega]
    refine ⟨by omega, by omega, ?_, ⟨x.k - 1, by omega⟩, trivial, ⟨⟨trivial, trivial, ?_, trivial⟩, ⟨trivial, trivial, trivial, rfl, trivial⟩, rfl, rfl, rfl, ?_, trivial⟩, ?_⟩
    · simp; omega
    · congr 1; show (x.k : Int) - 1 - 1 = ((x.k - 1 : Nat) : Int) - 1; omega
    · show _ = (rl.drop (x.k - 1)).reverse
      rw [drop_cons hg, List.reverse_cons, show x.k - 1 + 1 = x.k by omega]
    · show x.k - 1 < x.k; omega
  · have c : x.k = 0 := by have := of_decide_eq_false c; omega
    refine ⟨⟨⟨0, Nat.zero_le _⟩, trivial, ⟨trivial, trivial, by congr 1; show fr + 1 = fr + 1 + ((0 : Nat) : Int); omega, trivial⟩, ⟨trivial, trivial, trivial, rfl, trivial⟩, rfl, rfl, rfl, by rw [c]; simp [upTo], trivial⟩, fun y _ => ⟨h1, h2, brS_of (fun d => ?_) fun d => ?_⟩⟩
    · have d : fr + 1 + (y.n : Int) ≤ us.length - 1 := of_decide_eq_true d
      have hul : (upTo fr y.n).length = y.n := by simp [upTo]
      rw [wrap_u32 (by omega) (by omega), wrap_id (by omega) (by omega)]
      refine ⟨?_, ⟨y.n + 1, by omega⟩, trivial, ⟨⟨trivial, trivial, ?_, trivial⟩, ⟨trivial, trivial, trivial, rfl, trivial⟩, rfl, rfl, rfl, ?_, trivial⟩, ?_⟩
      · simp [hul]; omega
      · congr 1; show fr + 1 + (y.n : Int) + 1 = fr + 1 + ((y.n + 1 : Nat) : Int); omega
      · show _ = rl.reverse ++ upTo fr (y.n + 1)
        rw [← upTo_snoc, List.append_assoc]
      · show _ - (y.n + 1) < _; omega
    · have d : ¬ fr + 1 + (y.n : Int) ≤ us.length - 1 := of_decide_eq_false d
      have hn : y.n = ((us.length : Int) - 1 - fr).toNat := by have := y.h; omega
      exact h _ (by unfold orderL; rw [hn])
theorem s_order : SoundT C0 79 tOrder := by
  refine .of Try.func79 (by decide) rfl fun args H K h hB => ?_
  unfold tOrder at h
  split at h <;> try exact h.elim
  unfold slM at h
  split at h <;> try exact h.elim
  rename_i fr us gn rl
  obtain ⟨h1, h2, h3, h4, h5, h6⟩ := h
  exact ⟨aOrder us gn rl fr, ⟨frame C0.ok s_slFree _, frame C0.ok s_slCap _, trivial⟩, vc_order us gn rl fr K h1 h2 h3 h4 h5 h6⟩
theorem fill_zero (S : Arn) : List.replicate (ncap S) SlotT.zero = fillS S 0 := by simp [fillS]
theorem fill_len (S : Arn) (i : Nat) (h : i ≤ ncap S) : (fillS S i).length = ncap S := by simp [fillS]; omega
theorem fill_next (S : Arn) {i : Nat} (h : i < ncap S) : (fillS S i).set i (slotAt S i) = fillS S (i + 1) := by
  unfold fillS
  obtain ⟨m, hm⟩ : ∃ m, ncap S - i = m + 1 := ⟨ncap S - i - 1, by omega⟩
  rw [hm, show ncap S - (i + 1) = m by omega, List.range_succ, List.map_append, List.replicate_succ, List.set_append_right _ _ (by simp)]
  simp
theorem fill_all (S : Arn) : fillS S (ncap S) = slotsOf S := by simp [fillS, slotsOf]
theorem vc_dump (S : Arn) (K : KT) (hw : exW S) (h : ∀ (d : List SlotT) (o : List Int), d = slotsOf S → o = orderOf S → K (.one (.agg [.slc 7, .slc 8])) (chS S ++ [.row true EC.slot d, .row true EC.u32 o]) []) :
    vc C0 (aDump S) Try.f25 [.at (.ptr 0 0)] (chS S) (normK 7 K) := by
  refine Eq.mp (show ((((exW S) ∧
((0 ≤ S.cap) ∧
(S.cap ≤ S.cap) ∧
(S.cap * (↑(bytesOf C0 EC.slot) : Int) ≤ 140737488355328) ∧
(((1 ≤ S.used.length) ∧
(S.used.length ≤ 65537) ∧
(S.rel.length ≤ 65537) ∧
(0 ≤ S.fresh) ∧
(S.fresh ≤ (↑S.used.length : Int) - 1) ∧
(∀ o : List Int,
  (((o) = (orderL S.used S.rel S.fresh)) →
  (∃ x : Unit,
    (True ∧
    (True ∧
    True ∧
    True ∧
    True) ∧
    (True ∧
    True ∧
    True ∧
    ((Value.int IntKind.u64 (S.reads)) = (Value.int IntKind.u64 (S.reads))) ∧
    True) ∧
    (True ∧
    True ∧
    True ∧
    ((Value.int IntKind.u32 (S.fresh)) = (Value.int IntKind.u32 (S.fresh))) ∧
    True) ∧
    ((S.nodes) = (S.nodes)) ∧
    ((S.counts) = (S.counts)) ∧
    ((S.used) = (S.used)) ∧
    ((S.gen) = (S.gen)) ∧
    ((S.rel) = (S.rel)) ∧
    (True ∧
    True ∧
    True) ∧
    ((List.replicate S.cap.toNat { alloc := false, count := 0, gen := 0, node := { key := 0, value := 0, left := 0, right := 0, size := 0, sum := 0, min := 0, max := 0 : NodeT } : SlotT }) = (fillS S 0)) ∧
    ((o) = (orderOf S)) ∧
    (True ∧
    True ∧
    True) ∧
    ((([] : List SlotT) = [])) ∧
    ((([] : List Int) = [])) ∧
    True))))) ∧
(1 ≤ S.used.length) ∧
(S.used.length ≤ 65537) ∧
(S.rel.length ≤ 65537) ∧
(0 ≤ S.fresh) ∧
(S.fresh ≤ (↑S.used.length : Int) - 1) ∧
(∀ o : List Int,
  (((o) = (orderL S.used S.rel S.fresh)) →
  (∃ x : Unit,
    (True ∧
    (True ∧
    True ∧
    True ∧
    True) ∧
    (True ∧
    True ∧
    True ∧
    ((Value.int IntKind.u64 (S.reads)) = (Value.int IntKind.u64 (S.reads))) ∧
    True) ∧
    (True ∧
    True ∧
    True ∧
    ((Value.int IntKind.u32 (S.fresh)) = (Value.int IntKind.u32 (S.fresh))) ∧
    True) ∧
    ((S.nodes) = (S.nodes)) ∧
    ((S.counts) = (S.counts)) ∧
    ((S.used) = (S.used)) ∧
    ((S.gen) = (S.gen)) ∧
    ((S.rel) = (S.rel)) ∧
    (True ∧
    True ∧
    True) ∧
    ((List.replicate S.cap.toNat { alloc := false, count := 0, gen := 0, node := { key := 0, value := 0, left := 0, right := 0, size := 0, sum := 0, min := 0, max := 0 : NodeT } : SlotT }) = (fillS S 0)) ∧
    ((o) = (orderOf S)) ∧
    (True ∧
    True ∧
    True) ∧
    ((([] : List SlotT) = [])) ∧
    ((([] : List Int) = [])) ∧
    True))))) ∧
(1 ≤ S.used.length) ∧
(S.used.length ≤ 65537) ∧
(S.rel.length ≤ 65537) ∧
(0 ≤ S.fresh) ∧
(S.fresh ≤ (↑S.used.length : Int) - 1) ∧
(∀ o : List Int,
  (((o) = (orderL S.used S.rel S.fresh)) →
  (∃ x : Unit,
    (True ∧
    (True ∧
    True ∧
    True ∧
    True) ∧
    (True ∧
    True ∧
    True ∧
    ((Value.int IntKind.u64 (S.reads)) = (Value.int IntKind.u64 (S.reads))) ∧
    True) ∧
    (True ∧
    True ∧
    True ∧
    ((Value.int IntKind.u32 (S.fresh)) = (Value.int IntKind.u32 (S.fresh))) ∧
    True) ∧
    ((S.nodes) = (S.nodes)) ∧
    ((S.counts) = (S.counts)) ∧
    ((S.used) = (S.used)) ∧
    ((S.gen) = (S.gen)) ∧
    ((S.rel) = (S.rel)) ∧
    (True ∧
    True ∧
    True) ∧
    ((List.replicate S.cap.toNat { alloc := false, count := 0, gen := 0, node := { key := 0, value := 0, left := 0, right := 0, size := 0, sum := 0, min := 0, max := 0 : NodeT } : SlotT }) = (fillS S 0)) ∧
    ((o) = (orderOf S)) ∧
    (True ∧
    True ∧
    True) ∧
    ((([] : List SlotT) = [])) ∧
    ((([] : List Int) = [])) ∧
    True))))) ∧
(((0 ≤ S.cap) ∧
(S.cap ≤ S.cap) ∧
(S.cap * (↑(bytesOf C0 EC.slot) : Int) ≤ 140737488355328) ∧
((1 ≤ S.used.length) ∧
(S.used.length ≤ 65537) ∧
(S.rel.length ≤ 65537) ∧
(0 ≤ S.fresh) ∧
(S.fresh ≤ (↑S.used.length : Int) - 1) ∧
(∀ o : List Int,
  (((o) = (orderL S.used S.rel S.fresh)) →
  (∃ x : Unit,
    (True ∧
    (True ∧
    True ∧
    True ∧
    True) ∧
    (True ∧
    True ∧
    True ∧
    ((Value.int IntKind.u64 (S.reads)) = (Value.int IntKind.u64 (S.reads))) ∧
    True) ∧
    (True ∧
    True ∧
    True ∧
    ((Value.int IntKind.u32 (S.fresh)) = (Value.int IntKind.u32 (S.fresh))) ∧
    True) ∧
    ((S.nodes) = (S.nodes)) ∧
    ((S.counts) = (S.counts)) ∧
    ((S.used) = (S.used)) ∧
    ((S.gen) = (S.gen)) ∧
    ((S.rel) = (S.rel)) ∧
    (True ∧
    True ∧
    True) ∧
    ((List.replicate S.cap.toNat { alloc := false, count := 0, gen := 0, node := { key := 0, value := 0, left := 0, right := 0, size := 0, sum := 0, min := 0, max := 0 : NodeT } : SlotT }) = (fillS S 0)) ∧
    ((o) = (orderOf S)) ∧
    (True ∧
    True ∧
    True) ∧
    ((([] : List SlotT) = [])) ∧
    ((([] : List Int) = [])) ∧
    True))))) ∧
(1 ≤ S.used.length) ∧
(S.used.length ≤ 65537) ∧
(S.rel.length ≤ 65537) ∧
(0 ≤ S.fresh) ∧
(S.fresh ≤ (↑S.used.length : Int) - 1) ∧
(∀ o : List Int,
  (((o) = (orderL S.used S.rel S.fresh)) →
  (∃ x : Unit,
    (True ∧
    (True ∧
    True ∧
    True ∧
    True) ∧
    (True ∧
    True ∧
    True ∧
    ((Value.int IntKind.u64 (S.reads)) = (Value.int IntKind.u64 (S.reads))) ∧
    True) ∧
    (True ∧
    True ∧
    True ∧
    ((Value.int IntKind.u32 (S.fresh)) = (Value.int IntKind.u32 (S.fresh))) ∧
    True) ∧
    ((S.nodes) = (S.nodes)) ∧
    ((S.counts) = (S.counts)) ∧
    ((S.used) = (S.used)) ∧
    ((S.gen) = (S.gen)) ∧
    ((S.rel) = (S.rel)) ∧
    (True ∧
    True ∧
    True) ∧
    ((List.replicate S.cap.toNat { alloc := false, count := 0, gen := 0, node := { key := 0, value := 0, left := 0, right := 0, size := 0, sum := 0, min := 0, max := 0 : NodeT } : SlotT }) = (fillS S 0)) ∧
    ((o) = (orderOf S)) ∧
    (True ∧
    True ∧
    True) ∧
    ((([] : List SlotT) = [])) ∧
    ((([] : List Int) = [])) ∧
    True))))) ∧
((1 ≤ S.used.length) ∧
(S.used.length ≤ 65537) ∧
(S.rel.length ≤ 65537) ∧
(0 ≤ S.fresh) ∧
(S.fresh ≤ (↑S.used.length : Int) - 1) ∧
(∀ o : List Int,
  (((o) = (orderL S.used S.rel S.fresh)) →
  (((0 ≤ S.cap) ∧
  (S.cap ≤ S.cap) ∧
  (S.cap * (↑(bytesOf C0 EC.slot) : Int) ≤ 140737488355328) ∧
  (∃ x : Unit,
    (True ∧
    (True ∧
    True ∧
    True ∧
    True) ∧
    (True ∧
    True ∧
    True ∧
    ((Value.int IntKind.u64 (S.reads)) = (Value.int IntKind.u64 (S.reads))) ∧
    True) ∧
    (True ∧
    True ∧
    True ∧
    ((Value.int IntKind.u32 (S.fresh)) = (Value.int IntKind.u32 (S.fresh))) ∧
    True) ∧
    ((S.nodes) = (S.nodes)) ∧
    ((S.counts) = (S.counts)) ∧
    ((S.used) = (S.used)) ∧
    ((S.gen) = (S.gen)) ∧
    ((S.rel) = (S.rel)) ∧
    (True ∧
    True ∧
    True) ∧
    ((List.replicate S.cap.toNat { alloc := false, count := 0, gen := 0, node := { key := 0, value := 0, left := 0, right := 0, size := 0, sum := 0, min := 0, max := 0 : NodeT } : SlotT }) = (fillS S 0)) ∧
    ((o) = (orderOf S)) ∧
    (True ∧
    True ∧
    True) ∧
    ((([] : List SlotT) = [])) ∧
    ((([] : List Int) = [])) ∧
    True))) ∧
  (0 ≤ S.cap) ∧
  (S.cap ≤ S.cap) ∧
  (S.cap * (↑(bytesOf C0 EC.slot) : Int) ≤ 140737488355328) ∧
  (∃ x : Unit,
    (True ∧
    (True ∧
    True ∧
    True ∧
    True) ∧
    (True ∧
    True ∧
    True ∧
    ((Value.int IntKind.u64 (S.reads)) = (Value.int IntKind.u64 (S.reads))) ∧
    True) ∧
    (True ∧
    True ∧
    True ∧
    ((Value.int IntKind.u32 (S.fresh)) = (Value.int IntKind.u32 (S.fresh))) ∧
    True) ∧
    ((S.nodes) = (S.nodes)) ∧
    ((S.counts) = (S.counts)) ∧
    ((S.used) = (S.used)) ∧
    ((S.gen) = (S.gen)) ∧
    ((S.rel) = (S.rel)) ∧
    (True ∧
    True ∧
    True) ∧
    ((List.replicate S.cap.toNat { alloc := false, count := 0, gen := 0, node := { key := 0, value := 0, left := 0, right := 0, size := 0, sum := 0, min := 0, max := 0 : NodeT } : SlotT }) = (fillS S 0)) ∧
    ((o) = (orderOf S)) ∧
    (True ∧
    True ∧
    True) ∧
    ((([] : List SlotT) = [])) ∧
    ((([] : List Int) = [])) ∧
    True)))))) ∧
((0 ≤ S.cap) ∧
(S.cap ≤ S.cap) ∧
(S.cap * (↑(bytesOf C0 EC.slot) : Int) ≤ 140737488355328) ∧
(1 ≤ S.used.length) ∧
(S.used.length ≤ 65537) ∧
(S.rel.length ≤ 65537) ∧
(0 ≤ S.fresh) ∧
(S.fresh ≤ (↑S.used.length : Int) - 1) ∧
(∀ o : List Int,
  (((o) = (orderL S.used S.rel S.fresh)) →
  (∃ x : Unit,
    (True ∧
    (True ∧
    True ∧
    True ∧
    True) ∧
    (True ∧
    True ∧
    True ∧
    ((Value.int IntKind.u64 (S.reads)) = (Value.int IntKind.u64 (S.reads))) ∧
    True) ∧
    (True ∧
    True ∧
    True ∧
    ((Value.int IntKind.u32 (S.fresh)) = (Value.int IntKind.u32 (S.fresh))) ∧
    True) ∧
    ((S.nodes) = (S.nodes)) ∧
    ((S.counts) = (S.counts)) ∧
    ((S.used) = (S.used)) ∧
    ((S.gen) = (S.gen)) ∧
    ((S.rel) = (S.rel)) ∧
    (True ∧
    True ∧
    True) ∧
    ((List.replicate S.cap.toNat { alloc := false, count := 0, gen := 0, node := { key := 0, value := 0, left := 0, right := 0, size := 0, sum := 0, min := 0, max := 0 : NodeT } : SlotT }) = (fillS S 0)) ∧
    ((o) = (orderOf S)) ∧
    (True ∧
    True ∧
    True) ∧
    ((([] : List SlotT) = [])) ∧
    ((([] : List Int) = [])) ∧
    True))))) ∧
(1 ≤ S.used.length) ∧
(S.used.length ≤ 65537) ∧
(S.rel.length ≤ 65537) ∧
(0 ≤ S.fresh) ∧
(S.fresh ≤ (↑S.used.length : Int) - 1) ∧
(∀ o : List Int,
  (((o) = (orderL S.used S.rel S.fresh)) →
  ((0 ≤ S.cap) ∧
  (S.cap ≤ S.cap) ∧
  (S.cap * (↑(bytesOf C0 EC.slot) : Int) ≤ 140737488355328) ∧
  (∃ x : Unit,
    (True ∧
    (True ∧
    True ∧
    True ∧
    True) ∧
    (True ∧
    True ∧
    True ∧
    ((Value.int IntKind.u64 (S.reads)) = (Value.int IntKind.u64 (S.reads))) ∧
    True) ∧
    (True ∧
    True ∧
    True ∧
    ((Value.int IntKind.u32 (S.fresh)) = (Value.int IntKind.u32 (S.fresh))) ∧
    True) ∧
    ((S.nodes) = (S.nodes)) ∧
    ((S.counts) = (S.counts)) ∧
    ((S.used) = (S.used)) ∧
    ((S.gen) = (S.gen)) ∧
    ((S.rel) = (S.rel)) ∧
    (True ∧
    True ∧
    True) ∧
    ((List.replicate S.cap.toNat { alloc := false, count := 0, gen := 0, node := { key := 0, value := 0, left := 0, right := 0, size := 0, sum := 0, min := 0, max := 0 : NodeT } : SlotT }) = (fillS S 0)) ∧
    ((o) = (orderOf S)) ∧
    (True ∧
    True ∧
    True) ∧
    ((([] : List SlotT) = [])) ∧
    ((([] : List Int) = [])) ∧
    True)))))) ∧
((0 ≤ S.cap) ∧
(S.cap ≤ S.cap) ∧
(S.cap * (↑(bytesOf C0 EC.slot) : Int) ≤ 140737488355328) ∧
(1 ≤ S.used.length) ∧
(S.used.length ≤ 65537) ∧
(S.rel.length ≤ 65537) ∧
(0 ≤ S.fresh) ∧
(S.fresh ≤ (↑S.used.length : Int) - 1) ∧
(∀ o : List Int,
  (((o) = (orderL S.used S.rel S.fresh)) →
  (∃ x : Unit,
    (True ∧
    (True ∧
    True ∧
    True ∧
    True) ∧
    (True ∧
    True ∧
    True ∧
    ((Value.int IntKind.u64 (S.reads)) = (Value.int IntKind.u64 (S.reads))) ∧
    True) ∧
    (True ∧
    True ∧
    True ∧
    ((Value.int IntKind.u32 (S.fresh)) = (Value.int IntKind.u32 (S.fresh))) ∧
    True) ∧
    ((S.nodes) = (S.nodes)) ∧
    ((S.counts) = (S.counts)) ∧
    ((S.used) = (S.used)) ∧
    ((S.gen) = (S.gen)) ∧
    ((S.rel) = (S.rel)) ∧
    (True ∧
    True ∧
    True) ∧
    ((List.replicate S.cap.toNat { alloc := false, count := 0, gen := 0, node := { key := 0, value := 0, left := 0, right := 0, size := 0, sum := 0, min := 0, max := 0 : NodeT } : SlotT }) = (fillS S 0)) ∧
    ((o) = (orderOf S)) ∧
    (True ∧
    True ∧
    True) ∧
    ((([] : List SlotT) = [])) ∧
    ((([] : List Int) = [])) ∧
    True))))) ∧
((0 ≤ S.cap) ∧
(S.cap ≤ S.cap) ∧
(S.cap * (↑(bytesOf C0 EC.slot) : Int) ≤ 140737488355328) ∧
(1 ≤ S.used.length) ∧
(S.used.length ≤ 65537) ∧
(S.rel.length ≤ 65537) ∧
(0 ≤ S.fresh) ∧
(S.fresh ≤ (↑S.used.length : Int) - 1) ∧
(∀ o : List Int,
  (((o) = (orderL S.used S.rel S.fresh)) →
  (∃ x : Unit,
    (True ∧
    (True ∧
    True ∧
    True ∧
    True) ∧
    (True ∧
    True ∧
    True ∧
    ((Value.int IntKind.u64 (S.reads)) = (Value.int IntKind.u64 (S.reads))) ∧
    True) ∧
    (True ∧
    True ∧
    True ∧
    ((Value.int IntKind.u32 (S.fresh)) = (Value.int IntKind.u32 (S.fresh))) ∧
    True) ∧
    ((S.nodes) = (S.nodes)) ∧
    ((S.counts) = (S.counts)) ∧
    ((S.used) = (S.used)) ∧
    ((S.gen) = (S.gen)) ∧
    ((S.rel) = (S.rel)) ∧
    (True ∧
    True ∧
    True) ∧
    ((List.replicate S.cap.toNat { alloc := false, count := 0, gen := 0, node := { key := 0, value := 0, left := 0, right := 0, size := 0, sum := 0, min := 0, max := 0 : NodeT } : SlotT }) = (fillS S 0)) ∧
    ((o) = (orderOf S)) ∧
    (True ∧
    True ∧
    True) ∧
    ((([] : List SlotT) = [])) ∧
    ((([] : List Int) = [])) ∧
    True))))) ∧
(1 ≤ S.used.length) ∧
(S.used.length ≤ 65537) ∧
(S.rel.length ≤ 65537) ∧
(0 ≤ S.fresh) ∧
(S.fresh ≤ (↑S.used.length : Int) - 1) ∧
(∀ o : List Int,
  (((o) = (orderL S.used S.rel S.fresh)) →
  ((0 ≤ S.cap) ∧
  (S.cap ≤ S.cap) ∧
  (S.cap * (↑(bytesOf C0 EC.slot) : Int) ≤ 140737488355328) ∧
  (∃ x : Unit,
    (True ∧
    (True ∧
    True ∧
    True ∧
    True) ∧
    (True ∧
    True ∧
    True ∧
    ((Value.int IntKind.u64 (S.reads)) = (Value.int IntKind.u64 (S.reads))) ∧
    True) ∧
    (True ∧
    True ∧
    True ∧
    ((Value.int IntKind.u32 (S.fresh)) = (Value.int IntKind.u32 (S.fresh))) ∧
    True) ∧
    ((S.nodes) = (S.nodes)) ∧
    ((S.counts) = (S.counts)) ∧
    ((S.used) = (S.used)) ∧
    ((S.gen) = (S.gen)) ∧
    ((S.rel) = (S.rel)) ∧
    (True ∧
    True ∧
    True) ∧
    ((List.replicate S.cap.toNat { alloc := false, count := 0, gen := 0, node := { key := 0, value := 0, left := 0, right := 0, size := 0, sum := 0, min := 0, max := 0 : NodeT } : SlotT }) = (fillS S 0)) ∧
    ((o) = (orderOf S)) ∧
    (True ∧
    True ∧
    True) ∧
    ((([] : List SlotT) = [])) ∧
    ((([] : List Int) = [])) ∧
    True)))))) ∧
(((exW S) ∧
((0 ≤ S.cap) ∧
(S.cap ≤ S.cap) ∧
(S.cap * (↑(bytesOf C0 EC.slot) : Int) ≤ 140737488355328) ∧
((1 ≤ S.used.length) ∧
(S.used.length ≤ 65537) ∧
(S.rel.length ≤ 65537) ∧
(0 ≤ S.fresh) ∧
(S.fresh ≤ (↑S.used.length : Int) - 1) ∧
(∀ o : List Int,
  (((o) = (orderL S.used S.rel S.fresh)) →
  (∃ x : Unit,
    (True ∧
    (True ∧
    True ∧
    True ∧
    True) ∧
    (True ∧
    True ∧
    True ∧
    ((Value.int IntKind.u64 (S.reads)) = (Value.int IntKind.u64 (S.reads))) ∧
    True) ∧
    (True ∧
    True ∧
    True ∧
    ((Value.int IntKind.u32 (S.fresh)) = (Value.int IntKind.u32 (S.fresh))) ∧
    True) ∧
    ((S.nodes) = (S.nodes)) ∧
    ((S.counts) = (S.counts)) ∧
    ((S.used) = (S.used)) ∧
    ((S.gen) = (S.gen)) ∧
    ((S.rel) = (S.rel)) ∧
    (True ∧
    True ∧
    True) ∧
    ((List.replicate S.cap.toNat { alloc := false, count := 0, gen := 0, node := { key := 0, value := 0, left := 0, right := 0, size := 0, sum := 0, min := 0, max := 0 : NodeT } : SlotT }) = (fillS S 0)) ∧
    ((o) = (orderOf S)) ∧
    (True ∧
    True ∧
    True) ∧
    ((([] : List SlotT) = [])) ∧
    ((([] : List Int) = [])) ∧
    True))))) ∧
(1 ≤ S.used.length) ∧
(S.used.length ≤ 65537) ∧
(S.rel.length ≤ 65537) ∧
(0 ≤ S.fresh) ∧
(S.fresh ≤ (↑S.used.length : Int) - 1) ∧
(∀ o : List Int,
  (((o) = (orderL S.used S.rel S.fresh)) →
  (∃ x : Unit,
    (True ∧
    (True ∧
    True ∧
    True ∧
    True) ∧
    (True ∧
    True ∧
    True ∧
    ((Value.int IntKind.u64 (S.reads)) = (Value.int IntKind.u64 (S.reads))) ∧
    True) ∧
    (True ∧
    True ∧
    True ∧
    ((Value.int IntKind.u32 (S.fresh)) = (Value.int IntKind.u32 (S.fresh))) ∧
    True) ∧
    ((S.nodes) = (S.nodes)) ∧
    ((S.counts) = (S.counts)) ∧
    ((S.used) = (S.used)) ∧
    ((S.gen) = (S.gen)) ∧
    ((S.rel) = (S.rel)) ∧
    (True ∧
    True ∧
    True) ∧
    ((List.replicate S.cap.toNat { alloc := false, count := 0, gen := 0, node := { key := 0, value := 0, left := 0, right := 0, size := 0, sum := 0, min := 0, max := 0 : NodeT } : SlotT }) = (fillS S 0)) ∧
    ((o) = (orderOf S)) ∧
    (True ∧
    True ∧
    True) ∧
    ((([] : List SlotT) = [])) ∧
    ((([] : List Int) = [])) ∧
    True))))) ∧
((1 ≤ S.used.length) ∧
(S.used.length ≤ 65537) ∧
(S.rel.length ≤ 65537) ∧
(0 ≤ S.fresh) ∧
(S.fresh ≤ (↑S.used.length : Int) - 1) ∧
(∀ o : List Int,
  (((o) = (orderL S.used S.rel S.fresh)) →
  (((0 ≤ S.cap) ∧
  (S.cap ≤ S.cap) ∧
  (S.cap * (↑(bytesOf C0 EC.slot) : Int) ≤ 140737488355328) ∧
  (∃ x : Unit,
    (True ∧
    (True ∧
    True ∧
    True ∧
    True) ∧
    (True ∧
    True ∧
    True ∧
    ((Value.int IntKind.u64 (S.reads)) = (Value.int IntKind.u64 (S.reads))) ∧
    True) ∧
    (True ∧
    True ∧
    True ∧
    ((Value.int IntKind.u32 (S.fresh)) = (Value.int IntKind.u32 (S.fresh))) ∧
    True) ∧
    ((S.nodes) = (S.nodes)) ∧
    ((S.counts) = (S.counts)) ∧
    ((S.used) = (S.used)) ∧
    ((S.gen) = (S.gen)) ∧
    ((S.rel) = (S.rel)) ∧
    (True ∧
    True ∧
    True) ∧
    ((List.replicate S.cap.toNat { alloc := false, count := 0, gen := 0, node := { key := 0, value := 0, left := 0, right := 0, size := 0, sum := 0, min := 0, max := 0 : NodeT } : SlotT }) = (fillS S 0)) ∧
    ((o) = (orderOf S)) ∧
    (True ∧
    True ∧
    True) ∧
    ((([] : List SlotT) = [])) ∧
    ((([] : List Int) = [])) ∧
    True))) ∧
  (0 ≤ S.cap) ∧
  (S.cap ≤ S.cap) ∧
  (S.cap * (↑(bytesOf C0 EC.slot) : Int) ≤ 140737488355328) ∧
  (∃ x : Unit,
    (True ∧
    (True ∧
    True ∧
    True ∧
    True) ∧
    (True ∧
    True ∧
    True ∧
    ((Value.int IntKind.u64 (S.reads)) = (Value.int IntKind.u64 (S.reads))) ∧
    True) ∧
    (True ∧
    True ∧
    True ∧
    ((Value.int IntKind.u32 (S.fresh)) = (Value.int IntKind.u32 (S.fresh))) ∧
    True) ∧
    ((S.nodes) = (S.nodes)) ∧
    ((S.counts) = (S.counts)) ∧
    ((S.used) = (S.used)) ∧
    ((S.gen) = (S.gen)) ∧
    ((S.rel) = (S.rel)) ∧
    (True ∧
    True ∧
    True) ∧
    ((List.replicate S.cap.toNat { alloc := false, count := 0, gen := 0, node := { key := 0, value := 0, left := 0, right := 0, size := 0, sum := 0, min := 0, max := 0 : NodeT } : SlotT }) = (fillS S 0)) ∧
    ((o) = (orderOf S)) ∧
    (True ∧
    True ∧
    True) ∧
    ((([] : List SlotT) = [])) ∧
    ((([] : List Int) = [])) ∧
    True)))))) ∧
((0 ≤ S.cap) ∧
(S.cap ≤ S.cap) ∧
(S.cap * (↑(bytesOf C0 EC.slot) : Int) ≤ 140737488355328) ∧
(1 ≤ S.used.length) ∧
(S.used.length ≤ 65537) ∧
(S.rel.length ≤ 65537) ∧
(0 ≤ S.fresh) ∧
(S.fresh ≤ (↑S.used.length : Int) - 1) ∧
(∀ o : List Int,
  (((o) = (orderL S.used S.rel S.fresh)) →
  (∃ x : Unit,
    (True ∧
    (True ∧
    True ∧
    True ∧
    True) ∧
    (True ∧
    True ∧
    True ∧
    ((Value.int IntKind.u64 (S.reads)) = (Value.int IntKind.u64 (S.reads))) ∧
    True) ∧
    (True ∧
    True ∧
    True ∧
    ((Value.int IntKind.u32 (S.fresh)) = (Value.int IntKind.u32 (S.fresh))) ∧
    True) ∧
    ((S.nodes) = (S.nodes)) ∧
    ((S.counts) = (S.counts)) ∧
    ((S.used) = (S.used)) ∧
    ((S.gen) = (S.gen)) ∧
    ((S.rel) = (S.rel)) ∧
    (True ∧
    True ∧
    True) ∧
    ((List.replicate S.cap.toNat { alloc := false, count := 0, gen := 0, node := { key := 0, value := 0, left := 0, right := 0, size := 0, sum := 0, min := 0, max := 0 : NodeT } : SlotT }) = (fillS S 0)) ∧
    ((o) = (orderOf S)) ∧
    (True ∧
    True ∧
    True) ∧
    ((([] : List SlotT) = [])) ∧
    ((([] : List Int) = [])) ∧
    True))))) ∧
(1 ≤ S.used.length) ∧
(S.used.length ≤ 65537) ∧
(S.rel.length ≤ 65537) ∧
(0 ≤ S.fresh) ∧
(S.fresh ≤ (↑S.used.length : Int) - 1) ∧
(∀ o : List Int,
  (((o) = (orderL S.used S.rel S.fresh)) →
  ((0 ≤ S.cap) ∧
  (S.cap ≤ S.cap) ∧
  (S.cap * (↑(bytesOf C0 EC.slot) : Int) ≤ 140737488355328) ∧
  (∃ x : Unit,
    (True ∧
    (True ∧
    True ∧
    True ∧
    True) ∧
    (True ∧
    True ∧
    True ∧
    ((Value.int IntKind.u64 (S.reads)) = (Value.int IntKind.u64 (S.reads))) ∧
    True) ∧
    (True ∧
    True ∧
    True ∧
    ((Value.int IntKind.u32 (S.fresh)) = (Value.int IntKind.u32 (S.fresh))) ∧
    True) ∧
    ((S.nodes) = (S.nodes)) ∧
    ((S.counts) = (S.counts)) ∧
    ((S.used) = (S.used)) ∧
    ((S.gen) = (S.gen)) ∧
    ((S.rel) = (S.rel)) ∧
    (True ∧
    True ∧
    True) ∧
    ((List.replicate S.cap.toNat { alloc := false, count := 0, gen := 0, node := { key := 0, value := 0, left := 0, right := 0, size := 0, sum := 0, min := 0, max := 0 : NodeT } : SlotT }) = (fillS S 0)) ∧
    ((o) = (orderOf S)) ∧
    (True ∧
    True ∧
    True) ∧
    ((([] : List SlotT) = [])) ∧
    ((([] : List Int) = [])) ∧
    True)))))) ∧
(exW S) ∧
((0 ≤ S.cap) ∧
(S.cap ≤ S.cap) ∧
(S.cap * (↑(bytesOf C0 EC.slot) : Int) ≤ 140737488355328) ∧
(1 ≤ S.used.length) ∧
(S.used.length ≤ 65537) ∧
(S.rel.length ≤ 65537) ∧
(0 ≤ S.fresh) ∧
(S.fresh ≤ (↑S.used.length : Int) - 1) ∧
(∀ o : List Int,
  (((o) = (orderL S.used S.rel S.fresh)) →
  (∃ x : Unit,
    (True ∧
    (True ∧
    True ∧
    True ∧
    True) ∧
    (True ∧
    True ∧
    True ∧
    ((Value.int IntKind.u64 (S.reads)) = (Value.int IntKind.u64 (S.reads))) ∧
    True) ∧
    (True ∧
    True ∧
    True ∧
    ((Value.int IntKind.u32 (S.fresh)) = (Value.int IntKind.u32 (S.fresh))) ∧
    True) ∧
    ((S.nodes) = (S.nodes)) ∧
    ((S.counts) = (S.counts)) ∧
    ((S.used) = (S.used)) ∧
    ((S.gen) = (S.gen)) ∧
    ((S.rel) = (S.rel)) ∧
    (True ∧
    True ∧
    True) ∧
    ((List.replicate S.cap.toNat { alloc := false, count := 0, gen := 0, node := { key := 0, value := 0, left := 0, right := 0, size := 0, sum := 0, min := 0, max := 0 : NodeT } : SlotT }) = (fillS S 0)) ∧
    ((o) = (orderOf S)) ∧
    (True ∧
    True ∧
    True) ∧
    ((([] : List SlotT) = [])) ∧
    ((([] : List Int) = [])) ∧
    True))))) ∧
(1 ≤ S.used.length) ∧
(S.used.length ≤ 65537) ∧
(S.rel.length ≤ 65537) ∧
(0 ≤ S.fresh) ∧
(S.fresh ≤ (↑S.used.length : Int) - 1) ∧
(∀ o : List Int,
  (((o) = (orderL S.used S.rel S.fresh)) →
  ((0 ≤ S.cap) ∧
  (S.cap ≤ S.cap) ∧
  (S.cap * (↑(bytesOf C0 EC.slot) : Int) ≤ 140737488355328) ∧
  (∃ x : Unit,
    (True ∧
    (True ∧
    True ∧
    True ∧
    True) ∧
    (True ∧
    True ∧
    True ∧
    ((Value.int IntKind.u64 (S.reads)) = (Value.int IntKind.u64 (S.reads))) ∧
    True) ∧
    (True ∧
    True ∧
    True ∧
    ((Value.int IntKind.u32 (S.fresh)) = (Value.int IntKind.u32 (S.fresh))) ∧
    True) ∧
    ((S.nodes) = (S.nodes)) ∧
    ((S.counts) = (S.counts)) ∧
    ((S.used) = (S.used)) ∧
    ((S.gen) = (S.gen)) ∧
    ((S.rel) = (S.rel)) ∧
    (True ∧
    True ∧
    True) ∧
    ((List.replicate S.cap.toNat { alloc := false, count := 0, gen := 0, node := { key := 0, value := 0, left := 0, right := 0, size := 0, sum := 0, min := 0, max := 0 : NodeT } : SlotT }) = (fillS S 0)) ∧
    ((o) = (orderOf S)) ∧
    (True ∧
    True ∧
    True) ∧
    ((([] : List SlotT) = [])) ∧
    ((([] : List Int) = [])) ∧
    True)))))) ∧
((exW S) ∧
((0 ≤ S.cap) ∧
(S.cap ≤ S.cap) ∧
(S.cap * (↑(bytesOf C0 EC.slot) : Int) ≤ 140737488355328) ∧
(1 ≤ S.used.length) ∧
(S.used.length ≤ 65537) ∧
(S.rel.length ≤ 65537) ∧
(0 ≤ S.fresh) ∧
(S.fresh ≤ (↑S.used.length : Int) - 1) ∧
(∀ o : List Int,
  (((o) = (orderL S.used S.rel S.fresh)) →
  (∃ x : Unit,
    (True ∧
    (True ∧
    True ∧
    True ∧
    True) ∧
    (True ∧
    True ∧
    True ∧
    ((Value.int IntKind.u64 (S.reads)) = (Value.int IntKind.u64 (S.reads))) ∧
    True) ∧
    (True ∧
    True ∧
    True ∧
    ((Value.int IntKind.u32 (S.fresh)) = (Value.int IntKind.u32 (S.fresh))) ∧
    True) ∧
    ((S.nodes) = (S.nodes)) ∧
    ((S.counts) = (S.counts)) ∧
    ((S.used) = (S.used)) ∧
    ((S.gen) = (S.gen)) ∧
    ((S.rel) = (S.rel)) ∧
    (True ∧
    True ∧
    True) ∧
    ((List.replicate S.cap.toNat { alloc := false, count := 0, gen := 0, node := { key := 0, value := 0, left := 0, right := 0, size := 0, sum := 0, min := 0, max := 0 : NodeT } : SlotT }) = (fillS S 0)) ∧
    ((o) = (orderOf S)) ∧
    (True ∧
    True ∧
    True) ∧
    ((([] : List SlotT) = [])) ∧
    ((([] : List Int) = [])) ∧
    True))))) ∧
((0 ≤ S.cap) ∧
(S.cap ≤ S.cap) ∧
(S.cap * (↑(bytesOf C0 EC.slot) : Int) ≤ 140737488355328) ∧
(1 ≤ S.used.length) ∧
(S.used.length ≤ 65537) ∧
(S.rel.length ≤ 65537) ∧
(0 ≤ S.fresh) ∧
(S.fresh ≤ (↑S.used.length : Int) - 1) ∧
(∀ o : List Int,
  (((o) = (orderL S.used S.rel S.fresh)) →
  (∃ x : Unit,
    (True ∧
    (True ∧
    True ∧
    True ∧
    True) ∧
    (True ∧
    True ∧
    True ∧
    ((Value.int IntKind.u64 (S.reads)) = (Value.int IntKind.u64 (S.reads))) ∧
    True) ∧
    (True ∧
    True ∧
    True ∧
    ((Value.int IntKind.u32 (S.fresh)) = (Value.int IntKind.u32 (S.fresh))) ∧
    True) ∧
    ((S.nodes) = (S.nodes)) ∧
    ((S.counts) = (S.counts)) ∧
    ((S.used) = (S.used)) ∧
    ((S.gen) = (S.gen)) ∧
    ((S.rel) = (S.rel)) ∧
    (True ∧
    True ∧
    True) ∧
    ((List.replicate S.cap.toNat { alloc := false, count := 0, gen := 0, node := { key := 0, value := 0, left := 0, right := 0, size := 0, sum := 0, min := 0, max := 0 : NodeT } : SlotT }) = (fillS S 0)) ∧
    ((o) = (orderOf S)) ∧
    (True ∧
    True ∧
    True) ∧
    ((([] : List SlotT) = [])) ∧
    ((([] : List Int) = [])) ∧
    True))))) ∧
(1 ≤ S.used.length) ∧
(S.used.length ≤ 65537) ∧
(S.rel.length ≤ 65537) ∧
(0 ≤ S.fresh) ∧
(S.fresh ≤ (↑S.used.length : Int) - 1) ∧
(∀ o : List Int,
  (((o) = (orderL S.used S.rel S.fresh)) →
  ((0 ≤ S.cap) ∧
  (S.cap ≤ S.cap) ∧
  (S.cap * (↑(bytesOf C0 EC.slot) : Int) ≤ 140737488355328) ∧
  (∃ x : Unit,
    (True ∧
    (True ∧
    True ∧
    True ∧
    True) ∧
    (True ∧
    True ∧
    True ∧
    ((Value.int IntKind.u64 (S.reads)) = (Value.int IntKind.u64 (S.reads))) ∧
    True) ∧
    (True ∧
    True ∧
    True ∧
    ((Value.int IntKind.u32 (S.fresh)) = (Value.int IntKind.u32 (S.fresh))) ∧
    True) ∧
    ((S.nodes) = (S.nodes)) ∧
    ((S.counts) = (S.counts)) ∧
    ((S.used) = (S.used)) ∧
    ((S.gen) = (S.gen)) ∧
    ((S.rel) = (S.rel)) ∧
    (True ∧
    True ∧
    True) ∧
    ((List.replicate S.cap.toNat { alloc := false, count := 0, gen := 0, node := { key := 0, value := 0, left := 0, right := 0, size := 0, sum := 0, min := 0, max := 0 : NodeT } : SlotT }) = (fillS S 0)) ∧
    ((o) = (orderOf S)) ∧
    (True ∧
    True ∧
    True) ∧
    ((([] : List SlotT) = [])) ∧
    ((([] : List Int) = [])) ∧
    True)))))) ∧
(exW S) ∧
((0 ≤ S.cap) ∧
(S.cap ≤ S.cap) ∧
(S.cap * (↑(bytesOf C0 EC.slot) : Int) ≤ 140737488355328) ∧
(1 ≤ S.used.length) ∧
(S.used.length ≤ 65537) ∧
(S.rel.length ≤ 65537) ∧
(0 ≤ S.fresh) ∧
(S.fresh ≤ (↑S.used.length : Int) - 1) ∧
(∀ o : List Int,
  (((o) = (orderL S.used S.rel S.fresh)) →
  (∃ x : Unit,
    (True ∧
    (True ∧
    True ∧
    True ∧
    True) ∧
    (True ∧
    True ∧
    True ∧
    ((Value.int IntKind.u64 (S.reads)) = (Value.int IntKind.u64 (S.reads))) ∧
    True) ∧
    (True ∧
    True ∧
    True ∧
    ((Value.int IntKind.u32 (S.fresh)) = (Value.int IntKind.u32 (S.fresh))) ∧
    True) ∧
    ((S.nodes) = (S.nodes)) ∧
    ((S.counts) = (S.counts)) ∧
    ((S.used) = (S.used)) ∧
    ((S.gen) = (S.gen)) ∧
    ((S.rel) = (S.rel)) ∧
    (True ∧
    True ∧
    True) ∧
    ((List.replicate S.cap.toNat { alloc := false, count := 0, gen := 0, node := { key := 0, value := 0, left := 0, right := 0, size := 0, sum := 0, min := 0, max := 0 : NodeT } : SlotT }) = (fillS S 0)) ∧
    ((o) = (orderOf S)) ∧
    (True ∧
    True ∧
    True) ∧
    ((([] : List SlotT) = [])) ∧
    ((([] : List Int) = [])) ∧
    True))))) ∧
(1 ≤ S.used.length) ∧
(S.used.length ≤ 65537) ∧
(S.rel.length ≤ 65537) ∧
(0 ≤ S.fresh) ∧
(S.fresh ≤ (↑S.used.length : Int) - 1) ∧
(∀ o : List Int,
  (((o) = (orderL S.used S.rel S.fresh)) →
  ((0 ≤ S.cap) ∧
  (S.cap ≤ S.cap) ∧
  (S.cap * (↑(bytesOf C0 EC.slot) : Int) ≤ 140737488355328) ∧
  (∃ x : Unit,
    (True ∧
    (True ∧
    True ∧
    True ∧
    True) ∧
    (True ∧
    True ∧
    True ∧
    ((Value.int IntKind.u64 (S.reads)) = (Value.int IntKind.u64 (S.reads))) ∧
    True) ∧
    (True ∧
    True ∧
    True ∧
    ((Value.int IntKind.u32 (S.fresh)) = (Value.int IntKind.u32 (S.fresh))) ∧
    True) ∧
    ((S.nodes) = (S.nodes)) ∧
    ((S.counts) = (S.counts)) ∧
    ((S.used) = (S.used)) ∧
    ((S.gen) = (S.gen)) ∧
    ((S.rel) = (S.rel)) ∧
    (True ∧
    True ∧
    True) ∧
    ((List.replicate S.cap.toNat { alloc := false, count := 0, gen := 0, node := { key := 0, value := 0, left := 0, right := 0, size := 0, sum := 0, min := 0, max := 0 : NodeT } : SlotT }) = (fillS S 0)) ∧
    ((o) = (orderOf S)) ∧
    (True ∧
    True ∧
    True) ∧
    ((([] : List SlotT) = [])) ∧
    ((([] : List Int) = [])) ∧
    True)))))) ∧
(∀ x : Unit,
  (True →
  ((∃ x1 : XDu S,
    (True ∧
    (True ∧
    True ∧
    True ∧
    ((Value.int IntKind.i64 ((↑(fillS S 0).length : Int))) = (Value.int IntKind.i64 ((↑(fillS S 0).length : Int)))) ∧
    ((Value.int IntKind.i64 0) = (Value.int IntKind.i64 ((↑x1.i : Int)))) ∧
    True) ∧
    (True ∧
    True ∧
    True ∧
    ((Value.int IntKind.u64 (S.reads)) = (Value.int IntKind.u64 (S.reads))) ∧
    True) ∧
    (True ∧
    True ∧
    True ∧
    ((Value.int IntKind.u32 (S.fresh)) = (Value.int IntKind.u32 (S.fresh))) ∧
    True) ∧
    ((S.nodes) = (S.nodes)) ∧
    ((S.counts) = (S.counts)) ∧
    ((S.used) = (S.used)) ∧
    ((S.gen) = (S.gen)) ∧
    ((S.rel) = (S.rel)) ∧
    (True ∧
    True ∧
    True) ∧
    ((fillS S 0) = (fillS S x1.i)) ∧
    ((orderOf S) = (orderOf S)) ∧
    (True ∧
    True ∧
    True) ∧
    ((([] : List SlotT) = [])) ∧
    ((([] : List Int) = [])) ∧
    True)) ∧
  (∀ x1 : XDu S,
    (True →
    (brS (decide ((↑x1.i : Int) < (↑(fillS S 0).length : Int)))
      (((0 ≤ IntKind.u32.wrap (IntKind.i64.wrap ((↑x1.i : Int) + 1))) ∧
      (IntKind.u32.wrap (IntKind.i64.wrap ((↑x1.i : Int) + 1)) < (↑S.nodes.length : Int)) ∧
      (0 ≤ IntKind.u32.wrap (IntKind.i64.wrap ((↑x1.i : Int) + 1))) ∧
      (IntKind.u32.wrap (IntKind.i64.wrap ((↑x1.i : Int) + 1)) < 4294967296) ∧
      (S.used.length ≤ 65537) ∧
      (inU (IntKind.u32.wrap (IntKind.i64.wrap ((↑x1.i : Int) + 1)))) ∧
      (exW S) ∧
      (inU (IntKind.u32.wrap (IntKind.i64.wrap ((↑x1.i : Int) + 1)))) ∧
      (exW S) ∧
      (0 ≤ (↑x1.i : Int)) ∧
      ((↑x1.i : Int) < (↑(fillS S x1.i).length : Int)) ∧
      (∃ x' : XDu S,
        (True ∧
        ((True ∧
        True ∧
        True ∧
        ((Value.int IntKind.i64 ((↑(fillS S 0).length : Int))) = (Value.int IntKind.i64 ((↑(fillS S 0).length : Int)))) ∧
        ((Value.int IntKind.i64 (IntKind.i64.wrap ((↑x1.i : Int) + 1))) = (Value.int IntKind.i64 ((↑x'.i : Int)))) ∧
        True) ∧
        (True ∧
        True ∧
        True ∧
        ((Value.int IntKind.u64 (S.reads)) = (Value.int IntKind.u64 (S.reads))) ∧
        True) ∧
        (True ∧
        True ∧
        True ∧
        ((Value.int IntKind.u32 (S.fresh)) = (Value.int IntKind.u32 (S.fresh))) ∧
        True) ∧
        ((S.nodes) = (S.nodes)) ∧
        ((S.counts) = (S.counts)) ∧
        ((S.used) = (S.used)) ∧
        ((S.gen) = (S.gen)) ∧
        ((S.rel) = (S.rel)) ∧
        (True ∧
        True ∧
        True) ∧
        (((fillS S x1.i).set (↑x1.i : Int).toNat { alloc := S.us (IntKind.u32.wrap (IntKind.i64.wrap ((↑x1.i : Int) + 1))), count := if S.us (IntKind.u32.wrap (IntKind.i64.wrap ((↑x1.i : Int) + 1))) = true then S.ct (IntKind.u32.wrap (IntKind.i64.wrap ((↑x1.i : Int) + 1))) else 0, gen := S.gn (IntKind.u32.wrap (IntKind.i64.wrap ((↑x1.i : Int) + 1))), node := S.nd (IntKind.u32.wrap (IntKind.i64.wrap ((↑x1.i : Int) + 1))) : SlotT }) = (fillS S x'.i)) ∧
        ((orderOf S) = (orderOf S)) ∧
        (True ∧
        True ∧
        True) ∧
        ((([] : List SlotT) = [])) ∧
        ((([] : List Int) = [])) ∧
        True) ∧
        (ncap S - x'.i < ncap S - x1.i)))))
      ((K (SV.one (TV.agg [(At.slc 7), (At.slc 8)])) [(Chunk.box [(At.ptr 1 0), (At.slc 2), (At.slc 3), (At.val (Value.int IntKind.u64 (S.reads)))]), (Chunk.box [(At.slc 4), (At.slc 5), (At.slc 6), (At.val (Value.int IntKind.u32 (S.fresh)))]), (Chunk.row true (EC.node) (S.nodes)), (Chunk.row true (EC.int) (S.counts)), (Chunk.row true (EC.bool) (S.used)), (Chunk.row true (EC.u32) (S.gen)), (Chunk.row true (EC.u32) (S.rel)), (Chunk.row true (EC.slot) (fillS S x1.i)), (Chunk.row true (EC.u32) (orderOf S))] []))))))))) = _ by kernel_rfl) ?_
  rw [bytes_slot]
  have hw0 := hw
  obtain ⟨hs, hw⟩ := hw
  have hn1 := hw.n1; have hn2 := hw.n2; have hnn := hw.nnod; have hfr := hw.fr; have hfree := hw.free_nonneg
  have hcap : S.cap = (ncap S : Int) := by unfold Arn.cap ncap; omega
  have hc1 : (ncap S : Int) + 1 = S.used.length := by unfold ncap; omega
  have z1 : List.replicate S.cap.toNat SlotT.zero = fillS S 0 := by rw [hcap, ← fill_zero]; rfl
  refine ⟨?_, fun x _ => ⟨⟨⟨0, Nat.zero_le _⟩, ?_⟩, fun y _ => brS_of (fun c => ?_) fun c => ?_⟩⟩
  · (repeat' first | exact trivial | exact hw0 | exact z1 | assumption | exact rfl | omega | refine And.intro ?_ ?_ | refine fun o ho => ?_ | refine ⟨(), ?_⟩)
  · (repeat' first | exact trivial | exact rfl | refine And.intro ?_ ?_)
  · rw [fill_len S 0 (Nat.zero_le _)] at c
    have c : y.i < ncap S := by have := of_decide_eq_true c; omega
    rw [wrap_id (x := (y.i : Int) + 1) (by omega) (by omega), wrap_u32 (by omega) (by omega)]
    refine ⟨by omega, by omega, by omega, by omega, hn2, ⟨by omega, by omega⟩, hw0, ⟨by omega, by omega⟩, hw0, by omega, by rw [fill_len S y.i y.h]; omega, ⟨y.i + 1, c⟩, trivial, ⟨⟨trivial, trivial, trivial, rfl, by congr 1, trivial⟩, ⟨trivial, trivial, trivial, rfl, trivial⟩, ⟨trivial, trivial, trivial, rfl, trivial⟩, rfl, rfl, rfl, rfl, rfl, ⟨trivial, trivial, trivial⟩, fill_next S c, rfl, ⟨trivial, trivial, trivial⟩, rfl, rfl, trivial⟩, ?_⟩
    show ncap S - (y.i + 1) < _; omega
  · rw [fill_len S 0 (Nat.zero_le _)] at c
    have c : y.i = ncap S := by have := of_decide_eq_false c; have := y.h; omega
    exact h _ _ (by rw [c, fill_all]) rfl
theorem s_dump : SoundT C0 25 tDump := by
  refine .of Try.func25 (by decide) rfl fun args H K h hB => ?_
  unfold tDump at h
  split at h <;> try exact h.elim
  unfold arM at h
  split at h <;> try exact h.elim
  rename_i rd fr nd ct us gn rl
  exact ⟨aDump ⟨us, gn, rl, fr, nd, ct, rd⟩, ⟨frame C0.ok s_cap _, frame C0.ok s_order _, frame C0.ok s_slAllocated _, frame C0.ok s_count _, frame C0.ok s_gen _, trivial⟩, vc_dump ⟨us, gn, rl, fr, nd, ct, rd⟩ K h.1 h.2⟩
end Go.Proofs.Ytacdmmomkngpkaa.Sx
