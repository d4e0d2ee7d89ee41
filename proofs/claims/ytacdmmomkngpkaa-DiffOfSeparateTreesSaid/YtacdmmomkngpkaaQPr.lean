/- What is still to come of a tree: push, pop, top, expand. -/
import Derived.Test.YtacdmmomkngpkaaQAn
import Derived.Test.YtacdmmomkngpkaaQBk
import Derived.Test.YtacdmmomkngpkaaPrP
namespace Go.Proofs.Ytacdmmomkngpkaa.Sx
open Go

/-KEEP Wf exW inU Arn.cap Arn.free rdS pushL lastI expL-/
abbrev chSd (l : List ItemT) (S : Arn) : List (Chunk C0) := [.box [.slc 2], .box [.ptr 3 0, .slc 4, .slc 5, vU64 S.reads], .row true EC.item l, .box [.slc 6, .slc 7, .slc 8, vU S.fresh], .row true EC.node S.nodes, .row true EC.int S.counts, .row true EC.bool S.used, .row true EC.u32 S.gen, .row true EC.u32 S.rel]
def sdM (H : List (Chunk C0)) (k : List ItemT → Arn → Prop) : Prop := match H with
  | [.box [.slc 2], .box [.ptr 3 0, .slc 4, .slc 5, .val (.int .u64 rd)], .row true .item l, .box [.slc 6, .slc 7, .slc 8, .val (.int .u32 fr)], .row true .node nd, .row true .int ct, .row true .bool us, .row true .u32 gn, .row true .u32 rl] => k l ⟨us, gn, rl, fr, nd, ct, rd⟩
  | _ => False
abbrev itA (x : ItemT) : TV := .agg [vU x.index, vI x.size, vI x.key, vI x.value, vB x.single]
noncomputable def aPush : Ann C0 := { Γ := [(20, frameT [] tSize)] }
def tPush : Tfm C0 := fun args H K => match args with
  | [.at (.ptr 0 0), .at (.ptr 1 0), .at (.val (.int .u32 i))] => sdM H fun l S => inU i ∧ exW S ∧ (i = 0 ∨ S.us i = true) ∧ S.reads < 4000000000000000000 ∧ l.length ≤ 1000000 ∧ ∀ l' S' m, l' = pushL S l i → S' = rdS S m → m ≤ 1 → K (.tup []) (chSd l' S') [0, 1, 2]
  | _ => False
noncomputable def aPop : Ann C0 := { Γ := [], trunc := fun n => n = 13 }
def tPop : Tfm C0 := fun args H K => match args, H with
  | [.at (.ptr 0 0)], [.box [.slc 1], .row true .item l] => 0 < l.length ∧ l.length ≤ 1000000 ∧ ∀ l', l' = l.dropLast → K (.tup []) [.box [.slc 1], .row true EC.item l'] [0, 1]
  | _, _ => False
def tTop : Tfm C0 := fun args H K => match args, H with
  | [.at (.ptr 0 0)], [.box [.slc 1], .row true .item l] => l.length ≤ 1000000 ∧ ∀ x b, x = lastI l → b = decide (l ≠ []) → K (.tup [itA x, .at (vB b)]) [.box [.slc 1], .row true EC.item l] []
  | _, _ => False
noncomputable def aExp : Ann C0 := { Γ := [(140, frameT [] tTop), (141, frameT [] tPop), (75, frameT [] tNode), (139, frameT [] tPush)] }
def tExp : Tfm C0 := fun args H K => match args with
  | [.at (.ptr 0 0), .at (.ptr 1 0)] => sdM H fun l S => 0 < l.length ∧ exW S ∧ S.us (lastI l).index = true ∧ S.reads ≤ 3000000000000000000 ∧ l.length ≤ 900000 ∧ ∀ l' S' m, l' = expL S l → S' = rdS S m → m ≤ 3 → K (.tup []) (chSd l' S') [0, 1, 2]
  | _ => False
theorem pushL_len (S : Arn) (l : List ItemT) (i : Int) : (pushL S l i).length ≤ l.length + 1 := by
  unfold pushL; split <;> simp
theorem expL_len (S : Arn) {l : List ItemT} (h : 0 < l.length) : (expL S l).length ≤ l.length + 2 := by
  unfold expL
  refine Nat.le_trans (pushL_len _ _ _) ?_
  rw [List.length_append]
  have := pushL_len S l.dropLast (S.nd (lastI l).index).right
  rw [List.length_dropLast] at this
  simp only [List.length_singleton]
  omega
theorem vc_push (l : List ItemT) (S : Arn) (i : Int) (K : KT) (h1 : inU i) (h2 : exW S) (h3 : S.reads < 4000000000000000000) (h4 : l.length ≤ 1000000) (h : ∀ l' S' m, l' = pushL S l i → S' = rdS S m → m ≤ 1 → K (.tup []) (chSd l' S') [0, 1, 2]) :
    vc C0 aPush Try.f139 [.at (.ptr 0 0), .at (.ptr 1 0), .at (vU i)] (chSd l S) (normK 9 (wideK [0, 1, 2] K)) := by
  refine Eq.mp (show (brS (i != 0)
  ((((inU i) ∧
  (exW S) ∧
  (S.reads < 4000000000000000000) ∧
  (∀ S' : Arn,
    (((S') = (rdS S (S.us i).toNat)) →
    (((l.length + [{ index := i, size := (S.nd i).size, key := 0, value := 0, single := false : ItemT }].length) * bytesOf C0 EC.item ≤ 140737488355328) ∧
    (K (SV.tup []) [(Chunk.box [(At.slc 2)]), (Chunk.box [(At.ptr 3 0), (At.slc 4), (At.slc 5), (At.val (Value.int IntKind.u64 (S'.reads)))]), (Chunk.row true (EC.item) (l ++ [{ index := i, size := (S.nd i).size, key := 0, value := 0, single := false : ItemT }])), (Chunk.box [(At.slc 6), (At.slc 7), (At.slc 8), (At.val (Value.int IntKind.u32 (S'.fresh)))]), (Chunk.row true (EC.node) (S'.nodes)), (Chunk.row true (EC.int) (S'.counts)), (Chunk.row true (EC.bool) (S'.used)), (Chunk.row true (EC.u32) (S'.gen)), (Chunk.row true (EC.u32) (S'.rel))] [0, 1, 2]))))) ∧
  (inU i) ∧
  (exW S) ∧
  (S.reads < 4000000000000000000) ∧
  (∀ S' : Arn,
    (((S') = (rdS S (S.us i).toNat)) →
    ((((l.length + [{ index := i, size := (S.nd i).size, key := 0, value := 0, single := false : ItemT }].length) * bytesOf C0 EC.item ≤ 140737488355328) ∧
    (K (SV.tup []) [(Chunk.box [(At.slc 2)]), (Chunk.box [(At.ptr 3 0), (At.slc 4), (At.slc 5), (At.val (Value.int IntKind.u64 (S'.reads)))]), (Chunk.row true (EC.item) (l ++ [{ index := i, size := (S.nd i).size, key := 0, value := 0, single := false : ItemT }])), (Chunk.box [(At.slc 6), (At.slc 7), (At.slc 8), (At.val (Value.int IntKind.u32 (S'.fresh)))]), (Chunk.row true (EC.node) (S'.nodes)), (Chunk.row true (EC.int) (S'.counts)), (Chunk.row true (EC.bool) (S'.used)), (Chunk.row true (EC.u32) (S'.gen)), (Chunk.row true (EC.u32) (S'.rel))] [0, 1, 2])) ∧
    ((l.length + [{ index := i, size := (S.nd i).size, key := 0, value := 0, single := false : ItemT }].length) * bytesOf C0 EC.item ≤ 140737488355328) ∧
    (K (SV.tup []) [(Chunk.box [(At.slc 2)]), (Chunk.box [(At.ptr 3 0), (At.slc 4), (At.slc 5), (At.val (Value.int IntKind.u64 (S'.reads)))]), (Chunk.row true (EC.item) (l ++ [{ index := i, size := (S.nd i).size, key := 0, value := 0, single := false : ItemT }])), (Chunk.box [(At.slc 6), (At.slc 7), (At.slc 8), (At.val (Value.int IntKind.u32 (S'.fresh)))]), (Chunk.row true (EC.node) (S'.nodes)), (Chunk.row true (EC.int) (S'.counts)), (Chunk.row true (EC.bool) (S'.used)), (Chunk.row true (EC.u32) (S'.gen)), (Chunk.row true (EC.u32) (S'.rel))] [0, 1, 2]))))))
  ((K (SV.tup []) [(Chunk.box [(At.slc 2)]), (Chunk.box [(At.ptr 3 0), (At.slc 4), (At.slc 5), (At.val (Value.int IntKind.u64 (S.reads)))]), (Chunk.row true (EC.item) (l)), (Chunk.box [(At.slc 6), (At.slc 7), (At.slc 8), (At.val (Value.int IntKind.u32 (S.fresh)))]), (Chunk.row true (EC.node) (S.nodes)), (Chunk.row true (EC.int) (S.counts)), (Chunk.row true (EC.bool) (S.used)), (Chunk.row true (EC.u32) (S.gen)), (Chunk.row true (EC.u32) (S.rel))] [0, 1, 2]))) = _ by kernel_rfl) ?_
  refine brS_of (fun c => ?_) fun c => ?_
  · have c : i ≠ 0 := by simpa using c
    have e := h (l ++ [⟨i, (S.nd i).size, 0, 0, false⟩]) (rdS S (S.us i).toNat) (S.us i).toNat (if_neg c).symm rfl (by cases S.us i <;> decide)
    have hb : (l.length + [({ index := i, size := (S.nd i).size, key := 0, value := 0, single := false } : ItemT)].length) * bytesOf C0 EC.item ≤ 140737488355328 := by
      rw [bytes_item, List.length_singleton]; omega
    exact ⟨⟨h1, h2, h3, fun S' e' => ⟨hb, by subst e'; exact e⟩⟩, h1, h2, h3, fun S' e' => ⟨⟨hb, by subst e'; exact e⟩, hb, by subst e'; exact e⟩⟩
  · have c : i = 0 := by simpa using c
    exact h l S 0 (if_pos c).symm (rdS_zero S).symm (Nat.zero_le _)
theorem s_push : SoundT C0 139 tPush := by
  refine .ofW [0, 1, 2] Try.func139 (by decide) rfl fun args H K h hB => ?_
  unfold tPush at h
  split at h <;> try exact h.elim
  unfold sdM at h
  split at h <;> try exact h.elim
  rename_i i _ rd l fr nd ct us gn rl
  obtain ⟨h1, h2, _, h3, h4, h5⟩ := h
  exact ⟨aPush, ⟨frame C0.ok s_size _, trivial⟩, vc_push l ⟨us, gn, rl, fr, nd, ct, rd⟩ i K h1 h2 h3 h4 h5⟩
theorem wrap_len1 {n : Nat} (h : 0 < n) (h2 : n ≤ 1000000) : IntKind.i64.wrap ((n : Int) - 1) = ((n - 1 : Nat) : Int) := by
  rw [wrap_id (by omega) (by omega)]; omega
theorem vc_pop (l : List ItemT) (K : KT) (h1 : 0 < l.length) (h2 : l.length ≤ 1000000) (h : ∀ l', l' = l.dropLast → K (.tup []) [.box [.slc 1], .row true EC.item l'] [0, 1]) :
    vc C0 aPop Try.f141 [.at (.ptr 0 0)] [.box [.slc 1], .row true EC.item l] (normK 2 (wideK [0, 1] K)) := by
  refine Eq.mp (show (((0 ≤ IntKind.i64.wrap ((↑l.length : Int) - 1)) ∧
(IntKind.i64.wrap ((↑l.length : Int) - 1) ≤ (↑l.length : Int)) ∧
(K (SV.tup []) [(Chunk.box [(At.slc 1)]), (Chunk.row true (EC.item) (List.take (IntKind.i64.wrap ((↑l.length : Int) - 1)).toNat l))] [0, 1])) ∧
(0 ≤ IntKind.i64.wrap ((↑l.length : Int) - 1)) ∧
(IntKind.i64.wrap ((↑l.length : Int) - 1) ≤ (↑l.length : Int)) ∧
(K (SV.tup []) [(Chunk.box [(At.slc 1)]), (Chunk.row true (EC.item) (List.take (IntKind.i64.wrap ((↑l.length : Int) - 1)).toNat l))] [0, 1])) = _ by kernel_rfl) ?_
  have e := wrap_len1 h1 h2
  have hk := h (List.take (IntKind.i64.wrap ((l.length : Int) - 1)).toNat l) (by rw [e, List.dropLast_eq_take]; rfl)
  exact ⟨⟨by omega, by omega, hk⟩, by omega, by omega, hk⟩
theorem s_pop : SoundT C0 141 tPop := by
  refine .ofW [0, 1] Try.func141 (by decide) rfl fun args H K h hB => ?_
  unfold tPop at h
  split at h <;> try exact h.elim
  rename_i l
  obtain ⟨h1, h2, h3⟩ := h
  exact ⟨aPop, trivial, vc_pop l K h1 h2 h3⟩
theorem vc_top (l : List ItemT) (K : KT) (h1 : l.length ≤ 1000000) (h : ∀ x b, x = lastI l → b = decide (l ≠ []) → K (.tup [itA x, .at (vB b)]) [.box [.slc 1], .row true EC.item l] []) :
    vc C0 A0 Try.f140 [.at (.ptr 0 0)] [.box [.slc 1], .row true EC.item l] (normK 2 K) := by
  refine Eq.mp (show (brS ((↑l.length : Int) == 0)
  ((K (SV.tup [(TV.agg [(At.val (Value.int IntKind.u32 0)), (At.val (Value.int IntKind.i64 0)), (At.val (Value.int IntKind.i64 0)), (At.val (Value.int IntKind.i64 0)), (At.val (Value.bool false))]), (TV.at (At.val (Value.bool false)))]) [(Chunk.box [(At.slc 1)]), (Chunk.row true (EC.item) (l))] []))
  (((0 ≤ IntKind.i64.wrap ((↑l.length : Int) - 1)) ∧
  (IntKind.i64.wrap ((↑l.length : Int) - 1) < (↑l.length : Int)) ∧
  (K (SV.tup [(TV.agg [(At.val (Value.int IntKind.u32 ((l.getD (IntKind.i64.wrap ((↑l.length : Int) - 1)).toNat { index := 0, size := 0, key := 0, value := 0, single := false : ItemT }).index))), (At.val (Value.int IntKind.i64 ((l.getD (IntKind.i64.wrap ((↑l.length : Int) - 1)).toNat { index := 0, size := 0, key := 0, value := 0, single := false : ItemT }).size))), (At.val (Value.int IntKind.i64 ((l.getD (IntKind.i64.wrap ((↑l.length : Int) - 1)).toNat { index := 0, size := 0, key := 0, value := 0, single := false : ItemT }).key))), (At.val (Value.int IntKind.i64 ((l.getD (IntKind.i64.wrap ((↑l.length : Int) - 1)).toNat { index := 0, size := 0, key := 0, value := 0, single := false : ItemT }).value))), (At.val (Value.bool ((l.getD (IntKind.i64.wrap ((↑l.length : Int) - 1)).toNat { index := 0, size := 0, key := 0, value := 0, single := false : ItemT }).single)))]), (TV.at (At.val (Value.bool true)))]) [(Chunk.box [(At.slc 1)]), (Chunk.row true (EC.item) (l))] [])))) = _ by kernel_rfl) ?_
  refine brS_of (fun c => ?_) fun c => ?_
  · have c : l.length = 0 := by have : (l.length : Int) = 0 := by simpa using c
                                omega
    have c : l = [] := List.eq_nil_of_length_eq_zero c
    subst c
    exact h ⟨0, 0, 0, 0, false⟩ false rfl (by simp)
  · have c : 0 < l.length := by have : ¬ (l.length : Int) = 0 := by simpa using c
                                omega
    have e := wrap_len1 c h1
    refine ⟨by omega, by omega, h _ true ?_ ?_⟩
    · rw [e, lastI, List.getLastD_eq_getLast?, List.getLast?_eq_getElem?, List.getD_eq_getElem?_getD]; rfl
    · have : l ≠ [] := by intro d; rw [d] at c; exact absurd c (by decide)
      simp [this]
theorem s_top : SoundT C0 140 tTop := by
  refine .of Try.func140 (by decide) rfl fun args H K h hB => ?_
  unfold tTop at h
  split at h <;> try exact h.elim
  rename_i l
  exact ⟨A0, trivial, vc_top l K h.1 h.2⟩
theorem vc_exp (l : List ItemT) (S : Arn) (K : KT) (h1 : 0 < l.length) (h2 : exW S) (h3 : S.us (lastI l).index = true) (h4 : S.reads ≤ 3000000000000000000) (h5 : l.length ≤ 900000) (h : ∀ l' S' m, l' = expL S l → S' = rdS S m → m ≤ 3 → K (.tup []) (chSd l' S') [0, 1, 2]) :
    vc C0 aExp Try.f142 [.at (.ptr 0 0), .at (.ptr 1 0)] (chSd l S) (normK 9 (wideK [0, 1, 2] K)) := by
  refine Eq.mp (show ((l.length ≤ 1000000) ∧
(∀ x : ItemT,
  (∀ b : Bool,
    (((x) = (lastI l)) →
    (((b) = (decide (l ≠ []))) →
    ((0 < l.length) ∧
    (l.length ≤ 1000000) ∧
    (∀ l' : List ItemT,
      (((l') = (l.dropLast)) →
      ((inU x.index) ∧
      (exW S) ∧
      (S.reads < 4000000000000000000) ∧
      (∀ S' : Arn,
        (((S') = (rdS S (S.us x.index).toNat)) →
        (brS (!S.us x.index)
          ((K (SV.tup []) [(Chunk.box [(At.slc 2)]), (Chunk.box [(At.ptr 3 0), (At.slc 4), (At.slc 5), (At.val (Value.int IntKind.u64 (S'.reads)))]), (Chunk.row true (EC.item) (l')), (Chunk.box [(At.slc 6), (At.slc 7), (At.slc 8), (At.val (Value.int IntKind.u32 (S'.fresh)))]), (Chunk.row true (EC.node) (S'.nodes)), (Chunk.row true (EC.int) (S'.counts)), (Chunk.row true (EC.bool) (S'.used)), (Chunk.row true (EC.u32) (S'.gen)), (Chunk.row true (EC.u32) (S'.rel))] [0, 1, 2]))
          (((inU (S.nd x.index).right) ∧
          (exW S') ∧
          ((S.nd x.index).right = 0 ∨ S'.us (S.nd x.index).right = true) ∧
          (S'.reads < 4000000000000000000) ∧
          (l'.length ≤ 1000000) ∧
          (∀ l'1 : List ItemT,
            (∀ S'1 : Arn,
              (∀ m : Nat,
                (((l'1) = (pushL S' l' (S.nd x.index).right)) →
                (((S'1) = (rdS S' m)) →
                ((m ≤ 1) →
                ((((l'1.length + [{ index := 0, size := 0, key := (S.nd x.index).key, value := (S.nd x.index).value, single := true : ItemT }].length) * bytesOf C0 EC.item ≤ 140737488355328) ∧
                (inU (S.nd x.index).left) ∧
                (exW S'1) ∧
                ((S.nd x.index).left = 0 ∨ S'1.us (S.nd x.index).left = true) ∧
                (S'1.reads < 4000000000000000000) ∧
                ((l'1 ++ [{ index := 0, size := 0, key := (S.nd x.index).key, value := (S.nd x.index).value, single := true : ItemT }]).length ≤ 1000000) ∧
                (∀ l'2 : List ItemT,
                  (∀ S'2 : Arn,
                    (∀ m1 : Nat,
                      (((l'2) = (pushL S'1 (l'1 ++ [{ index := 0, size := 0, key := (S.nd x.index).key, value := (S.nd x.index).value, single := true : ItemT }]) (S.nd x.index).left)) →
                      (((S'2) = (rdS S'1 m1)) →
                      ((m1 ≤ 1) →
                      (K (SV.tup []) [(Chunk.box [(At.slc 2)]), (Chunk.box [(At.ptr 3 0), (At.slc 4), (At.slc 5), (At.val (Value.int IntKind.u64 (S'2.reads)))]), (Chunk.row true (EC.item) (l'2)), (Chunk.box [(At.slc 6), (At.slc 7), (At.slc 8), (At.val (Value.int IntKind.u32 (S'2.fresh)))]), (Chunk.row true (EC.node) (S'2.nodes)), (Chunk.row true (EC.int) (S'2.counts)), (Chunk.row true (EC.bool) (S'2.used)), (Chunk.row true (EC.u32) (S'2.gen)), (Chunk.row true (EC.u32) (S'2.rel))] [0, 1, 2])))))))) ∧
                ((l'1.length + [{ index := 0, size := 0, key := (S.nd x.index).key, value := (S.nd x.index).value, single := true : ItemT }].length) * bytesOf C0 EC.item ≤ 140737488355328) ∧
                (inU (S.nd x.index).left) ∧
                (exW S'1) ∧
                ((S.nd x.index).left = 0 ∨ S'1.us (S.nd x.index).left = true) ∧
                (S'1.reads < 4000000000000000000) ∧
                ((l'1 ++ [{ index := 0, size := 0, key := (S.nd x.index).key, value := (S.nd x.index).value, single := true : ItemT }]).length ≤ 1000000) ∧
                (∀ l'2 : List ItemT,
                  (∀ S'2 : Arn,
                    (∀ m1 : Nat,
                      (((l'2) = (pushL S'1 (l'1 ++ [{ index := 0, size := 0, key := (S.nd x.index).key, value := (S.nd x.index).value, single := true : ItemT }]) (S.nd x.index).left)) →
                      (((S'2) = (rdS S'1 m1)) →
                      ((m1 ≤ 1) →
                      (K (SV.tup []) [(Chunk.box [(At.slc 2)]), (Chunk.box [(At.ptr 3 0), (At.slc 4), (At.slc 5), (At.val (Value.int IntKind.u64 (S'2.reads)))]), (Chunk.row true (EC.item) (l'2)), (Chunk.box [(At.slc 6), (At.slc 7), (At.slc 8), (At.val (Value.int IntKind.u32 (S'2.fresh)))]), (Chunk.row true (EC.node) (S'2.nodes)), (Chunk.row true (EC.int) (S'2.counts)), (Chunk.row true (EC.bool) (S'2.used)), (Chunk.row true (EC.u32) (S'2.gen)), (Chunk.row true (EC.u32) (S'2.rel))] [0, 1, 2])))))))))))))))))))))))))))) = _ by kernel_rfl) ?_
  obtain ⟨hs, hw⟩ := h2
  refine ⟨by omega, fun x b ex _ => ⟨h1, by omega, fun l' e' => ?_⟩⟩
  subst ex e'
  refine ⟨inU_of hw (.inr h3), ⟨hs, hw⟩, by omega, fun S' es => brS_of (fun d => ?_) fun _ => ?_⟩
  · have d : (!S.us (lastI l).index) = true := d
    rw [h3] at d; cases d
  have es : S' = rdS S 1 := by rw [es, h3]; rfl
  subst es
  have hk := hw.kid _ h3
  have hl := List.length_dropLast (xs := l)
  refine ⟨inU_of hw hk.2, ⟨hs, hw.rd (by omega)⟩, hk.2, by show S.reads + ((1 : Nat) : Int) < _; omega, by omega, fun l1 S1 m1 e1 e2 e3 => ?_⟩
  have e2 : S1 = rdS S (1 + m1) := by rw [e2, rdS_rdS]
  have hn := pushL_len (rdS S 1) l.dropLast (S.nd (lastI l).index).right
  rw [← e1] at hn
  subst e2
  have hb : (l1.length + [({ index := 0, size := 0, key := (S.nd (lastI l).index).key, value := (S.nd (lastI l).index).value, single := true } : ItemT)].length) * bytesOf C0 EC.item ≤ 140737488355328 := by
    rw [bytes_item, List.length_singleton]; omega
  have hh : ∀ l2 S2 m2, l2 = pushL (rdS S (1 + m1)) (l1 ++ [({ index := 0, size := 0, key := (S.nd (lastI l).index).key, value := (S.nd (lastI l).index).value, single := true } : ItemT)]) (S.nd (lastI l).index).left → S2 = rdS (rdS S (1 + m1)) m2 → m2 ≤ 1 → K (.tup []) (chSd l2 S2) [0, 1, 2] := by
    intro l2 S2 m2 f1 f2 f3
    refine h l2 S2 (1 + m1 + m2) ?_ ?_ (by omega)
    · rw [f1, e1]; rfl
    · rw [f2, rdS_rdS]
  have hz : (l1 ++ [({ index := 0, size := 0, key := (S.nd (lastI l).index).key, value := (S.nd (lastI l).index).value, single := true } : ItemT)]).length ≤ 1000000 := by
    rw [List.length_append, List.length_singleton]; omega
  have hr : (rdS S (1 + m1)).reads < 4000000000000000000 := by show S.reads + ((1 + m1 : Nat) : Int) < _; omega
  have hx : exW (rdS S (1 + m1)) := ⟨hs, hw.rd (by omega)⟩
  exact ⟨⟨hb, inU_of hw hk.1, hx, hk.1, hr, hz, hh⟩, hb, inU_of hw hk.1, hx, hk.1, hr, hz, hh⟩
theorem s_exp : SoundT C0 142 tExp := by
  refine .ofW [0, 1, 2] Try.func142 (by decide) rfl fun args H K h hB => ?_
  unfold tExp at h
  split at h <;> try exact h.elim
  unfold sdM at h
  split at h <;> try exact h.elim
  rename_i rd l fr nd ct us gn rl
  obtain ⟨h1, h2, h3, h4, h5, h6⟩ := h
  exact ⟨aExp, ⟨frame C0.ok s_top _, frame C0.ok s_pop _, frame C0.ok s_node _, frame C0.ok s_push _, trivial⟩, vc_exp l ⟨us, gn, rl, fr, nd, ct, rd⟩ K h1 h2 h3 h4 h5 h6⟩
end Go.Proofs.Ytacdmmomkngpkaa.Sx
