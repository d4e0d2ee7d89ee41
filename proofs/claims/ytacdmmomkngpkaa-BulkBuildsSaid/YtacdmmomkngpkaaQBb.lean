/- The law that Build builds the specified tree. -/
import Derived.Test.YtacdmmomkngpkaaQTr
import Derived.Test.YtacdmmomkngpkaaQSd
import Derived.Test.YtacdmmomkngpkaaQSp
import Derived.Test.YtacdmmomkngpkaaQGr
namespace Go.Proofs.Ytacdmmomkngpkaa.Sx
open Go

/-KEEP Wf exW inU live Arn.cap Arn.free Rep rdS Tr.size BuildR newS ascB listE slotsOf orderOf RepD ShpT ndD alcD ht Asc Tr.Bal List.Perm-/
def tShp (n : Nat) : Tfm C0 := fun args H K => match args, H with
  | [.agg [.slc 0, .slc 1], .at (.val (.int .u32 i)), .at (.slc 2)], [.row false .slot d, .row false .u32 fl, .row false .ent l] => d.length ≤ 1000000 ∧ (∃ t, RepD d t i ∧ ShpT t l) ∧ l.length < n ∧ l.length ≤ 1000000 ∧ K (.one (.at (vB true))) [.row false EC.slot d, .row false EC.u32 fl, .row false EC.ent l] []
  | _, _ => False
noncomputable def aShp (n : Nat) : Ann C0 := { quiet := [29], Γ := [(42, frameT [] tAlc), (29, frameT [] (tShp n))] }
structure XBa where
  l : List Ent
  h : l.length ≤ 200
structure XBb where
  l : List Ent
  sp : Int
  h : l.length ≤ 200 ∧ 0 ≤ sp ∧ sp ≤ l.length + 1
noncomputable def aBb (n : Nat) (raw : List Ent) : Ann C0 := { trunc := fun n => n = 7, quiet := [25, 28], Γ := [(24, frameT [] tLst), (23, frameT [] tAwake15), (14, frameT [] tNew), (25, frameT [] tDump), (26, frameT [] tBuild), (27, frameT [] tAsc), (28, frameT [] tSameD), (29, frameT [] (tShp n)), (30, frameT [] tTr7), (21, frameT [] tFree), (31, frameT [] tSound), (32, frameT [] (tHt7 n))], inv := fun n => match n with
  | 1006 => some { X := XBa, sl := [7], tf := fun _ => [.one (.at (.slc 1))], hf := fun x => [.row false EC.ent raw, .row false EC.ent x.l] }
  | 1009 => some { X := XBb, sl := [7, 8], tf := fun x => [.one (.at (.slc 1)), vi .i64 x.sp], hf := fun x => [.row false EC.ent raw, .row false EC.ent x.l] }
  | _ => none }
def tBb : Tfm C0 := fun args H K => match args, H with
  | [.at (.slc 0), .at (.val (.bool _)), .at (.val (.int .u16 f))], [.row false .ent raw] => 0 ≤ f ∧ f ≤ 65535 ∧ K (.one (.at (vB true))) [.row false EC.ent raw] []
  | _, _ => False
theorem shp_size {t : Tr} {l : List Ent} (h : ShpT t l) : t.size = l.length := by rw [← t.list_len, h.list]
theorem shp_bal : ∀ {t : Tr} {l : List Ent}, ShpT t l → t.Bal
  | .nil, _, _ => trivial
  | .node a k v b, l, h => by
    obtain ⟨h1, h2, h3, h4⟩ := h
    have s3 := shp_size h3
    have s4 := shp_size h4
    simp only [List.length_take, List.length_drop] at s3 s4
    refine ⟨?_, shp_bal h3, shp_bal h4⟩
    unfold balN
    omega
theorem shp_ht : ∀ {t : Tr} {l : List Ent}, ShpT t l → (l.length = 0 ∧ ht t = 0) ∨ (1 ≤ l.length ∧ 2 ^ ht t ≤ 2 * l.length)
  | .nil, l, h => by have : l = [] := h; exact .inl ⟨by rw [this]; rfl, rfl⟩
  | .node a k v b, l, h => by
    obtain ⟨h1, h2, h3, h4⟩ := h
    have q3 := shp_ht h3
    have q4 := shp_ht h4
    simp only [List.length_take, List.length_drop] at q3 q4
    refine .inr ⟨h1, ?_⟩
    have key : ∀ m : Nat, m = 0 ∨ 2 ^ m ≤ 2 * (l.length / 2) → 2 ^ (1 + m) ≤ 2 * l.length := fun m hm => by
      rw [Nat.pow_add]
      rcases hm with e | e
      · rw [e]; simp; omega
      · omega
    rw [ht]
    split
    · refine key _ ?_
      rcases q4 with ⟨_, e⟩ | ⟨_, e⟩
      · exact .inl e
      · exact .inr (by omega)
    · refine key _ ?_
      rcases q3 with ⟨_, e⟩ | ⟨_, e⟩
      · exact .inl e
      · exact .inr (by omega)
theorem tdiv2 (n : Nat) : (n : Int).tdiv 2 = ((n / 2 : Nat) : Int) := by rw [Int.tdiv_eq_ediv_of_nonneg (by omega)]; omega
theorem vc_shp (n : Nat) (d : List SlotT) (fl : List Int) (i : Int) (l : List Ent) (K : KT) (hl : d.length ≤ 1000000) (t : Tr) (rp : RepD d t i) (sh : ShpT t l) (hn : l.length < n + 1) (hs : l.length ≤ 1000000) (h : K (.one (.at (vB true))) [.row false EC.slot d, .row false EC.u32 fl, .row false EC.ent l] []) :
    vc C0 (aShp n) Try.f29 [.agg [.slc 0, .slc 1], .at (vU i), .at (.slc 2)] [.row false EC.slot d, .row false EC.u32 fl, .row false EC.ent l] (normK 3 K) := by
  refine Eq.mp (show (brS ((↑l.length : Int) == 0)
  ((K (SV.one (TV.at (At.val (Value.bool (i == 0))))) [(Chunk.row false (EC.slot) (d)), (Chunk.row false (EC.u32) (fl)), (Chunk.row false (EC.ent) (l))] []))
  (((inU i) ∧
  (d.length ≤ 1000000) ∧
  (brS (!alcD d i)
    ((K (SV.one (TV.at (At.val (Value.bool false)))) [(Chunk.row false (EC.slot) (d)), (Chunk.row false (EC.u32) (fl)), (Chunk.row false (EC.ent) (l))] []))
    (((0 ≤ IntKind.u32.wrap (i - 1)) ∧
    (IntKind.u32.wrap (i - 1) < (↑d.length : Int)) ∧
    (0 ≤ IntKind.i64.wrap ((↑l.length : Int).tdiv 2)) ∧
    (IntKind.i64.wrap ((↑l.length : Int).tdiv 2) < (↑l.length : Int)) ∧
    (brS ((eS d (IntKind.u32.wrap (i - 1)).toNat).node.key == (l.getD (IntKind.i64.wrap ((↑l.length : Int).tdiv 2)).toNat (0, 0)).fst)
      (((0 ≤ IntKind.i64.wrap ((↑l.length : Int).tdiv 2)) ∧
      (IntKind.i64.wrap ((↑l.length : Int).tdiv 2) < (↑l.length : Int)) ∧
      (brS ((eS d (IntKind.u32.wrap (i - 1)).toNat).node.value == (l.getD (IntKind.i64.wrap ((↑l.length : Int).tdiv 2)).toNat (0, 0)).snd)
        ((((0 : Int) ≤ 0) ∧
        (0 ≤ IntKind.i64.wrap ((↑l.length : Int).tdiv 2)) ∧
        (IntKind.i64.wrap ((↑l.length : Int).tdiv 2) ≤ (↑l.length : Int)) ∧
        (d.length ≤ 1000000) ∧
        (∃ t : Tr,
          ((RepD d t (eS d (IntKind.u32.wrap (i - 1)).toNat).node.left) ∧
          (ShpT t (List.drop (Int.toNat 0) (List.take (IntKind.i64.wrap ((↑l.length : Int).tdiv 2)).toNat l))))) ∧
        ((List.drop (Int.toNat 0) (List.take (IntKind.i64.wrap ((↑l.length : Int).tdiv 2)).toNat l)).length < n) ∧
        ((List.drop (Int.toNat 0) (List.take (IntKind.i64.wrap ((↑l.length : Int).tdiv 2)).toNat l)).length ≤ 1000000) ∧
        (0 ≤ IntKind.i64.wrap (IntKind.i64.wrap ((↑l.length : Int).tdiv 2) + 1)) ∧
        (IntKind.i64.wrap (IntKind.i64.wrap ((↑l.length : Int).tdiv 2) + 1) ≤ (↑l.length : Int)) ∧
        ((↑l.length : Int) ≤ (↑l.length : Int)) ∧
        (d.length ≤ 1000000) ∧
        (∃ t : Tr,
          ((RepD d t (eS d (IntKind.u32.wrap (i - 1)).toNat).node.right) ∧
          (ShpT t (List.drop (IntKind.i64.wrap (IntKind.i64.wrap ((↑l.length : Int).tdiv 2) + 1)).toNat (List.take (↑l.length : Int).toNat l))))) ∧
        ((List.drop (IntKind.i64.wrap (IntKind.i64.wrap ((↑l.length : Int).tdiv 2) + 1)).toNat (List.take (↑l.length : Int).toNat l)).length < n) ∧
        ((List.drop (IntKind.i64.wrap (IntKind.i64.wrap ((↑l.length : Int).tdiv 2) + 1)).toNat (List.take (↑l.length : Int).toNat l)).length ≤ 1000000) ∧
        (K (SV.one (TV.at (At.val (Value.bool true)))) [(Chunk.row false (EC.slot) (d)), (Chunk.row false (EC.u32) (fl)), (Chunk.row false (EC.ent) (l))] [])))
        ((K (SV.one (TV.at (At.val (Value.bool false)))) [(Chunk.row false (EC.slot) (d)), (Chunk.row false (EC.u32) (fl)), (Chunk.row false (EC.ent) (l))] [])))))
      ((K (SV.one (TV.at (At.val (Value.bool false)))) [(Chunk.row false (EC.slot) (d)), (Chunk.row false (EC.u32) (fl)), (Chunk.row false (EC.ent) (l))] []))))))))) = _ by kernel_rfl) ?_
  cases t with
  | nil =>
    have e : i = 0 := rp
    have e2 : l = [] := sh
    subst e e2
    exact bt7 rfl h
  | node a k v b =>
    have hi := rp.inU hl
    obtain ⟨h1, h2, h3, h4, h5, h6⟩ := rp
    obtain ⟨g1, g2, g3, g4⟩ := sh
    obtain ⟨r1, r2⟩ := alcD_rng h1
    obtain ⟨u1, u2⟩ := hi
    have en : (eS d (i - 1).toNat).node = ndD d i := by unfold ndD; rw [if_pos h1]; rfl
    rw [wrap_u32 (x := i - 1) (by omega) (by omega), tdiv2, wrap_id (x := ((l.length / 2 : Nat) : Int)) (by omega) (by omega), wrap_id (x := ((l.length / 2 : Nat) : Int) + 1) (by omega) (by omega), en]
    have e1 : (((l.length / 2 : Nat) : Int)).toNat = l.length / 2 := rfl
    have e2 : (((l.length / 2 : Nat) : Int) + 1).toNat = l.length / 2 + 1 := rfl
    have e3 : ((l.length : Int)).toNat = l.length := rfl
    rw [e1, e2, e3, List.take_length, g2, h2, h3]
    have t1 : (List.drop (Int.toNat 0) (List.take (l.length / 2) l)) = l.take (l.length / 2) := rfl
    rw [t1]
    have n1 : (l.take (l.length / 2)).length = l.length / 2 := by simp; omega
    have n2 : (l.drop (l.length / 2 + 1)).length = l.length - (l.length / 2 + 1) := by simp
    rw [n1, n2]
    exact bf7 (beq_false_of_ne (show (l.length : Int) ≠ 0 by omega)) ⟨⟨u1, u2⟩, hl, bf7 (by rw [h1]; rfl) ⟨by omega, by omega, by omega, by omega, bt7 (by simp) ⟨by omega, by omega, bt7 (by simp) ⟨by decide, by omega, by omega, hl, ⟨a, h5, g3⟩, by omega, by omega, by omega, by omega, by omega, hl, ⟨b, h6, g4⟩, by omega, by omega, h⟩⟩⟩⟩
theorem s_shp : ∀ n : Nat, SoundT C0 29 (tShp n)
  | 0 => by
    refine .of Try.func29 (by decide) rfl fun args H K h hB => ?_
    unfold tShp at h
    split at h <;> try exact h.elim
    obtain ⟨_, _, hn, _⟩ := h
    omega
  | n + 1 => by
    refine .of Try.func29 (by decide) rfl fun args H K h hB => ?_
    unfold tShp at h
    split at h <;> try exact h.elim
    rename_i i d fl l
    obtain ⟨hl, ⟨t, rp, sh⟩, hn, hs, h⟩ := h
    exact ⟨aShp n, ⟨frame C0.ok s_alc _, frame C0.ok (s_shp n) _, trivial⟩, vc_shp n d fl i l K hl t rp sh hn hs h⟩
theorem vc_bb (raw : List Ent) (b : Bool) (f : Int) (K : KT) (f1 : 0 ≤ f) (f2 : f ≤ 65535) (h : K (.one (.at (vB true))) [.row false EC.ent raw] []) :
    vc C0 (aBb 1000001 raw) Try.f4 [.at (.slc 0), .at (vB b), .at (.val (.int .u16 f))] [.row false EC.ent raw] (normK 1 K) := by
  generalize hn : 1000001 = n
  refine Eq.mp (show (brS (decide ((↑raw.length : Int) > 200))
  ((K (SV.one (TV.at (At.val (Value.bool true)))) [(Chunk.row false (EC.ent) (raw))] []))
  (((brS (b)
    ((((0 : Int) ≤ 200) ∧
    ((200 : Int) ≤ 1000000) ∧
    (∃ x : XBa,
      (True ∧
      (((Value.int IntKind.u16 (f)) = (Value.int IntKind.u16 (f))) ∧
      True ∧
      True) ∧
      ((raw) = (raw)) ∧
      ((listE raw (Int.toNat 200)) = (x.l)) ∧
      True))))
    ((∃ x : XBa,
      (True ∧
      (((Value.int IntKind.u16 (f)) = (Value.int IntKind.u16 (f))) ∧
      True ∧
      True) ∧
      ((raw) = (raw)) ∧
      ((raw) = (x.l)) ∧
      True)))) ∧
  (∀ x : XBa,
    (True →
    ((brS (f.tmod 4 == 0)
      (((IntKind.i64.wrap ((↑x.l.length : Int) + 2) ≠ 0) ∧
      (∃ x1 : XBb,
        (True ∧
        (True ∧
        ((Value.int IntKind.i64 ((IntKind.i64.wrap f).tmod (IntKind.i64.wrap ((↑x.l.length : Int) + 2)))) = (Value.int IntKind.i64 (x1.sp))) ∧
        True) ∧
        ((raw) = (raw)) ∧
        ((x.l) = (x1.l)) ∧
        True))))
      ((∃ x1 : XBb,
        (True ∧
        (True ∧
        ((Value.int IntKind.i64 ((↑x.l.length : Int))) = (Value.int IntKind.i64 (x1.sp))) ∧
        True) ∧
        ((raw) = (raw)) ∧
        ((x.l) = (x1.l)) ∧
        True)))) ∧
    (∀ x1 : XBb,
      (True →
      (((IntKind.i64.wrap (x1.sp + 1) < 1 ∨ 65536 < IntKind.i64.wrap (x1.sp + 1)) →
      (K (SV.one (TV.at (At.val (Value.bool false)))) [(Chunk.row false (EC.ent) (raw))] [])) ∧
      ((1 ≤ IntKind.i64.wrap (x1.sp + 1)) →
      ((IntKind.i64.wrap (x1.sp + 1) ≤ 65536) →
      (∀ S : Arn,
        (((S) = (newS (IntKind.i64.wrap (x1.sp + 1)).toNat)) →
        ((exW S) ∧
        (∀ d : List SlotT,
          (∀ o : List Int,
            (((d) = (slotsOf S)) →
            (((o) = (orderOf S)) →
            (∃ hs : List Int,
              ((Wf S hs) ∧
              (x1.l.length ≤ 100000) ∧
              (hs.length + x1.l.length ≤ 800000000) ∧
              (((ascB x1.l) = false) →
              (brS (!ascB x1.l)
                (((exW S) ∧
                (∀ d1 : List SlotT,
                  (∀ o1 : List Int,
                    (((d1) = (slotsOf S)) →
                    (((o1) = (orderOf S)) →
                    (((d1) = (d)) ∧
                    ((o1) = (o)) ∧
                    (d1.length ≤ 1000000) ∧
                    (o1.length ≤ 1000000) ∧
                    (K (SV.one (TV.at (At.val (Value.bool true)))) [(Chunk.row false (EC.ent) (raw))] []))))))))
                ((brS (decide (IntKind.i64.wrap (x1.sp + 1) < (↑x1.l.length : Int)))
                  ((K (SV.one (TV.at (At.val (Value.bool false)))) [(Chunk.row false (EC.ent) (raw))] []))
                  ((K (SV.one (TV.at (At.val (Value.bool false)))) [(Chunk.row false (EC.ent) (raw))] [])))))) ∧
              (((ascB x1.l) = true) →
              ((S.free < (↑x1.l.length : Int)) →
              (brS (!ascB x1.l)
                ((K (SV.one (TV.at (At.val (Value.bool false)))) [(Chunk.row false (EC.ent) (raw))] []))
                ((brS (decide (IntKind.i64.wrap (x1.sp + 1) < (↑x1.l.length : Int)))
                  (((exW S) ∧
                  (∀ d1 : List SlotT,
                    (∀ o1 : List Int,
                      (((d1) = (slotsOf S)) →
                      (((o1) = (orderOf S)) →
                      (((d1) = (d)) ∧
                      ((o1) = (o)) ∧
                      (d1.length ≤ 1000000) ∧
                      (o1.length ≤ 1000000) ∧
                      (K (SV.one (TV.at (At.val (Value.bool true)))) [(Chunk.row false (EC.ent) (raw))] []))))))))
                  ((K (SV.one (TV.at (At.val (Value.bool false)))) [(Chunk.row false (EC.ent) (raw))] []))))))) ∧
              (((ascB x1.l) = true) →
              (((↑x1.l.length : Int) ≤ S.free) →
              (∀ S' : Arn,
                (∀ i : Int,
                  ((BuildR S hs x1.l S' i) →
                  (brS (!ascB x1.l)
                    ((K (SV.one (TV.at (At.val (Value.bool false)))) [(Chunk.row false (EC.ent) (raw))] []))
                    ((brS (decide (IntKind.i64.wrap (x1.sp + 1) < (↑x1.l.length : Int)))
                      ((K (SV.one (TV.at (At.val (Value.bool false)))) [(Chunk.row false (EC.ent) (raw))] []))
                      (((exW S') ∧
                      (∀ d1 : List SlotT,
                        (∀ o1 : List Int,
                          (((d1) = (slotsOf S')) →
                          (((o1) = (orderOf S')) →
                          ((d1.length ≤ 1000000) ∧
                          (∃ t : Tr,
                            ((RepD d1 t i) ∧
                            (ShpT t x1.l))) ∧
                          (x1.l.length < n) ∧
                          (x1.l.length ≤ 1000000) ∧
                          (d1.length ≤ 1000000) ∧
                          (∃ t : Tr,
                            ((RepD d1 t i) ∧
                            (Asc t.list) ∧
                            (t.Bal) ∧
                            (t.size ≤ 2 * d1.length + 2) ∧
                            (t.size ≤ 1000000) ∧
                            ((t.list) = (x1.l)))) ∧
                          (exW S') ∧
                          (brS (S'.free == IntKind.i64.wrap (IntKind.i64.wrap (x1.sp + 1) - (↑x1.l.length : Int)))
                            ((∃ hs1 : List Int,
                              ((Wf S' hs1) ∧
                              ([i].Perm hs1) ∧
                              ([i].length ≤ 1000000) ∧
                              (d1.length ≤ 1000000) ∧
                              (∃ t : Tr,
                                ((RepD d1 t i) ∧
                                (t.size < n) ∧
                                (t.size ≤ 1000000) ∧
                                (∀ h : Int,
                                  (((h) = ((↑(ht t) : Int))) →
                                  ((0 ≤ IntKind.u64.wrap h) ∧
                                  (K (SV.one (TV.at (At.val (Value.bool (decide (IntKind.i64.wrap (1 * 2 ^ min (IntKind.u64.wrap h).toNat IntKind.i64.bits) ≤ IntKind.i64.wrap (IntKind.i64.wrap (2 * (↑x1.l.length : Int)) + 1))))))) [(Chunk.row false (EC.ent) (raw))] [])))))))))
                            ((K (SV.one (TV.at (At.val (Value.bool false)))) [(Chunk.row false (EC.ent) (raw))] [])))))))))))))))))))))))))))))))))))))) = _ by kernel_rfl) ?_
  have e200 : Int.toNat 200 = 200 := rfl
  rw [e200]
  refine brS_of (fun _ => h) fun c => ⟨brS_of (fun _ => ⟨by decide, by decide, ⟨_, (listE_spec raw 200).2⟩, ?_⟩) fun _ => ⟨⟨raw, ?_⟩, ?_⟩, fun x _ => ?_⟩
  · (repeat' first | exact trivial | exact rfl | refine And.intro ?_ ?_)
  · have := of_decide_eq_false c; omega
  · (repeat' first | exact trivial | exact rfl | refine And.intro ?_ ?_)
  obtain ⟨l, hl⟩ := x
  dsimp only
  rw [wrap_id (x := f) (by omega) (by omega), wrap_id (x := (l.length : Int) + 2) (by omega) (by omega)]
  refine ⟨brS_of (fun _ => ⟨by omega, ⟨l, f.tmod ((l.length : Int) + 2), hl, ?_, ?_⟩, ?_⟩) fun _ => ⟨⟨l, l.length, hl, by omega, by omega⟩, ?_⟩, fun x _ => ?_⟩
  · rw [Int.tmod_eq_emod_of_nonneg f1]; exact Int.emod_nonneg _ (by omega)
  · rw [Int.tmod_eq_emod_of_nonneg f1]; have := Int.emod_lt_of_pos f (show 0 < (l.length : Int) + 2 by omega); omega
  · (repeat' first | exact trivial | exact rfl | refine And.intro ?_ ?_)
  · (repeat' first | exact trivial | exact rfl | refine And.intro ?_ ?_)
  clear hl l
  obtain ⟨l, sp, hl, p1, p2⟩ := x
  dsimp only
  rw [wrap_id (x := sp + 1) (by omega) (by omega)]
  refine ⟨fun z => by omega, fun _ _ S eS => ?_⟩
  have w : Wf S [] := by rw [eS]; exact Wf.new (by omega) (by omega)
  have cap : S.cap = sp + 1 := by
    rw [eS]; unfold Arn.cap newS; simp; omega
  have nu : S.nu = 0 := by rw [eS]; simp [Arn.nu, newS, List.countP_replicate]
  have fr : S.free = sp + 1 := by have := w.free_nonneg.2.2.2; rw [this, cap, nu]; omega
  have hsl := slotsOf_len S
  have nc : ncap S ≤ 65537 := by have := w.n2; unfold ncap; omega
  have ol := order_len w
  have xw : exW S := ⟨_, w⟩
  refine ⟨xw, fun d o ed eo => ⟨[], w, by omega, by simp; omega, fun a => ?_, fun a fe => ?_, fun a fe S' i br => ?_⟩⟩
  · exact bt7 (by rw [a]; rfl) ⟨xw, fun d1 o1 e1 e2 => ⟨by rw [e1, ed], by rw [e2, eo], by rw [e1]; omega, by rw [e2]; omega, h⟩⟩
  · exact bf7 (by rw [a]; rfl) (bt7 (decide_eq_true (by omega)) ⟨xw, fun d1 o1 e1 e2 => ⟨by rw [e1, ed], by rw [e2, eo], by rw [e1]; omega, by rw [e2]; omega, h⟩⟩)
  · have w' := br.wf
    have ha : Asc l := by unfold ascB at a; exact of_decide_eq_true a
    obtain ⟨t, rp, sh⟩ := br.rep
    have bal := shp_bal sh
    have sz := shp_size sh
    have tl := sh.list
    have hat : Asc t.list := by rw [tl]; exact ha
    have few := rep_few w' rp hat
    have hsl' := slotsOf_len S'
    have nc' : ncap S' ≤ 65537 := by have := w'.n2; unfold ncap; omega
    have rd := repD_of w' rp
    have free' : S'.free = sp + 1 - l.length := by
      have h1 := w'.free_nonneg.2.2.2
      have h2 : S'.cap = S.cap := by unfold Arn.cap; rw [br.len]
      rw [h1, h2, cap, br.nu, nu]; omega
    have hh := shp_ht sh
    have h9 : ht t ≤ 9 := by
      rcases hh with ⟨_, e⟩ | ⟨_, e⟩
      · omega
      · by_cases z : ht t ≤ 9
        · exact z
        · have : 2 ^ 10 ≤ 2 ^ ht t := Nat.pow_le_pow_right (by omega) (by omega)
          omega
    have hp : 2 ^ ht t ≤ 2 * l.length + 1 := by
      rcases hh with ⟨e0, e⟩ | ⟨_, e⟩
      · rw [e]; omega
      · omega
    refine bf7 (by rw [a]; rfl) (bf7 (decide_eq_false (by omega)) ⟨⟨_, w'⟩, fun d1 o1 e1 e2 => ?_⟩)
    subst e1
    rw [wrap_id (x := sp + 1 - (l.length : Int)) (by omega) (by omega)]
    refine ⟨by omega, ⟨t, rd, sh⟩, by omega, by omega, by omega, ⟨t, rd, hat, bal, by omega, by omega, tl⟩, ⟨_, w'⟩, bt7 (by rw [free']; simp) ⟨_, w', List.Perm.refl _, by simp, by omega, t, rd, by omega, by omega, fun q eq => ?_⟩⟩
    rw [eq, wrap_u64 (x := (ht t : Int)) (by omega) (by omega)]
    refine ⟨by omega, ?_⟩
    have ee : decide (IntKind.i64.wrap (1 * 2 ^ min ((ht t : Int)).toNat IntKind.i64.bits) ≤ IntKind.i64.wrap (IntKind.i64.wrap (2 * (l.length : Int)) + 1)) = true := by
      have e1 : ((ht t : Int)).toNat = ht t := rfl
      have e2 : min (ht t) IntKind.i64.bits = ht t := by show min (ht t) 64 = ht t; omega
      have e3 : ((2 : Int) ^ ht t) = ((2 ^ ht t : Nat) : Int) := by simp
      have q0 : (0 : Int) ≤ 2 ^ ht t := by rw [e3]; exact Int.natCast_nonneg _
      have q1 : (2 : Int) ^ ht t ≤ 2 * l.length + 1 := by rw [e3]; exact_mod_cast hp
      rw [e1, e2, Int.one_mul]
      generalize (2 : Int) ^ ht t = P at q0 q1 ⊢
      rw [wrap_id (x := 2 * (l.length : Int)) (by omega) (by omega), wrap_id (x := 2 * (l.length : Int) + 1) (by omega) (by omega), wrap_id (by omega) (by omega)]
      exact decide_eq_true (by omega)
    rw [ee]
    exact h
theorem s_bb : SoundT C0 4 tBb := by
  refine .of Try.func4 (by decide) rfl fun args H K h hB => ?_
  unfold tBb at h
  split at h <;> try exact h.elim
  rename_i b f raw
  exact ⟨aBb 1000001 raw, ⟨frame C0.ok s_lst _, frame C0.ok s_awake15 _, frame C0.ok s_new _, frame C0.ok s_dump _, frame C0.ok s_build _, frame C0.ok s_asc9 _, frame C0.ok s_sameD _, frame C0.ok (s_shp _) _, frame C0.ok s_tr7 _, frame C0.ok s_free _, frame C0.ok s_sound _, frame C0.ok (s_ht7 _) _, trivial⟩, vc_bb raw b f K h.1 h.2.1 h.2.2⟩
end Go.Proofs.Ytacdmmomkngpkaa.Sx
