/- A part of the proof. -/
import Derived.Test.YtjbkckcjmmmooaaG10
import Derived.Test.YtjbkckcjmmmooaaG8
section
/- treework: popLast, Concat, Split, From, To, Insert, Delete, Hold, Room. -/
namespace Go.Proofs.Ytjbkckcjmmmooaa.Sx
open Go

/-KEEP Wf exW inU live Arn.cap Arn.free NodeR Rep Kept rdS retL Tr.size Tr.list Tr.Bal balN balB jB pB cB iB dB sB gN OpnR TrR Got flt insE getE Asc-/
def tPop (n : Nat) : Tfm C0 := fun args H K => match args with
  | [.at (.ptr 0 0), .at (.val (.int .u32 i))] => arM H fun S => ∃ hs a kr vr b, Wf S (i :: hs) ∧ Rep S (.node a kr vr b) i ∧ (Tr.node a kr vr b).Bal ∧ (Tr.node a kr vr b).size < n ∧ (Tr.node a kr vr b).size ≤ 800000 ∧ (pB (Tr.node a kr vr b).size : Int) ≤ S.free ∧
    hs.length + (Tr.node a kr vr b).size ≤ 600000000 ∧ S.reads + 5 * (pB (Tr.node a kr vr b).size) ≤ 1700000000000000000 ∧
    ∀ S' j k v L, (Tr.node a kr vr b).list = L ++ [(k, v)] → TrR S hs L (pB (Tr.node a kr vr b).size) (5 * pB (Tr.node a kr vr b).size) S' j → K (.tup [.at (vU j), .agg [vI k, vI v]]) (chS S') W7
  | _ => False
noncomputable def aPop' (n : Nat) : Ann C0 := { Γ := [(104, frameT [] tOpn), (119, frameT [] (tPop n)), (91, frameT [] tJoin)] }
def tPopl : Tfm C0 := fun args H K => match args with
  | [.at (.ptr 0 0), .at (.val (.int .u32 i))] => arM H fun S => ∃ hs t, Wf S (i :: hs) ∧ Rep S t i ∧ t.Bal ∧ 1 ≤ t.size ∧ t.size ≤ 800000 ∧ (pB t.size : Int) ≤ S.free ∧ hs.length ≤ 500000000 ∧ S.reads + 5 * (pB t.size) ≤ 1700000000000000000 ∧
    ∀ S' j k v L, t.list = L ++ [(k, v)] → TrR S hs L (pB t.size) (5 * pB t.size) S' j → K (.tup [.at (vU j), .agg [vI k, vI v]]) (chS S') W7
  | _ => False
noncomputable def aCat : Ann C0 := { Γ := [(119, frameT [] tPopl), (91, frameT [] tJoin)] }
def tCat : Tfm C0 := fun args H K => match args with
  | [.at (.ptr 0 0), .at (.val (.int .u32 l)), .at (.val (.int .u32 r))] => arM H fun S => ∃ hs ta tb, Wf S (l :: r :: hs) ∧ Rep S ta l ∧ Rep S tb r ∧ ta.Bal ∧ tb.Bal ∧ ta.size + tb.size ≤ 800000 ∧ (cB ta.size tb.size : Int) ≤ S.free ∧ hs.length ≤ 400000000 ∧ S.reads + 5 * (cB ta.size tb.size) ≤ 1600000000000000000 ∧
    ∀ S' i, TrR S hs (ta.list ++ tb.list) (cB ta.size tb.size) (5 * cB ta.size tb.size) S' i → K (.one (.at (vU i))) (chS S') W7
  | _ => False
def tInsT (n : Nat) : Tfm C0 := fun args H K => match args with
  | [.at (.ptr 0 0), .at (.val (.int .u32 i)), .agg [.val (.int .i64 k), .val (.int .i64 v)]] => arM H fun S => ∃ hs t, Wf S (i :: hs) ∧ Rep S t i ∧ t.Bal ∧ Asc t.list ∧ t.size < n ∧ t.size ≤ 700000 ∧ (iB t.size : Int) ≤ S.free ∧ hs.length + t.size ≤ 600000000 ∧ S.reads + 5 * iB t.size ≤ 1600000000000000000 ∧
    ∀ S' j, TrR S hs (insE t.list (k, v)) (iB t.size) (5 * iB t.size) S' j → K (.one (.at (vU j))) (chS S') W7
  | _ => False
noncomputable def aIns' (n : Nat) : Ann C0 := { Γ := [(104, frameT [] tOpn), (71, frameT [] (tInsT n)), (91, frameT [] tJoin), (106, frameT [] tNodeX)] }
def tDlt (n : Nat) : Tfm C0 := fun args H K => match args with
  | [.at (.ptr 0 0), .at (.val (.int .u32 i)), .at (.val (.int .i64 key))] => arM H fun S => ∃ hs t, Wf S (i :: hs) ∧ Rep S t i ∧ t.Bal ∧ Asc t.list ∧ t.size < n ∧ t.size ≤ 700000 ∧ hasK t.list key ∧ (dB t.size : Int) ≤ S.free ∧ hs.length + t.size ≤ 300000000 ∧ S.reads + 5 * dB t.size ≤ 1500000000000000000 ∧
    ∀ S' j, TrR S hs (flt (neK key) t.list) (dB t.size) (5 * dB t.size) S' j → K (.one (.at (vU j))) (chS S') W7
  | _ => False
noncomputable def aDlt (n : Nat) : Ann C0 := { Γ := [(104, frameT [] tOpn), (68, frameT [] (tDlt n)), (91, frameT [] tJoin), (92, frameT [] tCat)] }
noncomputable def aHold : Ann C0 := { Γ := [(105, frameT [] tRetL)] }
def tHold : Tfm C0 := fun args H K => match args with
  | [.at (.ptr 0 0), .at (.val (.int .u32 i))] => arM H fun S => live S i ∧ exW S ∧ ∀ S', S' = retL S i → K (.one (.at (vU i))) (chS S') [3]
  | _ => False
noncomputable def aRoom : Ann C0 := { Γ := [(22, frameT [] tFree)] }
def tRoom : Tfm C0 := fun args H K => match args with
  | [.at (.ptr 0 0), .at (.val (.int .i64 n))] => arM H fun S => exW S ∧ ∀ b, b = (decide (0 ≤ n) && decide (n ≤ S.free)) → K (.one (.at (vB b))) (chS S) []
  | _ => False
theorem rep_ne {S : Arn} {b : Tr} {r : Int} (h : Rep S b r) (hr : r ≠ 0) : ∃ a2 k2 v2 b2, b = .node a2 k2 v2 b2 := by
  cases b with
  | nil => exact absurd h hr
  | node a2 k2 v2 b2 => exact ⟨a2, k2, v2, b2, rfl⟩
theorem node_size (a b : Tr) (k v : Int) : (Tr.node a k v b).size = a.size + b.size + 1 := by simp [Tr.size]; omega
theorem vc_popl (n : Nat) (S : Arn) (i : Int) (K : KT) (hs : List Int) (a : Tr) (kr vr : Int) (b : Tr) (hw : Wf S (i :: hs)) (h2 : Rep S (.node a kr vr b) i) (bal : (Tr.node a kr vr b).Bal) (hfu : (Tr.node a kr vr b).size < n + 1) (hz : (Tr.node a kr vr b).size ≤ 800000) (hf : (pB (Tr.node a kr vr b).size : Int) ≤ S.free)
    (hl : hs.length + (Tr.node a kr vr b).size ≤ 600000000) (hr : S.reads + 5 * (pB (Tr.node a kr vr b).size) ≤ 1700000000000000000)
    (h : ∀ S' j k v L, (Tr.node a kr vr b).list = L ++ [(k, v)] → TrR S hs L (pB (Tr.node a kr vr b).size) (5 * pB (Tr.node a kr vr b).size) S' j → K (.tup [.at (vU j), .agg [vI k, vI v]]) (chS S') W7) :
    vc C0 (aPop' n) Try.f119 [.at (.ptr 0 0), .at (vU i)] (chS S) (normK 7 (wideK W7 K)) := by
  refine Eq.mp (show (∃ hs : List Int,
  (∃ a : Tr,
    (∃ k : Int,
      (∃ v : Int,
        (∃ b : Tr,
          ((Wf S (i :: hs)) ∧
          (Rep S (a.node k v b) i) ∧
          (hs.length ≤ 900000000) ∧
          (S.reads ≤ 3000000000000000000) ∧
          (∀ S' : Arn,
            (∀ l : Int,
              (∀ r : Int,
                ((OpnR S hs a k v b S' l r) →
                (brS (r == 0)
                  ((K (SV.tup [(TV.at (At.val (Value.int IntKind.u32 (l)))), (TV.agg [(At.val (Value.int IntKind.i64 (k))), (At.val (Value.int IntKind.i64 (v)))])]) [(Chunk.box [(At.ptr 1 0), (At.slc 2), (At.slc 3), (At.val (Value.int IntKind.u64 (S'.reads)))]), (Chunk.box [(At.slc 4), (At.slc 5), (At.slc 6), (At.val (Value.int IntKind.u32 (S'.fresh)))]), (Chunk.row true (EC.node) (S'.nodes)), (Chunk.row true (EC.int) (S'.counts)), (Chunk.row true (EC.bool) (S'.used)), (Chunk.row true (EC.u32) (S'.gen)), (Chunk.row true (EC.u32) (S'.rel))] [0, 1, 2, 3, 4, 5, 6]))
                  ((∃ hs1 : List Int,
                    (∃ a1 : Tr,
                      (∃ kr : Int,
                        (∃ vr : Int,
                          (∃ b1 : Tr,
                            ((Wf S' (r :: hs1)) ∧
                            (Rep S' (a1.node kr vr b1) r) ∧
                            ((a1.node kr vr b1).Bal) ∧
                            ((a1.node kr vr b1).size < n) ∧
                            ((a1.node kr vr b1).size ≤ 800000) ∧
                            ((↑(pB (a1.node kr vr b1).size) : Int) ≤ S'.free) ∧
                            (hs1.length + (a1.node kr vr b1).size ≤ 600000000) ∧
                            (S'.reads + 5 * (↑(pB (a1.node kr vr b1).size) : Int) ≤ 1700000000000000000) ∧
                            (∀ S'1 : Arn,
                              (∀ j : Int,
                                (∀ k1 : Int,
                                  (∀ v1 : Int,
                                    (∀ L : List Ent,
                                      ((((a1.node kr vr b1).list) = (L ++ [(k1, v1)])) →
                                      ((TrR S' hs1 L (pB (a1.node kr vr b1).size) (5 * pB (a1.node kr vr b1).size) S'1 j) →
                                      (∃ hs2 : List Int,
                                        (∃ ta : Tr,
                                          (∃ tb : Tr,
                                            ((Wf S'1 (l :: j :: hs2)) ∧
                                            (Rep S'1 ta l) ∧
                                            (Rep S'1 tb j) ∧
                                            (ta.Bal) ∧
                                            (tb.Bal) ∧
                                            (ta.size + tb.size ≤ 900000) ∧
                                            ((↑(jB ta.size tb.size) : Int) ≤ S'1.free) ∧
                                            (hs2.length ≤ 700000000) ∧
                                            (S'1.reads + 5 * (↑(jB ta.size tb.size) : Int) ≤ 1800000000000000000) ∧
                                            (∀ S'2 : Arn,
                                              (∀ i1 : Int,
                                                ((TrR S'1 hs2 (ta.list ++ (k, v) :: tb.list) (jB ta.size tb.size) (4 * jB ta.size tb.size) S'2 i1) →
                                                (((balN (↑ta.size : Int) (↑tb.size : Int)) →
                                                ((((S'2.nd i1).left) = (l)) ∧
                                                (((S'2.nd i1).right) = (j)) ∧
                                                ((S'2.nu) = (S'1.nu + 1)))) →
                                                (K (SV.tup [(TV.at (At.val (Value.int IntKind.u32 (i1)))), (TV.agg [(At.val (Value.int IntKind.i64 (k1))), (At.val (Value.int IntKind.i64 (v1)))])]) [(Chunk.box [(At.ptr 1 0), (At.slc 2), (At.slc 3), (At.val (Value.int IntKind.u64 (S'2.reads)))]), (Chunk.box [(At.slc 4), (At.slc 5), (At.slc 6), (At.val (Value.int IntKind.u32 (S'2.fresh)))]), (Chunk.row true (EC.node) (S'2.nodes)), (Chunk.row true (EC.int) (S'2.counts)), (Chunk.row true (EC.bool) (S'2.used)), (Chunk.row true (EC.u32) (S'2.gen)), (Chunk.row true (EC.u32) (S'2.rel))] [0, 1, 2, 3, 4, 5, 6])))))))))))))))))))))))))))))))))) = _ by kernel_rfl) ?_
  have zz := node_size a b kr vr
  rw [zz] at hfu hz hf hl hr h
  obtain ⟨bb, ba, bbb⟩ := bal
  have hrd := hw.rds
  refine ⟨hs, a, kr, vr, b, hw, h2, by omega, by omega, fun S1 l r o => brS_of (fun d => ?_) fun d => ?_⟩
  · have d : r = 0 := by simpa using d
    subst d
    have e := o.repr.zero o.got.wf
    subst e
    have pp := pB_pos (n := a.size + Tr.nil.size + 1) (by omega)
    exact h S1 l kr vr a.list (by simp [Tr.list]) ⟨((o.got.perm (List.Perm.swap _ _ _)).of_zero).mono (by omega) (by omega), a, o.repl, rfl, ba⟩
  · have d : r ≠ 0 := by simpa using d
    obtain ⟨a2, k2, v2, b2, e⟩ := rep_ne o.repr d
    have zb : 1 ≤ b.size := by rw [e, node_size]; omega
    have ps := pB_step bb zb (by omega)
    have jp0 := jB_pos a.size (b.size - 1)
    have f1 := o.got.free hw
    have q1 := o.got.rd
    have orr := o.repr
    have eb := e
    rw [e] at orr
    refine ⟨l :: hs, a2, k2, v2, b2, o.got.wf.perm (List.Perm.swap _ _ _), orr, ?_⟩
    rw [← e]
    refine ⟨bbb, by omega, by omega, by omega, by simp; omega, by omega, fun S2 j k1 v1 L eL tr => ?_⟩
    obtain ⟨t, rt, lt, bt⟩ := tr.tree
    have zt : t.size = b.size - 1 := by rw [← t.list_len, lt, ← b.list_len, eL]; simp
    have f2 := tr.got.free o.got.wf
    have q2 := tr.got.rd
    have jp := jB_pos a.size t.size
    rw [← zt] at ps
    refine ⟨hs, a, t, tr.got.wf.perm (List.Perm.swap _ _ _), o.repl.held o.got.wf tr.got.stay (.inr (by simp)), rt, ba, bt, by omega, by omega, by omega, by omega, fun S3 q tj _ => h S3 q k1 v1 (a.list ++ (kr, vr) :: L) ?_ ⟨?_, ?_⟩⟩
    · show a.list ++ (kr, vr) :: b.list = _
      rw [eL]; simp
    · exact ((o.got.seq tr.got (h := hs) (fun _ h => h) (fun _ h => by simp [h])).seq tj.got (fun _ h => h) (fun _ h => h)).mono (by omega) (by omega)
    · obtain ⟨t', rt', lt', bt'⟩ := tj.tree
      exact ⟨t', rt', by rw [lt', lt], bt'⟩
theorem s_pop' : ∀ n, SoundT C0 119 (tPop n) := by
  intro n
  induction n with
  | zero =>
    refine .of Try.func119 (by decide) rfl fun args H K h hB => ?_
    exfalso
    unfold tPop at h
    split at h <;> try exact h.elim
    unfold arM at h
    split at h <;> try exact h.elim
    obtain ⟨_, _, _, _, _, _, _, _, h1, _⟩ := h
    omega
  | succ n ih =>
    refine .ofW W7 Try.func119 (by decide) rfl fun args H K h hB => ?_
    unfold tPop at h
    split at h <;> try exact h.elim
    unfold arM at h
    split at h <;> try exact h.elim
    rename_i i _ rd fr nd ct us gn rl
    obtain ⟨hs, a, kr, vr, b, h1, h2, h3, h4, h5, h6, h7, h8, h9⟩ := h
    exact ⟨aPop' n, ⟨frame C0.ok s_opn _, frame C0.ok ih _, frame C0.ok s_join _, trivial⟩, vc_popl n ⟨us, gn, rl, fr, nd, ct, rd⟩ i K hs a kr vr b h1 h2 h3 h4 h5 h6 h7 h8 h9⟩
theorem s_popl : SoundT C0 119 tPopl := (s_pop' 1000000).weak fun args H K h => by
  unfold tPopl at h
  unfold tPop
  split at h <;> try exact h.elim
  unfold arM at h ⊢
  split at h <;> try exact h.elim
  obtain ⟨hs, t, h1, h2, h3, h4, h5, h6, h7, h8, h9⟩ := h
  cases t with
  | nil => exact absurd h4 (by decide)
  | node a k v b => exact ⟨hs, a, k, v, b, h1, h2, h3, by omega, h5, h6, by omega, h8, h9⟩
theorem vc_cat (S : Arn) (l r : Int) (K : KT) (hs : List Int) (ta tb : Tr) (hw : Wf S (l :: r :: hs)) (h1 : Rep S ta l) (h2 : Rep S tb r) (b1 : ta.Bal) (b2 : tb.Bal) (hz : ta.size + tb.size ≤ 800000) (hf : (cB ta.size tb.size : Int) ≤ S.free) (hl : hs.length ≤ 400000000) (hr : S.reads + 5 * (cB ta.size tb.size) ≤ 1600000000000000000)
    (h : ∀ S' i, TrR S hs (ta.list ++ tb.list) (cB ta.size tb.size) (5 * cB ta.size tb.size) S' i → K (.one (.at (vU i))) (chS S') W7) :
    vc C0 aCat Try.f92 [.at (.ptr 0 0), .at (vU l), .at (vU r)] (chS S) (normK 7 (wideK W7 K)) := by
  refine Eq.mp (show (brS (l == 0)
  ((K (SV.one (TV.at (At.val (Value.int IntKind.u32 (r))))) [(Chunk.box [(At.ptr 1 0), (At.slc 2), (At.slc 3), (At.val (Value.int IntKind.u64 (S.reads)))]), (Chunk.box [(At.slc 4), (At.slc 5), (At.slc 6), (At.val (Value.int IntKind.u32 (S.fresh)))]), (Chunk.row true (EC.node) (S.nodes)), (Chunk.row true (EC.int) (S.counts)), (Chunk.row true (EC.bool) (S.used)), (Chunk.row true (EC.u32) (S.gen)), (Chunk.row true (EC.u32) (S.rel))] [0, 1, 2, 3, 4, 5, 6]))
  ((brS (r == 0)
    ((K (SV.one (TV.at (At.val (Value.int IntKind.u32 (l))))) [(Chunk.box [(At.ptr 1 0), (At.slc 2), (At.slc 3), (At.val (Value.int IntKind.u64 (S.reads)))]), (Chunk.box [(At.slc 4), (At.slc 5), (At.slc 6), (At.val (Value.int IntKind.u32 (S.fresh)))]), (Chunk.row true (EC.node) (S.nodes)), (Chunk.row true (EC.int) (S.counts)), (Chunk.row true (EC.bool) (S.used)), (Chunk.row true (EC.u32) (S.gen)), (Chunk.row true (EC.u32) (S.rel))] [0, 1, 2, 3, 4, 5, 6]))
    ((∃ hs : List Int,
      (∃ t : Tr,
        ((Wf S (l :: hs)) ∧
        (Rep S t l) ∧
        (t.Bal) ∧
        (1 ≤ t.size) ∧
        (t.size ≤ 800000) ∧
        ((↑(pB t.size) : Int) ≤ S.free) ∧
        (hs.length ≤ 500000000) ∧
        (S.reads + 5 * (↑(pB t.size) : Int) ≤ 1700000000000000000) ∧
        (∀ S' : Arn,
          (∀ j : Int,
            (∀ k : Int,
              (∀ v : Int,
                (∀ L : List Ent,
                  (((t.list) = (L ++ [(k, v)])) →
                  ((TrR S hs L (pB t.size) (5 * pB t.size) S' j) →
                  (∃ hs1 : List Int,
                    (∃ ta : Tr,
                      (∃ tb : Tr,
                        ((Wf S' (j :: r :: hs1)) ∧
                        (Rep S' ta j) ∧
                        (Rep S' tb r) ∧
                        (ta.Bal) ∧
                        (tb.Bal) ∧
                        (ta.size + tb.size ≤ 900000) ∧
                        ((↑(jB ta.size tb.size) : Int) ≤ S'.free) ∧
                        (hs1.length ≤ 700000000) ∧
                        (S'.reads + 5 * (↑(jB ta.size tb.size) : Int) ≤ 1800000000000000000) ∧
                        (∀ S'1 : Arn,
                          (∀ i : Int,
                            ((TrR S' hs1 (ta.list ++ (k, v) :: tb.list) (jB ta.size tb.size) (4 * jB ta.size tb.size) S'1 i) →
                            (((balN (↑ta.size : Int) (↑tb.size : Int)) →
                            ((((S'1.nd i).left) = (j)) ∧
                            (((S'1.nd i).right) = (r)) ∧
                            ((S'1.nu) = (S'.nu + 1)))) →
                            (K (SV.one (TV.at (At.val (Value.int IntKind.u32 (i))))) [(Chunk.box [(At.ptr 1 0), (At.slc 2), (At.slc 3), (At.val (Value.int IntKind.u64 (S'1.reads)))]), (Chunk.box [(At.slc 4), (At.slc 5), (At.slc 6), (At.val (Value.int IntKind.u32 (S'1.fresh)))]), (Chunk.row true (EC.node) (S'1.nodes)), (Chunk.row true (EC.int) (S'1.counts)), (Chunk.row true (EC.bool) (S'1.used)), (Chunk.row true (EC.u32) (S'1.gen)), (Chunk.row true (EC.u32) (S'1.rel))] [0, 1, 2, 3, 4, 5, 6]))))))))))))))))))))))) = _ by kernel_rfl) ?_
  refine brS_of (fun d => ?_) fun d => brS_of (fun e => ?_) fun e => ?_
  · have d : l = 0 := by simpa using d
    subst d
    have e := h1.zero hw
    subst e
    exact h S r ⟨(Got.refl hw.of_zero).mono (Nat.zero_le _) (Nat.zero_le _), tb, h2, rfl, b2⟩
  · have e : r = 0 := by simpa using e
    subst e
    have e := h2.zero hw
    subst e
    exact h S l ⟨(Got.refl (hw.perm (List.Perm.swap _ _ _)).of_zero).mono (Nat.zero_le _) (Nat.zero_le _), ta, h1, by simp [Tr.list], b1⟩
  · have d : l ≠ 0 := by simpa using d
    have e : r ≠ 0 := by simpa using e
    obtain ⟨_, _, _, _, ea⟩ := rep_ne h1 d
    obtain ⟨_, _, _, _, eb⟩ := rep_ne h2 e
    have za : 1 ≤ ta.size := by rw [ea, node_size]; omega
    have zb : 1 ≤ tb.size := by rw [eb, node_size]; omega
    have ec : cB ta.size tb.size = pB ta.size + jB (ta.size - 1) tb.size := by unfold cB; rw [if_neg (by omega)]
    rw [ec] at hf hr h
    have hrd := hw.rds
    refine ⟨r :: hs, ta, hw, h1, b1, za, by omega, by omega, by simp; omega, by omega, fun S1 j k v L eL tr => ?_⟩
    obtain ⟨t, rt, lt, bt⟩ := tr.tree
    have zt : t.size = ta.size - 1 := by rw [← t.list_len, lt, ← ta.list_len, eL]; simp
    rw [← zt] at hf hr h
    have f2 := tr.got.free hw
    have q2 := tr.got.rd
    refine ⟨hs, t, tb, tr.got.wf, rt, h2.held hw tr.got.stay (.inr (by simp)), bt, b2, by omega, by omega, by omega, by omega, fun S2 q tj _ => h S2 q ⟨?_, ?_⟩⟩
    · exact (tr.got.seq tj.got (h := hs) (fun _ h => by simp [h]) (fun _ h => h)).mono (by omega) (by omega)
    · obtain ⟨t', rt', lt', bt'⟩ := tj.tree
      exact ⟨t', rt', by rw [lt', lt, eL]; simp, bt'⟩
theorem s_cat : SoundT C0 92 tCat := by
  refine .ofW W7 Try.func92 (by decide) rfl fun args H K h hB => ?_
  unfold tCat at h
  split at h <;> try exact h.elim
  unfold arM at h
  split at h <;> try exact h.elim
  rename_i l r _ rd fr nd ct us gn rl
  obtain ⟨hs, ta, tb, h1, h2, h3, h4, h5, h6, h7, h8, h9, h10⟩ := h
  exact ⟨aCat, ⟨frame C0.ok s_popl _, frame C0.ok s_join _, trivial⟩, vc_cat ⟨us, gn, rl, fr, nd, ct, rd⟩ l r K hs ta tb h1 h2 h3 h4 h5 h6 h7 h8 h9 h10⟩
theorem vc_hold (S : Arn) (i : Int) (K : KT) (h1 : live S i) (h2 : exW S) (h : ∀ S', S' = retL S i → K (.one (.at (vU i))) (chS S') [3]) :
    vc C0 aHold Try.f69 [.at (.ptr 0 0), .at (vU i)] (chS S) (normK 7 (wideK [3] K)) := by
  refine Eq.mp (show ((live S i) ∧
(exW S) ∧
(∀ S' : Arn,
  (((S') = (retL S i)) →
  (K (SV.one (TV.at (At.val (Value.int IntKind.u32 (i))))) [(Chunk.box [(At.ptr 1 0), (At.slc 2), (At.slc 3), (At.val (Value.int IntKind.u64 (S'.reads)))]), (Chunk.box [(At.slc 4), (At.slc 5), (At.slc 6), (At.val (Value.int IntKind.u32 (S'.fresh)))]), (Chunk.row true (EC.node) (S'.nodes)), (Chunk.row true (EC.int) (S'.counts)), (Chunk.row true (EC.bool) (S'.used)), (Chunk.row true (EC.u32) (S'.gen)), (Chunk.row true (EC.u32) (S'.rel))] [3])))) = _ by kernel_rfl) ?_
  exact ⟨h1, h2, h⟩
theorem s_hold : SoundT C0 69 tHold := by
  refine .ofW [3] Try.func69 (by decide) rfl fun args H K h hB => ?_
  unfold tHold at h
  split at h <;> try exact h.elim
  unfold arM at h
  split at h <;> try exact h.elim
  rename_i i _ rd fr nd ct us gn rl
  exact ⟨aHold, ⟨frame C0.ok s_retL _, trivial⟩, vc_hold ⟨us, gn, rl, fr, nd, ct, rd⟩ i K h.1 h.2.1 h.2.2⟩
theorem vc_room (S : Arn) (n : Int) (K : KT) (h1 : exW S) (h : ∀ b, b = (decide (0 ≤ n) && decide (n ≤ S.free)) → K (.one (.at (vB b))) (chS S) []) :
    vc C0 aRoom Try.f66 [.at (.ptr 0 0), .at (vI n)] (chS S) (normK 7 K) := by
  refine Eq.mp (show (brS (decide (n ≥ 0))
  (((exW S) ∧
  (K (SV.one (TV.at (At.val (Value.bool (decide (S.free ≥ n)))))) [(Chunk.box [(At.ptr 1 0), (At.slc 2), (At.slc 3), (At.val (Value.int IntKind.u64 (S.reads)))]), (Chunk.box [(At.slc 4), (At.slc 5), (At.slc 6), (At.val (Value.int IntKind.u32 (S.fresh)))]), (Chunk.row true (EC.node) (S.nodes)), (Chunk.row true (EC.int) (S.counts)), (Chunk.row true (EC.bool) (S.used)), (Chunk.row true (EC.u32) (S.gen)), (Chunk.row true (EC.u32) (S.rel))] [])))
  ((K (SV.one (TV.at (At.val (Value.bool false)))) [(Chunk.box [(At.ptr 1 0), (At.slc 2), (At.slc 3), (At.val (Value.int IntKind.u64 (S.reads)))]), (Chunk.box [(At.slc 4), (At.slc 5), (At.slc 6), (At.val (Value.int IntKind.u32 (S.fresh)))]), (Chunk.row true (EC.node) (S.nodes)), (Chunk.row true (EC.int) (S.counts)), (Chunk.row true (EC.bool) (S.used)), (Chunk.row true (EC.u32) (S.gen)), (Chunk.row true (EC.u32) (S.rel))] []))) = _ by kernel_rfl) ?_
  refine brS_of (fun d => ⟨h1, h _ ?_⟩) fun d => h _ ?_
  · have d : 0 ≤ n := of_decide_eq_true d
    rw [decide_eq_true d]; rfl
  · have d : ¬ 0 ≤ n := of_decide_eq_false d
    rw [decide_eq_false d]; rfl
theorem s_room : SoundT C0 66 tRoom := by
  refine .of Try.func66 (by decide) rfl fun args H K h hB => ?_
  unfold tRoom at h
  split at h <;> try exact h.elim
  unfold arM at h
  split at h <;> try exact h.elim
  rename_i n _ rd fr nd ct us gn rl
  exact ⟨aRoom, ⟨frame C0.ok s_free _, trivial⟩, vc_room ⟨us, gn, rl, fr, nd, ct, rd⟩ n K h.1 h.2⟩
theorem jB_ins {a b t : Nat} (h : balN a b) (h1 : a ≤ t) (h2 : t ≤ a + 1) : jB t b ≤ 4 := by
  rcases Nat.lt_or_ge a t with c | c
  · have : t = a + 1 := by omega
    subst this
    rw [jB_comm]; exact jB_more (balN_comm h)
  · have : t = a := by omega
    subst this
    rw [jB_bal h]; decide
theorem jB_ins' {a b t : Nat} (h : balN a b) (h1 : b ≤ t) (h2 : t ≤ b + 1) : jB a t ≤ 4 := by
  rw [jB_comm]; exact jB_ins (balN_comm h) h1 h2
theorem vc_insr (n : Nat) (S : Arn) (i k v : Int) (K : KT) (hs : List Int) (t : Tr) (hw : Wf S (i :: hs)) (h1 : Rep S t i) (bal : t.Bal) (asc : Asc t.list) (hfu : t.size < n + 1) (hz : t.size ≤ 700000) (hf : (iB t.size : Int) ≤ S.free) (hl : hs.length + t.size ≤ 600000000) (hr : S.reads + 5 * iB t.size ≤ 1600000000000000000)
    (h : ∀ S' j, TrR S hs (insE t.list (k, v)) (iB t.size) (5 * iB t.size) S' j → K (.one (.at (vU j))) (chS S') W7) :
    vc C0 (aIns' n) Try.f71 [.at (.ptr 0 0), .at (vU i), .agg [vI k, vI v]] (chS S) (normK 7 (wideK W7 K)) := by
  refine Eq.mp (show (brS (i == 0)
  ((∃ hs : List Int,
    (∃ tl : Tr,
      (∃ tr : Tr,
        ((Wf S (0 :: 0 :: hs)) ∧
        (Rep S tl 0) ∧
        (Rep S tr 0) ∧
        (tl.size + tr.size ≤ 1000000) ∧
        (0 < S.free) ∧
        (hs.length ≤ 900000000) ∧
        (∀ S' : Arn,
          (∀ i1 : Int,
            ((NodeR S hs k v tl tr S' i1) →
            ((((S'.nd i1).left) = 0) →
            ((((S'.nd i1).right) = 0) →
            (K (SV.one (TV.at (At.val (Value.int IntKind.u32 (i1))))) [(Chunk.box [(At.ptr 1 0), (At.slc 2), (At.slc 3), (At.val (Value.int IntKind.u64 (S'.reads)))]), (Chunk.box [(At.slc 4), (At.slc 5), (At.slc 6), (At.val (Value.int IntKind.u32 (S'.fresh)))]), (Chunk.row true (EC.node) (S'.nodes)), (Chunk.row true (EC.int) (S'.counts)), (Chunk.row true (EC.bool) (S'.used)), (Chunk.row true (EC.u32) (S'.gen)), (Chunk.row true (EC.u32) (S'.rel))] [0, 1, 2, 3, 4, 5, 6])))))))))))
  ((∃ hs : List Int,
    (∃ a : Tr,
      (∃ k1 : Int,
        (∃ v1 : Int,
          (∃ b : Tr,
            ((Wf S (i :: hs)) ∧
            (Rep S (a.node k1 v1 b) i) ∧
            (hs.length ≤ 900000000) ∧
            (S.reads ≤ 3000000000000000000) ∧
            (∀ S' : Arn,
              (∀ l : Int,
                (∀ r : Int,
                  ((OpnR S hs a k1 v1 b S' l r) →
                  (brS (decide (k < k1))
                    ((((∃ hs1 : List Int,
                      (∃ t : Tr,
                        ((Wf S' (l :: hs1)) ∧
                        (Rep S' t l) ∧
                        (t.Bal) ∧
                        (Asc t.list) ∧
                        (t.size < n) ∧
                        (t.size ≤ 700000) ∧
                        ((↑(iB t.size) : Int) ≤ S'.free) ∧
                        (hs1.length + t.size ≤ 600000000) ∧
                        (S'.reads + 5 * (↑(iB t.size) : Int) ≤ 1600000000000000000) ∧
                        (∀ S'1 : Arn,
                          (∀ j : Int,
                            ((TrR S' hs1 (insE t.list (k, v)) (iB t.size) (5 * iB t.size) S'1 j) →
                            (∃ hs2 : List Int,
                              (∃ ta : Tr,
                                (∃ tb : Tr,
                                  ((Wf S'1 (j :: r :: hs2)) ∧
                                  (Rep S'1 ta j) ∧
                                  (Rep S'1 tb r) ∧
                                  (ta.Bal) ∧
                                  (tb.Bal) ∧
                                  (ta.size + tb.size ≤ 900000) ∧
                                  ((↑(jB ta.size tb.size) : Int) ≤ S'1.free) ∧
                                  (hs2.length ≤ 700000000) ∧
                                  (S'1.reads + 5 * (↑(jB ta.size tb.size) : Int) ≤ 1800000000000000000) ∧
                                  (∀ S'2 : Arn,
                                    (∀ i1 : Int,
                                      ((TrR S'1 hs2 (ta.list ++ (k1, v1) :: tb.list) (jB ta.size tb.size) (4 * jB ta.size tb.size) S'2 i1) →
                                      (((balN (↑ta.size : Int) (↑tb.size : Int)) →
                                      ((((S'2.nd i1).left) = (j)) ∧
                                      (((S'2.nd i1).right) = (r)) ∧
                                      ((S'2.nu) = (S'1.nu + 1)))) →
                                      (K (SV.one (TV.at (At.val (Value.int IntKind.u32 (i1))))) [(Chunk.box [(At.ptr 1 0), (At.slc 2), (At.slc 3), (At.val (Value.int IntKind.u64 (S'2.reads)))]), (Chunk.box [(At.slc 4), (At.slc 5), (At.slc 6), (At.val (Value.int IntKind.u32 (S'2.fresh)))]), (Chunk.row true (EC.node) (S'2.nodes)), (Chunk.row true (EC.int) (S'2.counts)), (Chunk.row true (EC.bool) (S'2.used)), (Chunk.row true (EC.u32) (S'2.gen)), (Chunk.row true (EC.u32) (S'2.rel))] [0, 1, 2, 3, 4, 5, 6]))))))))))))))) ∧
                    (∃ hs1 : List Int,
                      (∃ t : Tr,
                        ((Wf S' (l :: hs1)) ∧
                        (Rep S' t l) ∧
                        (t.Bal) ∧
                        (Asc t.list) ∧
                        (t.size < n) ∧
                        (t.size ≤ 700000) ∧
                        ((↑(iB t.size) : Int) ≤ S'.free) ∧
                        (hs1.length + t.size ≤ 600000000) ∧
                        (S'.reads + 5 * (↑(iB t.size) : Int) ≤ 1600000000000000000) ∧
                        (∀ S'1 : Arn,
                          (∀ j : Int,
                            ((TrR S' hs1 (insE t.list (k, v)) (iB t.size) (5 * iB t.size) S'1 j) →
                            (∃ hs2 : List Int,
                              (∃ ta : Tr,
                                (∃ tb : Tr,
                                  ((Wf S'1 (j :: r :: hs2)) ∧
                                  (Rep S'1 ta j) ∧
                                  (Rep S'1 tb r) ∧
                                  (ta.Bal) ∧
                                  (tb.Bal) ∧
                                  (ta.size + tb.size ≤ 900000) ∧
                                  ((↑(jB ta.size tb.size) : Int) ≤ S'1.free) ∧
                                  (hs2.length ≤ 700000000) ∧
                                  (S'1.reads + 5 * (↑(jB ta.size tb.size) : Int) ≤ 1800000000000000000) ∧
                                  (∀ S'2 : Arn,
                                    (∀ i1 : Int,
                                      ((TrR S'1 hs2 (ta.list ++ (k1, v1) :: tb.list) (jB ta.size tb.size) (4 * jB ta.size tb.size) S'2 i1) →
                                      (((balN (↑ta.size : Int) (↑tb.size : Int)) →
                                      ((((S'2.nd i1).left) = (j)) ∧
                                      (((S'2.nd i1).right) = (r)) ∧
                                      ((S'2.nu) = (S'1.nu + 1)))) →
                                      (K (SV.one (TV.at (At.val (Value.int IntKind.u32 (i1))))) [(Chunk.box [(At.ptr 1 0), (At.slc 2), (At.slc 3), (At.val (Value.int IntKind.u64 (S'2.reads)))]), (Chunk.box [(At.slc 4), (At.slc 5), (At.slc 6), (At.val (Value.int IntKind.u32 (S'2.fresh)))]), (Chunk.row true (EC.node) (S'2.nodes)), (Chunk.row true (EC.int) (S'2.counts)), (Chunk.row true (EC.bool) (S'2.used)), (Chunk.row true (EC.u32) (S'2.gen)), (Chunk.row true (EC.u32) (S'2.rel))] [0, 1, 2, 3, 4, 5, 6])))))))))))))))) ∧
                    (∃ hs1 : List Int,
                      (∃ t : Tr,
                        ((Wf S' (l :: hs1)) ∧
                        (Rep S' t l) ∧
                        (t.Bal) ∧
                        (Asc t.list) ∧
                        (t.size < n) ∧
                        (t.size ≤ 700000) ∧
                        ((↑(iB t.size) : Int) ≤ S'.free) ∧
                        (hs1.length + t.size ≤ 600000000) ∧
                        (S'.reads + 5 * (↑(iB t.size) : Int) ≤ 1600000000000000000) ∧
                        (∀ S'1 : Arn,
                          (∀ j : Int,
                            ((TrR S' hs1 (insE t.list (k, v)) (iB t.size) (5 * iB t.size) S'1 j) →
                            (∃ hs2 : List Int,
                              (∃ ta : Tr,
                                (∃ tb : Tr,
                                  ((Wf S'1 (j :: r :: hs2)) ∧
                                  (Rep S'1 ta j) ∧
                                  (Rep S'1 tb r) ∧
                                  (ta.Bal) ∧
                                  (tb.Bal) ∧
                                  (ta.size + tb.size ≤ 900000) ∧
                                  ((↑(jB ta.size tb.size) : Int) ≤ S'1.free) ∧
                                  (hs2.length ≤ 700000000) ∧
                                  (S'1.reads + 5 * (↑(jB ta.size tb.size) : Int) ≤ 1800000000000000000) ∧
                                  (∀ S'2 : Arn,
                                    (∀ i1 : Int,
                                      ((TrR S'1 hs2 (ta.list ++ (k1, v1) :: tb.list) (jB ta.size tb.size) (4 * jB ta.size tb.size) S'2 i1) →
                                      (((balN (↑ta.size : Int) (↑tb.size : Int)) →
                                      ((((S'2.nd i1).left) = (j)) ∧
                                      (((S'2.nd i1).right) = (r)) ∧
                                      ((S'2.nu) = (S'1.nu + 1)))) →
                                      (K (SV.one (TV.at (At.val (Value.int IntKind.u32 (i1))))) [(Chunk.box [(At.ptr 1 0), (At.slc 2), (At.slc 3), (At.val (Value.int IntKind.u64 (S'2.reads)))]), (Chunk.box [(At.slc 4), (At.slc 5), (At.slc 6), (At.val (Value.int IntKind.u32 (S'2.fresh)))]), (Chunk.row true (EC.node) (S'2.nodes)), (Chunk.row true (EC.int) (S'2.counts)), (Chunk.row true (EC.bool) (S'2.used)), (Chunk.row true (EC.u32) (S'2.gen)), (Chunk.row true (EC.u32) (S'2.rel))] [0, 1, 2, 3, 4, 5, 6])))))))))))))))))
                    ((brS (decide (k > k1))
                      (((∃ hs1 : List Int,
                        (∃ t : Tr,
                          ((Wf S' (r :: hs1)) ∧
                          (Rep S' t r) ∧
                          (t.Bal) ∧
                          (Asc t.list) ∧
                          (t.size < n) ∧
                          (t.size ≤ 700000) ∧
                          ((↑(iB t.size) : Int) ≤ S'.free) ∧
                          (hs1.length + t.size ≤ 600000000) ∧
                          (S'.reads + 5 * (↑(iB t.size) : Int) ≤ 1600000000000000000) ∧
                          (∀ S'1 : Arn,
                            (∀ j : Int,
                              ((TrR S' hs1 (insE t.list (k, v)) (iB t.size) (5 * iB t.size) S'1 j) →
                              (∃ hs2 : List Int,
                                (∃ ta : Tr,
                                  (∃ tb : Tr,
                                    ((Wf S'1 (l :: j :: hs2)) ∧
                                    (Rep S'1 ta l) ∧
                                    (Rep S'1 tb j) ∧
                                    (ta.Bal) ∧
                                    (tb.Bal) ∧
                                    (ta.size + tb.size ≤ 900000) ∧
                                    ((↑(jB ta.size tb.size) : Int) ≤ S'1.free) ∧
                                    (hs2.length ≤ 700000000) ∧
                                    (S'1.reads + 5 * (↑(jB ta.size tb.size) : Int) ≤ 1800000000000000000) ∧
                                    (∀ S'2 : Arn,
                                      (∀ i1 : Int,
                                        ((TrR S'1 hs2 (ta.list ++ (k1, v1) :: tb.list) (jB ta.size tb.size) (4 * jB ta.size tb.size) S'2 i1) →
                                        (((balN (↑ta.size : Int) (↑tb.size : Int)) →
                                        ((((S'2.nd i1).left) = (l)) ∧
                                        (((S'2.nd i1).right) = (j)) ∧
                                        ((S'2.nu) = (S'1.nu + 1)))) →
                                        (K (SV.one (TV.at (At.val (Value.int IntKind.u32 (i1))))) [(Chunk.box [(At.ptr 1 0), (At.slc 2), (At.slc 3), (At.val (Value.int IntKind.u64 (S'2.reads)))]), (Chunk.box [(At.slc 4), (At.slc 5), (At.slc 6), (At.val (Value.int IntKind.u32 (S'2.fresh)))]), (Chunk.row true (EC.node) (S'2.nodes)), (Chunk.row true (EC.int) (S'2.counts)), (Chunk.row true (EC.bool) (S'2.used)), (Chunk.row true (EC.u32) (S'2.gen)), (Chunk.row true (EC.u32) (S'2.rel))] [0, 1, 2, 3, 4, 5, 6]))))))))))))))) ∧
                      (∃ hs1 : List Int,
                        (∃ t : Tr,
                          ((Wf S' (r :: hs1)) ∧
                          (Rep S' t r) ∧
                          (t.Bal) ∧
                          (Asc t.list) ∧
                          (t.size < n) ∧
                          (t.size ≤ 700000) ∧
                          ((↑(iB t.size) : Int) ≤ S'.free) ∧
                          (hs1.length + t.size ≤ 600000000) ∧
                          (S'.reads + 5 * (↑(iB t.size) : Int) ≤ 1600000000000000000) ∧
                          (∀ S'1 : Arn,
                            (∀ j : Int,
                              ((TrR S' hs1 (insE t.list (k, v)) (iB t.size) (5 * iB t.size) S'1 j) →
                              (∃ hs2 : List Int,
                                (∃ ta : Tr,
                                  (∃ tb : Tr,
                                    ((Wf S'1 (l :: j :: hs2)) ∧
                                    (Rep S'1 ta l) ∧
                                    (Rep S'1 tb j) ∧
                                    (ta.Bal) ∧
                                    (tb.Bal) ∧
                                    (ta.size + tb.size ≤ 900000) ∧
                                    ((↑(jB ta.size tb.size) : Int) ≤ S'1.free) ∧
                                    (hs2.length ≤ 700000000) ∧
                                    (S'1.reads + 5 * (↑(jB ta.size tb.size) : Int) ≤ 1800000000000000000) ∧
                                    (∀ S'2 : Arn,
                                      (∀ i1 : Int,
                                        ((TrR S'1 hs2 (ta.list ++ (k1, v1) :: tb.list) (jB ta.size tb.size) (4 * jB ta.size tb.size) S'2 i1) →
                                        (((balN (↑ta.size : Int) (↑tb.size : Int)) →
                                        ((((S'2.nd i1).left) = (l)) ∧
                                        (((S'2.nd i1).right) = (j)) ∧
                                        ((S'2.nu) = (S'1.nu + 1)))) →
                                        (K (SV.one (TV.at (At.val (Value.int IntKind.u32 (i1))))) [(Chunk.box [(At.ptr 1 0), (At.slc 2), (At.slc 3), (At.val (Value.int IntKind.u64 (S'2.reads)))]), (Chunk.box [(At.slc 4), (At.slc 5), (At.slc 6), (At.val (Value.int IntKind.u32 (S'2.fresh)))]), (Chunk.row true (EC.node) (S'2.nodes)), (Chunk.row true (EC.int) (S'2.counts)), (Chunk.row true (EC.bool) (S'2.used)), (Chunk.row true (EC.u32) (S'2.gen)), (Chunk.row true (EC.u32) (S'2.rel))] [0, 1, 2, 3, 4, 5, 6]))))))))))))))) ∧
                      (∃ hs1 : List Int,
                        (∃ t : Tr,
                          ((Wf S' (r :: hs1)) ∧
                          (Rep S' t r) ∧
                          (t.Bal) ∧
                          (Asc t.list) ∧
                          (t.size < n) ∧
                          (t.size ≤ 700000) ∧
                          ((↑(iB t.size) : Int) ≤ S'.free) ∧
                          (hs1.length + t.size ≤ 600000000) ∧
                          (S'.reads + 5 * (↑(iB t.size) : Int) ≤ 1600000000000000000) ∧
                          (∀ S'1 : Arn,
                            (∀ j : Int,
                              ((TrR S' hs1 (insE t.list (k, v)) (iB t.size) (5 * iB t.size) S'1 j) →
                              (∃ hs2 : List Int,
                                (∃ ta : Tr,
                                  (∃ tb : Tr,
                                    ((Wf S'1 (l :: j :: hs2)) ∧
                                    (Rep S'1 ta l) ∧
                                    (Rep S'1 tb j) ∧
                                    (ta.Bal) ∧
                                    (tb.Bal) ∧
                                    (ta.size + tb.size ≤ 900000) ∧
                                    ((↑(jB ta.size tb.size) : Int) ≤ S'1.free) ∧
                                    (hs2.length ≤ 700000000) ∧
                                    (S'1.reads + 5 * (↑(jB ta.size tb.size) : Int) ≤ 1800000000000000000) ∧
                                    (∀ S'2 : Arn,
                                      (∀ i1 : Int,
                                        ((TrR S'1 hs2 (ta.list ++ (k1, v1) :: tb.list) (jB ta.size tb.size) (4 * jB ta.size tb.size) S'2 i1) →
                                        (((balN (↑ta.size : Int) (↑tb.size : Int)) →
                                        ((((S'2.nd i1).left) = (l)) ∧
                                        (((S'2.nd i1).right) = (j)) ∧
                                        ((S'2.nu) = (S'1.nu + 1)))) →
                                        (K (SV.one (TV.at (At.val (Value.int IntKind.u32 (i1))))) [(Chunk.box [(At.ptr 1 0), (At.slc 2), (At.slc 3), (At.val (Value.int IntKind.u64 (S'2.reads)))]), (Chunk.box [(At.slc 4), (At.slc 5), (At.slc 6), (At.val (Value.int IntKind.u32 (S'2.fresh)))]), (Chunk.row true (EC.node) (S'2.nodes)), (Chunk.row true (EC.int) (S'2.counts)), (Chunk.row true (EC.bool) (S'2.used)), (Chunk.row true (EC.u32) (S'2.gen)), (Chunk.row true (EC.u32) (S'2.rel))] [0, 1, 2, 3, 4, 5, 6])))))))))))))))))
                      ((∃ hs1 : List Int,
                        (∃ tl : Tr,
                          (∃ tr : Tr,
                            ((Wf S' (l :: r :: hs1)) ∧
                            (Rep S' tl l) ∧
                            (Rep S' tr r) ∧
                            (tl.size + tr.size ≤ 1000000) ∧
                            (0 < S'.free) ∧
                            (hs1.length ≤ 900000000) ∧
                            (∀ S'1 : Arn,
                              (∀ i1 : Int,
                                ((NodeR S' hs1 k v tl tr S'1 i1) →
                                ((((S'1.nd i1).left) = (l)) →
                                ((((S'1.nd i1).right) = (r)) →
                                (K (SV.one (TV.at (At.val (Value.int IntKind.u32 (i1))))) [(Chunk.box [(At.ptr 1 0), (At.slc 2), (At.slc 3), (At.val (Value.int IntKind.u64 (S'1.reads)))]), (Chunk.box [(At.slc 4), (At.slc 5), (At.slc 6), (At.val (Value.int IntKind.u32 (S'1.fresh)))]), (Chunk.row true (EC.node) (S'1.nodes)), (Chunk.row true (EC.int) (S'1.counts)), (Chunk.row true (EC.bool) (S'1.used)), (Chunk.row true (EC.u32) (S'1.gen)), (Chunk.row true (EC.u32) (S'1.rel))] [0, 1, 2, 3, 4, 5, 6])))))))))))))))))))))))))) = _ by kernel_rfl) ?_
  have hrd := hw.rds
  refine brS_of (fun d => ?_) fun d => ?_
  · have d : i = 0 := by simpa using d
    subst d
    have e := h1.zero hw
    subst e
    have ep : 1 ≤ iB Tr.nil.size := by unfold iB; omega
    refine ⟨hs, .nil, .nil, hw.zero_cons (by simp; omega), rfl, rfl, by decide, by omega, by omega, fun S1 j nn _ _ => h S1 j ⟨(Got.node nn).mono (by omega) (by omega), _, nn.rep, ?_, ?_⟩⟩
    · simp [Tr.list, insE, insGo]
    · exact ⟨by decide, trivial, trivial⟩
  · have d : i ≠ 0 := by simpa using d
    obtain ⟨a, k1, v1, b, e⟩ := rep_ne h1 d
    subst e
    have zz := node_size a b k1 v1
    rw [zz] at hfu hz hf hl hr h
    obtain ⟨bb, ba, bbb⟩ := bal
    have asc' : Asc (a.list ++ (k1, v1) :: b.list) := asc
    obtain ⟨asca, ascb, ltk, gtk⟩ := asc_parts asc'
    have isa := iB_step (balN_comm bb) (by omega)
    have isb := iB_step bb (by omega)
    rw [show b.size + a.size + 1 = a.size + b.size + 1 by omega] at isa
    refine ⟨hs, a, k1, v1, b, hw, h1, by omega, by omega, fun S1 l r o => ?_⟩
    have f1 := o.got.free hw
    have q1 := o.got.rd
    refine brS_of (fun d => ?_) fun d => brS_of (fun e => ?_) fun e => ?_
    · have d : k < k1 := of_decide_eq_true d
      (repeat' apply And.intro)
      all_goals
        refine ⟨r :: hs, a, o.got.wf, o.repl, ba, asca, by omega, by omega, by omega, by simp; omega, by omega, fun S2 j tr => ?_⟩
        obtain ⟨t, rt, lt, bt⟩ := tr.tree
        have z1 := insE_ge (k, v) asca
        have z2 := insE_len a.list (k, v)
        rw [← lt, a.list_len, t.list_len] at z1 z2
        have jb := jB_ins bb z1 z2
        have jp := jB_pos t.size b.size
        have f2 := tr.got.free o.got.wf
        have q2 := tr.got.rd
        refine ⟨hs, t, b, tr.got.wf, rt, o.repr.held o.got.wf tr.got.stay (.inr (by simp)), bt, bbb, by omega, by omega, by omega, by omega, fun S3 q tj _ => h S3 q ⟨?_, ?_⟩⟩
        · exact ((o.got.seq tr.got (h := hs) (fun _ h => h) (fun _ h => by simp [h])).seq tj.got (fun _ h => h) (fun _ h => h)).mono (by omega) (by omega)
        · obtain ⟨t', rt', lt', bt'⟩ := tj.tree
          exact ⟨t', rt', by rw [lt', lt]; exact (insE_left asc' d).symm, bt'⟩
    · have e : k1 < k := of_decide_eq_true e
      (repeat' apply And.intro)
      all_goals
        refine ⟨l :: hs, b, o.got.wf.perm (List.Perm.swap _ _ _), o.repr, bbb, ascb, by omega, by omega, by omega, by simp; omega, by omega, fun S2 j tr => ?_⟩
        obtain ⟨t, rt, lt, bt⟩ := tr.tree
        have z1 := insE_ge (k, v) ascb
        have z2 := insE_len b.list (k, v)
        rw [← lt, b.list_len, t.list_len] at z1 z2
        have jb := jB_ins' bb z1 z2
        have jp := jB_pos a.size t.size
        have f2 := tr.got.free o.got.wf
        have q2 := tr.got.rd
        refine ⟨hs, a, t, tr.got.wf.perm (List.Perm.swap _ _ _), o.repl.held o.got.wf tr.got.stay (.inr (by simp)), rt, ba, bt, by omega, by omega, by omega, by omega, fun S3 q tj _ => h S3 q ⟨?_, ?_⟩⟩
        · exact ((o.got.seq tr.got (h := hs) (fun _ h => h) (fun _ h => by simp [h])).seq tj.got (fun _ h => h) (fun _ h => h)).mono (by omega) (by omega)
        · obtain ⟨t', rt', lt', bt'⟩ := tj.tree
          exact ⟨t', rt', by rw [lt', lt]; exact (insE_right asc' e).symm, bt'⟩
    · have d : ¬ k < k1 := of_decide_eq_false d
      have e : ¬ k > k1 := of_decide_eq_false e
      have ek : k1 = k := by omega
      subst ek
      have ip : 1 ≤ iB (a.size + b.size + 1) := by unfold iB; omega
      refine ⟨hs, a, b, o.got.wf, o.repl, o.repr, by omega, by omega, by omega, fun S2 j nn _ _ => h S2 j ⟨(o.got.seq (Got.node nn) (h := hs) (fun _ h => h) (fun _ h => h)).mono (by omega) (by omega), _, nn.rep, ?_, bb, ba, bbb⟩⟩
      exact (insE_at (e := (k1, v)) asc').symm
theorem s_insr : ∀ n, SoundT C0 71 (tInsT n) := by
  intro n
  induction n with
  | zero =>
    refine .of Try.func71 (by decide) rfl fun args H K h hB => ?_
    exfalso
    unfold tInsT at h
    split at h <;> try exact h.elim
    unfold arM at h
    split at h <;> try exact h.elim
    obtain ⟨_, _, _, _, _, _, h1, _⟩ := h
    omega
  | succ n ih =>
    refine .ofW W7 Try.func71 (by decide) rfl fun args H K h hB => ?_
    unfold tInsT at h
    split at h <;> try exact h.elim
    unfold arM at h
    split at h <;> try exact h.elim
    rename_i i k v _ rd fr nd ct us gn rl
    obtain ⟨hs, t, h1, h2, h3, h4, h5, h6, h7, h8, h9, h10⟩ := h
    exact ⟨aIns' n, ⟨frame C0.ok s_opn _, frame C0.ok ih _, frame C0.ok s_join _, frame C0.ok s_nodeX _, trivial⟩, vc_insr n ⟨us, gn, rl, fr, nd, ct, rd⟩ i k v K hs t h1 h2 h3 h4 h5 h6 h7 h8 h9 h10⟩
theorem hasK_left {a b : List Ent} {k v q : Int} (h : Asc (a ++ (k, v) :: b)) (hk : hasK (a ++ (k, v) :: b) q) (hq : q < k) : hasK a q := by
  obtain ⟨w, hw⟩ := hk
  obtain ⟨_, _, _, h4⟩ := asc_parts h
  rcases List.mem_append.1 hw with c | c
  · exact ⟨w, c⟩
  · rcases List.mem_cons.1 c with c | c
    · have := congrArg Prod.fst c; simp at this; omega
    · have := h4 _ c; simp at this; omega
theorem hasK_right {a b : List Ent} {k v q : Int} (h : Asc (a ++ (k, v) :: b)) (hk : hasK (a ++ (k, v) :: b) q) (hq : k < q) : hasK b q := by
  obtain ⟨w, hw⟩ := hk
  obtain ⟨_, _, h3, _⟩ := asc_parts h
  rcases List.mem_append.1 hw with c | c
  · have := h3 _ c; simp at this; omega
  · rcases List.mem_cons.1 c with c | c
    · have := congrArg Prod.fst c; simp at this; omega
    · exact ⟨w, c⟩
theorem vc_dlt (n : Nat) (S : Arn) (i key : Int) (K : KT) (hs : List Int) (t : Tr) (hw : Wf S (i :: hs)) (h1 : Rep S t i) (bal : t.Bal) (asc : Asc t.list) (hfu : t.size < n + 1) (hz : t.size ≤ 700000) (hk : hasK t.list key) (hf : (dB t.size : Int) ≤ S.free) (hl : hs.length + t.size ≤ 300000000) (hr : S.reads + 5 * dB t.size ≤ 1500000000000000000)
    (h : ∀ S' j, TrR S hs (flt (neK key) t.list) (dB t.size) (5 * dB t.size) S' j → K (.one (.at (vU j))) (chS S') W7) :
    vc C0 (aDlt n) Try.f68 [.at (.ptr 0 0), .at (vU i), .at (vI key)] (chS S) (normK 7 (wideK W7 K)) := by
  refine Eq.mp (show (brS (i == 0)
  ((K (SV.one (TV.at (At.val (Value.int IntKind.u32 0)))) [(Chunk.box [(At.ptr 1 0), (At.slc 2), (At.slc 3), (At.val (Value.int IntKind.u64 (S.reads)))]), (Chunk.box [(At.slc 4), (At.slc 5), (At.slc 6), (At.val (Value.int IntKind.u32 (S.fresh)))]), (Chunk.row true (EC.node) (S.nodes)), (Chunk.row true (EC.int) (S.counts)), (Chunk.row true (EC.bool) (S.used)), (Chunk.row true (EC.u32) (S.gen)), (Chunk.row true (EC.u32) (S.rel))] [0, 1, 2, 3, 4, 5, 6]))
  ((∃ hs : List Int,
    (∃ a : Tr,
      (∃ k : Int,
        (∃ v : Int,
          (∃ b : Tr,
            ((Wf S (i :: hs)) ∧
            (Rep S (a.node k v b) i) ∧
            (hs.length ≤ 900000000) ∧
            (S.reads ≤ 3000000000000000000) ∧
            (∀ S' : Arn,
              (∀ l : Int,
                (∀ r : Int,
                  ((OpnR S hs a k v b S' l r) →
                  (brS (decide (key < k))
                    (((∃ hs1 : List Int,
                      (∃ t : Tr,
                        ((Wf S' (l :: hs1)) ∧
                        (Rep S' t l) ∧
                        (t.Bal) ∧
                        (Asc t.list) ∧
                        (t.size < n) ∧
                        (t.size ≤ 700000) ∧
                        (hasK t.list key) ∧
                        ((↑(dB t.size) : Int) ≤ S'.free) ∧
                        (hs1.length + t.size ≤ 300000000) ∧
                        (S'.reads + 5 * (↑(dB t.size) : Int) ≤ 1500000000000000000) ∧
                        (∀ S'1 : Arn,
                          (∀ j : Int,
                            ((TrR S' hs1 (flt (neK key) t.list) (dB t.size) (5 * dB t.size) S'1 j) →
                            (∃ hs2 : List Int,
                              (∃ ta : Tr,
                                (∃ tb : Tr,
                                  ((Wf S'1 (j :: r :: hs2)) ∧
                                  (Rep S'1 ta j) ∧
                                  (Rep S'1 tb r) ∧
                                  (ta.Bal) ∧
                                  (tb.Bal) ∧
                                  (ta.size + tb.size ≤ 900000) ∧
                                  ((↑(jB ta.size tb.size) : Int) ≤ S'1.free) ∧
                                  (hs2.length ≤ 700000000) ∧
                                  (S'1.reads + 5 * (↑(jB ta.size tb.size) : Int) ≤ 1800000000000000000) ∧
                                  (∀ S'2 : Arn,
                                    (∀ i1 : Int,
                                      ((TrR S'1 hs2 (ta.list ++ (k, v) :: tb.list) (jB ta.size tb.size) (4 * jB ta.size tb.size) S'2 i1) →
                                      (((balN (↑ta.size : Int) (↑tb.size : Int)) →
                                      ((((S'2.nd i1).left) = (j)) ∧
                                      (((S'2.nd i1).right) = (r)) ∧
                                      ((S'2.nu) = (S'1.nu + 1)))) →
                                      (K (SV.one (TV.at (At.val (Value.int IntKind.u32 (i1))))) [(Chunk.box [(At.ptr 1 0), (At.slc 2), (At.slc 3), (At.val (Value.int IntKind.u64 (S'2.reads)))]), (Chunk.box [(At.slc 4), (At.slc 5), (At.slc 6), (At.val (Value.int IntKind.u32 (S'2.fresh)))]), (Chunk.row true (EC.node) (S'2.nodes)), (Chunk.row true (EC.int) (S'2.counts)), (Chunk.row true (EC.bool) (S'2.used)), (Chunk.row true (EC.u32) (S'2.gen)), (Chunk.row true (EC.u32) (S'2.rel))] [0, 1, 2, 3, 4, 5, 6]))))))))))))))) ∧
                    (∃ hs1 : List Int,
                      (∃ t : Tr,
                        ((Wf S' (l :: hs1)) ∧
                        (Rep S' t l) ∧
                        (t.Bal) ∧
                        (Asc t.list) ∧
                        (t.size < n) ∧
                        (t.size ≤ 700000) ∧
                        (hasK t.list key) ∧
                        ((↑(dB t.size) : Int) ≤ S'.free) ∧
                        (hs1.length + t.size ≤ 300000000) ∧
                        (S'.reads + 5 * (↑(dB t.size) : Int) ≤ 1500000000000000000) ∧
                        (∀ S'1 : Arn,
                          (∀ j : Int,
                            ((TrR S' hs1 (flt (neK key) t.list) (dB t.size) (5 * dB t.size) S'1 j) →
                            (∃ hs2 : List Int,
                              (∃ ta : Tr,
                                (∃ tb : Tr,
                                  ((Wf S'1 (j :: r :: hs2)) ∧
                                  (Rep S'1 ta j) ∧
                                  (Rep S'1 tb r) ∧
                                  (ta.Bal) ∧
                                  (tb.Bal) ∧
                                  (ta.size + tb.size ≤ 900000) ∧
                                  ((↑(jB ta.size tb.size) : Int) ≤ S'1.free) ∧
                                  (hs2.length ≤ 700000000) ∧
                                  (S'1.reads + 5 * (↑(jB ta.size tb.size) : Int) ≤ 1800000000000000000) ∧
                                  (∀ S'2 : Arn,
                                    (∀ i1 : Int,
                                      ((TrR S'1 hs2 (ta.list ++ (k, v) :: tb.list) (jB ta.size tb.size) (4 * jB ta.size tb.size) S'2 i1) →
                                      (((balN (↑ta.size : Int) (↑tb.size : Int)) →
                                      ((((S'2.nd i1).left) = (j)) ∧
                                      (((S'2.nd i1).right) = (r)) ∧
                                      ((S'2.nu) = (S'1.nu + 1)))) →
                                      (K (SV.one (TV.at (At.val (Value.int IntKind.u32 (i1))))) [(Chunk.box [(At.ptr 1 0), (At.slc 2), (At.slc 3), (At.val (Value.int IntKind.u64 (S'2.reads)))]), (Chunk.box [(At.slc 4), (At.slc 5), (At.slc 6), (At.val (Value.int IntKind.u32 (S'2.fresh)))]), (Chunk.row true (EC.node) (S'2.nodes)), (Chunk.row true (EC.int) (S'2.counts)), (Chunk.row true (EC.bool) (S'2.used)), (Chunk.row true (EC.u32) (S'2.gen)), (Chunk.row true (EC.u32) (S'2.rel))] [0, 1, 2, 3, 4, 5, 6])))))))))))))))))
                    ((brS (decide (key > k))
                      (((∃ hs1 : List Int,
                        (∃ t : Tr,
                          ((Wf S' (r :: hs1)) ∧
                          (Rep S' t r) ∧
                          (t.Bal) ∧
                          (Asc t.list) ∧
                          (t.size < n) ∧
                          (t.size ≤ 700000) ∧
                          (hasK t.list key) ∧
                          ((↑(dB t.size) : Int) ≤ S'.free) ∧
                          (hs1.length + t.size ≤ 300000000) ∧
                          (S'.reads + 5 * (↑(dB t.size) : Int) ≤ 1500000000000000000) ∧
                          (∀ S'1 : Arn,
                            (∀ j : Int,
                              ((TrR S' hs1 (flt (neK key) t.list) (dB t.size) (5 * dB t.size) S'1 j) →
                              (∃ hs2 : List Int,
                                (∃ ta : Tr,
                                  (∃ tb : Tr,
                                    ((Wf S'1 (l :: j :: hs2)) ∧
                                    (Rep S'1 ta l) ∧
                                    (Rep S'1 tb j) ∧
                                    (ta.Bal) ∧
                                    (tb.Bal) ∧
                                    (ta.size + tb.size ≤ 900000) ∧
                                    ((↑(jB ta.size tb.size) : Int) ≤ S'1.free) ∧
                                    (hs2.length ≤ 700000000) ∧
                                    (S'1.reads + 5 * (↑(jB ta.size tb.size) : Int) ≤ 1800000000000000000) ∧
                                    (∀ S'2 : Arn,
                                      (∀ i1 : Int,
                                        ((TrR S'1 hs2 (ta.list ++ (k, v) :: tb.list) (jB ta.size tb.size) (4 * jB ta.size tb.size) S'2 i1) →
                                        (((balN (↑ta.size : Int) (↑tb.size : Int)) →
                                        ((((S'2.nd i1).left) = (l)) ∧
                                        (((S'2.nd i1).right) = (j)) ∧
                                        ((S'2.nu) = (S'1.nu + 1)))) →
                                        (K (SV.one (TV.at (At.val (Value.int IntKind.u32 (i1))))) [(Chunk.box [(At.ptr 1 0), (At.slc 2), (At.slc 3), (At.val (Value.int IntKind.u64 (S'2.reads)))]), (Chunk.box [(At.slc 4), (At.slc 5), (At.slc 6), (At.val (Value.int IntKind.u32 (S'2.fresh)))]), (Chunk.row true (EC.node) (S'2.nodes)), (Chunk.row true (EC.int) (S'2.counts)), (Chunk.row true (EC.bool) (S'2.used)), (Chunk.row true (EC.u32) (S'2.gen)), (Chunk.row true (EC.u32) (S'2.rel))] [0, 1, 2, 3, 4, 5, 6]))))))))))))))) ∧
                      (∃ hs1 : List Int,
                        (∃ t : Tr,
                          ((Wf S' (r :: hs1)) ∧
                          (Rep S' t r) ∧
                          (t.Bal) ∧
                          (Asc t.list) ∧
                          (t.size < n) ∧
                          (t.size ≤ 700000) ∧
                          (hasK t.list key) ∧
                          ((↑(dB t.size) : Int) ≤ S'.free) ∧
                          (hs1.length + t.size ≤ 300000000) ∧
                          (S'.reads + 5 * (↑(dB t.size) : Int) ≤ 1500000000000000000) ∧
                          (∀ S'1 : Arn,
                            (∀ j : Int,
                              ((TrR S' hs1 (flt (neK key) t.list) (dB t.size) (5 * dB t.size) S'1 j) →
                              (∃ hs2 : List Int,
                                (∃ ta : Tr,
                                  (∃ tb : Tr,
                                    ((Wf S'1 (l :: j :: hs2)) ∧
                                    (Rep S'1 ta l) ∧
                                    (Rep S'1 tb j) ∧
                                    (ta.Bal) ∧
                                    (tb.Bal) ∧
                                    (ta.size + tb.size ≤ 900000) ∧
                                    ((↑(jB ta.size tb.size) : Int) ≤ S'1.free) ∧
                                    (hs2.length ≤ 700000000) ∧
                                    (S'1.reads + 5 * (↑(jB ta.size tb.size) : Int) ≤ 1800000000000000000) ∧
                                    (∀ S'2 : Arn,
                                      (∀ i1 : Int,
                                        ((TrR S'1 hs2 (ta.list ++ (k, v) :: tb.list) (jB ta.size tb.size) (4 * jB ta.size tb.size) S'2 i1) →
                                        (((balN (↑ta.size : Int) (↑tb.size : Int)) →
                                        ((((S'2.nd i1).left) = (l)) ∧
                                        (((S'2.nd i1).right) = (j)) ∧
                                        ((S'2.nu) = (S'1.nu + 1)))) →
                                        (K (SV.one (TV.at (At.val (Value.int IntKind.u32 (i1))))) [(Chunk.box [(At.ptr 1 0), (At.slc 2), (At.slc 3), (At.val (Value.int IntKind.u64 (S'2.reads)))]), (Chunk.box [(At.slc 4), (At.slc 5), (At.slc 6), (At.val (Value.int IntKind.u32 (S'2.fresh)))]), (Chunk.row true (EC.node) (S'2.nodes)), (Chunk.row true (EC.int) (S'2.counts)), (Chunk.row true (EC.bool) (S'2.used)), (Chunk.row true (EC.u32) (S'2.gen)), (Chunk.row true (EC.u32) (S'2.rel))] [0, 1, 2, 3, 4, 5, 6])))))))))))))))))
                      ((∃ hs1 : List Int,
                        (∃ ta : Tr,
                          (∃ tb : Tr,
                            ((Wf S' (l :: r :: hs1)) ∧
                            (Rep S' ta l) ∧
                            (Rep S' tb r) ∧
                            (ta.Bal) ∧
                            (tb.Bal) ∧
                            (ta.size + tb.size ≤ 800000) ∧
                            ((↑(cB ta.size tb.size) : Int) ≤ S'.free) ∧
                            (hs1.length ≤ 400000000) ∧
                            (S'.reads + 5 * (↑(cB ta.size tb.size) : Int) ≤ 1600000000000000000) ∧
                            (∀ S'1 : Arn,
                              (∀ i1 : Int,
                                ((TrR S' hs1 (ta.list ++ tb.list) (cB ta.size tb.size) (5 * cB ta.size tb.size) S'1 i1) →
                                (K (SV.one (TV.at (At.val (Value.int IntKind.u32 (i1))))) [(Chunk.box [(At.ptr 1 0), (At.slc 2), (At.slc 3), (At.val (Value.int IntKind.u64 (S'1.reads)))]), (Chunk.box [(At.slc 4), (At.slc 5), (At.slc 6), (At.val (Value.int IntKind.u32 (S'1.fresh)))]), (Chunk.row true (EC.node) (S'1.nodes)), (Chunk.row true (EC.int) (S'1.counts)), (Chunk.row true (EC.bool) (S'1.used)), (Chunk.row true (EC.u32) (S'1.gen)), (Chunk.row true (EC.u32) (S'1.rel))] [0, 1, 2, 3, 4, 5, 6])))))))))))))))))))))))) = _ by kernel_rfl) ?_
  have hrd := hw.rds
  refine brS_of (fun d => ?_) fun d => ?_
  · have d : i = 0 := by simpa using d
    subst d
    have e := h1.zero hw
    subst e
    obtain ⟨v, hv⟩ := hk
    simp [Tr.list] at hv
  · have d : i ≠ 0 := by simpa using d
    obtain ⟨a, k1, v1, b, e⟩ := rep_ne h1 d
    subst e
    have zz := node_size a b k1 v1
    rw [zz] at hfu hz hf hl hr h
    obtain ⟨bb, ba, bbb⟩ := bal
    have asc' : Asc (a.list ++ (k1, v1) :: b.list) := asc
    have hk' : hasK (a.list ++ (k1, v1) :: b.list) key := hk
    have h' : ∀ S' j, TrR S hs (flt (neK key) (a.list ++ (k1, v1) :: b.list)) (dB (a.size + b.size + 1)) (5 * dB (a.size + b.size + 1)) S' j → K (.one (.at (vU j))) (chS S') W7 := h
    obtain ⟨asca, ascb, ltk, gtk⟩ := asc_parts asc'
    have dp := dB_pos (a.size + b.size + 1)
    refine ⟨hs, a, k1, v1, b, hw, h1, by omega, by omega, fun S1 l r o => ?_⟩
    have f1 := o.got.free hw
    have q1 := o.got.rd
    refine brS_of (fun d => ?_) fun d => brS_of (fun e => ?_) fun e => ?_
    · have d : key < k1 := of_decide_eq_true d
      have hka := hasK_left asc' hk' d
      have zl := flt_ne_len asca hka
      rw [a.list_len] at zl
      have ds := dB_step (balN_comm bb) (c := a.size) (by omega) (by omega)
      rw [show b.size + a.size + 1 = a.size + b.size + 1 by omega] at ds
      have jp := jB_pos b.size (a.size - 1)
      (repeat' apply And.intro)
      all_goals
        refine ⟨r :: hs, a, o.got.wf, o.repl, ba, asca, by omega, by omega, hka, by omega, by simp; omega, by omega, fun S2 j tr => ?_⟩
        obtain ⟨t, rt, lt, bt⟩ := tr.tree
        have zt : t.size = a.size - 1 := by rw [← t.list_len, lt]; omega
        have f2 := tr.got.free o.got.wf
        have q2 := tr.got.rd
        have ej : jB t.size b.size = jB b.size (a.size - 1) := by rw [zt, jB_comm]
        refine ⟨hs, t, b, tr.got.wf, rt, o.repr.held o.got.wf tr.got.stay (.inr (by simp)), bt, bbb, by omega, by omega, by omega, by omega, fun S3 q tj _ => h' S3 q ⟨?_, ?_⟩⟩
        · exact ((o.got.seq tr.got (h := hs) (fun _ h => h) (fun _ h => by simp [h])).seq tj.got (fun _ h => h) (fun _ h => h)).mono (by omega) (by omega)
        · obtain ⟨t', rt', lt', bt'⟩ := tj.tree
          refine ⟨t', rt', ?_, bt'⟩
          rw [lt', lt]
          exact (flt_upR (fun x hx => by have := gtk x hx; simp [neK]; omega) (by simp [neK]; omega)).symm
    · have e : k1 < key := of_decide_eq_true e
      have hkb := hasK_right asc' hk' e
      have zl := flt_ne_len ascb hkb
      rw [b.list_len] at zl
      have ds := dB_step bb (by omega) (by omega)
      have jp := jB_pos a.size (b.size - 1)
      (repeat' apply And.intro)
      all_goals
        refine ⟨l :: hs, b, o.got.wf.perm (List.Perm.swap _ _ _), o.repr, bbb, ascb, by omega, by omega, hkb, by omega, by simp; omega, by omega, fun S2 j tr => ?_⟩
        obtain ⟨t, rt, lt, bt⟩ := tr.tree
        have zt : t.size = b.size - 1 := by rw [← t.list_len, lt]; omega
        have f2 := tr.got.free o.got.wf
        have q2 := tr.got.rd
        have ej : jB a.size t.size = jB a.size (b.size - 1) := by rw [zt]
        refine ⟨hs, a, t, tr.got.wf.perm (List.Perm.swap _ _ _), o.repl.held o.got.wf tr.got.stay (.inr (by simp)), rt, ba, bt, by omega, by omega, by omega, by omega, fun S3 q tj _ => h' S3 q ⟨?_, ?_⟩⟩
        · exact ((o.got.seq tr.got (h := hs) (fun _ h => h) (fun _ h => by simp [h])).seq tj.got (fun _ h => h) (fun _ h => h)).mono (by omega) (by omega)
        · obtain ⟨t', rt', lt', bt'⟩ := tj.tree
          refine ⟨t', rt', ?_, bt'⟩
          rw [lt', lt]
          exact (flt_upL (fun x hx => by have := ltk x hx; simp [neK]; omega) (by simp [neK]; omega)).symm
    · have d : ¬ key < k1 := of_decide_eq_false d
      have e : ¬ key > k1 := of_decide_eq_false e
      have ek : key = k1 := by omega
      have df := dB_found bb (by omega)
      refine ⟨hs, a, b, o.got.wf, o.repl, o.repr, ba, bbb, by omega, by omega, by omega, by omega, fun S2 j tr => h' S2 j ⟨?_, ?_⟩⟩
      · exact (o.got.seq tr.got (h := hs) (fun _ h => h) (fun _ h => h)).mono (by omega) (by omega)
      · obtain ⟨t', rt', lt', bt'⟩ := tr.tree
        refine ⟨t', rt', ?_, bt'⟩
        rw [lt', flt_node, flt_all (l := a.list) (fun x hx => by have := ltk x hx; simp [neK]; omega), flt_all (l := b.list) (fun x hx => by have := gtk x hx; simp [neK]; omega), ek]
        simp [neK]
theorem s_dlt : ∀ n, SoundT C0 68 (tDlt n) := by
  intro n
  induction n with
  | zero =>
    refine .of Try.func68 (by decide) rfl fun args H K h hB => ?_
    exfalso
    unfold tDlt at h
    split at h <;> try exact h.elim
    unfold arM at h
    split at h <;> try exact h.elim
    obtain ⟨_, _, _, _, _, _, h1, _⟩ := h
    omega
  | succ n ih =>
    refine .ofW W7 Try.func68 (by decide) rfl fun args H K h hB => ?_
    unfold tDlt at h
    split at h <;> try exact h.elim
    unfold arM at h
    split at h <;> try exact h.elim
    rename_i i key _ rd fr nd ct us gn rl
    obtain ⟨hs, t, h1, h2, h3, h4, h5, h6, h7, h8, h9, h10, h11⟩ := h
    exact ⟨aDlt n, ⟨frame C0.ok s_opn _, frame C0.ok ih _, frame C0.ok s_join _, frame C0.ok s_cat _, trivial⟩, vc_dlt n ⟨us, gn, rl, fr, nd, ct, rd⟩ i key K hs t h1 h2 h3 h4 h5 h6 h7 h8 h9 h10 h11⟩
end Go.Proofs.Ytjbkckcjmmmooaa.Sx
end
