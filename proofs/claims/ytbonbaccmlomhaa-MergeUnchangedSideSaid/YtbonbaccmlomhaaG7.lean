/- A part of the proof. -/
import Derived.Test.YtbonbaccmlomhaaG6
import Derived.Test.YtbonbaccmlomhaaG1
import Derived.Test.YtbonbaccmlomhaaG2
import Derived.Test.YtbonbaccmlomhaaG5
section
/- treework: popLast, Concat, Split, From, To, Insert, Delete, Hold, Room. -/
namespace Go.Proofs.Ytbonbaccmlomhaa.Sx
open Go

/-KEEP Wf exW inU live Arn.cap Arn.free NodeR Rep Kept rdS retL Tr.size Tr.list Tr.Bal balN balB jB pB cB iB dB sB gN OpnR TrR Got flt insE getE Asc-/
def tPopN (n : Nat) : Tfm C0 := fun args H K => match args with
  | [.at (.ptr 0 0), .at (.val (.int .u32 i))] => arM H fun S => ∃ hs a kr vr b, Wf S (i :: hs) ∧ Rep S (.node a kr vr b) i ∧ (Tr.node a kr vr b).Bal ∧ (Tr.node a kr vr b).size < n ∧ (Tr.node a kr vr b).size ≤ 800000 ∧ (pB (Tr.node a kr vr b).size : Int) ≤ S.free ∧
    hs.length + (Tr.node a kr vr b).size ≤ 600000000 ∧ S.reads + 5 * (pB (Tr.node a kr vr b).size) ≤ 1700000000000000000 ∧
    ∀ S' j k v L, (Tr.node a kr vr b).list = L ++ [(k, v)] → TrR S hs L (pB (Tr.node a kr vr b).size) (5 * pB (Tr.node a kr vr b).size) S' j → K (.tup [.at (vU j), .agg [vI k, vI v]]) (chS S') W7
  | _ => False
noncomputable def aPop' (n : Nat) : Ann C0 := { Γ := [(132, frameT [] tOpn), (144, frameT [] (tPopN n)), (114, frameT [] tJoin)] }
def tPopl : Tfm C0 := fun args H K => match args with
  | [.at (.ptr 0 0), .at (.val (.int .u32 i))] => arM H fun S => ∃ hs t, Wf S (i :: hs) ∧ Rep S t i ∧ t.Bal ∧ 1 ≤ t.size ∧ t.size ≤ 800000 ∧ (pB t.size : Int) ≤ S.free ∧ hs.length ≤ 500000000 ∧ S.reads + 5 * (pB t.size) ≤ 1700000000000000000 ∧
    ∀ S' j k v L, t.list = L ++ [(k, v)] → TrR S hs L (pB t.size) (5 * pB t.size) S' j → K (.tup [.at (vU j), .agg [vI k, vI v]]) (chS S') W7
  | _ => False
noncomputable def aCat : Ann C0 := { Γ := [(144, frameT [] tPopl), (114, frameT [] tJoin)] }
def tCat : Tfm C0 := fun args H K => match args with
  | [.at (.ptr 0 0), .at (.val (.int .u32 l)), .at (.val (.int .u32 r))] => arM H fun S => ∃ hs ta tb, Wf S (l :: r :: hs) ∧ Rep S ta l ∧ Rep S tb r ∧ ta.Bal ∧ tb.Bal ∧ ta.size + tb.size ≤ 800000 ∧ (cB ta.size tb.size : Int) ≤ S.free ∧ hs.length ≤ 400000000 ∧ S.reads + 5 * (cB ta.size tb.size) ≤ 1600000000000000000 ∧
    ∀ S' i, TrR S hs (ta.list ++ tb.list) (cB ta.size tb.size) (5 * cB ta.size tb.size) S' i → K (.one (.at (vU i))) (chS S') W7
  | _ => False
def tInsT (n : Nat) : Tfm C0 := fun args H K => match args with
  | [.at (.ptr 0 0), .at (.val (.int .u32 i)), .agg [.val (.int .i64 k), .val (.int .i64 v)]] => arM H fun S => ∃ hs t, Wf S (i :: hs) ∧ Rep S t i ∧ t.Bal ∧ Asc t.list ∧ t.size < n ∧ t.size ≤ 700000 ∧ (iB t.size : Int) ≤ S.free ∧ hs.length + t.size ≤ 600000000 ∧ S.reads + 5 * iB t.size ≤ 1600000000000000000 ∧
    ∀ S' j, TrR S hs (insE t.list (k, v)) (iB t.size) (5 * iB t.size) S' j → K (.one (.at (vU j))) (chS S') W7
  | _ => False
noncomputable def aIns' (n : Nat) : Ann C0 := { Γ := [(132, frameT [] tOpn), (105, frameT [] (tInsT n)), (114, frameT [] tJoin), (123, frameT [] tNodeX)] }
def tDlt (n : Nat) : Tfm C0 := fun args H K => match args with
  | [.at (.ptr 0 0), .at (.val (.int .u32 i)), .at (.val (.int .i64 key))] => arM H fun S => ∃ hs t, Wf S (i :: hs) ∧ Rep S t i ∧ t.Bal ∧ Asc t.list ∧ t.size < n ∧ t.size ≤ 700000 ∧ hasK t.list key ∧ (dB t.size : Int) ≤ S.free ∧ hs.length + t.size ≤ 300000000 ∧ S.reads + 5 * dB t.size ≤ 1500000000000000000 ∧
    ∀ S' j, TrR S hs (flt (neK key) t.list) (dB t.size) (5 * dB t.size) S' j → K (.one (.at (vU j))) (chS S') W7
  | _ => False
noncomputable def aDlt (n : Nat) : Ann C0 := { Γ := [(132, frameT [] tOpn), (102, frameT [] (tDlt n)), (114, frameT [] tJoin), (122, frameT [] tCat)] }
noncomputable def aHold : Ann C0 := { Γ := [(56, frameT [] tRetL)] }
def tHold : Tfm C0 := fun args H K => match args with
  | [.at (.ptr 0 0), .at (.val (.int .u32 i))] => arM H fun S => live S i ∧ exW S ∧ ∀ S', S' = retL S i → K (.one (.at (vU i))) (chS S') [3]
  | _ => False
noncomputable def aRoom : Ann C0 := { Γ := [(77, frameT [] tFree)] }
def tRoom : Tfm C0 := fun args H K => match args with
  | [.at (.ptr 0 0), .at (.val (.int .i64 n))] => arM H fun S => exW S ∧ ∀ b, b = (decide (0 ≤ n) && decide (n ≤ S.free)) → K (.one (.at (vB b))) (chS S) []
  | _ => False
theorem rep_ne {S : Arn} {b : Tr} {r : Int} (h : Rep S b r) (hr : r ≠ 0) : ∃ a2 k2 v2 b2, b = .node a2 k2 v2 b2 := by
  cases b with
  | nil => exact absurd h hr
  | node a2 k2 v2 b2 => exact ⟨a2, k2, v2, b2, rfl⟩
theorem node_size (a b : Tr) (k v : Int) : (Tr.node a k v b).size = a.size + b.size + 1 := by simp [Tr.size]; omega
theorem vc_popl (n : Nat) (S : Arn) (i : Int) (K : KT) (hs : List Int) (a : Tr) (kr vr : Int) (b : Tr) (hw : Wf S (i :: hs)) (h2 : Rep S (.node a kr vr b) i) (bal : (Tr.node a kr vr b).Bal) (hfu : (Tr.node a kr vr b).size < n + 1) (hz : (Tr.node a kr vr b).size ≤ 800000) (hf : (pB (Tr.node a kr vr b).size : Int) ≤ S.free)
    (hl : hs.length + (Tr.node a kr vr b).size ≤ 600000000) (hr : S.reads + 5 * (pB (Tr.node a kr vr b).size) ≤ 1700000000000000000)
    (h : ∀ S' j k v L, (Tr.node a kr vr b).list = L ++ [(k, v)] → TrR S hs L (pB (Tr.node a kr vr b).size) (5 * pB (Tr.node a kr vr b).size) S' j → K (.tup [.at (vU j), .agg [vI k, vI v]]) (chS S') W7) :
    vc C0 (aPop' n) Try.f144 [.at (.ptr 0 0), .at (vU i)] (chS S) (normK 7 (wideK W7 K)) := by
  refine Eq.mp (show (∃ hs : List Int, (∃ a : Tr, (∃ k : Int, (∃ v : Int, (∃ b : Tr, ((Wf S (i :: hs)) ∧ (Rep S (a.node k v b) i) ∧ (hs.length ≤ 900000000) ∧ (S.reads ≤ 3000000000000000000) ∧ (∀ S' : Arn, (∀ l : Int, (∀ r : Int, ((OpnR S hs a k v b S' l r) → (brS (r == 0) ((K (SV.tup [(TV.at (At.val (Value.int IntKind.u32 (l)))), (TV.agg [(At.val (Value.int IntKind.i64 (k))), (At.val (Value.int IntKind.i64 (v)))])]) [(Chunk.box [(At.ptr 1 0), (At.slc 2), (At.slc 3), (At.val (Value.int IntKind.u64 (S'.reads)))]), (Chunk.box [(At.slc 4), (At.slc 5), (At.slc 6), (At.val (Value.int IntKind.u32 (S'.fresh)))]), (Chunk.row true (EC.node) (S'.nodes)), (Chunk.row true (EC.int) (S'.counts)), (Chunk.row true (EC.bool) (S'.used)), (Chunk.row true (EC.u32) (S'.gen)), (Chunk.row true (EC.u32) (S'.rel))] [0, 1, 2, 3, 4, 5, 6])) ((∃ hs1 : List Int, (∃ a1 : Tr, (∃ kr : Int, (∃ vr : Int, (∃ b1 : Tr, ((Wf S' (r :: hs1)) ∧ (Rep S' (a1.node kr vr b1) r) ∧ ((a1.node kr vr b1).Bal) ∧ ((a1.node kr vr b1).size < n) ∧ ((a1.node kr vr b1).size ≤ 800000) ∧ ((↑(pB (a1.node kr vr b1).size) : Int) ≤ S'.free) ∧ (hs1.length + (a1.node kr vr b1).size ≤ 600000000) ∧ (S'.reads + 5 * (↑(pB (a1.node kr vr b1).size) : Int) ≤ 1700000000000000000) ∧ (∀ S'1 : Arn, (∀ j : Int, (∀ k1 : Int, (∀ v1 : Int, (∀ L : List Ent, ((((a1.node kr vr b1).list) = (L ++ [(k1, v1)])) → ((TrR S' hs1 L (pB (a1.node kr vr b1).size) (5 * pB (a1.node kr vr b1).size) S'1 j) → (∃ hs2 : List Int, (∃ ta : Tr, (∃ tb : Tr, ((Wf S'1 (l :: j :: hs2)) ∧ (Rep S'1 ta l) ∧
    (Rep S'1 tb j) ∧ (ta.Bal) ∧ (tb.Bal) ∧ (ta.size + tb.size ≤ 900000) ∧ ((↑(jB ta.size tb.size) : Int) ≤ S'1.free) ∧ (hs2.length ≤ 700000000) ∧ (S'1.reads + 5 * (↑(jB ta.size tb.size) : Int) ≤ 1800000000000000000) ∧ (∀ S'2 : Arn, (∀ i1 : Int, ((TrR S'1 hs2 (ta.list ++ (k, v) :: tb.list) (jB ta.size tb.size) (4 * jB ta.size tb.size) S'2 i1) → (((balN (↑ta.size : Int) (↑tb.size : Int)) → ((((S'2.nd i1).left) = (l)) ∧ (((S'2.nd i1).right) = (j)) ∧ ((S'2.nu) = (S'1.nu + 1)))) → (K (SV.tup [(TV.at (At.val (Value.int IntKind.u32 (i1)))), (TV.agg [(At.val (Value.int IntKind.i64 (k1))), (At.val (Value.int IntKind.i64 (v1)))])]) [(Chunk.box [(At.ptr 1 0), (At.slc 2), (At.slc 3), (At.val (Value.int IntKind.u64 (S'2.reads)))]), (Chunk.box [(At.slc 4), (At.slc 5), (At.slc 6), (At.val (Value.int IntKind.u32 (S'2.fresh)))]), (Chunk.row true (EC.node) (S'2.nodes)), (Chunk.row true (EC.int) (S'2.counts)), (Chunk.row true (EC.bool) (S'2.used)), (Chunk.row true (EC.u32) (S'2.gen)), (Chunk.row true (EC.u32) (S'2.rel))] [0, 1, 2, 3, 4, 5, 6])))))))))))))))))))))))))))))))))) = _ by kernel_rfl) ?_
  have zz := node_size a b kr vr
  rw [zz] at hfu hz hf hl hr h
  obtain ⟨bb, ba, bbb⟩ := bal
  have hrd := hw.rds
  refine ⟨hs, a, kr, vr, b, hw, h2, by omega, by omega, fun S1 l r o => brS_of (fun d => ?_) fun d => ?_⟩
  · have d : r = 0 := by simpa using d
    subst d
    have e := o.repr.zero o.got.wf
    subst e
    have pp := pB_pos (n := a.size + Tr.nil.size + 1) (by omega)
    exact h S1 l kr vr a.list (by simp [Tr.list]) ⟨((o.got.perm (List.Perm.swap _ _ _)).of_zero).mono (by omega) (by omega), a, o.repl, rfl, ba⟩
  · have d : r ≠ 0 := by simpa using d
    obtain ⟨a2, k2, v2, b2, e⟩ := rep_ne o.repr d
    have zb : 1 ≤ b.size := by rw [e, node_size]; omega
    have ps := pB_step bb zb (by omega)
    have jp0 := jB_pos a.size (b.size - 1)
    have f1 := o.got.free hw
    have q1 := o.got.rd
    have orr := o.repr
    have eb := e
    rw [e] at orr
    refine ⟨l :: hs, a2, k2, v2, b2, o.got.wf.perm (List.Perm.swap _ _ _), orr, ?_⟩
    rw [← e]
    refine ⟨bbb, by omega, by omega, by omega, by simp; omega, by omega, fun S2 j k1 v1 L eL tr => ?_⟩
    obtain ⟨t, rt, lt, bt⟩ := tr.tree
    have zt : t.size = b.size - 1 := by rw [← t.list_len, lt, ← b.list_len, eL]; simp
    have f2 := tr.got.free o.got.wf
    have q2 := tr.got.rd
    have jp := jB_pos a.size t.size
    rw [← zt] at ps
    refine ⟨hs, a, t, tr.got.wf.perm (List.Perm.swap _ _ _), o.repl.held o.got.wf tr.got.stay (.inr (by simp)), rt, ba, bt, by omega, by omega, by omega, by omega, fun S3 q tj _ => h S3 q k1 v1 (a.list ++ (kr, vr) :: L) ?_ ⟨?_, ?_⟩⟩
    · show a.list ++ (kr, vr) :: b.list = _
      rw [eL]; simp
    · exact ((o.got.seq tr.got (h := hs) (fun _ h => h) (fun _ h => by simp [h])).seq tj.got (fun _ h => h) (fun _ h => h)).mono (by omega) (by omega)
    · obtain ⟨t', rt', lt', bt'⟩ := tj.tree
      exact ⟨t', rt', by rw [lt', lt], bt'⟩
theorem s_pop' : ∀ n, SoundT C0 144 (tPopN n) := by
  intro n
  induction n with
  | zero =>
    refine .of Try.func144 (by decide) rfl fun args H K h hB => ?_
    exfalso
    unfold tPopN at h
    split at h <;> try exact h.elim
    unfold arM at h
    split at h <;> try exact h.elim
    obtain ⟨_, _, _, _, _, _, _, _, h1, _⟩ := h
    omega
  | succ n ih =>
    refine .ofW W7 Try.func144 (by decide) rfl fun args H K h hB => ?_
    unfold tPopN at h
    split at h <;> try exact h.elim
    unfold arM at h
    split at h <;> try exact h.elim
    rename_i i _ rd fr nd ct us gn rl
    obtain ⟨hs, a, kr, vr, b, h1, h2, h3, h4, h5, h6, h7, h8, h9⟩ := h
    exact ⟨aPop' n, ⟨frame C0.ok s_opn _, frame C0.ok ih _, frame C0.ok s_join _, trivial⟩, vc_popl n ⟨us, gn, rl, fr, nd, ct, rd⟩ i K hs a kr vr b h1 h2 h3 h4 h5 h6 h7 h8 h9⟩
theorem s_popl : SoundT C0 144 tPopl := (s_pop' 1000000).weak fun args H K h => by
  unfold tPopl at h
  unfold tPopN
  split at h <;> try exact h.elim
  unfold arM at h ⊢
  split at h <;> try exact h.elim
  obtain ⟨hs, t, h1, h2, h3, h4, h5, h6, h7, h8, h9⟩ := h
  cases t with
  | nil => exact absurd h4 (by decide)
  | node a k v b => exact ⟨hs, a, k, v, b, h1, h2, h3, by omega, h5, h6, by omega, h8, h9⟩
theorem vc_cat (S : Arn) (l r : Int) (K : KT) (hs : List Int) (ta tb : Tr) (hw : Wf S (l :: r :: hs)) (h1 : Rep S ta l) (h2 : Rep S tb r) (b1 : ta.Bal) (b2 : tb.Bal) (hz : ta.size + tb.size ≤ 800000) (hf : (cB ta.size tb.size : Int) ≤ S.free) (hl : hs.length ≤ 400000000) (hr : S.reads + 5 * (cB ta.size tb.size) ≤ 1600000000000000000)
    (h : ∀ S' i, TrR S hs (ta.list ++ tb.list) (cB ta.size tb.size) (5 * cB ta.size tb.size) S' i → K (.one (.at (vU i))) (chS S') W7) :
    vc C0 aCat Try.f122 [.at (.ptr 0 0), .at (vU l), .at (vU r)] (chS S) (normK 7 (wideK W7 K)) := by
  refine Eq.mp (show (brS (l == 0) ((K (SV.one (TV.at (At.val (Value.int IntKind.u32 (r))))) [(Chunk.box [(At.ptr 1 0), (At.slc 2), (At.slc 3), (At.val (Value.int IntKind.u64 (S.reads)))]), (Chunk.box [(At.slc 4), (At.slc 5), (At.slc 6), (At.val (Value.int IntKind.u32 (S.fresh)))]), (Chunk.row true (EC.node) (S.nodes)), (Chunk.row true (EC.int) (S.counts)), (Chunk.row true (EC.bool) (S.used)), (Chunk.row true (EC.u32) (S.gen)), (Chunk.row true (EC.u32) (S.rel))] [0, 1, 2, 3, 4, 5, 6])) ((brS (r == 0) ((K (SV.one (TV.at (At.val (Value.int IntKind.u32 (l))))) [(Chunk.box [(At.ptr 1 0), (At.slc 2), (At.slc 3), (At.val (Value.int IntKind.u64 (S.reads)))]), (Chunk.box [(At.slc 4), (At.slc 5), (At.slc 6), (At.val (Value.int IntKind.u32 (S.fresh)))]), (Chunk.row true (EC.node) (S.nodes)), (Chunk.row true (EC.int) (S.counts)), (Chunk.row true (EC.bool) (S.used)), (Chunk.row true (EC.u32) (S.gen)), (Chunk.row true (EC.u32) (S.rel))] [0, 1, 2, 3, 4, 5, 6])) ((∃ hs : List Int, (∃ t : Tr, ((Wf S (l :: hs)) ∧ (Rep S t l) ∧ (t.Bal) ∧ (1 ≤ t.size) ∧ (t.size ≤ 800000) ∧ ((↑(pB t.size) : Int) ≤ S.free) ∧ (hs.length ≤ 500000000) ∧ (S.reads + 5 * (↑(pB t.size) : Int) ≤ 1700000000000000000) ∧ (∀ S' : Arn, (∀ j : Int, (∀ k : Int, (∀ v : Int, (∀ L : List Ent, (((t.list) = (L ++ [(k, v)])) → ((TrR S hs L (pB t.size) (5 * pB t.size) S' j) → (∃ hs1 : List Int, (∃ ta : Tr, (∃ tb : Tr, ((Wf S' (j :: r :: hs1)) ∧ (Rep S' ta j) ∧ (Rep S' tb r) ∧ (ta.Bal) ∧ (tb.Bal) ∧ (ta.size + tb.size ≤ 900000) ∧
    ((↑(jB ta.size tb.size) : Int) ≤ S'.free) ∧ (hs1.length ≤ 700000000) ∧ (S'.reads + 5 * (↑(jB ta.size tb.size) : Int) ≤ 1800000000000000000) ∧ (∀ S'1 : Arn, (∀ i : Int, ((TrR S' hs1 (ta.list ++ (k, v) :: tb.list) (jB ta.size tb.size) (4 * jB ta.size tb.size) S'1 i) → (((balN (↑ta.size : Int) (↑tb.size : Int)) → ((((S'1.nd i).left) = (j)) ∧ (((S'1.nd i).right) = (r)) ∧ ((S'1.nu) = (S'.nu + 1)))) → (K (SV.one (TV.at (At.val (Value.int IntKind.u32 (i))))) [(Chunk.box [(At.ptr 1 0), (At.slc 2), (At.slc 3), (At.val (Value.int IntKind.u64 (S'1.reads)))]), (Chunk.box [(At.slc 4), (At.slc 5), (At.slc 6), (At.val (Value.int IntKind.u32 (S'1.fresh)))]), (Chunk.row true (EC.node) (S'1.nodes)), (Chunk.row true (EC.int) (S'1.counts)), (Chunk.row true (EC.bool) (S'1.used)), (Chunk.row true (EC.u32) (S'1.gen)), (Chunk.row true (EC.u32) (S'1.rel))] [0, 1, 2, 3, 4, 5, 6]))))))))))))))))))))))) = _ by kernel_rfl) ?_
  refine brS_of (fun d => ?_) fun d => brS_of (fun e => ?_) fun e => ?_
  · have d : l = 0 := by simpa using d
    subst d
    have e := h1.zero hw
    subst e
    exact h S r ⟨(Got.refl hw.of_zero).mono (Nat.zero_le _) (Nat.zero_le _), tb, h2, rfl, b2⟩
  · have e : r = 0 := by simpa using e
    subst e
    have e := h2.zero hw
    subst e
    exact h S l ⟨(Got.refl (hw.perm (List.Perm.swap _ _ _)).of_zero).mono (Nat.zero_le _) (Nat.zero_le _), ta, h1, by simp [Tr.list], b1⟩
  · have d : l ≠ 0 := by simpa using d
    have e : r ≠ 0 := by simpa using e
    obtain ⟨_, _, _, _, ea⟩ := rep_ne h1 d
    obtain ⟨_, _, _, _, eb⟩ := rep_ne h2 e
    have za : 1 ≤ ta.size := by rw [ea, node_size]; omega
    have zb : 1 ≤ tb.size := by rw [eb, node_size]; omega
    have ec : cB ta.size tb.size = pB ta.size + jB (ta.size - 1) tb.size := by unfold cB; rw [if_neg (by omega)]
    rw [ec] at hf hr h
    have hrd := hw.rds
    refine ⟨r :: hs, ta, hw, h1, b1, za, by omega, by omega, by simp; omega, by omega, fun S1 j k v L eL tr => ?_⟩
    obtain ⟨t, rt, lt, bt⟩ := tr.tree
    have zt : t.size = ta.size - 1 := by rw [← t.list_len, lt, ← ta.list_len, eL]; simp
    rw [← zt] at hf hr h
    have f2 := tr.got.free hw
    have q2 := tr.got.rd
    refine ⟨hs, t, tb, tr.got.wf, rt, h2.held hw tr.got.stay (.inr (by simp)), bt, b2, by omega, by omega, by omega, by omega, fun S2 q tj _ => h S2 q ⟨?_, ?_⟩⟩
    · exact (tr.got.seq tj.got (h := hs) (fun _ h => by simp [h]) (fun _ h => h)).mono (by omega) (by omega)
    · obtain ⟨t', rt', lt', bt'⟩ := tj.tree
      exact ⟨t', rt', by rw [lt', lt, eL]; simp, bt'⟩
theorem s_cat : SoundT C0 122 tCat := by
  refine .ofW W7 Try.func122 (by decide) rfl fun args H K h hB => ?_
  unfold tCat at h
  split at h <;> try exact h.elim
  unfold arM at h
  split at h <;> try exact h.elim
  rename_i l r _ rd fr nd ct us gn rl
  obtain ⟨hs, ta, tb, h1, h2, h3, h4, h5, h6, h7, h8, h9, h10⟩ := h
  exact ⟨aCat, ⟨frame C0.ok s_popl _, frame C0.ok s_join _, trivial⟩, vc_cat ⟨us, gn, rl, fr, nd, ct, rd⟩ l r K hs ta tb h1 h2 h3 h4 h5 h6 h7 h8 h9 h10⟩
theorem vc_hold (S : Arn) (i : Int) (K : KT) (h1 : live S i) (h2 : exW S) (h : ∀ S', S' = retL S i → K (.one (.at (vU i))) (chS S') [3]) :
    vc C0 aHold Try.f71 [.at (.ptr 0 0), .at (vU i)] (chS S) (normK 7 (wideK [3] K)) := by
  refine Eq.mp (show ((live S i) ∧
(exW S) ∧
(∀ S' : Arn, (((S') = (retL S i)) → (K (SV.one (TV.at (At.val (Value.int IntKind.u32 (i))))) [(Chunk.box [(At.ptr 1 0), (At.slc 2), (At.slc 3), (At.val (Value.int IntKind.u64 (S'.reads)))]), (Chunk.box [(At.slc 4), (At.slc 5), (At.slc 6), (At.val (Value.int IntKind.u32 (S'.fresh)))]), (Chunk.row true (EC.node) (S'.nodes)), (Chunk.row true (EC.int) (S'.counts)), (Chunk.row true (EC.bool) (S'.used)), (Chunk.row true (EC.u32) (S'.gen)), (Chunk.row true (EC.u32) (S'.rel))] [3])))) = _ by kernel_rfl) ?_
  exact ⟨h1, h2, h⟩
theorem s_hold : SoundT C0 71 tHold := by
  refine .ofW [3] Try.func71 (by decide) rfl fun args H K h hB => ?_
  unfold tHold at h
  split at h <;> try exact h.elim
  unfold arM at h
  split at h <;> try exact h.elim
  rename_i i _ rd fr nd ct us gn rl
  exact ⟨aHold, ⟨frame C0.ok s_retL _, trivial⟩, vc_hold ⟨us, gn, rl, fr, nd, ct, rd⟩ i K h.1 h.2.1 h.2.2⟩
theorem vc_room (S : Arn) (n : Int) (K : KT) (h1 : exW S) (h : ∀ b, b = (decide (0 ≤ n) && decide (n ≤ S.free)) → K (.one (.at (vB b))) (chS S) []) :
    vc C0 aRoom Try.f95 [.at (.ptr 0 0), .at (vI n)] (chS S) (normK 7 K) := by
  refine Eq.mp (show (brS (decide (n ≥ 0)) (((exW S) ∧ (K (SV.one (TV.at (At.val (Value.bool (decide (S.free ≥ n)))))) [(Chunk.box [(At.ptr 1 0), (At.slc 2), (At.slc 3), (At.val (Value.int IntKind.u64 (S.reads)))]), (Chunk.box [(At.slc 4), (At.slc 5), (At.slc 6), (At.val (Value.int IntKind.u32 (S.fresh)))]), (Chunk.row true (EC.node) (S.nodes)), (Chunk.row true (EC.int) (S.counts)), (Chunk.row true (EC.bool) (S.used)), (Chunk.row true (EC.u32) (S.gen)), (Chunk.row true (EC.u32) (S.rel))] []))) ((K (SV.one (TV.at (At.val (Value.bool false)))) [(Chunk.box [(At.ptr 1 0), (At.slc 2), (At.slc 3), (At.val (Value.int IntKind.u64 (S.reads)))]), (Chunk.box [(At.slc 4), (At.slc 5), (At.slc 6), (At.val (Value.int IntKind.u32 (S.fresh)))]), (Chunk.row true (EC.node) (S.nodes)), (Chunk.row true (EC.int) (S.counts)), (Chunk.row true (EC.bool) (S.used)), (Chunk.row true (EC.u32) (S.gen)), (Chunk.row true (EC.u32) (S.rel))] []))) = _ by kernel_rfl) ?_
  refine brS_of (fun d => ⟨h1, h _ ?_⟩) fun d => h _ ?_
  · have d : 0 ≤ n := of_decide_eq_true d
    rw [decide_eq_true d]; rfl
  · have d : ¬ 0 ≤ n := of_decide_eq_false d
    rw [decide_eq_false d]; rfl
theorem s_room : SoundT C0 95 tRoom := by
  refine .of Try.func95 (by decide) rfl fun args H K h hB => ?_
  unfold tRoom at h
  split at h <;> try exact h.elim
  unfold arM at h
  split at h <;> try exact h.elim
  rename_i n _ rd fr nd ct us gn rl
  exact ⟨aRoom, ⟨frame C0.ok s_free _, trivial⟩, vc_room ⟨us, gn, rl, fr, nd, ct, rd⟩ n K h.1 h.2⟩
theorem jB_ins {a b t : Nat} (h : balN a b) (h1 : a ≤ t) (h2 : t ≤ a + 1) : jB t b ≤ 4 := by
  rcases Nat.lt_or_ge a t with c | c
  · have : t = a + 1 := by omega
    subst this
    rw [jB_comm]; exact jB_more (balN_comm h)
  · have : t = a := by omega
    subst this
    rw [jB_bal h]; decide
theorem jB_ins' {a b t : Nat} (h : balN a b) (h1 : b ≤ t) (h2 : t ≤ b + 1) : jB a t ≤ 4 := by
  rw [jB_comm]; exact jB_ins (balN_comm h) h1 h2
theorem vc_insr (n : Nat) (S : Arn) (i k v : Int) (K : KT) (hs : List Int) (t : Tr) (hw : Wf S (i :: hs)) (h1 : Rep S t i) (bal : t.Bal) (asc : Asc t.list) (hfu : t.size < n + 1) (hz : t.size ≤ 700000) (hf : (iB t.size : Int) ≤ S.free) (hl : hs.length + t.size ≤ 600000000) (hr : S.reads + 5 * iB t.size ≤ 1600000000000000000)
    (h : ∀ S' j, TrR S hs (insE t.list (k, v)) (iB t.size) (5 * iB t.size) S' j → K (.one (.at (vU j))) (chS S') W7) :
    vc C0 (aIns' n) Try.f105 [.at (.ptr 0 0), .at (vU i), .agg [vI k, vI v]] (chS S) (normK 7 (wideK W7 K)) := by
  refine Eq.mp (show (brS (i == 0) ((∃ hs : List Int, (∃ tl : Tr, (∃ tr : Tr, ((Wf S (0 :: 0 :: hs)) ∧ (Rep S tl 0) ∧ (Rep S tr 0) ∧ (tl.size + tr.size ≤ 1000000) ∧ (0 < S.free) ∧ (hs.length ≤ 900000000) ∧ (∀ S' : Arn, (∀ i1 : Int, ((NodeR S hs k v tl tr S' i1) → ((((S'.nd i1).left) = 0) → ((((S'.nd i1).right) = 0) → (K (SV.one (TV.at (At.val (Value.int IntKind.u32 (i1))))) [(Chunk.box [(At.ptr 1 0), (At.slc 2), (At.slc 3), (At.val (Value.int IntKind.u64 (S'.reads)))]), (Chunk.box [(At.slc 4), (At.slc 5), (At.slc 6), (At.val (Value.int IntKind.u32 (S'.fresh)))]), (Chunk.row true (EC.node) (S'.nodes)), (Chunk.row true (EC.int) (S'.counts)), (Chunk.row true (EC.bool) (S'.used)), (Chunk.row true (EC.u32) (S'.gen)), (Chunk.row true (EC.u32) (S'.rel))] [0, 1, 2, 3, 4, 5, 6]))))))))))) ((∃ hs : List Int, (∃ a : Tr, (∃ k1 : Int, (∃ v1 : Int, (∃ b : Tr, ((Wf S (i :: hs)) ∧ (Rep S (a.node k1 v1 b) i) ∧ (hs.length ≤ 900000000) ∧ (S.reads ≤ 3000000000000000000) ∧ (∀ S' : Arn, (∀ l : Int, (∀ r : Int, ((OpnR S hs a k1 v1 b S' l r) → (brS (decide (k < k1)) ((((∃ hs1 : List Int, (∃ t : Tr, ((Wf S' (l :: hs1)) ∧ (Rep S' t l) ∧ (t.Bal) ∧ (Asc t.list) ∧ (t.size < n) ∧ (t.size ≤ 700000) ∧ ((↑(iB t.size) : Int) ≤ S'.free) ∧ (hs1.length + t.size ≤ 600000000) ∧ (S'.reads + 5 * (↑(iB t.size) : Int) ≤ 1600000000000000000) ∧ (∀ S'1 : Arn, (∀ j : Int, ((TrR S' hs1 (insE t.list (k, v)) (iB t.size) (5 * iB t.size) S'1 j) → (∃ hs2 : List Int, (∃ ta : Tr, (∃ tb : Tr, ((Wf S'1 (j :: r :: hs2)) ∧ (Rep S'1 ta j) ∧
    (Rep S'1 tb r) ∧ (ta.Bal) ∧ (tb.Bal) ∧ (ta.size + tb.size ≤ 900000) ∧ ((↑(jB ta.size tb.size) : Int) ≤ S'1.free) ∧ (hs2.length ≤ 700000000) ∧ (S'1.reads + 5 * (↑(jB ta.size tb.size) : Int) ≤ 1800000000000000000) ∧ (∀ S'2 : Arn, (∀ i1 : Int, ((TrR S'1 hs2 (ta.list ++ (k1, v1) :: tb.list) (jB ta.size tb.size) (4 * jB ta.size tb.size) S'2 i1) → (((balN (↑ta.size : Int) (↑tb.size : Int)) → ((((S'2.nd i1).left) = (j)) ∧ (((S'2.nd i1).right) = (r)) ∧ ((S'2.nu) = (S'1.nu + 1)))) → (K (SV.one (TV.at (At.val (Value.int IntKind.u32 (i1))))) [(Chunk.box [(At.ptr 1 0), (At.slc 2), (At.slc 3), (At.val (Value.int IntKind.u64 (S'2.reads)))]), (Chunk.box [(At.slc 4), (At.slc 5), (At.slc 6), (At.val (Value.int IntKind.u32 (S'2.fresh)))]), (Chunk.row true (EC.node) (S'2.nodes)), (Chunk.row true (EC.int) (S'2.counts)), (Chunk.row true (EC.bool) (S'2.used)), (Chunk.row true (EC.u32) (S'2.gen)), (Chunk.row true (EC.u32) (S'2.rel))] [0, 1, 2, 3, 4, 5, 6]))))))))))))))) ∧ (∃ hs1 : List Int, (∃ t : Tr, ((Wf S' (l :: hs1)) ∧ (Rep S' t l) ∧ (t.Bal) ∧ (Asc t.list) ∧ (t.size < n) ∧ (t.size ≤ 700000) ∧ ((↑(iB t.size) : Int) ≤ S'.free) ∧ (hs1.length + t.size ≤ 600000000) ∧ (S'.reads + 5 * (↑(iB t.size) : Int) ≤ 1600000000000000000) ∧ (∀ S'1 : Arn, (∀ j : Int, ((TrR S' hs1 (insE t.list (k, v)) (iB t.size) (5 * iB t.size) S'1 j) → (∃ hs2 : List Int, (∃ ta : Tr, (∃ tb : Tr, ((Wf S'1 (j :: r :: hs2)) ∧ (Rep S'1 ta j) ∧ (Rep S'1 tb r) ∧ (ta.Bal) ∧ (tb.Bal) ∧ (ta.size + tb.size ≤ 900000) ∧
    ((↑(jB ta.size tb.size) : Int) ≤ S'1.free) ∧ (hs2.length ≤ 700000000) ∧ (S'1.reads + 5 * (↑(jB ta.size tb.size) : Int) ≤ 1800000000000000000) ∧ (∀ S'2 : Arn, (∀ i1 : Int, ((TrR S'1 hs2 (ta.list ++ (k1, v1) :: tb.list) (jB ta.size tb.size) (4 * jB ta.size tb.size) S'2 i1) → (((balN (↑ta.size : Int) (↑tb.size : Int)) → ((((S'2.nd i1).left) = (j)) ∧ (((S'2.nd i1).right) = (r)) ∧ ((S'2.nu) = (S'1.nu + 1)))) → (K (SV.one (TV.at (At.val (Value.int IntKind.u32 (i1))))) [(Chunk.box [(At.ptr 1 0), (At.slc 2), (At.slc 3), (At.val (Value.int IntKind.u64 (S'2.reads)))]), (Chunk.box [(At.slc 4), (At.slc 5), (At.slc 6), (At.val (Value.int IntKind.u32 (S'2.fresh)))]), (Chunk.row true (EC.node) (S'2.nodes)), (Chunk.row true (EC.int) (S'2.counts)), (Chunk.row true (EC.bool) (S'2.used)), (Chunk.row true (EC.u32) (S'2.gen)), (Chunk.row true (EC.u32) (S'2.rel))] [0, 1, 2, 3, 4, 5, 6])))))))))))))))) ∧ (∃ hs1 : List Int, (∃ t : Tr, ((Wf S' (l :: hs1)) ∧ (Rep S' t l) ∧ (t.Bal) ∧ (Asc t.list) ∧ (t.size < n) ∧ (t.size ≤ 700000) ∧ ((↑(iB t.size) : Int) ≤ S'.free) ∧ (hs1.length + t.size ≤ 600000000) ∧ (S'.reads + 5 * (↑(iB t.size) : Int) ≤ 1600000000000000000) ∧ (∀ S'1 : Arn, (∀ j : Int, ((TrR S' hs1 (insE t.list (k, v)) (iB t.size) (5 * iB t.size) S'1 j) → (∃ hs2 : List Int, (∃ ta : Tr, (∃ tb : Tr, ((Wf S'1 (j :: r :: hs2)) ∧ (Rep S'1 ta j) ∧ (Rep S'1 tb r) ∧ (ta.Bal) ∧ (tb.Bal) ∧ (ta.size + tb.size ≤ 900000) ∧ ((↑(jB ta.size tb.size) : Int) ≤ S'1.free) ∧ (hs2.length ≤ 700000000) ∧
    (S'1.reads + 5 * (↑(jB ta.size tb.size) : Int) ≤ 1800000000000000000) ∧ (∀ S'2 : Arn, (∀ i1 : Int, ((TrR S'1 hs2 (ta.list ++ (k1, v1) :: tb.list) (jB ta.size tb.size) (4 * jB ta.size tb.size) S'2 i1) → (((balN (↑ta.size : Int) (↑tb.size : Int)) → ((((S'2.nd i1).left) = (j)) ∧ (((S'2.nd i1).right) = (r)) ∧ ((S'2.nu) = (S'1.nu + 1)))) → (K (SV.one (TV.at (At.val (Value.int IntKind.u32 (i1))))) [(Chunk.box [(At.ptr 1 0), (At.slc 2), (At.slc 3), (At.val (Value.int IntKind.u64 (S'2.reads)))]), (Chunk.box [(At.slc 4), (At.slc 5), (At.slc 6), (At.val (Value.int IntKind.u32 (S'2.fresh)))]), (Chunk.row true (EC.node) (S'2.nodes)), (Chunk.row true (EC.int) (S'2.counts)), (Chunk.row true (EC.bool) (S'2.used)), (Chunk.row true (EC.u32) (S'2.gen)), (Chunk.row true (EC.u32) (S'2.rel))] [0, 1, 2, 3, 4, 5, 6]))))))))))))))))) ((brS (decide (k > k1)) (((∃ hs1 : List Int, (∃ t : Tr, ((Wf S' (r :: hs1)) ∧ (Rep S' t r) ∧ (t.Bal) ∧ (Asc t.list) ∧ (t.size < n) ∧ (t.size ≤ 700000) ∧ ((↑(iB t.size) : Int) ≤ S'.free) ∧ (hs1.length + t.size ≤ 600000000) ∧ (S'.reads + 5 * (↑(iB t.size) : Int) ≤ 1600000000000000000) ∧ (∀ S'1 : Arn, (∀ j : Int, ((TrR S' hs1 (insE t.list (k, v)) (iB t.size) (5 * iB t.size) S'1 j) → (∃ hs2 : List Int, (∃ ta : Tr, (∃ tb : Tr, ((Wf S'1 (l :: j :: hs2)) ∧ (Rep S'1 ta l) ∧ (Rep S'1 tb j) ∧ (ta.Bal) ∧ (tb.Bal) ∧ (ta.size + tb.size ≤ 900000) ∧ ((↑(jB ta.size tb.size) : Int) ≤ S'1.free) ∧ (hs2.length ≤ 700000000) ∧
    (S'1.reads + 5 * (↑(jB ta.size tb.size) : Int) ≤ 1800000000000000000) ∧ (∀ S'2 : Arn, (∀ i1 : Int, ((TrR S'1 hs2 (ta.list ++ (k1, v1) :: tb.list) (jB ta.size tb.size) (4 * jB ta.size tb.size) S'2 i1) → (((balN (↑ta.size : Int) (↑tb.size : Int)) → ((((S'2.nd i1).left) = (l)) ∧ (((S'2.nd i1).right) = (j)) ∧ ((S'2.nu) = (S'1.nu + 1)))) → (K (SV.one (TV.at (At.val (Value.int IntKind.u32 (i1))))) [(Chunk.box [(At.ptr 1 0), (At.slc 2), (At.slc 3), (At.val (Value.int IntKind.u64 (S'2.reads)))]), (Chunk.box [(At.slc 4), (At.slc 5), (At.slc 6), (At.val (Value.int IntKind.u32 (S'2.fresh)))]), (Chunk.row true (EC.node) (S'2.nodes)), (Chunk.row true (EC.int) (S'2.counts)), (Chunk.row true (EC.bool) (S'2.used)), (Chunk.row true (EC.u32) (S'2.gen)), (Chunk.row true (EC.u32) (S'2.rel))] [0, 1, 2, 3, 4, 5, 6]))))))))))))))) ∧ (∃ hs1 : List Int, (∃ t : Tr, ((Wf S' (r :: hs1)) ∧ (Rep S' t r) ∧ (t.Bal) ∧ (Asc t.list) ∧ (t.size < n) ∧ (t.size ≤ 700000) ∧ ((↑(iB t.size) : Int) ≤ S'.free) ∧ (hs1.length + t.size ≤ 600000000) ∧ (S'.reads + 5 * (↑(iB t.size) : Int) ≤ 1600000000000000000) ∧ (∀ S'1 : Arn, (∀ j : Int, ((TrR S' hs1 (insE t.list (k, v)) (iB t.size) (5 * iB t.size) S'1 j) → (∃ hs2 : List Int, (∃ ta : Tr, (∃ tb : Tr, ((Wf S'1 (l :: j :: hs2)) ∧ (Rep S'1 ta l) ∧ (Rep S'1 tb j) ∧ (ta.Bal) ∧ (tb.Bal) ∧ (ta.size + tb.size ≤ 900000) ∧ ((↑(jB ta.size tb.size) : Int) ≤ S'1.free) ∧ (hs2.length ≤ 700000000) ∧ (S'1.reads + 5 * (↑(jB ta.size tb.size) : Int) ≤ 1800000000000000000) ∧ (∀ S'2 : Arn,
    (∀ i1 : Int, ((TrR S'1 hs2 (ta.list ++ (k1, v1) :: tb.list) (jB ta.size tb.size) (4 * jB ta.size tb.size) S'2 i1) → (((balN (↑ta.size : Int) (↑tb.size : Int)) → ((((S'2.nd i1).left) = (l)) ∧ (((S'2.nd i1).right) = (j)) ∧ ((S'2.nu) = (S'1.nu + 1)))) → (K (SV.one (TV.at (At.val (Value.int IntKind.u32 (i1))))) [(Chunk.box [(At.ptr 1 0), (At.slc 2), (At.slc 3), (At.val (Value.int IntKind.u64 (S'2.reads)))]), (Chunk.box [(At.slc 4), (At.slc 5), (At.slc 6), (At.val (Value.int IntKind.u32 (S'2.fresh)))]), (Chunk.row true (EC.node) (S'2.nodes)), (Chunk.row true (EC.int) (S'2.counts)), (Chunk.row true (EC.bool) (S'2.used)), (Chunk.row true (EC.u32) (S'2.gen)), (Chunk.row true (EC.u32) (S'2.rel))] [0, 1, 2, 3, 4, 5, 6]))))))))))))))) ∧ (∃ hs1 : List Int, (∃ t : Tr, ((Wf S' (r :: hs1)) ∧ (Rep S' t r) ∧ (t.Bal) ∧ (Asc t.list) ∧ (t.size < n) ∧ (t.size ≤ 700000) ∧ ((↑(iB t.size) : Int) ≤ S'.free) ∧ (hs1.length + t.size ≤ 600000000) ∧ (S'.reads + 5 * (↑(iB t.size) : Int) ≤ 1600000000000000000) ∧ (∀ S'1 : Arn, (∀ j : Int, ((TrR S' hs1 (insE t.list (k, v)) (iB t.size) (5 * iB t.size) S'1 j) → (∃ hs2 : List Int, (∃ ta : Tr, (∃ tb : Tr, ((Wf S'1 (l :: j :: hs2)) ∧ (Rep S'1 ta l) ∧ (Rep S'1 tb j) ∧ (ta.Bal) ∧ (tb.Bal) ∧ (ta.size + tb.size ≤ 900000) ∧ ((↑(jB ta.size tb.size) : Int) ≤ S'1.free) ∧ (hs2.length ≤ 700000000) ∧ (S'1.reads + 5 * (↑(jB ta.size tb.size) : Int) ≤ 1800000000000000000) ∧ (∀ S'2 : Arn, (∀ i1 : Int,
    ((TrR S'1 hs2 (ta.list ++ (k1, v1) :: tb.list) (jB ta.size tb.size) (4 * jB ta.size tb.size) S'2 i1) → (((balN (↑ta.size : Int) (↑tb.size : Int)) → ((((S'2.nd i1).left) = (l)) ∧ (((S'2.nd i1).right) = (j)) ∧ ((S'2.nu) = (S'1.nu + 1)))) → (K (SV.one (TV.at (At.val (Value.int IntKind.u32 (i1))))) [(Chunk.box [(At.ptr 1 0), (At.slc 2), (At.slc 3), (At.val (Value.int IntKind.u64 (S'2.reads)))]), (Chunk.box [(At.slc 4), (At.slc 5), (At.slc 6), (At.val (Value.int IntKind.u32 (S'2.fresh)))]), (Chunk.row true (EC.node) (S'2.nodes)), (Chunk.row true (EC.int) (S'2.counts)), (Chunk.row true (EC.bool) (S'2.used)), (Chunk.row true (EC.u32) (S'2.gen)), (Chunk.row true (EC.u32) (S'2.rel))] [0, 1, 2, 3, 4, 5, 6]))))))))))))))))) ((∃ hs1 : List Int, (∃ tl : Tr, (∃ tr : Tr, ((Wf S' (l :: r :: hs1)) ∧ (Rep S' tl l) ∧ (Rep S' tr r) ∧ (tl.size + tr.size ≤ 1000000) ∧ (0 < S'.free) ∧ (hs1.length ≤ 900000000) ∧ (∀ S'1 : Arn, (∀ i1 : Int, ((NodeR S' hs1 k v tl tr S'1 i1) → ((((S'1.nd i1).left) = (l)) → ((((S'1.nd i1).right) = (r)) →
    (K (SV.one (TV.at (At.val (Value.int IntKind.u32 (i1))))) [(Chunk.box [(At.ptr 1 0), (At.slc 2), (At.slc 3), (At.val (Value.int IntKind.u64 (S'1.reads)))]), (Chunk.box [(At.slc 4), (At.slc 5), (At.slc 6), (At.val (Value.int IntKind.u32 (S'1.fresh)))]), (Chunk.row true (EC.node) (S'1.nodes)), (Chunk.row true (EC.int) (S'1.counts)), (Chunk.row true (EC.bool) (S'1.used)), (Chunk.row true (EC.u32) (S'1.gen)), (Chunk.row true (EC.u32) (S'1.rel))] [0, 1, 2, 3, 4, 5, 6])))))))))))))))))))))))))) = _ by kernel_rfl) ?_
  have hrd := hw.rds
  refine brS_of (fun d => ?_) fun d => ?_
  · have d : i = 0 := by simpa using d
    subst d
    have e := h1.zero hw
    subst e
    have ep : 1 ≤ iB Tr.nil.size := by unfold iB; omega
    refine ⟨hs, .nil, .nil, hw.zero_cons (by simp; omega), rfl, rfl, by decide, by omega, by omega, fun S1 j nn _ _ => h S1 j ⟨(Got.node nn).mono (by omega) (by omega), _, nn.rep, ?_, ?_⟩⟩
    · simp [Tr.list, insE, insGo]
    · exact ⟨by decide, trivial, trivial⟩
  · have d : i ≠ 0 := by simpa using d
    obtain ⟨a, k1, v1, b, e⟩ := rep_ne h1 d
    subst e
    have zz := node_size a b k1 v1
    rw [zz] at hfu hz hf hl hr h
    obtain ⟨bb, ba, bbb⟩ := bal
    have asc' : Asc (a.list ++ (k1, v1) :: b.list) := asc
    obtain ⟨asca, ascb, ltk, gtk⟩ := asc_parts asc'
    have isa := iB_step (balN_comm bb) (by omega)
    have isb := iB_step bb (by omega)
    rw [show b.size + a.size + 1 = a.size + b.size + 1 by omega] at isa
    refine ⟨hs, a, k1, v1, b, hw, h1, by omega, by omega, fun S1 l r o => ?_⟩
    have f1 := o.got.free hw
    have q1 := o.got.rd
    refine brS_of (fun d => ?_) fun d => brS_of (fun e => ?_) fun e => ?_
    · have d : k < k1 := of_decide_eq_true d
      (repeat' apply And.intro)
      all_goals
        refine ⟨r :: hs, a, o.got.wf, o.repl, ba, asca, by omega, by omega, by omega, by simp; omega, by omega, fun S2 j tr => ?_⟩
        obtain ⟨t, rt, lt, bt⟩ := tr.tree
        have z1 := insE_ge (k, v) asca
        have z2 := insE_len a.list (k, v)
        rw [← lt, a.list_len, t.list_len] at z1 z2
        have jb := jB_ins bb z1 z2
        have jp := jB_pos t.size b.size
        have f2 := tr.got.free o.got.wf
        have q2 := tr.got.rd
        refine ⟨hs, t, b, tr.got.wf, rt, o.repr.held o.got.wf tr.got.stay (.inr (by simp)), bt, bbb, by omega, by omega, by omega, by omega, fun S3 q tj _ => h S3 q ⟨?_, ?_⟩⟩
        · exact ((o.got.seq tr.got (h := hs) (fun _ h => h) (fun _ h => by simp [h])).seq tj.got (fun _ h => h) (fun _ h => h)).mono (by omega) (by omega)
        · obtain ⟨t', rt', lt', bt'⟩ := tj.tree
          exact ⟨t', rt', by rw [lt', lt]; exact (insE_left asc' d).symm, bt'⟩
    · have e : k1 < k := of_decide_eq_true e
      (repeat' apply And.intro)
      all_goals
        refine ⟨l :: hs, b, o.got.wf.perm (List.Perm.swap _ _ _), o.repr, bbb, ascb, by omega, by omega, by omega, by simp; omega, by omega, fun S2 j tr => ?_⟩
        obtain ⟨t, rt, lt, bt⟩ := tr.tree
        have z1 := insE_ge (k, v) ascb
        have z2 := insE_len b.list (k, v)
        rw [← lt, b.list_len, t.list_len] at z1 z2
        have jb := jB_ins' bb z1 z2
        have jp := jB_pos a.size t.size
        have f2 := tr.got.free o.got.wf
        have q2 := tr.got.rd
        refine ⟨hs, a, t, tr.got.wf.perm (List.Perm.swap _ _ _), o.repl.held o.got.wf tr.got.stay (.inr (by simp)), rt, ba, bt, by omega, by omega, by omega, by omega, fun S3 q tj _ => h S3 q ⟨?_, ?_⟩⟩
        · exact ((o.got.seq tr.got (h := hs) (fun _ h => h) (fun _ h => by simp [h])).seq tj.got (fun _ h => h) (fun _ h => h)).mono (by omega) (by omega)
        · obtain ⟨t', rt', lt', bt'⟩ := tj.tree
          exact ⟨t', rt', by rw [lt', lt]; exact (insE_right asc' e).symm, bt'⟩
    · have d : ¬ k < k1 := of_decide_eq_false d
      have e : ¬ k > k1 := of_decide_eq_false e
      have ek : k1 = k := by omega
      subst ek
      have ip : 1 ≤ iB (a.size + b.size + 1) := by unfold iB; omega
      refine ⟨hs, a, b, o.got.wf, o.repl, o.repr, by omega, by omega, by omega, fun S2 j nn _ _ => h S2 j ⟨(o.got.seq (Got.node nn) (h := hs) (fun _ h => h) (fun _ h => h)).mono (by omega) (by omega), _, nn.rep, ?_, bb, ba, bbb⟩⟩
      exact (insE_at (e := (k1, v)) asc').symm
theorem s_insr : ∀ n, SoundT C0 105 (tInsT n) := by
  intro n
  induction n with
  | zero =>
    refine .of Try.func105 (by decide) rfl fun args H K h hB => ?_
    exfalso
    unfold tInsT at h
    split at h <;> try exact h.elim
    unfold arM at h
    split at h <;> try exact h.elim
    obtain ⟨_, _, _, _, _, _, h1, _⟩ := h
    omega
  | succ n ih =>
    refine .ofW W7 Try.func105 (by decide) rfl fun args H K h hB => ?_
    unfold tInsT at h
    split at h <;> try exact h.elim
    unfold arM at h
    split at h <;> try exact h.elim
    rename_i i k v _ rd fr nd ct us gn rl
    obtain ⟨hs, t, h1, h2, h3, h4, h5, h6, h7, h8, h9, h10⟩ := h
    exact ⟨aIns' n, ⟨frame C0.ok s_opn _, frame C0.ok ih _, frame C0.ok s_join _, frame C0.ok s_nodeX _, trivial⟩, vc_insr n ⟨us, gn, rl, fr, nd, ct, rd⟩ i k v K hs t h1 h2 h3 h4 h5 h6 h7 h8 h9 h10⟩
theorem hasK_left {a b : List Ent} {k v q : Int} (h : Asc (a ++ (k, v) :: b)) (hk : hasK (a ++ (k, v) :: b) q) (hq : q < k) : hasK a q := by
  obtain ⟨w, hw⟩ := hk
  obtain ⟨_, _, _, h4⟩ := asc_parts h
  rcases List.mem_append.1 hw with c | c
  · exact ⟨w, c⟩
  · rcases List.mem_cons.1 c with c | c
    · have := congrArg Prod.fst c; simp at this; omega
    · have := h4 _ c; simp at this; omega
theorem hasK_right {a b : List Ent} {k v q : Int} (h : Asc (a ++ (k, v) :: b)) (hk : hasK (a ++ (k, v) :: b) q) (hq : k < q) : hasK b q := by
  obtain ⟨w, hw⟩ := hk
  obtain ⟨_, _, h3, _⟩ := asc_parts h
  rcases List.mem_append.1 hw with c | c
  · have := h3 _ c; simp at this; omega
  · rcases List.mem_cons.1 c with c | c
    · have := congrArg Prod.fst c; simp at this; omega
    · exact ⟨w, c⟩
theorem vc_dlt (n : Nat) (S : Arn) (i key : Int) (K : KT) (hs : List Int) (t : Tr) (hw : Wf S (i :: hs)) (h1 : Rep S t i) (bal : t.Bal) (asc : Asc t.list) (hfu : t.size < n + 1) (hz : t.size ≤ 700000) (hk : hasK t.list key) (hf : (dB t.size : Int) ≤ S.free) (hl : hs.length + t.size ≤ 300000000) (hr : S.reads + 5 * dB t.size ≤ 1500000000000000000)
    (h : ∀ S' j, TrR S hs (flt (neK key) t.list) (dB t.size) (5 * dB t.size) S' j → K (.one (.at (vU j))) (chS S') W7) :
    vc C0 (aDlt n) Try.f102 [.at (.ptr 0 0), .at (vU i), .at (vI key)] (chS S) (normK 7 (wideK W7 K)) := by
  refine Eq.mp (show (brS (i == 0) ((K (SV.one (TV.at (At.val (Value.int IntKind.u32 0)))) [(Chunk.box [(At.ptr 1 0), (At.slc 2), (At.slc 3), (At.val (Value.int IntKind.u64 (S.reads)))]), (Chunk.box [(At.slc 4), (At.slc 5), (At.slc 6), (At.val (Value.int IntKind.u32 (S.fresh)))]), (Chunk.row true (EC.node) (S.nodes)), (Chunk.row true (EC.int) (S.counts)), (Chunk.row true (EC.bool) (S.used)), (Chunk.row true (EC.u32) (S.gen)), (Chunk.row true (EC.u32) (S.rel))] [0, 1, 2, 3, 4, 5, 6])) ((∃ hs : List Int, (∃ a : Tr, (∃ k : Int, (∃ v : Int, (∃ b : Tr, ((Wf S (i :: hs)) ∧ (Rep S (a.node k v b) i) ∧ (hs.length ≤ 900000000) ∧ (S.reads ≤ 3000000000000000000) ∧ (∀ S' : Arn, (∀ l : Int, (∀ r : Int, ((OpnR S hs a k v b S' l r) → (brS (decide (key < k)) (((∃ hs1 : List Int, (∃ t : Tr, ((Wf S' (l :: hs1)) ∧ (Rep S' t l) ∧ (t.Bal) ∧ (Asc t.list) ∧ (t.size < n) ∧ (t.size ≤ 700000) ∧ (hasK t.list key) ∧ ((↑(dB t.size) : Int) ≤ S'.free) ∧ (hs1.length + t.size ≤ 300000000) ∧ (S'.reads + 5 * (↑(dB t.size) : Int) ≤ 1500000000000000000) ∧ (∀ S'1 : Arn, (∀ j : Int, ((TrR S' hs1 (flt (neK key) t.list) (dB t.size) (5 * dB t.size) S'1 j) → (∃ hs2 : List Int, (∃ ta : Tr, (∃ tb : Tr, ((Wf S'1 (j :: r :: hs2)) ∧ (Rep S'1 ta j) ∧ (Rep S'1 tb r) ∧ (ta.Bal) ∧ (tb.Bal) ∧ (ta.size + tb.size ≤ 900000) ∧ ((↑(jB ta.size tb.size) : Int) ≤ S'1.free) ∧ (hs2.length ≤ 700000000) ∧ (S'1.reads + 5 * (↑(jB ta.size tb.size) : Int) ≤ 1800000000000000000) ∧ (∀ S'2 : Arn, (∀ i1 : Int,
    ((TrR S'1 hs2 (ta.list ++ (k, v) :: tb.list) (jB ta.size tb.size) (4 * jB ta.size tb.size) S'2 i1) → (((balN (↑ta.size : Int) (↑tb.size : Int)) → ((((S'2.nd i1).left) = (j)) ∧ (((S'2.nd i1).right) = (r)) ∧ ((S'2.nu) = (S'1.nu + 1)))) → (K (SV.one (TV.at (At.val (Value.int IntKind.u32 (i1))))) [(Chunk.box [(At.ptr 1 0), (At.slc 2), (At.slc 3), (At.val (Value.int IntKind.u64 (S'2.reads)))]), (Chunk.box [(At.slc 4), (At.slc 5), (At.slc 6), (At.val (Value.int IntKind.u32 (S'2.fresh)))]), (Chunk.row true (EC.node) (S'2.nodes)), (Chunk.row true (EC.int) (S'2.counts)), (Chunk.row true (EC.bool) (S'2.used)), (Chunk.row true (EC.u32) (S'2.gen)), (Chunk.row true (EC.u32) (S'2.rel))] [0, 1, 2, 3, 4, 5, 6]))))))))))))))) ∧ (∃ hs1 : List Int, (∃ t : Tr, ((Wf S' (l :: hs1)) ∧ (Rep S' t l) ∧ (t.Bal) ∧ (Asc t.list) ∧ (t.size < n) ∧ (t.size ≤ 700000) ∧ (hasK t.list key) ∧ ((↑(dB t.size) : Int) ≤ S'.free) ∧ (hs1.length + t.size ≤ 300000000) ∧ (S'.reads + 5 * (↑(dB t.size) : Int) ≤ 1500000000000000000) ∧ (∀ S'1 : Arn, (∀ j : Int, ((TrR S' hs1 (flt (neK key) t.list) (dB t.size) (5 * dB t.size) S'1 j) → (∃ hs2 : List Int, (∃ ta : Tr, (∃ tb : Tr, ((Wf S'1 (j :: r :: hs2)) ∧ (Rep S'1 ta j) ∧ (Rep S'1 tb r) ∧ (ta.Bal) ∧ (tb.Bal) ∧ (ta.size + tb.size ≤ 900000) ∧ ((↑(jB ta.size tb.size) : Int) ≤ S'1.free) ∧ (hs2.length ≤ 700000000) ∧ (S'1.reads + 5 * (↑(jB ta.size tb.size) : Int) ≤ 1800000000000000000) ∧ (∀ S'2 : Arn, (∀ i1 : Int,
    ((TrR S'1 hs2 (ta.list ++ (k, v) :: tb.list) (jB ta.size tb.size) (4 * jB ta.size tb.size) S'2 i1) → (((balN (↑ta.size : Int) (↑tb.size : Int)) → ((((S'2.nd i1).left) = (j)) ∧ (((S'2.nd i1).right) = (r)) ∧ ((S'2.nu) = (S'1.nu + 1)))) → (K (SV.one (TV.at (At.val (Value.int IntKind.u32 (i1))))) [(Chunk.box [(At.ptr 1 0), (At.slc 2), (At.slc 3), (At.val (Value.int IntKind.u64 (S'2.reads)))]), (Chunk.box [(At.slc 4), (At.slc 5), (At.slc 6), (At.val (Value.int IntKind.u32 (S'2.fresh)))]), (Chunk.row true (EC.node) (S'2.nodes)), (Chunk.row true (EC.int) (S'2.counts)), (Chunk.row true (EC.bool) (S'2.used)), (Chunk.row true (EC.u32) (S'2.gen)), (Chunk.row true (EC.u32) (S'2.rel))] [0, 1, 2, 3, 4, 5, 6]))))))))))))))))) ((brS (decide (key > k)) (((∃ hs1 : List Int, (∃ t : Tr, ((Wf S' (r :: hs1)) ∧ (Rep S' t r) ∧ (t.Bal) ∧ (Asc t.list) ∧ (t.size < n) ∧ (t.size ≤ 700000) ∧ (hasK t.list key) ∧ ((↑(dB t.size) : Int) ≤ S'.free) ∧ (hs1.length + t.size ≤ 300000000) ∧ (S'.reads + 5 * (↑(dB t.size) : Int) ≤ 1500000000000000000) ∧ (∀ S'1 : Arn, (∀ j : Int, ((TrR S' hs1 (flt (neK key) t.list) (dB t.size) (5 * dB t.size) S'1 j) → (∃ hs2 : List Int, (∃ ta : Tr, (∃ tb : Tr, ((Wf S'1 (l :: j :: hs2)) ∧ (Rep S'1 ta l) ∧ (Rep S'1 tb j) ∧ (ta.Bal) ∧ (tb.Bal) ∧ (ta.size + tb.size ≤ 900000) ∧ ((↑(jB ta.size tb.size) : Int) ≤ S'1.free) ∧ (hs2.length ≤ 700000000) ∧ (S'1.reads + 5 * (↑(jB ta.size tb.size) : Int) ≤ 1800000000000000000) ∧ (∀ S'2 : Arn, (∀ i1 : Int,
    ((TrR S'1 hs2 (ta.list ++ (k, v) :: tb.list) (jB ta.size tb.size) (4 * jB ta.size tb.size) S'2 i1) → (((balN (↑ta.size : Int) (↑tb.size : Int)) → ((((S'2.nd i1).left) = (l)) ∧ (((S'2.nd i1).right) = (j)) ∧ ((S'2.nu) = (S'1.nu + 1)))) → (K (SV.one (TV.at (At.val (Value.int IntKind.u32 (i1))))) [(Chunk.box [(At.ptr 1 0), (At.slc 2), (At.slc 3), (At.val (Value.int IntKind.u64 (S'2.reads)))]), (Chunk.box [(At.slc 4), (At.slc 5), (At.slc 6), (At.val (Value.int IntKind.u32 (S'2.fresh)))]), (Chunk.row true (EC.node) (S'2.nodes)), (Chunk.row true (EC.int) (S'2.counts)), (Chunk.row true (EC.bool) (S'2.used)), (Chunk.row true (EC.u32) (S'2.gen)), (Chunk.row true (EC.u32) (S'2.rel))] [0, 1, 2, 3, 4, 5, 6]))))))))))))))) ∧ (∃ hs1 : List Int, (∃ t : Tr, ((Wf S' (r :: hs1)) ∧ (Rep S' t r) ∧ (t.Bal) ∧ (Asc t.list) ∧ (t.size < n) ∧ (t.size ≤ 700000) ∧ (hasK t.list key) ∧ ((↑(dB t.size) : Int) ≤ S'.free) ∧ (hs1.length + t.size ≤ 300000000) ∧ (S'.reads + 5 * (↑(dB t.size) : Int) ≤ 1500000000000000000) ∧ (∀ S'1 : Arn, (∀ j : Int, ((TrR S' hs1 (flt (neK key) t.list) (dB t.size) (5 * dB t.size) S'1 j) → (∃ hs2 : List Int, (∃ ta : Tr, (∃ tb : Tr, ((Wf S'1 (l :: j :: hs2)) ∧ (Rep S'1 ta l) ∧ (Rep S'1 tb j) ∧ (ta.Bal) ∧ (tb.Bal) ∧ (ta.size + tb.size ≤ 900000) ∧ ((↑(jB ta.size tb.size) : Int) ≤ S'1.free) ∧ (hs2.length ≤ 700000000) ∧ (S'1.reads + 5 * (↑(jB ta.size tb.size) : Int) ≤ 1800000000000000000) ∧ (∀ S'2 : Arn, (∀ i1 : Int,
    ((TrR S'1 hs2 (ta.list ++ (k, v) :: tb.list) (jB ta.size tb.size) (4 * jB ta.size tb.size) S'2 i1) → (((balN (↑ta.size : Int) (↑tb.size : Int)) → ((((S'2.nd i1).left) = (l)) ∧ (((S'2.nd i1).right) = (j)) ∧ ((S'2.nu) = (S'1.nu + 1)))) → (K (SV.one (TV.at (At.val (Value.int IntKind.u32 (i1))))) [(Chunk.box [(At.ptr 1 0), (At.slc 2), (At.slc 3), (At.val (Value.int IntKind.u64 (S'2.reads)))]), (Chunk.box [(At.slc 4), (At.slc 5), (At.slc 6), (At.val (Value.int IntKind.u32 (S'2.fresh)))]), (Chunk.row true (EC.node) (S'2.nodes)), (Chunk.row true (EC.int) (S'2.counts)), (Chunk.row true (EC.bool) (S'2.used)), (Chunk.row true (EC.u32) (S'2.gen)), (Chunk.row true (EC.u32) (S'2.rel))] [0, 1, 2, 3, 4, 5, 6]))))))))))))))))) ((∃ hs1 : List Int, (∃ ta : Tr, (∃ tb : Tr, ((Wf S' (l :: r :: hs1)) ∧ (Rep S' ta l) ∧ (Rep S' tb r) ∧ (ta.Bal) ∧ (tb.Bal) ∧ (ta.size + tb.size ≤ 800000) ∧ ((↑(cB ta.size tb.size) : Int) ≤ S'.free) ∧ (hs1.length ≤ 400000000) ∧ (S'.reads + 5 * (↑(cB ta.size tb.size) : Int) ≤ 1600000000000000000) ∧ (∀ S'1 : Arn, (∀ i1 : Int, ((TrR S' hs1 (ta.list ++ tb.list) (cB ta.size tb.size) (5 * cB ta.size tb.size) S'1 i1) →
    (K (SV.one (TV.at (At.val (Value.int IntKind.u32 (i1))))) [(Chunk.box [(At.ptr 1 0), (At.slc 2), (At.slc 3), (At.val (Value.int IntKind.u64 (S'1.reads)))]), (Chunk.box [(At.slc 4), (At.slc 5), (At.slc 6), (At.val (Value.int IntKind.u32 (S'1.fresh)))]), (Chunk.row true (EC.node) (S'1.nodes)), (Chunk.row true (EC.int) (S'1.counts)), (Chunk.row true (EC.bool) (S'1.used)), (Chunk.row true (EC.u32) (S'1.gen)), (Chunk.row true (EC.u32) (S'1.rel))] [0, 1, 2, 3, 4, 5, 6])))))))))))))))))))))))) = _ by kernel_rfl) ?_
  have hrd := hw.rds
  refine brS_of (fun d => ?_) fun d => ?_
  · have d : i = 0 := by simpa using d
    subst d
    have e := h1.zero hw
    subst e
    obtain ⟨v, hv⟩ := hk
    simp [Tr.list] at hv
  · have d : i ≠ 0 := by simpa using d
    obtain ⟨a, k1, v1, b, e⟩ := rep_ne h1 d
    subst e
    have zz := node_size a b k1 v1
    rw [zz] at hfu hz hf hl hr h
    obtain ⟨bb, ba, bbb⟩ := bal
    have asc' : Asc (a.list ++ (k1, v1) :: b.list) := asc
    have hk' : hasK (a.list ++ (k1, v1) :: b.list) key := hk
    have h' : ∀ S' j, TrR S hs (flt (neK key) (a.list ++ (k1, v1) :: b.list)) (dB (a.size + b.size + 1)) (5 * dB (a.size + b.size + 1)) S' j → K (.one (.at (vU j))) (chS S') W7 := h
    obtain ⟨asca, ascb, ltk, gtk⟩ := asc_parts asc'
    have dp := dB_pos (a.size + b.size + 1)
    refine ⟨hs, a, k1, v1, b, hw, h1, by omega, by omega, fun S1 l r o => ?_⟩
    have f1 := o.got.free hw
    have q1 := o.got.rd
    refine brS_of (fun d => ?_) fun d => brS_of (fun e => ?_) fun e => ?_
    · have d : key < k1 := of_decide_eq_true d
      have hka := hasK_left asc' hk' d
      have zl := flt_ne_len asca hka
      rw [a.list_len] at zl
      have ds := dB_step (balN_comm bb) (c := a.size) (by omega) (by omega)
      rw [show b.size + a.size + 1 = a.size + b.size + 1 by omega] at ds
      have jp := jB_pos b.size (a.size - 1)
      (repeat' apply And.intro)
      all_goals
        refine ⟨r :: hs, a, o.got.wf, o.repl, ba, asca, by omega, by omega, hka, by omega, by simp; omega, by omega, fun S2 j tr => ?_⟩
        obtain ⟨t, rt, lt, bt⟩ := tr.tree
        have zt : t.size = a.size - 1 := by rw [← t.list_len, lt]; omega
        have f2 := tr.got.free o.got.wf
        have q2 := tr.got.rd
        have ej : jB t.size b.size = jB b.size (a.size - 1) := by rw [zt, jB_comm]
        refine ⟨hs, t, b, tr.got.wf, rt, o.repr.held o.got.wf tr.got.stay (.inr (by simp)), bt, bbb, by omega, by omega, by omega, by omega, fun S3 q tj _ => h' S3 q ⟨?_, ?_⟩⟩
        · exact ((o.got.seq tr.got (h := hs) (fun _ h => h) (fun _ h => by simp [h])).seq tj.got (fun _ h => h) (fun _ h => h)).mono (by omega) (by omega)
        · obtain ⟨t', rt', lt', bt'⟩ := tj.tree
          refine ⟨t', rt', ?_, bt'⟩
          rw [lt', lt]
          exact (flt_upR (fun x hx => by have := gtk x hx; simp [neK]; omega) (by simp [neK]; omega)).symm
    · have e : k1 < key := of_decide_eq_true e
      have hkb := hasK_right asc' hk' e
      have zl := flt_ne_len ascb hkb
      rw [b.list_len] at zl
      have ds := dB_step bb (by omega) (by omega)
      have jp := jB_pos a.size (b.size - 1)
      (repeat' apply And.intro)
      all_goals
        refine ⟨l :: hs, b, o.got.wf.perm (List.Perm.swap _ _ _), o.repr, bbb, ascb, by omega, by omega, hkb, by omega, by simp; omega, by omega, fun S2 j tr => ?_⟩
        obtain ⟨t, rt, lt, bt⟩ := tr.tree
        have zt : t.size = b.size - 1 := by rw [← t.list_len, lt]; omega
        have f2 := tr.got.free o.got.wf
        have q2 := tr.got.rd
        have ej : jB a.size t.size = jB a.size (b.size - 1) := by rw [zt]
        refine ⟨hs, a, t, tr.got.wf.perm (List.Perm.swap _ _ _), o.repl.held o.got.wf tr.got.stay (.inr (by simp)), rt, ba, bt, by omega, by omega, by omega, by omega, fun S3 q tj _ => h' S3 q ⟨?_, ?_⟩⟩
        · exact ((o.got.seq tr.got (h := hs) (fun _ h => h) (fun _ h => by simp [h])).seq tj.got (fun _ h => h) (fun _ h => h)).mono (by omega) (by omega)
        · obtain ⟨t', rt', lt', bt'⟩ := tj.tree
          refine ⟨t', rt', ?_, bt'⟩
          rw [lt', lt]
          exact (flt_upL (fun x hx => by have := ltk x hx; simp [neK]; omega) (by simp [neK]; omega)).symm
    · have d : ¬ key < k1 := of_decide_eq_false d
      have e : ¬ key > k1 := of_decide_eq_false e
      have ek : key = k1 := by omega
      have df := dB_found bb (by omega)
      refine ⟨hs, a, b, o.got.wf, o.repl, o.repr, ba, bbb, by omega, by omega, by omega, by omega, fun S2 j tr => h' S2 j ⟨?_, ?_⟩⟩
      · exact (o.got.seq tr.got (h := hs) (fun _ h => h) (fun _ h => h)).mono (by omega) (by omega)
      · obtain ⟨t', rt', lt', bt'⟩ := tr.tree
        refine ⟨t', rt', ?_, bt'⟩
        rw [lt', flt_node, flt_all (l := a.list) (fun x hx => by have := ltk x hx; simp [neK]; omega), flt_all (l := b.list) (fun x hx => by have := gtk x hx; simp [neK]; omega), ek]
        simp [neK]
theorem s_dlt : ∀ n, SoundT C0 102 (tDlt n) := by
  intro n
  induction n with
  | zero =>
    refine .of Try.func102 (by decide) rfl fun args H K h hB => ?_
    exfalso
    unfold tDlt at h
    split at h <;> try exact h.elim
    unfold arM at h
    split at h <;> try exact h.elim
    obtain ⟨_, _, _, _, _, _, h1, _⟩ := h
    omega
  | succ n ih =>
    refine .ofW W7 Try.func102 (by decide) rfl fun args H K h hB => ?_
    unfold tDlt at h
    split at h <;> try exact h.elim
    unfold arM at h
    split at h <;> try exact h.elim
    rename_i i key _ rd fr nd ct us gn rl
    obtain ⟨hs, t, h1, h2, h3, h4, h5, h6, h7, h8, h9, h10, h11⟩ := h
    exact ⟨aDlt n, ⟨frame C0.ok s_opn _, frame C0.ok ih _, frame C0.ok s_join _, frame C0.ok s_cat _, trivial⟩, vc_dlt n ⟨us, gn, rl, fr, nd, ct, rd⟩ i key K hs t h1 h2 h3 h4 h5 h6 h7 h8 h9 h10 h11⟩
end Go.Proofs.Ytbonbaccmlomhaa.Sx
end
section
/- treework: Split, From, To. -/
namespace Go.Proofs.Ytbonbaccmlomhaa.Sx
open Go

/-KEEP Wf exW inU live Arn.cap Arn.free NodeR Rep Kept rdS retL Tr.size Tr.list Tr.Bal balN balB jB pB cB iB dB sB gN OpnR TrR Got flt insE getE Asc-/
def ltK (key : Int) (q : Int) : Bool := decide (q < key)
def gtK (key : Int) (q : Int) : Bool := decide (key < q)
def tSpl (n : Nat) : Tfm C0 := fun args H K => match args with
  | [.at (.ptr 0 0), .at (.val (.int .u32 i)), .at (.val (.int .i64 key))] => arM H fun S => ∃ hs t, Wf S (i :: hs) ∧ Rep S t i ∧ t.Bal ∧ Asc t.list ∧ t.size < n ∧ t.size ≤ 700000 ∧ 7 * (gN (t.size + 1) : Int) + 1 ≤ S.free ∧ hs.length + t.size ≤ 600000000 ∧ S.reads + (35 * gN (t.size + 1) + 5) ≤ 1600000000000000000 ∧
    ∀ S' x y m (o : Option Int), m ≤ gN (t.size + 1) + 3 * gN ((flt (ltK key) t.list).length + 1) + 3 * gN ((flt (gtK key) t.list).length + 1) + 1 → Got S hs m (5 * m) S' (x :: y :: hs) → (∃ t1, Rep S' t1 x ∧ t1.list = flt (ltK key) t.list ∧ t1.Bal) → (∃ t2, Rep S' t2 y ∧ t2.list = flt (gtK key) t.list ∧ t2.Bal) → o = getE t.list key →
      K (.tup [.at (vU x), .at (vI (o.getD 0)), .at (vB o.isSome), .at (vU y)]) (chS S') W7
  | _ => False
noncomputable def aSpl (n : Nat) : Ann C0 := { Γ := [(132, frameT [] tOpn), (136, frameT [] (tSpl n)), (114, frameT [] tJoin)] }
def frK (key : Int) (eq : Bool) (q : Int) : Bool := decide (key < q) || (eq && decide (q = key))
def toK (key : Int) (eq : Bool) (q : Int) : Bool := decide (q < key) || (eq && decide (q = key))
def tCut (p : Int → Bool → Int → Bool) (n : Nat) : Tfm C0 := fun args H K => match args with
  | [.at (.ptr 0 0), .at (.val (.int .u32 i)), .at (.val (.int .i64 key)), .at (.val (.bool eq))] => arM H fun S => ∃ hs t, Wf S (i :: hs) ∧ Rep S t i ∧ t.Bal ∧ Asc t.list ∧ t.size < n ∧ t.size ≤ 700000 ∧ 4 * (gN (t.size + 1) : Int) + 1 ≤ S.free ∧ hs.length + t.size ≤ 600000000 ∧ S.reads + (20 * gN (t.size + 1) + 5) ≤ 1600000000000000000 ∧
    ∀ S' x m, m ≤ sB t.size (flt (p key eq) t.list).length → TrR S hs (flt (p key eq) t.list) m (5 * m) S' x → K (.one (.at (vU x))) (chS S') W7
  | _ => False
end Go.Proofs.Ytbonbaccmlomhaa.Sx
end
section
/- setops: value, cut, and the recursive operations. -/
namespace Go.Proofs.Ytbonbaccmlomhaa.Sx
open Go

/-KEEP Wf exW inU live Arn.cap Arn.free Rep Kept rdS retL Tr.size Tr.list Tr.Bal jB cB gN TrR Got OpnR flt getE Asc SetR StM CutR rdW dW chooseP cutV fUni fInt fSub fExc ltK gtK ltB gtB-/
def tVal : Tfm C0 := fun args H K => match args, H with
  | [.at (.val (.int .i64 p)), .at (.val (.int .i64 v)), .at (.val (.int .i64 w))], [] => 1 ≤ p ∧ p ≤ 5 ∧ ∀ x, x = chooseP p v w → K (.one (.at (vI x))) [] []
  | _, _ => False
noncomputable def aOneW : Ann C0 := { Γ := [(25, frameT [] tRel)] }
def tOneW : Tfm C0 := fun args H K => match args with
  | [.agg [.ptr 0 0, .val (.int .i64 _)], .at (.val (.int .u32 x))] => arM H fun S => ∃ hs, Wf S (x :: hs) ∧ ∀ S', Wf S' hs → Kept S S' → K (.one (.at (vU x))) (chS S') W7
  | _ => False
def tNoneW : Tfm C0 := fun args H K => match args with
  | [.agg [.ptr 0 0, .val (.int .i64 _)], .at (.val (.int .u32 x)), .at (.val (.int .u32 y))] => arM H fun S => ∃ hs, Wf S (x :: y :: hs) ∧ ∀ S', Wf S' hs → Kept S S' → K (.one (.at (vU 0))) (chS S') W7
  | _ => False
def tSplN : Tfm C0 := tSpl 1000000
noncomputable def aCutW : Ann C0 := { Γ := [(132, frameT [] tOpn), (136, frameT [] tSplN), (137, frameT [] tVal)] }
def tCutW : Tfm C0 := fun args H K => match args with
  | [.agg [.ptr 0 0, .val (.int .i64 p)], .at (.val (.int .u32 x)), .at (.val (.int .u32 y))] => arM H fun S => ∃ hs a k v b ty N, 1 ≤ p ∧ p ≤ 5 ∧ StM S hs (.node a k v b) ty x y N ∧
    ∀ S1 xl yl xr yr (o : Option Int) w, o = getE ty.list k → w = cutV p v o → CutR S hs a k b ty S1 xl yl xr yr → K (.tup [.at (vU xl), .at (vU yl), .agg [vI k, vI w], .at (vB o.isSome), .at (vU xr), .at (vU yr)]) (chS S1) W7
  | _ => False
/-- A recursive operation with the answer f. -/
def tWk (f : Int → Option Int → Option Int → Option Int) (n : Nat) : Tfm C0 := fun args H K => match args with
  | [.agg [.ptr 0 0, .val (.int .i64 p)], .at (.val (.int .u32 x)), .at (.val (.int .u32 y))] => arM H fun S => ∃ hs tx ty N, 1 ≤ p ∧ p ≤ 5 ∧ StM S hs tx ty x y N ∧ tx.size < n ∧
    ∀ S' i L, SetR (f p) tx.list ty.list L → TrR S hs L 65537 (rdW N tx.size) S' i → K (.one (.at (vU i))) (chS S') W7
  | _ => False
noncomputable def aWk (g : FuncId) (f : Int → Option Int → Option Int → Option Int) (n : Nat) : Ann C0 := { Γ := [(112, frameT [] tOneW), (121, frameT [] tNoneW), (113, frameT [] tCutW), (g, frameT [] (tWk f n)), (114, frameT [] tJoin), (122, frameT [] tCat)] }
def gSub : Int → Option Int → Option Int → Option Int := fun _ => fSub
def gExc : Int → Option Int → Option Int → Option Int := fun _ => fExc
end Go.Proofs.Ytbonbaccmlomhaa.Sx
end
section
/- The greatest height of a balanced tree, and few reads. -/
namespace Go.Proofs.Ytbonbaccmlomhaa.Sx
open Go

/-KEEP Wf exW inU wtsL-/
noncomputable def aWts : Ann C0 := { Γ := [], rounds := fun n => if n = 4 then 82 else 0 }
def tWts : Tfm C0 := fun args H K => match args, H with
  | [], [] => K (.one (.agg (wtsL.map fun n => vI n))) [] []
  | _, _ => False
def wC : Nat → Int → Prop → Prop
  | 0, _, Q => Q
  | n + 1, h, Q => (0 ≤ IntKind.i64.wrap (h - 1)) ∧ (IntKind.i64.wrap (h - 1) < ((81 : Nat) : Int)) ∧ (0 ≤ IntKind.i64.wrap (h - 1)) ∧ (IntKind.i64.wrap (h - 1) < ((81 : Nat) : Int)) ∧ (0 ≤ h) ∧ (h < ((81 : Nat) : Int)) ∧ wC n (IntKind.i64.wrap (h + 1)) Q
theorem wC_of : ∀ (n : Nat) (h : Int) (Q : Prop), 1 ≤ h → h + n ≤ 81 → Q → wC n h Q
  | 0, _, _, _, _, q => q
  | n + 1, h, Q, h1, h2, q => by
    have e1 := wrap_id (x := h - 1) (by omega) (by omega)
    have e2 := wrap_id (x := h + 1) (by omega) (by omega)
    unfold wC
    rw [e1, e2]
    exact ⟨by omega, by omega, by omega, by omega, by omega, by omega, wC_of n (h + 1) Q (by omega) (by omega) q⟩
theorem s_wts : SoundT C0 143 tWts := by
  refine .of Try.func143 (by decide) rfl fun args H K h hB => ?_
  unfold tWts at h
  split at h <;> try exact h.elim
  refine ⟨aWts, trivial, Eq.mp (show ((0 : Int) ≤ 0 ∧ (0 : Int) < ((81 : Nat) : Int) ∧ wC 80 1 (K (.one (.agg (wtsL.map fun n => vI n))) [] [])) = _ by kernel_rfl) ?_⟩
  exact ⟨by decide, by decide, wC_of 80 1 _ (by decide) (by decide) h⟩
noncomputable def aMh : Ann C0 := { Γ := [(143, frameT [] tWts)], rounds := fun n => if n = 5 then 82 else 0 }
def mhC (k : Int) (Q : Int → Prop) : List Int → Int → Prop
  | [], h => Q h
  | w :: l, h => (0 ≤ IntKind.i64.wrap (h + 1)) ∧ (IntKind.i64.wrap (h + 1) < ((81 : Nat) : Int)) ∧ brS (decide (IntKind.i64.wrap (w - 1) ≤ k)) (mhC k Q l (IntKind.i64.wrap (h + 1))) (Q h)
theorem mhC_of {k : Int} {Q : Int → Prop} : ∀ (l : List Int) (h : Int), 0 ≤ h → h + l.length ≤ 80 → (∀ w ∈ l, 0 ≤ w ∧ w ≤ 1000000000000) → Q (hnC l h k) → mhC k Q l h
  | [], _, _, _, _, q => q
  | w :: l, h, h1, h2, h3, q => by
    have hw := h3 w (by simp)
    have hl : (w :: l).length = l.length + 1 := rfl
    unfold mhC
    rw [wrap_id (x := h + 1) (by omega) (by omega), wrap_id (x := w - 1) (by omega) (by omega)]
    unfold hnC at q
    refine ⟨by omega, by omega, brS_of (fun c => ?_) fun c => ?_⟩
    · rw [if_pos (of_decide_eq_true c)] at q
      exact mhC_of l (h + 1) (by omega) (by omega) (fun x hx => h3 x (by simp [hx])) q
    · rw [if_neg (of_decide_eq_false c)] at q; exact q
def tMh : Tfm C0 := fun args H K => match args, H with
  | [.at (.val (.int .i64 k))], [] => 0 ≤ k ∧ k ≤ 2147483647 ∧ ∀ h, h = Hn k → K (.one (.at (vI h))) [] []
  | _, _ => False
theorem s_mh : SoundT C0 118 tMh := by
  refine .of Try.func118 (by decide) rfl fun args H K h hB => ?_
  unfold tMh at h
  split at h <;> try exact h.elim
  rename_i k
  obtain ⟨h1, h2, h⟩ := h
  refine ⟨aMh, ⟨frame C0.ok s_wts _, trivial⟩, Eq.mp (show (brS (decide (k < 0)) (K (.one (.at (vI (-1)))) [] []) (brS (decide (k > 2147483647)) (K (.one (.at (vI (-1)))) [] []) (mhC k (fun h => K (.one (.at (vI h))) [] []) (wtsL.drop 1) 0))) = _ by kernel_rfl) ?_⟩
  refine brS_of (fun c => by have := of_decide_eq_true c; omega) fun _ => brS_of (fun c => by have := of_decide_eq_true c; omega) fun _ => mhC_of _ 0 (by decide) (by decide) (by decide) (h _ rfl)
noncomputable def aHt : Ann C0 := { Γ := [(118, frameT [] tMh)] }
noncomputable def aWi : Ann C0 := { Γ := [(27, frameT [] tReads)] }
def tWi : Tfm C0 := fun args H K => match args with
  | [.at (.ptr 0 0), .at (.val (.int .u64 r)), .at (.val (.int .i64 m))] => arM H fun S => 0 ≤ r ∧ r ≤ S.reads ∧ S.reads ≤ 4000000000000000000 ∧ S.reads - r ≤ m ∧ m ≤ 4000000000000000000 ∧ K (.one (.at (vB true))) (chS S) []
  | _ => False
end Go.Proofs.Ytbonbaccmlomhaa.Sx
end
section
/- reserve, ref8: how many slots an operation may need; lookup.Get. -/
namespace Go.Proofs.Ytbonbaccmlomhaa.Sx
open Go

/-KEEP okI Wf exW inU live Rep rdS Tr.size Tr.list getE Asc ht wt Hn-/
theorem htr_size : ∀ t : Tr, ht t ≤ t.size
  | .nil => Nat.le_refl _
  | .node l k v r => by
    have h1 := htr_size l
    have h2 := htr_size r
    rw [ht, Tr.size]
    split <;> omega
structure XGe (S : Arn) (t : Tr) (q : Int) where
  i : Int
  t' : Tr
  m : Nat
  h : Rep S t' i ∧ getE t.list q = getE t'.list q ∧ Asc t'.list ∧ m + ht t' ≤ ht t ∧ t'.size ≤ t.size
noncomputable def aGetT (S : Arn) (t : Tr) (q : Int) : Ann C0 := { Γ := [(63, frameT [] tNode)], inv := fun n => match n with
  | 2 => some { X := XGe S t q, sl := [8], tf := fun x => [vi .u32 x.i], hf := fun x => chS (rdS S x.m), μ := fun x => x.t'.size, wr := [0] }
  | _ => none }
def tGetT : Tfm C0 := fun args H K => match args with
  | [.at (.ptr 0 0), .at (.val (.int .u32 i)), .at (.val (.int .i64 q))] => arM H fun S => ∃ hs t, Wf S hs ∧ Rep S t i ∧ Asc t.list ∧ t.size ≤ 1000000 ∧ S.reads + t.size ≤ 3000000000000000000 ∧
    ∀ S' m o, S' = rdS S m → m ≤ ht t → o = getE t.list q → K (.tup [.at (vI (o.getD 0)), .at (vB o.isSome)]) (chS S') [0]
  | _ => False
structure XMx (n : Int) where
  h : Nat
  p : h ≤ 80 ∧ wt h ≤ n + 1
noncomputable def aMxh (n : Int) : Ann C0 := { Γ := [], inv := fun k => match k with
  | 4 => some { X := XMx n, sl := [3, 4], tf := fun x => [vi .i64 x.h, vi .i64 (wt x.h)], hf := fun _ => [], μ := fun x => 80 - x.h }
  | _ => none }
def tMxh : Tfm C0 := fun args H K => match args, H with
  | [.at (.val (.int .i64 n))], [] => 0 ≤ n ∧ n ≤ 1000000 ∧ ∀ h, h = Hn n → K (.one (.at (vI h))) [] []
  | _, _ => False
def okI (l : List Int) : Prop := ∀ i : Nat, i < l.length → 0 ≤ l.getD i 0 ∧ l.getD i 0 ≤ 65536
structure XVd (l : List Int) where
  i : Nat
  h : i ≤ l.length
noncomputable def aVld (l : List Int) : Ann C0 := { Γ := [], inv := fun k => match k with
  | 2 => some { X := XVd l, sl := [7], tf := fun x => [vi .i64 x.i], hf := fun _ => [.row false EC.int l], μ := fun x => l.length - x.i }
  | _ => none }
def tVld : Tfm C0 := fun args H K => match args, H with
  | [.at (.slc 0)], [.row false .int l] => okI l ∧ l.length ≤ 100 ∧ K (.one (.at (vB true))) [.row false EC.int l] []
  | _, _ => False
noncomputable def aPath : Ann C0 := { Γ := [(150, frameT [] tMxh)] }
def tPath : Tfm C0 := fun args H K => match args, H with
  | [.at (.val (.int .i64 f)), .at (.val (.int .i64 n))], [] => 0 ≤ f ∧ f ≤ 100 ∧ 0 ≤ n ∧ n ≤ 1000000 ∧ ∀ p, p = f * (Hn n + 2) → K (.one (.at (vI p))) [] []
  | _, _ => False
noncomputable def aRes : Ann C0 := { Γ := [(126, frameT [] tVld), (127, frameT [] tPath)] }
def tRes1 (f d : Int) : Tfm C0 := fun args H K => match args, H with
  | [.at (.val (.int .i64 n))], [] => 0 ≤ n ∧ n ≤ 65536 ∧ ∀ p, p = f * (Hn (n + d) + 2) → K (.one (.at (vI p))) [] []
  | _, _ => False
def tRes2 : Tfm C0 := fun args H K => match args, H with
  | [.at (.val (.int .i64 n)), .at (.val (.int .i64 m))], [] => 0 ≤ n ∧ n ≤ 65536 ∧ 0 ≤ m ∧ m ≤ 65536 ∧ ∀ p, p = 4 * (Hn (n + m + 1) + 2) → K (.one (.at (vI p))) [] []
  | _, _ => False
noncomputable def aNeed : Ann C0 := { Γ := [(118, frameT [] tMh)] }
def tNeed : Tfm C0 := fun args H K => match args, H with
  | [.at (.val (.int .i64 a)), .at (.val (.int .i64 b)), .at (.val (.int .i64 c)), .at (.val (.int .i64 m)), .at (.val (.int .i64 e)), .at (.val (.int .i64 f))], [] => 0 ≤ a ∧ a ≤ 65536 ∧ 0 ≤ b ∧ b ≤ 65536 ∧ 0 ≤ c ∧ c ≤ 65536 ∧ 0 ≤ m ∧ m ≤ 10 ∧ 0 ≤ e ∧ e ≤ 200000 ∧ 0 ≤ f ∧ f ≤ 100 ∧ ∀ p, p = e + f * (Hn (a + b + c + m) + 2) → K (.one (.at (vI p))) [] []
  | _, _ => False
noncomputable def aN8 : Ann C0 := { Γ := [(82, frameT [] tNeed)] }
theorem vc_getT (S : Arn) (i q : Int) (K : KT) (hs : List Int) (t : Tr) (hw : Wf S hs) (hr : Rep S t i) (ha : Asc t.list) (_ : t.size ≤ 1000000) (h2 : S.reads + t.size ≤ 3000000000000000000)
    (h : ∀ S' m o, S' = rdS S m → m ≤ ht t → o = getE t.list q → K (.tup [.at (vI (o.getD 0)), .at (vB o.isSome)]) (chS S') [0]) :
    vc C0 (aGetT S t q) Try.f18 [.at (.ptr 0 0), .at (vU i), .at (vI q)] (chS S) (normK 7 (wideK [0] K)) := by
  refine Eq.mp (show ((∃ x : XGe S t q, (True ∧ (True ∧ ((Value.int IntKind.i64 (q)) = (Value.int IntKind.i64 (q))) ∧ ((Value.int IntKind.u32 (i)) = (Value.int IntKind.u32 (x.i))) ∧ True) ∧ (True ∧ True ∧ True ∧ ((Value.int IntKind.u64 (S.reads)) = (Value.int IntKind.u64 ((rdS S x.m).reads))) ∧ True) ∧ (True ∧ True ∧ True ∧ ((Value.int IntKind.u32 (S.fresh)) = (Value.int IntKind.u32 ((rdS S x.m).fresh))) ∧ True) ∧ ((S.nodes) = ((rdS S x.m).nodes)) ∧ ((S.counts) = ((rdS S x.m).counts)) ∧ ((S.used) = ((rdS S x.m).used)) ∧ ((S.gen) = ((rdS S x.m).gen)) ∧ ((S.rel) = ((rdS S x.m).rel)) ∧ True)) ∧
(∀ x : XGe S t q, (True → (brS (x.i != 0) (((inU x.i) ∧ (exW (rdS S x.m)) ∧ ((rdS S x.m).reads < 4000000000000000000) ∧ (∀ S' : Arn, (((S') = (rdS (rdS S x.m) ((rdS S x.m).us x.i).toNat)) → (brS (!(rdS S x.m).us x.i) ((K (SV.tup [(TV.at (At.val (Value.int IntKind.i64 0))), (TV.at (At.val (Value.bool false)))]) [(Chunk.box [(At.ptr 1 0), (At.slc 2), (At.slc 3), (At.val (Value.int IntKind.u64 (S'.reads)))]), (Chunk.box [(At.slc 4), (At.slc 5), (At.slc 6), (At.val (Value.int IntKind.u32 (S'.fresh)))]), (Chunk.row true (EC.node) (S'.nodes)), (Chunk.row true (EC.int) (S'.counts)), (Chunk.row true (EC.bool) (S'.used)), (Chunk.row true (EC.u32) (S'.gen)), (Chunk.row true (EC.u32) (S'.rel))] [0])) ((brS (decide (q < ((rdS S x.m).nd x.i).key)) ((∃ x' : XGe S t q, (True ∧ ((True ∧ ((Value.int IntKind.i64 (q)) = (Value.int IntKind.i64 (q))) ∧
    ((Value.int IntKind.u32 (((rdS S x.m).nd x.i).left)) = (Value.int IntKind.u32 (x'.i))) ∧ True) ∧ (True ∧ True ∧ True ∧ ((Value.int IntKind.u64 (S'.reads)) = (Value.int IntKind.u64 ((rdS S x'.m).reads))) ∧ True) ∧ (True ∧ True ∧ True ∧ ((Value.int IntKind.u32 (S'.fresh)) = (Value.int IntKind.u32 ((rdS S x'.m).fresh))) ∧ True) ∧ ((S'.nodes) = ((rdS S x'.m).nodes)) ∧ ((S'.counts) = ((rdS S x'.m).counts)) ∧ ((S'.used) = ((rdS S x'.m).used)) ∧ ((S'.gen) = ((rdS S x'.m).gen)) ∧ ((S'.rel) = ((rdS S x'.m).rel)) ∧ True) ∧ (x'.t'.size < x.t'.size)))) ((brS (decide (q > ((rdS S x.m).nd x.i).key)) ((∃ x' : XGe S t q, (True ∧ ((True ∧ ((Value.int IntKind.i64 (q)) = (Value.int IntKind.i64 (q))) ∧ ((Value.int IntKind.u32 (((rdS S x.m).nd x.i).right)) = (Value.int IntKind.u32 (x'.i))) ∧ True) ∧ (True ∧ True ∧ True ∧ ((Value.int IntKind.u64 (S'.reads)) = (Value.int IntKind.u64 ((rdS S x'.m).reads))) ∧ True) ∧ (True ∧ True ∧ True ∧ ((Value.int IntKind.u32 (S'.fresh)) = (Value.int IntKind.u32 ((rdS S x'.m).fresh))) ∧ True) ∧ ((S'.nodes) = ((rdS S x'.m).nodes)) ∧ ((S'.counts) = ((rdS S x'.m).counts)) ∧ ((S'.used) = ((rdS S x'.m).used)) ∧ ((S'.gen) = ((rdS S x'.m).gen)) ∧ ((S'.rel) = ((rdS S x'.m).rel)) ∧ True) ∧ (x'.t'.size < x.t'.size))))
    ((K (SV.tup [(TV.at (At.val (Value.int IntKind.i64 (((rdS S x.m).nd x.i).value)))), (TV.at (At.val (Value.bool true)))]) [(Chunk.box [(At.ptr 1 0), (At.slc 2), (At.slc 3), (At.val (Value.int IntKind.u64 (S'.reads)))]), (Chunk.box [(At.slc 4), (At.slc 5), (At.slc 6), (At.val (Value.int IntKind.u32 (S'.fresh)))]), (Chunk.row true (EC.node) (S'.nodes)), (Chunk.row true (EC.int) (S'.counts)), (Chunk.row true (EC.bool) (S'.used)), (Chunk.row true (EC.u32) (S'.gen)), (Chunk.row true (EC.u32) (S'.rel))] [0]))))))))))) ((K (SV.tup [(TV.at (At.val (Value.int IntKind.i64 0))), (TV.at (At.val (Value.bool false)))]) [(Chunk.box [(At.ptr 1 0), (At.slc 2), (At.slc 3), (At.val (Value.int IntKind.u64 ((rdS S x.m).reads)))]), (Chunk.box [(At.slc 4), (At.slc 5), (At.slc 6), (At.val (Value.int IntKind.u32 ((rdS S x.m).fresh)))]), (Chunk.row true (EC.node) ((rdS S x.m).nodes)), (Chunk.row true (EC.int) ((rdS S x.m).counts)), (Chunk.row true (EC.bool) ((rdS S x.m).used)), (Chunk.row true (EC.u32) ((rdS S x.m).gen)), (Chunk.row true (EC.u32) ((rdS S x.m).rel))] [0])))))) = _ by kernel_rfl) ?_
  have hrd := hw.rds
  have hts := htr_size t
  refine ⟨⟨⟨i, t, 0, hr, rfl, ha, by omega, Nat.le_refl _⟩, ?_⟩, fun x _ => ?_⟩
  · (repeat' first | exact trivial | exact rfl | refine And.intro ?_ ?_)
    rw [rdS_zero]
  obtain ⟨xi, xt, xm, h1', h2', h3', h4', h5'⟩ := x
  dsimp only
  have hwx : Wf (rdS S xm) hs := hw.rd (by omega)
  refine brS_of (fun c => ?_) fun c => ?_
  · have c : xi ≠ 0 := by simpa using c
    cases xt with
    | nil => exact absurd h1' c
    | node l k v r =>
      obtain ⟨r1, r2, r3, r4, r5⟩ := h1'
      have q1 := ht_l l r k v
      have q2 := ht_r l r k v
      have hsz : l.size + r.size + 1 = (Tr.node l k v r).size := by simp [Tr.size]; omega
      have asc' : Asc (l.list ++ (k, v) :: r.list) := h3'
      obtain ⟨al, ar, _, _⟩ := asc_parts asc'
      refine ⟨inU_of hw (.inr r1), ⟨_, hwx⟩, by show S.reads + (xm : Int) < _; omega, fun S1 e1 => brS_of (fun d => ?_) fun _ => ?_⟩
      · have d : (!S.us xi) = true := d
        rw [r1] at d; cases d
      have e1 : S1 = rdS S (xm + 1) := by rw [e1, rdS_rdS]; show rdS S (xm + (S.us xi).toNat) = _; rw [r1]; rfl
      subst e1
      have ek : ((rdS S xm).nd xi).key = k := r2
      have ev : ((rdS S xm).nd xi).value = v := r3
      rw [ek]
      refine brS_of (fun d => ?_) fun d => brS_of (fun d2 => ?_) fun d2 => ?_
      · have d : q < k := of_decide_eq_true d
        refine ⟨⟨(S.nd xi).left, l, xm + 1, r4, by rw [h2']; exact getE_left asc' d, al, by omega, by omega⟩, ?_⟩
        (repeat' first | exact trivial | exact rfl | refine And.intro ?_ ?_)
        show l.size < (Tr.node l k v r).size; omega
      · have d2 : k < q := of_decide_eq_true d2
        refine ⟨⟨(S.nd xi).right, r, xm + 1, r5, by rw [h2']; exact getE_right asc' d2, ar, by omega, by omega⟩, ?_⟩
        (repeat' first | exact trivial | exact rfl | refine And.intro ?_ ?_)
        show r.size < (Tr.node l k v r).size; omega
      · have d : ¬ q < k := of_decide_eq_false d
        have d2 : ¬ k < q := of_decide_eq_false d2
        have eq : k = q := by omega
        subst eq
        rw [ev]
        exact h _ (xm + 1) (some v) rfl (by omega) (by rw [h2']; exact (getE_at asc').symm)
  · have c : xi = 0 := by simpa using c
    subst c
    have e := h1'.zero hw
    subst e
    exact h _ xm none rfl (by omega) (by rw [h2']; rfl)
theorem s_getT : SoundT C0 18 tGetT := by
  refine .ofW [0] Try.func18 (by decide) rfl fun args H K h hB => ?_
  unfold tGetT at h
  split at h <;> try exact h.elim
  unfold arM at h
  split at h <;> try exact h.elim
  rename_i i q _ rd fr nd ct us gn rl
  obtain ⟨hs, t, h1, h2, h3, h4, h5, h6⟩ := h
  exact ⟨aGetT ⟨us, gn, rl, fr, nd, ct, rd⟩ t q, ⟨frame C0.ok s_node _, trivial⟩, vc_getT ⟨us, gn, rl, fr, nd, ct, rd⟩ i q K hs t h1 h2 h3 h4 h5 h6⟩
theorem tdiv3 {x : Int} (h : 0 ≤ x) : x.tdiv 3 = x / 3 := Int.tdiv_eq_ediv_of_nonneg h
theorem Hn_top {n : Int} (h : 0 ≤ n) {k : Nat} (h1 : k ≤ 80) (h2 : wt k ≤ n + 1) (h3 : k = 80 ∨ n + 1 < wt (k + 1)) : (k : Int) = Hn n := by
  have e := gN_size n.toNat
  rw [show ((n.toNat : Nat) : Int) = n by omega] at e
  have a := gN_le (w := n.toNat + 1) h1 (by omega)
  have b := gN_wt (w := n.toNat + 1) (by omega)
  have c := gN_rng (n.toNat + 1)
  rcases h3 with h3 | h3
  · omega
  · by_cases d : k + 1 ≤ gN (n.toNat + 1)
    · have := wt_mono d c; omega
    · omega
theorem vc_mxh (n : Int) (K : KT) (h1 : 0 ≤ n) (h2 : n ≤ 1000000) (h : ∀ h, h = Hn n → K (.one (.at (vI h))) [] []) : vc C0 (aMxh n) Try.f150 [.at (vI n)] [] (normK 0 K) := by
  refine Eq.mp (show (brS (decide (n < 0)) ((K (SV.one (TV.at (At.val (Value.int IntKind.i64 (-1))))) [] [])) ((brS (decide (n > 2147483647)) ((K (SV.one (TV.at (At.val (Value.int IntKind.i64 (-1))))) [] [])) (((∃ x : XMx n, (True ∧ (((Value.int IntKind.i64 (n)) = (Value.int IntKind.i64 (n))) ∧ ((Value.int IntKind.i64 0) = (Value.int IntKind.i64 ((↑x.h : Int)))) ∧ ((Value.int IntKind.i64 1) = (Value.int IntKind.i64 (wt x.h))) ∧ True) ∧ True)) ∧ (∀ x : XMx n, (True → (brS (decide ((↑x.h : Int) < 80)) ((brS (decide (IntKind.i64.wrap (IntKind.i64.wrap (wt x.h + IntKind.i64.wrap ((IntKind.i64.wrap (wt x.h + 2)).tdiv 3)) - 1) > n)) ((K (SV.one (TV.at (At.val (Value.int IntKind.i64 ((↑x.h : Int)))))) [] [])) ((∃ x' : XMx n, (True ∧ ((((Value.int IntKind.i64 (n)) = (Value.int IntKind.i64 (n))) ∧ ((Value.int IntKind.i64 (IntKind.i64.wrap ((↑x.h : Int) + 1))) = (Value.int IntKind.i64 ((↑x'.h : Int)))) ∧ ((Value.int IntKind.i64 (IntKind.i64.wrap (wt x.h + IntKind.i64.wrap ((IntKind.i64.wrap (wt x.h + 2)).tdiv 3)))) = (Value.int IntKind.i64 (wt x'.h))) ∧ True) ∧ True) ∧ (80 - x'.h < 80 - x.h)))))) ((K (SV.one (TV.at (At.val (Value.int IntKind.i64 ((↑x.h : Int)))))) [] [])))))))))) = _ by kernel_rfl) ?_
  refine brS_of (fun c => by have := of_decide_eq_true c; omega) fun _ => brS_of (fun c => by have : n > 2147483647 := of_decide_eq_true c; omega) fun _ => ⟨⟨⟨0, by decide, by rw [w0]; omega⟩, ?_⟩, fun x _ => brS_of (fun c => ?_) fun c => ?_⟩
  · (repeat' first | exact trivial | exact rfl | refine And.intro ?_ ?_)
  · obtain ⟨k, p1, p2⟩ := x
    have c : (k : Int) < 80 := of_decide_eq_true c
    have c : k < 80 := by omega
    have st := wt_step k c
    have lo : 1 ≤ wt k := by have := wt_mono (Nat.zero_le k) p1; rw [w0] at this; exact this
    dsimp only
    rw [wrap_id (x := wt k + 2) (by omega) (by omega), tdiv3 (by omega), wrap_id (x := (wt k + 2) / 3) (by omega) (by omega), wrap_id (x := wt k + (wt k + 2) / 3) (by omega) (by omega), wrap_id (x := wt k + (wt k + 2) / 3 - 1) (by omega) (by omega), ← st]
    refine brS_of (fun d => ?_) fun d => ?_
    · have d : wt (k + 1) - 1 > n := of_decide_eq_true d
      exact h _ (Hn_top h1 p1 p2 (.inr (by omega)))
    · have d : ¬ wt (k + 1) - 1 > n := of_decide_eq_false d
      refine ⟨⟨k + 1, c, by omega⟩, ?_⟩
      (repeat' first | exact trivial | exact rfl | refine And.intro ?_ ?_)
      · rw [wrap_id (x := (k : Int) + 1) (by omega) (by omega)]; congr 1
      · show 80 - (k + 1) < 80 - k; omega
  · obtain ⟨k, p1, p2⟩ := x
    have c : ¬ (k : Int) < 80 := of_decide_eq_false c
    have c : k = 80 := by omega
    exact h _ (Hn_top h1 p1 p2 (.inl c))
theorem s_mxh : SoundT C0 150 tMxh := by
  refine .of Try.func150 (by decide) rfl fun args H K h hB => ?_
  unfold tMxh at h
  split at h <;> try exact h.elim
  rename_i n
  exact ⟨aMxh n, trivial, vc_mxh n K h.1 h.2.1 h.2.2⟩
theorem vc_vld (l : List Int) (K : KT) (h1 : okI l) (h2 : l.length ≤ 100) (h : K (.one (.at (vB true))) [.row false EC.int l] []) : vc C0 (aVld l) Try.f126 [.at (.slc 0)] [.row false EC.int l] (normK 1 K) := by
  refine Eq.mp (show ((∃ x : XVd l, (True ∧ (True ∧ ((Value.int IntKind.i64 ((↑l.length : Int))) = (Value.int IntKind.i64 ((↑l.length : Int)))) ∧ ((Value.int IntKind.i64 0) = (Value.int IntKind.i64 ((↑x.i : Int)))) ∧ True) ∧ ((l) = (l)) ∧ True)) ∧
(∀ x : XVd l, (True → (brS (decide ((↑x.i : Int) < (↑l.length : Int))) (((0 ≤ (↑x.i : Int)) ∧ ((↑x.i : Int) < (↑l.length : Int)) ∧ (brS (decide (l.getD (↑x.i : Int).toNat 0 < 0)) ((K (SV.one (TV.at (At.val (Value.bool false)))) [(Chunk.row false (EC.int) (l))] [])) ((brS (decide (l.getD (↑x.i : Int).toNat 0 > 65536)) ((K (SV.one (TV.at (At.val (Value.bool false)))) [(Chunk.row false (EC.int) (l))] [])) ((∃ x' : XVd l, (True ∧ ((True ∧ ((Value.int IntKind.i64 ((↑l.length : Int))) = (Value.int IntKind.i64 ((↑l.length : Int)))) ∧ ((Value.int IntKind.i64 (IntKind.i64.wrap ((↑x.i : Int) + 1))) = (Value.int IntKind.i64 ((↑x'.i : Int)))) ∧ True) ∧ ((l) = (l)) ∧ True) ∧ (l.length - x'.i < l.length - x.i))))))))) ((K (SV.one (TV.at (At.val (Value.bool true)))) [(Chunk.row false (EC.int) (l))] [])))))) = _ by kernel_rfl) ?_
  refine ⟨⟨⟨0, Nat.zero_le _⟩, ?_⟩, fun x _ => brS_of (fun c => ?_) fun c => h⟩
  · (repeat' first | exact trivial | exact rfl | refine And.intro ?_ ?_)
  · obtain ⟨i, hi⟩ := x
    have c : (i : Int) < l.length := of_decide_eq_true c
    have c : i < l.length := by omega
    obtain ⟨a, b⟩ := h1 i c
    refine ⟨by omega, by omega, brS_of (fun d => ?_) fun _ => brS_of (fun d => ?_) fun _ => ⟨⟨i + 1, c⟩, ?_⟩⟩
    · have d : l.getD i 0 < 0 := of_decide_eq_true d
      omega
    · have d : l.getD i 0 > 65536 := of_decide_eq_true d
      omega
    · (repeat' first | exact trivial | exact rfl | refine And.intro ?_ ?_)
      · rw [wrap_id (x := (i : Int) + 1) (by omega) (by omega)]; congr 1
      · show l.length - (i + 1) < l.length - i; omega
theorem s_vld : SoundT C0 126 tVld := by
  refine .of Try.func126 (by decide) rfl fun args H K h hB => ?_
  unfold tVld at h
  split at h <;> try exact h.elim
  rename_i l
  exact ⟨aVld l, trivial, vc_vld l K h.1 h.2.1 h.2.2⟩
theorem s_path : SoundT C0 127 tPath := by
  refine .of Try.func127 (by decide) rfl fun args H K h hB => ?_
  unfold tPath at h
  split at h <;> try exact h.elim
  rename_i f n
  obtain ⟨h1, h2, h3, h4, h5⟩ := h
  refine ⟨aPath, ⟨frame C0.ok s_mxh _, trivial⟩, Eq.mp (show ((0 ≤ n) ∧
(n ≤ 1000000) ∧
(∀ h : Int, (((h) = (Hn n)) → (K (SV.one (TV.at (At.val (Value.int IntKind.i64 (IntKind.i64.wrap (f * IntKind.i64.wrap (h + 2))))))) [] [])))) = _ by kernel_rfl) ⟨h3, h4, fun p e => ?_⟩⟩
  have r := Hn_rng n
  subst e
  have hb : f * (Hn n + 2) ≤ 100 * 82 := Int.mul_le_mul h2 (by omega) (by omega) (by omega)
  have ha : 0 ≤ f * (Hn n + 2) := Int.mul_nonneg h1 (by omega)
  rw [wrap_id (x := Hn n + 2) (by omega) (by omega), wrap_id (x := f * (Hn n + 2)) (by omega) (by omega)]
  exact h5 _ rfl
theorem okI_one {n : Int} (h1 : 0 ≤ n) (h2 : n ≤ 65536) : okI [n] := by
  intro i hi
  have : i = 0 := by simpa using hi
  subst this
  exact ⟨h1, h2⟩
theorem s_rIns : SoundT C0 104 (tRes1 4 1) := by
  refine .of Try.func104 (by decide) rfl fun args H K h hB => ?_
  unfold tRes1 at h
  split at h <;> try exact h.elim
  rename_i n
  obtain ⟨h1, h2, h3⟩ := h
  refine ⟨aRes, ⟨frame C0.ok s_vld _, frame C0.ok s_path _, trivial⟩, Eq.mp (show ((okI [n]) ∧
([n].length ≤ 100) ∧
((0 : Int) ≤ 4) ∧
((4 : Int) ≤ 100) ∧
(0 ≤ IntKind.i64.wrap (n + 1)) ∧
(IntKind.i64.wrap (n + 1) ≤ 1000000) ∧
(∀ p : Int, (((p) = (4 * (Hn (IntKind.i64.wrap (n + 1)) + 2))) → (K (SV.one (TV.at (At.val (Value.int IntKind.i64 (p))))) [] [])))) = _ by kernel_rfl) ?_⟩
  rw [wrap_id (x := n + 1) (by omega) (by omega)]
  exact ⟨okI_one h1 h2, by simp, by decide, by decide, by omega, by omega, h3⟩
theorem s_rDel : SoundT C0 101 (tRes1 4 0) := by
  refine .of Try.func101 (by decide) rfl fun args H K h hB => ?_
  unfold tRes1 at h
  split at h <;> try exact h.elim
  rename_i n
  obtain ⟨h1, h2, h3⟩ := h
  refine ⟨aRes, ⟨frame C0.ok s_vld _, frame C0.ok s_path _, trivial⟩, Eq.mp (show ((okI [n]) ∧
([n].length ≤ 100) ∧
((0 : Int) ≤ 4) ∧
((4 : Int) ≤ 100) ∧
(0 ≤ n) ∧
(n ≤ 1000000) ∧
(∀ p : Int, (((p) = (4 * (Hn n + 2))) → (K (SV.one (TV.at (At.val (Value.int IntKind.i64 (p))))) [] [])))) = _ by kernel_rfl) ?_⟩
  exact ⟨okI_one h1 h2, by simp, by decide, by decide, by omega, by omega, fun p e => h3 p (by rw [e, Int.add_zero])⟩
theorem s_need : SoundT C0 82 tNeed := by
  refine .of Try.func82 (by decide) rfl fun args H K h hB => ?_
  unfold tNeed at h
  split at h <;> try exact h.elim
  rename_i a b c m e f
  obtain ⟨a1, a2, b1, b2, c1, c2, m1, m2, e1, e2, f1, f2, h⟩ := h
  refine ⟨aNeed, ⟨frame C0.ok s_mh _, trivial⟩, Eq.mp (show (brS (decide (a < 0)) ((K (SV.one (TV.at (At.val (Value.int IntKind.i64 (-1))))) [] [])) ((brS (decide (a > 65536)) ((K (SV.one (TV.at (At.val (Value.int IntKind.i64 (-1))))) [] [])) ((brS (decide (b < 0)) ((K (SV.one (TV.at (At.val (Value.int IntKind.i64 (-1))))) [] [])) ((brS (decide (b > 65536)) ((K (SV.one (TV.at (At.val (Value.int IntKind.i64 (-1))))) [] [])) ((brS (decide (c < 0)) ((K (SV.one (TV.at (At.val (Value.int IntKind.i64 (-1))))) [] [])) ((brS (decide (c > 65536)) ((K (SV.one (TV.at (At.val (Value.int IntKind.i64 (-1))))) [] [])) (((0 ≤ IntKind.i64.wrap (IntKind.i64.wrap (IntKind.i64.wrap (a + b) + c) + m)) ∧ (IntKind.i64.wrap (IntKind.i64.wrap (IntKind.i64.wrap (a + b) + c) + m) ≤ 2147483647) ∧ (∀ h : Int, (((h) = (Hn (IntKind.i64.wrap (IntKind.i64.wrap (IntKind.i64.wrap (a + b) + c) + m)))) → (K (SV.one (TV.at (At.val (Value.int IntKind.i64 (IntKind.i64.wrap (e + IntKind.i64.wrap (f * IntKind.i64.wrap (h + 2)))))))) [] [])))))))))))))))) = _ by kernel_rfl) ?_⟩
  rw [wrap_id (x := a + b) (by omega) (by omega), wrap_id (x := a + b + c) (by omega) (by omega), wrap_id (x := a + b + c + m) (by omega) (by omega)]
  refine brS_of (fun q => by have := of_decide_eq_true q; omega) fun _ => brS_of (fun q => by have : a > 65536 := of_decide_eq_true q; omega) fun _ => brS_of (fun q => by have := of_decide_eq_true q; omega) fun _ => brS_of (fun q => by have : b > 65536 := of_decide_eq_true q; omega) fun _ =>
    brS_of (fun q => by have := of_decide_eq_true q; omega) fun _ => brS_of (fun q => by have : c > 65536 := of_decide_eq_true q; omega) fun _ => ⟨by omega, by omega, fun p ep => ?_⟩
  have r := Hn_rng (a + b + c + m)
  subst ep
  have hb : f * (Hn (a + b + c + m) + 2) ≤ 100 * 82 := Int.mul_le_mul f2 (by omega) (by omega) (by omega)
  have ha : 0 ≤ f * (Hn (a + b + c + m) + 2) := Int.mul_nonneg f1 (by omega)
  rw [wrap_id (x := Hn (a + b + c + m) + 2) (by omega) (by omega), wrap_id (x := f * (Hn (a + b + c + m) + 2)) (by omega) (by omega), wrap_id (by omega) (by omega)]
  exact h _ rfl
theorem s_nIns : SoundT C0 55 (tRes1 4 1) := by
  refine .of Try.func55 (by decide) rfl fun args H K h hB => ?_
  unfold tRes1 at h
  split at h <;> try exact h.elim
  rename_i n
  obtain ⟨h1, h2, h3⟩ := h
  refine ⟨aN8, ⟨frame C0.ok s_need _, trivial⟩, Eq.mp (show ((0 ≤ n) ∧
(n ≤ 65536) ∧
((0 : Int) ≤ 0) ∧
((0 : Int) ≤ 65536) ∧
((0 : Int) ≤ 0) ∧
((0 : Int) ≤ 65536) ∧
((0 : Int) ≤ 1) ∧
((1 : Int) ≤ 10) ∧
((0 : Int) ≤ 0) ∧
((0 : Int) ≤ 200000) ∧
((0 : Int) ≤ 4) ∧
((4 : Int) ≤ 100) ∧
(∀ p : Int, (((p) = (0 + 4 * (Hn (n + 0 + 0 + 1) + 2))) → (K (SV.one (TV.at (At.val (Value.int IntKind.i64 (p))))) [] [])))) = _ by kernel_rfl) ?_⟩
  exact ⟨h1, h2, by decide, by decide, by decide, by decide, by decide, by decide, by decide, by decide, by decide, by decide, fun p e => h3 p (by rw [e]; simp)⟩
end Go.Proofs.Ytbonbaccmlomhaa.Sx
end
section
/- setops: Union, Intersect, Subtract, Exclusive. -/
namespace Go.Proofs.Ytbonbaccmlomhaa.Sx
open Go

/-KEEP Wf exW inU live Arn.cap Arn.free Rep Kept rdS retL Tr.size Tr.list Tr.Bal TrR Got flt getE Asc SetR StM rdW dW chooseP fUni fInt gSub gExc Hn-/
def tValidS : Tfm C0 := fun args H K => match args, H with
  | [.at (.val (.int .i64 p))], [] => ∀ b, b = decide (1 ≤ p ∧ p ≤ 5) → K (.one (.at (vB b))) [] []
  | _, _ => False
def tResS : Tfm C0 := fun args H K => match args, H with
  | [.at (.val (.int .i64 n)), .at (.val (.int .i64 m))], [] => 0 ≤ n ∧ n ≤ 65536 ∧ 0 ≤ m ∧ m ≤ 65536 ∧ ∀ p, p = n + m + 12 * (Hn (n + m) + 2) → K (.one (.at (vI p))) [] []
  | _, _ => False
structure OpM (S : Arn) (hs : List Int) (tx ty : Tr) (x y : Int) : Prop where
  wf : Wf S hs
  rx : Rep S tx x
  ry : Rep S ty y
  bx : tx.Bal
  bY : ty.Bal
  ax : Asc tx.list
  ay : Asc ty.list
  sx : tx.size ≤ 65536
  sy : ty.size ≤ 65536
  hl : hs.length ≤ 900000
  rd : S.reads ≤ 900000000000000000
def needS (tx ty : Tr) : Int := (tx.size : Int) + ty.size + 12 * (Hn ((tx.size : Int) + ty.size) + 2)
def tRoomS : Tfm C0 := fun args H K => match args with
  | [.at (.ptr 0 0), .at (.val (.int .u32 x)), .at (.val (.int .u32 y))] => arM H fun S => ∃ hs tx ty, OpM S hs tx ty x y ∧ ∀ S' m b, S' = rdS S m → m ≤ 2 → b = decide (needS tx ty ≤ S.free) → K (.one (.at (vB b))) (chS S') [0]
  | _ => False
noncomputable def aRoomS : Ann C0 := { Γ := [(49, frameT [] tSize), (111, frameT [] tResS), (95, frameT [] tRoom)] }
/-- What an operation answers: f at every key; whole tells that nothing is to do, res is the answer then. -/
def SoR (f : Int → Option Int → Option Int → Option Int) (whole : Int → Int → Int → Prop) (res : Int → Int → Int) (S : Arn) (hs : List Int) (tx ty : Tr) (x y p : Int) (S' : Arn) (i e : Int) : Prop :=
  (whole x y p ∧ e = 0 ∧ i = res x y ∧ S' = retL S (res x y)) ∨
  (¬ whole x y p ∧ S.free < needS tx ty ∧ e = 2 ∧ i = 0 ∧ ∃ m, m ≤ 2 ∧ S' = rdS S m) ∨
  (¬ whole x y p ∧ needS tx ty ≤ S.free ∧ e = 0 ∧ ∃ L, SetR (f p) tx.list ty.list L ∧ TrR S hs L 65537 2000000000 S' i)
def whU (x y p : Int) : Prop := x = 0 ∨ y = 0 ∨ (x = y ∧ p ≠ 3)
def reU (x y : Int) : Int := if y = 0 then x else if x = y then x else y
def reI (x y : Int) : Int := if x = 0 ∨ y = 0 then 0 else x
def whS (x y _ : Int) : Prop := x = 0 ∨ y = 0 ∨ x = y
def reS (x y : Int) : Int := if x = 0 ∨ x = y then 0 else x
def reE (x y : Int) : Int := if x = y then 0 else if x = 0 then y else x
noncomputable def aSo (g : FuncId) (f : Int → Option Int → Option Int → Option Int) : Ann C0 := { Γ := [(70, frameT [] tValidS), (71, frameT [] tHold), (72, frameT [] tRoomS), (g, frameT [] (tWk f 1000000))] }
/-- With a policy. -/
def tSoP (f : Int → Option Int → Option Int → Option Int) (whole : Int → Int → Int → Prop) (res : Int → Int → Int) : Tfm C0 := fun args H K => match args with
  | [.at (.ptr 0 0), .at (.val (.int .u32 x)), .at (.val (.int .u32 y)), .at (.val (.int .i64 p))] => arM H fun S => ∃ hs tx ty, OpM S hs tx ty x y ∧
    (¬ (1 ≤ p ∧ p ≤ 5) → K (.tup [.at (vU 0), .at (vI 1)]) (chS S) W7) ∧ (1 ≤ p → p ≤ 5 → ∀ S' i e, SoR f whole res S hs tx ty x y p S' i e → K (.tup [.at (vU i), .at (vI e)]) (chS S') W7)
  | _ => False
/-- Without one. -/
def tSoN (f : Int → Option Int → Option Int → Option Int) (whole : Int → Int → Int → Prop) (res : Int → Int → Int) : Tfm C0 := fun args H K => match args with
  | [.at (.ptr 0 0), .at (.val (.int .u32 x)), .at (.val (.int .u32 y))] => arM H fun S => ∃ hs tx ty, OpM S hs tx ty x y ∧ ∀ S' i e, SoR f whole res S hs tx ty x y 1 S' i e → K (.tup [.at (vU i), .at (vI e)]) (chS S') W7
  | _ => False
end Go.Proofs.Ytbonbaccmlomhaa.Sx
end
section
/- update.Insert, Delete, Increase. -/
namespace Go.Proofs.Ytbonbaccmlomhaa.Sx
open Go

/-KEEP Wf exW inU live Arn.free Rep rdS retL Tr.size Tr.list Tr.Bal getE Asc ht Hn gN iB dB insE flt neK hasK TrR Got-/
def tIn : Tfm C0 := fun args H K => match args with
  | [.at (.ptr 0 0), .at (.val (.int .u32 i)), .agg [.val (.int .i64 k), .val (.int .i64 v)]] => arM H fun S => ∃ hs t, Wf S (i :: hs) ∧ Rep S t i ∧ t.Bal ∧ Asc t.list ∧ t.size ≤ 700000 ∧ (iB t.size : Int) ≤ S.free ∧ hs.length ≤ 500000000 ∧ S.reads + 5 * iB t.size ≤ 1600000000000000000 ∧
    ∀ S' j, TrR S hs (insE t.list (k, v)) (iB t.size) (5 * iB t.size) S' j → K (.one (.at (vU j))) (chS S') W7
  | _ => False
theorem s_in : SoundT C0 105 tIn := (s_insr 1000000).weak fun args H K h => by
  unfold tIn at h
  unfold tInsT
  split at h <;> try exact h.elim
  unfold arM at h ⊢
  split at h <;> try exact h.elim
  obtain ⟨hs, t, h1, h2, h3, h4, h6, h7, h8, h9, h10⟩ := h
  exact ⟨hs, t, h1, h2, h3, h4, by omega, h6, h7, by omega, h9, h10⟩
def tDe : Tfm C0 := fun args H K => match args with
  | [.at (.ptr 0 0), .at (.val (.int .u32 i)), .at (.val (.int .i64 key))] => arM H fun S => ∃ hs t, Wf S (i :: hs) ∧ Rep S t i ∧ t.Bal ∧ Asc t.list ∧ t.size ≤ 700000 ∧ hasK t.list key ∧ (dB t.size : Int) ≤ S.free ∧ hs.length ≤ 200000000 ∧ S.reads + 5 * dB t.size ≤ 1500000000000000000 ∧
    ∀ S' j, TrR S hs (flt (neK key) t.list) (dB t.size) (5 * dB t.size) S' j → K (.one (.at (vU j))) (chS S') W7
  | _ => False
theorem s_de : SoundT C0 102 tDe := (s_dlt 1000000).weak fun args H K h => by
  unfold tDe at h
  unfold tDlt
  split at h <;> try exact h.elim
  unfold arM at h ⊢
  split at h <;> try exact h.elim
  obtain ⟨hs, t, h1, h2, h3, h4, h6, h7, h8, h9, h10, h11⟩ := h
  exact ⟨hs, t, h1, h2, h3, h4, by omega, h6, h7, h8, by omega, h10, h11⟩
/-- What an update of a held tree starts from. -/
def upM (S : Arn) (hs : List Int) (t : Tr) (root : Int) : Prop := Wf S hs ∧ Rep S t root ∧ t.Bal ∧ Asc t.list ∧ t.size ≤ 60000 ∧ hs.length ≤ 100000000 ∧ S.reads ≤ 1000000000000000000
noncomputable def aUpI : Ann C0 := { Γ := [(18, frameT [] tGetT), (71, frameT [] tHold), (49, frameT [] tSize), (104, frameT [] (tRes1 4 1)), (95, frameT [] tRoom), (105, frameT [] tIn)] }
def tUpI : Tfm C0 := fun args H K => match args with
  | [.at (.ptr 0 0), .at (.val (.int .u32 r)), .agg [.val (.int .i64 k), .val (.int .i64 v)]] => arM H fun S => ∃ hs t, upM S hs t r ∧
    (getE t.list k = some v → ∀ S' m, S' = retL (rdS S m) r → m ≤ ht t → K (.tup [.at (vU r), .at (vI v), .at (vB true), .at (vI 0)]) (chS S') W7) ∧
    (getE t.list k ≠ some v → S.free < 4 * (Hn (t.size + 1) + 2) → ∀ S' m, S' = rdS S m → m ≤ ht t + 1 → K (.tup [.at (vU 0), .at (vI 0), .at (vB false), .at (vI 2)]) (chS S') W7) ∧
    (getE t.list k ≠ some v → 4 * (Hn (t.size + 1) + 2) ≤ S.free → ∀ S' j (o : Option Int), o = getE t.list k → TrR S hs (insE t.list (k, v)) (iB t.size) (5 * iB t.size + ht t + 1) S' j → K (.tup [.at (vU j), .at (vI (o.getD 0)), .at (vB o.isSome), .at (vI 0)]) (chS S') W7)
  | _ => False
noncomputable def aUpD : Ann C0 := { Γ := [(18, frameT [] tGetT), (71, frameT [] tHold), (49, frameT [] tSize), (101, frameT [] (tRes1 4 0)), (95, frameT [] tRoom), (102, frameT [] tDe)] }
def tUpD : Tfm C0 := fun args H K => match args with
  | [.at (.ptr 0 0), .at (.val (.int .u32 r)), .at (.val (.int .i64 k))] => arM H fun S => ∃ hs t, upM S hs t r ∧
    (getE t.list k = none → ∀ S' m, S' = rdS S m → m ≤ ht t → K (.tup [.at (vU 0), .at (vI 0), .at (vI 4)]) (chS S') W7) ∧
    (∀ v, getE t.list k = some v → S.free < 4 * (Hn t.size + 2) → ∀ S' m, S' = rdS S m → m ≤ ht t + 1 → K (.tup [.at (vU 0), .at (vI 0), .at (vI 2)]) (chS S') W7) ∧
    (∀ v, getE t.list k = some v → 4 * (Hn t.size + 2) ≤ S.free → ∀ S' j, TrR S hs (flt (neK k) t.list) (dB t.size) (5 * dB t.size + ht t + 1) S' j → K (.tup [.at (vU j), .at (vI v), .at (vI 0)]) (chS S') W7)
  | _ => False
theorem Hn_mono1 (n : Nat) : Hn n ≤ Hn ((n : Int) + 1) := by
  have a := gN_size n
  have b := gN_size (n + 1)
  have c := gN_mono (v := n + 1) (w := n + 1 + 1) (by omega) (by omega)
  rw [show ((n + 1 : Nat) : Int) = (n : Int) + 1 by omega] at b
  omega
theorem retL_free (S : Arn) (i : Int) : (retL S i).free = S.free := by unfold retL; split <;> rfl
theorem us_one (b : Bool) : b.toNat ≤ 1 := by cases b <;> decide
theorem iB_Hn (n : Nat) : (iB n : Int) = 4 * Hn n + 1 := by have := gN_size n; unfold iB; omega
theorem dB_Hn (n : Nat) : (dB n : Int) ≤ 4 * Hn n + 4 := by have := gN_size n; have := dB_le n; omega
theorem vc_upI (S : Arn) (r k v : Int) (K : KT) (hs : List Int) (t : Tr) (hm : upM S hs t r)
    (h1 : getE t.list k = some v → ∀ S' m, S' = retL (rdS S m) r → m ≤ ht t → K (.tup [.at (vU r), .at (vI v), .at (vB true), .at (vI 0)]) (chS S') W7)
    (h2 : getE t.list k ≠ some v → S.free < 4 * (Hn (t.size + 1) + 2) → ∀ S' m, S' = rdS S m → m ≤ ht t + 1 → K (.tup [.at (vU 0), .at (vI 0), .at (vB false), .at (vI 2)]) (chS S') W7)
    (h3 : getE t.list k ≠ some v → 4 * (Hn (t.size + 1) + 2) ≤ S.free → ∀ S' j (o : Option Int), o = getE t.list k → TrR S hs (insE t.list (k, v)) (iB t.size) (5 * iB t.size + ht t + 1) S' j → K (.tup [.at (vU j), .at (vI (o.getD 0)), .at (vB o.isSome), .at (vI 0)]) (chS S') W7) :
    vc C0 aUpI Try.f59 [.at (.ptr 0 0), .at (vU r), .agg [vI k, vI v]] (chS S) (normK 7 (wideK W7 K)) := by
  refine Eq.mp (show (∃ hs : List Int, (∃ t : Tr, ((Wf S hs) ∧ (Rep S t r) ∧ (Asc t.list) ∧ (t.size ≤ 1000000) ∧ (S.reads + (↑t.size : Int) ≤ 3000000000000000000) ∧ (∀ S' : Arn, (∀ m : Nat, (∀ o : Option Int, (((S') = (rdS S m)) → ((m ≤ ht t) → (((o) = (getE t.list k)) → (brS (o.isSome) ((brS (o.getD 0 == v) (((live S' r) ∧ (exW S') ∧ (∀ S'1 : Arn, (((S'1) = (retL S' r)) → (K (SV.tup [(TV.at (At.val (Value.int IntKind.u32 (r)))), (TV.at (At.val (Value.int IntKind.i64 (o.getD 0)))), (TV.at (At.val (Value.bool true))), (TV.at (At.val (Value.int IntKind.i64 0)))]) [(Chunk.box [(At.ptr 1 0), (At.slc 2), (At.slc 3), (At.val (Value.int IntKind.u64 (S'1.reads)))]), (Chunk.box [(At.slc 4), (At.slc 5), (At.slc 6), (At.val (Value.int IntKind.u32 (S'1.fresh)))]), (Chunk.row true (EC.node) (S'1.nodes)), (Chunk.row true (EC.int) (S'1.counts)), (Chunk.row true (EC.bool) (S'1.used)), (Chunk.row true (EC.u32) (S'1.gen)), (Chunk.row true (EC.u32) (S'1.rel))] [0, 1, 2, 3, 4, 5, 6]))))) (((inU r) ∧ (exW S') ∧ (S'.reads < 4000000000000000000) ∧ (∀ S'1 : Arn, (((S'1) = (rdS S' (S'.us r).toNat)) → ((0 ≤ (S'.nd r).size) ∧ ((S'.nd r).size ≤ 65536) ∧ (∀ p : Int, (((p) = (4 * (Hn ((S'.nd r).size + 1) + 2))) → ((exW S'1) ∧ (∀ b : Bool, (((b) = (decide (0 ≤ p) && decide (p ≤ S'1.free))) → (brS (!b)
    ((K (SV.tup [(TV.at (At.val (Value.int IntKind.u32 0))), (TV.at (At.val (Value.int IntKind.i64 0))), (TV.at (At.val (Value.bool false))), (TV.at (At.val (Value.int IntKind.i64 2)))]) [(Chunk.box [(At.ptr 1 0), (At.slc 2), (At.slc 3), (At.val (Value.int IntKind.u64 (S'1.reads)))]), (Chunk.box [(At.slc 4), (At.slc 5), (At.slc 6), (At.val (Value.int IntKind.u32 (S'1.fresh)))]), (Chunk.row true (EC.node) (S'1.nodes)), (Chunk.row true (EC.int) (S'1.counts)), (Chunk.row true (EC.bool) (S'1.used)), (Chunk.row true (EC.u32) (S'1.gen)), (Chunk.row true (EC.u32) (S'1.rel))] [0, 1, 2, 3, 4, 5, 6])) ((((live S'1 r) ∧ (exW S'1) ∧ (∀ S'2 : Arn, (((S'2) = (retL S'1 r)) → (∃ hs1 : List Int, (∃ t1 : Tr, ((Wf S'2 (r :: hs1)) ∧ (Rep S'2 t1 r) ∧ (t1.Bal) ∧ (Asc t1.list) ∧ (t1.size ≤ 700000) ∧ ((↑(iB t1.size) : Int) ≤ S'2.free) ∧ (hs1.length ≤ 500000000) ∧ (S'2.reads + 5 * (↑(iB t1.size) : Int) ≤ 1600000000000000000) ∧ (∀ S'3 : Arn, (∀ j : Int, ((TrR S'2 hs1 (insE t1.list (k, v)) (iB t1.size) (5 * iB t1.size) S'3 j) →
    (K (SV.tup [(TV.at (At.val (Value.int IntKind.u32 (j)))), (TV.at (At.val (Value.int IntKind.i64 (o.getD 0)))), (TV.at (At.val (Value.bool (o.isSome)))), (TV.at (At.val (Value.int IntKind.i64 0)))]) [(Chunk.box [(At.ptr 1 0), (At.slc 2), (At.slc 3), (At.val (Value.int IntKind.u64 (S'3.reads)))]), (Chunk.box [(At.slc 4), (At.slc 5), (At.slc 6), (At.val (Value.int IntKind.u32 (S'3.fresh)))]), (Chunk.row true (EC.node) (S'3.nodes)), (Chunk.row true (EC.int) (S'3.counts)), (Chunk.row true (EC.bool) (S'3.used)), (Chunk.row true (EC.u32) (S'3.gen)), (Chunk.row true (EC.u32) (S'3.rel))] [0, 1, 2, 3, 4, 5, 6])))))))))) ∧ (live S'1 r) ∧ (exW S'1) ∧ (∀ S'2 : Arn, (((S'2) = (retL S'1 r)) → (∃ hs1 : List Int, (∃ t1 : Tr, ((Wf S'2 (r :: hs1)) ∧ (Rep S'2 t1 r) ∧ (t1.Bal) ∧ (Asc t1.list) ∧ (t1.size ≤ 700000) ∧ ((↑(iB t1.size) : Int) ≤ S'2.free) ∧ (hs1.length ≤ 500000000) ∧ (S'2.reads + 5 * (↑(iB t1.size) : Int) ≤ 1600000000000000000) ∧ (∀ S'3 : Arn, (∀ j : Int, ((TrR S'2 hs1 (insE t1.list (k, v)) (iB t1.size) (5 * iB t1.size) S'3 j) →
    (K (SV.tup [(TV.at (At.val (Value.int IntKind.u32 (j)))), (TV.at (At.val (Value.int IntKind.i64 (o.getD 0)))), (TV.at (At.val (Value.bool (o.isSome)))), (TV.at (At.val (Value.int IntKind.i64 0)))]) [(Chunk.box [(At.ptr 1 0), (At.slc 2), (At.slc 3), (At.val (Value.int IntKind.u64 (S'3.reads)))]), (Chunk.box [(At.slc 4), (At.slc 5), (At.slc 6), (At.val (Value.int IntKind.u32 (S'3.fresh)))]), (Chunk.row true (EC.node) (S'3.nodes)), (Chunk.row true (EC.int) (S'3.counts)), (Chunk.row true (EC.bool) (S'3.used)), (Chunk.row true (EC.u32) (S'3.gen)), (Chunk.row true (EC.u32) (S'3.rel))] [0, 1, 2, 3, 4, 5, 6])))))))))))))))))))))))) (((inU r) ∧ (exW S') ∧ (S'.reads < 4000000000000000000) ∧ (∀ S'1 : Arn, (((S'1) = (rdS S' (S'.us r).toNat)) → ((0 ≤ (S'.nd r).size) ∧ ((S'.nd r).size ≤ 65536) ∧ (∀ p : Int, (((p) = (4 * (Hn ((S'.nd r).size + 1) + 2))) → ((exW S'1) ∧ (∀ b : Bool, (((b) = (decide (0 ≤ p) && decide (p ≤ S'1.free))) → (brS (!b)
    ((K (SV.tup [(TV.at (At.val (Value.int IntKind.u32 0))), (TV.at (At.val (Value.int IntKind.i64 0))), (TV.at (At.val (Value.bool false))), (TV.at (At.val (Value.int IntKind.i64 2)))]) [(Chunk.box [(At.ptr 1 0), (At.slc 2), (At.slc 3), (At.val (Value.int IntKind.u64 (S'1.reads)))]), (Chunk.box [(At.slc 4), (At.slc 5), (At.slc 6), (At.val (Value.int IntKind.u32 (S'1.fresh)))]), (Chunk.row true (EC.node) (S'1.nodes)), (Chunk.row true (EC.int) (S'1.counts)), (Chunk.row true (EC.bool) (S'1.used)), (Chunk.row true (EC.u32) (S'1.gen)), (Chunk.row true (EC.u32) (S'1.rel))] [0, 1, 2, 3, 4, 5, 6])) ((((live S'1 r) ∧ (exW S'1) ∧ (∀ S'2 : Arn, (((S'2) = (retL S'1 r)) → (∃ hs1 : List Int, (∃ t1 : Tr, ((Wf S'2 (r :: hs1)) ∧ (Rep S'2 t1 r) ∧ (t1.Bal) ∧ (Asc t1.list) ∧ (t1.size ≤ 700000) ∧ ((↑(iB t1.size) : Int) ≤ S'2.free) ∧ (hs1.length ≤ 500000000) ∧ (S'2.reads + 5 * (↑(iB t1.size) : Int) ≤ 1600000000000000000) ∧ (∀ S'3 : Arn, (∀ j : Int, ((TrR S'2 hs1 (insE t1.list (k, v)) (iB t1.size) (5 * iB t1.size) S'3 j) →
    (K (SV.tup [(TV.at (At.val (Value.int IntKind.u32 (j)))), (TV.at (At.val (Value.int IntKind.i64 (o.getD 0)))), (TV.at (At.val (Value.bool (o.isSome)))), (TV.at (At.val (Value.int IntKind.i64 0)))]) [(Chunk.box [(At.ptr 1 0), (At.slc 2), (At.slc 3), (At.val (Value.int IntKind.u64 (S'3.reads)))]), (Chunk.box [(At.slc 4), (At.slc 5), (At.slc 6), (At.val (Value.int IntKind.u32 (S'3.fresh)))]), (Chunk.row true (EC.node) (S'3.nodes)), (Chunk.row true (EC.int) (S'3.counts)), (Chunk.row true (EC.bool) (S'3.used)), (Chunk.row true (EC.u32) (S'3.gen)), (Chunk.row true (EC.u32) (S'3.rel))] [0, 1, 2, 3, 4, 5, 6])))))))))) ∧ (live S'1 r) ∧ (exW S'1) ∧ (∀ S'2 : Arn, (((S'2) = (retL S'1 r)) → (∃ hs1 : List Int, (∃ t1 : Tr, ((Wf S'2 (r :: hs1)) ∧ (Rep S'2 t1 r) ∧ (t1.Bal) ∧ (Asc t1.list) ∧ (t1.size ≤ 700000) ∧ ((↑(iB t1.size) : Int) ≤ S'2.free) ∧ (hs1.length ≤ 500000000) ∧ (S'2.reads + 5 * (↑(iB t1.size) : Int) ≤ 1600000000000000000) ∧ (∀ S'3 : Arn, (∀ j : Int, ((TrR S'2 hs1 (insE t1.list (k, v)) (iB t1.size) (5 * iB t1.size) S'3 j) →
    (K (SV.tup [(TV.at (At.val (Value.int IntKind.u32 (j)))), (TV.at (At.val (Value.int IntKind.i64 (o.getD 0)))), (TV.at (At.val (Value.bool (o.isSome)))), (TV.at (At.val (Value.int IntKind.i64 0)))]) [(Chunk.box [(At.ptr 1 0), (At.slc 2), (At.slc 3), (At.val (Value.int IntKind.u64 (S'3.reads)))]), (Chunk.box [(At.slc 4), (At.slc 5), (At.slc 6), (At.val (Value.int IntKind.u32 (S'3.fresh)))]), (Chunk.row true (EC.node) (S'3.nodes)), (Chunk.row true (EC.int) (S'3.counts)), (Chunk.row true (EC.bool) (S'3.used)), (Chunk.row true (EC.u32) (S'3.gen)), (Chunk.row true (EC.u32) (S'3.rel))] [0, 1, 2, 3, 4, 5, 6])))))))))))))))))))))))))))))))) = _ by kernel_rfl) ?_
  obtain ⟨w, rp, bal, asc, sz, hl, rd⟩ := hm
  have hrd := w.rds
  have hb := Bal.height bal (by omega)
  have hH := Hn_rng t.size
  have hH1 := Hn_rng ((t.size : Int) + 1)
  have hmo := Hn_mono1 t.size
  have hi := iB_Hn t.size
  refine ⟨hs, t, w, rp, asc, by omega, by omega, fun S1 m o e1 hm1 eo => ?_⟩
  have wl : Wf S1 hs := by rw [e1]; exact w.rd (by omega)
  have rp1 : Rep S1 t r := by rw [e1]; exact rep_rd rp m
  have lv : live S1 r := rp1.us
  have q1 : S1.reads = S.reads + m := by rw [e1]; rfl
  have f1 : S1.free = S.free := by rw [e1]; rfl
  have z1 : (S1.nd r).size = t.size := rp1.size wl
  refine brS_of (fun c => brS_of (fun d => ?_) fun d => ?_) fun c => ?_
  · have d : o.getD 0 = v := by simpa using d
    obtain ⟨x, ex⟩ := Option.isSome_iff_exists.1 c
    have ev : x = v := by rw [ex] at d; exact d
    have he : getE t.list k = some v := by rw [← eo, ex, ev]
    refine ⟨lv, ⟨hs, wl⟩, fun S2 e2 => ?_⟩
    rw [d]
    exact h1 he S2 m (by rw [e2, e1]) hm1
  all_goals
    have hne : getE t.list k ≠ some v := by
      intro he
      rw [he] at eo
      subst eo
      first
        | (simp at d; done)
        | (simp at c; done)
    refine ⟨inU_of wl lv, ⟨hs, wl⟩, by omega, fun S2 e2 => ?_⟩
    have hu := us_one (S1.us r)
    have wl2 : Wf S2 hs := by rw [e2]; exact wl.rd (by omega)
    have rp2 : Rep S2 t r := by rw [e2]; exact rep_rd rp1 _
    have lv2 : live S2 r := rp2.us
    have f2 : S2.free = S.free := by rw [e2]; exact f1
    have q2 : S2.reads = S.reads + m + (S1.us r).toNat := by rw [e2, ← q1]; rfl
    have gA : Got S hs 0 (ht t + 1) S2 hs := by
      rw [e2, e1, rdS_rdS]
      rw [e1] at hu
      exact (Got.rds w (by omega)).mono (by omega) (by omega)
    rw [z1]
    refine ⟨by omega, by omega, fun p ep => ⟨⟨hs, wl2⟩, fun b eb => brS_of (fun d2 => ?_) fun d2 => ?_⟩⟩
    · have d2 : b = false := by simpa using d2
      rw [d2] at eb
      have hf : ¬ p ≤ S2.free := fun hp => by
        rw [decide_eq_true hp, decide_eq_true (show 0 ≤ p by omega)] at eb; cases eb
      exact h2 hne (by omega) S2 (m + (S1.us r).toNat) (by rw [e2, e1, rdS_rdS]) (by omega)
    · have d2 : b = true := by simpa using d2
      rw [d2] at eb
      have hf : p ≤ S2.free := by
        by_cases hp : p ≤ S2.free
        · exact hp
        · rw [decide_eq_false hp, Bool.and_false] at eb; cases eb
      refine ⟨⟨lv2, ⟨hs, wl2⟩, ?_⟩, lv2, ⟨hs, wl2⟩, ?_⟩
      all_goals
        intro S3 e3
        have g3 := retL_got (hs := hs) wl2 lv2 (by omega)
        rw [← e3] at g3
        have rp3 : Rep S3 t r := by rw [e3]; exact rp2.retL
        have f3 : S3.free = S2.free := by rw [e3]; exact retL_free _ _
        have q3 : S3.reads = S2.reads := by rw [e3]; exact (retL_flds _ _).1
        refine ⟨hs, t, g3.wf, rp3, bal, asc, by omega, by omega, by omega, by omega, fun S4 j tr => h3 hne (by omega) S4 j o eo ⟨?_, tr.tree⟩⟩
        exact ((gA.seq g3 (h := hs) (fun _ h => h) (fun _ h => h)).seq tr.got (fun _ h => h) (fun _ h => h)).mono (by omega) (by omega)
theorem s_upI : SoundT C0 59 tUpI := by
  refine .ofW W7 Try.func59 (by decide) rfl fun args H K h hB => ?_
  unfold tUpI at h
  split at h <;> try exact h.elim
  unfold arM at h
  split at h <;> try exact h.elim
  rename_i r k v _ rd fr nd ct us gn rl
  obtain ⟨hs, t, h1, h2, h3, h4⟩ := h
  exact ⟨aUpI, ⟨frame C0.ok s_getT _, frame C0.ok s_hold _, frame C0.ok s_size _, frame C0.ok s_rIns _, frame C0.ok s_room _, frame C0.ok s_in _, trivial⟩, vc_upI ⟨us, gn, rl, fr, nd, ct, rd⟩ r k v K hs t h1 h2 h3 h4⟩
theorem getE_has {l : List Ent} {k v : Int} (h : getE l k = some v) : hasK l k := by
  induction l with
  | nil => cases h
  | cons x l ih =>
    obtain ⟨a, b⟩ := x
    unfold getE at h
    split at h
    · rename_i e
      exact ⟨b, by rw [← e]; simp⟩
    · obtain ⟨w, hw⟩ := ih h
      exact ⟨w, by simp [hw]⟩
theorem vc_upD (S : Arn) (r k : Int) (K : KT) (hs : List Int) (t : Tr) (hm : upM S hs t r)
    (h1 : getE t.list k = none → ∀ S' m, S' = rdS S m → m ≤ ht t → K (.tup [.at (vU 0), .at (vI 0), .at (vI 4)]) (chS S') W7)
    (h2 : ∀ v, getE t.list k = some v → S.free < 4 * (Hn t.size + 2) → ∀ S' m, S' = rdS S m → m ≤ ht t + 1 → K (.tup [.at (vU 0), .at (vI 0), .at (vI 2)]) (chS S') W7)
    (h3 : ∀ v, getE t.list k = some v → 4 * (Hn t.size + 2) ≤ S.free → ∀ S' j, TrR S hs (flt (neK k) t.list) (dB t.size) (5 * dB t.size + ht t + 1) S' j → K (.tup [.at (vU j), .at (vI v), .at (vI 0)]) (chS S') W7) :
    vc C0 aUpD Try.f57 [.at (.ptr 0 0), .at (vU r), .at (vI k)] (chS S) (normK 7 (wideK W7 K)) := by
  refine Eq.mp (show (∃ hs : List Int, (∃ t : Tr, ((Wf S hs) ∧ (Rep S t r) ∧ (Asc t.list) ∧ (t.size ≤ 1000000) ∧ (S.reads + (↑t.size : Int) ≤ 3000000000000000000) ∧ (∀ S' : Arn, (∀ m : Nat, (∀ o : Option Int, (((S') = (rdS S m)) → ((m ≤ ht t) → (((o) = (getE t.list k)) → (brS (!o.isSome) ((K (SV.tup [(TV.at (At.val (Value.int IntKind.u32 0))), (TV.at (At.val (Value.int IntKind.i64 0))), (TV.at (At.val (Value.int IntKind.i64 4)))]) [(Chunk.box [(At.ptr 1 0), (At.slc 2), (At.slc 3), (At.val (Value.int IntKind.u64 (S'.reads)))]), (Chunk.box [(At.slc 4), (At.slc 5), (At.slc 6), (At.val (Value.int IntKind.u32 (S'.fresh)))]), (Chunk.row true (EC.node) (S'.nodes)), (Chunk.row true (EC.int) (S'.counts)), (Chunk.row true (EC.bool) (S'.used)), (Chunk.row true (EC.u32) (S'.gen)), (Chunk.row true (EC.u32) (S'.rel))] [0, 1, 2, 3, 4, 5, 6])) (((inU r) ∧ (exW S') ∧ (S'.reads < 4000000000000000000) ∧ (∀ S'1 : Arn, (((S'1) = (rdS S' (S'.us r).toNat)) → ((0 ≤ (S'.nd r).size) ∧ ((S'.nd r).size ≤ 65536) ∧ (∀ p : Int, (((p) = (4 * (Hn ((S'.nd r).size + 0) + 2))) → ((exW S'1) ∧ (∀ b : Bool, (((b) = (decide (0 ≤ p) && decide (p ≤ S'1.free))) → (brS (!b)
    ((K (SV.tup [(TV.at (At.val (Value.int IntKind.u32 0))), (TV.at (At.val (Value.int IntKind.i64 0))), (TV.at (At.val (Value.int IntKind.i64 2)))]) [(Chunk.box [(At.ptr 1 0), (At.slc 2), (At.slc 3), (At.val (Value.int IntKind.u64 (S'1.reads)))]), (Chunk.box [(At.slc 4), (At.slc 5), (At.slc 6), (At.val (Value.int IntKind.u32 (S'1.fresh)))]), (Chunk.row true (EC.node) (S'1.nodes)), (Chunk.row true (EC.int) (S'1.counts)), (Chunk.row true (EC.bool) (S'1.used)), (Chunk.row true (EC.u32) (S'1.gen)), (Chunk.row true (EC.u32) (S'1.rel))] [0, 1, 2, 3, 4, 5, 6])) (((live S'1 r) ∧ (exW S'1) ∧ (∀ S'2 : Arn, (((S'2) = (retL S'1 r)) → (∃ hs1 : List Int, (∃ t1 : Tr, ((Wf S'2 (r :: hs1)) ∧ (Rep S'2 t1 r) ∧ (t1.Bal) ∧ (Asc t1.list) ∧ (t1.size ≤ 700000) ∧ (hasK t1.list k) ∧ ((↑(dB t1.size) : Int) ≤ S'2.free) ∧ (hs1.length ≤ 200000000) ∧ (S'2.reads + 5 * (↑(dB t1.size) : Int) ≤ 1500000000000000000) ∧ (∀ S'3 : Arn, (∀ j : Int, ((TrR S'2 hs1 (flt (neK k) t1.list) (dB t1.size) (5 * dB t1.size) S'3 j) →
    (K (SV.tup [(TV.at (At.val (Value.int IntKind.u32 (j)))), (TV.at (At.val (Value.int IntKind.i64 (o.getD 0)))), (TV.at (At.val (Value.int IntKind.i64 0)))]) [(Chunk.box [(At.ptr 1 0), (At.slc 2), (At.slc 3), (At.val (Value.int IntKind.u64 (S'3.reads)))]), (Chunk.box [(At.slc 4), (At.slc 5), (At.slc 6), (At.val (Value.int IntKind.u32 (S'3.fresh)))]), (Chunk.row true (EC.node) (S'3.nodes)), (Chunk.row true (EC.int) (S'3.counts)), (Chunk.row true (EC.bool) (S'3.used)), (Chunk.row true (EC.u32) (S'3.gen)), (Chunk.row true (EC.u32) (S'3.rel))] [0, 1, 2, 3, 4, 5, 6])))))))))))))))))))))))))))))))) = _ by kernel_rfl) ?_
  obtain ⟨w, rp, bal, asc, sz, hl, rd⟩ := hm
  have hrd := w.rds
  have hb := Bal.height bal (by omega)
  have hH := Hn_rng t.size
  have hi := dB_Hn t.size
  refine ⟨hs, t, w, rp, asc, by omega, by omega, fun S1 m o e1 hm1 eo => ?_⟩
  have wl : Wf S1 hs := by rw [e1]; exact w.rd (by omega)
  have rp1 : Rep S1 t r := by rw [e1]; exact rep_rd rp m
  have lv : live S1 r := rp1.us
  have q1 : S1.reads = S.reads + m := by rw [e1]; rfl
  have f1 : S1.free = S.free := by rw [e1]; rfl
  have z1 : (S1.nd r).size = t.size := rp1.size wl
  refine brS_of (fun c => ?_) fun c => ?_
  · have c : o = none := by simpa using c
    exact h1 (by rw [← eo, c]) S1 m e1 hm1
  obtain ⟨v, ev⟩ := Option.isSome_iff_exists.1 (show o.isSome = true by simpa using c)
  subst ev
  have he := eo.symm
  refine ⟨inU_of wl lv, ⟨hs, wl⟩, by omega, fun S2 e2 => ?_⟩
  have hu := us_one (S1.us r)
  have wl2 : Wf S2 hs := by rw [e2]; exact wl.rd (by omega)
  have rp2 : Rep S2 t r := by rw [e2]; exact rep_rd rp1 _
  have lv2 : live S2 r := rp2.us
  have f2 : S2.free = S.free := by rw [e2]; exact f1
  have q2 : S2.reads = S.reads + m + (S1.us r).toNat := by rw [e2, ← q1]; rfl
  have gA : Got S hs 0 (ht t + 1) S2 hs := by
    rw [e2, e1, rdS_rdS]
    rw [e1] at hu
    exact (Got.rds w (by omega)).mono (by omega) (by omega)
  rw [z1, Int.add_zero]
  refine ⟨by omega, by omega, fun p ep => ⟨⟨hs, wl2⟩, fun b eb => brS_of (fun d2 => ?_) fun d2 => ?_⟩⟩
  · have d2 : b = false := by simpa using d2
    rw [d2] at eb
    have hf : ¬ p ≤ S2.free := fun hp => by
      rw [decide_eq_true hp, decide_eq_true (show 0 ≤ p by omega)] at eb; cases eb
    exact h2 v he (by omega) S2 (m + (S1.us r).toNat) (by rw [e2, e1, rdS_rdS]) (by omega)
  · have d2 : b = true := by simpa using d2
    rw [d2] at eb
    have hf : p ≤ S2.free := by
      by_cases hp : p ≤ S2.free
      · exact hp
      · rw [decide_eq_false hp, Bool.and_false] at eb; cases eb
    refine ⟨lv2, ⟨hs, wl2⟩, fun S3 e3 => ?_⟩
    have g3 := retL_got (hs := hs) wl2 lv2 (by omega)
    rw [← e3] at g3
    have rp3 : Rep S3 t r := by rw [e3]; exact rp2.retL
    have f3 : S3.free = S2.free := by rw [e3]; exact retL_free _ _
    have q3 : S3.reads = S2.reads := by rw [e3]; exact (retL_flds _ _).1
    refine ⟨hs, t, g3.wf, rp3, bal, asc, by omega, getE_has he, by omega, by omega, by omega, fun S4 j tr => h3 v he (by omega) S4 j ⟨?_, tr.tree⟩⟩
    exact ((gA.seq g3 (h := hs) (fun _ h => h) (fun _ h => h)).seq tr.got (fun _ h => h) (fun _ h => h)).mono (by omega) (by omega)
theorem s_upD : SoundT C0 57 tUpD := by
  refine .ofW W7 Try.func57 (by decide) rfl fun args H K h hB => ?_
  unfold tUpD at h
  split at h <;> try exact h.elim
  unfold arM at h
  split at h <;> try exact h.elim
  rename_i r k _ rd fr nd ct us gn rl
  obtain ⟨hs, t, h1, h2, h3, h4⟩ := h
  exact ⟨aUpD, ⟨frame C0.ok s_getT _, frame C0.ok s_hold _, frame C0.ok s_size _, frame C0.ok s_rDel _, frame C0.ok s_room _, frame C0.ok s_de _, trivial⟩, vc_upD ⟨us, gn, rl, fr, nd, ct, rd⟩ r k K hs t h1 h2 h3 h4⟩
/-! ### Where there is room -/
theorem insE_same {l : List Ent} {k v : Int} (ha : Asc l) (h : getE l k = some v) : insE l (k, v) = l :=
  Asc.ext (insE_asc _ ha) ha fun q => by
    rw [insE_get _ ha]
    show (if k = q then some v else getE l q) = _
    split
    · rename_i e; rw [← e, h]
    · rfl
def tUpIn : Tfm C0 := fun args H K => match args with
  | [.at (.ptr 0 0), .at (.val (.int .u32 r)), .agg [.val (.int .i64 k), .val (.int .i64 v)]] => arM H fun S => ∃ hs t, upM S hs t r ∧ 4 * (Hn (t.size + 1) + 2) ≤ S.free ∧
    ∀ S' j (o : Option Int), o = getE t.list k → TrR S hs (insE t.list (k, v)) (iB t.size) (5 * iB t.size + ht t + 1) S' j → K (.tup [.at (vU j), .at (vI (o.getD 0)), .at (vB o.isSome), .at (vI 0)]) (chS S') W7
  | _ => False
theorem hold_tr {S S' : Arn} {hs : List Int} {t : Tr} {r : Int} {m a b : Nat} {L : List Ent} (w : Wf S hs) (rp : Rep S t r) (bal : t.Bal) (hl : hs.length ≤ 900000000) (hr : S.reads + m ≤ 4000000000000000000) (e : S' = retL (rdS S m) r) (hb : m ≤ b) (hL : t.list = L) : TrR S hs L a b S' r := by
  have g := Got.rds (hs := hs) w hr
  have rp1 : Rep (rdS S m) t r := rep_rd rp m
  have g2 := retL_got (hs := hs) g.wf rp1.us (by omega)
  rw [← e] at g2
  exact ⟨(g.seq g2 (h := hs) (fun _ h => h) (fun _ h => h)).mono (by omega) (by omega), t, by rw [e]; exact rp1.retL, hL, bal⟩
theorem s_upIn : SoundT C0 59 tUpIn := s_upI.weak fun args H K h => by
  unfold tUpIn at h
  unfold tUpI
  split at h <;> try exact h.elim
  unfold arM at h ⊢
  split at h <;> try exact h.elim
  obtain ⟨hs, t, hm, hf, h⟩ := h
  refine ⟨hs, t, hm, fun he S' m e hm' => ?_, fun _ hf' => absurd hf (by omega), fun _ _ => h⟩
  obtain ⟨w, rp, bal, asc, sz, hl, rd⟩ := hm
  have hb := Bal.height bal (by omega)
  have hH := Hn_rng t.size
  exact h S' _ (some _) he.symm (hold_tr w rp bal (by omega) (by omega) e (by omega) (insE_same asc he).symm)
def tUpDe : Tfm C0 := fun args H K => match args with
  | [.at (.ptr 0 0), .at (.val (.int .u32 r)), .at (.val (.int .i64 k))] => arM H fun S => ∃ hs t v, upM S hs t r ∧ getE t.list k = some v ∧ 4 * (Hn t.size + 2) ≤ S.free ∧
    ∀ S' j, TrR S hs (flt (neK k) t.list) (dB t.size) (5 * dB t.size + ht t + 1) S' j → K (.tup [.at (vU j), .at (vI v), .at (vI 0)]) (chS S') W7
  | _ => False
theorem s_upDe : SoundT C0 57 tUpDe := s_upD.weak fun args H K h => by
  unfold tUpDe at h
  unfold tUpD
  split at h <;> try exact h.elim
  unfold arM at h ⊢
  split at h <;> try exact h.elim
  obtain ⟨hs, t, v, hm, he, hf, h⟩ := h
  refine ⟨hs, t, hm, fun hn => (by rw [he] at hn; cases hn), fun v' _ hf' => absurd hf (by omega), fun v' he' _ S' j tr => ?_⟩
  rw [he] at he'
  obtain rfl := Option.some.inj he'
  exact h S' j tr
end Go.Proofs.Ytbonbaccmlomhaa.Sx
end
section
/- Listing trees. -/
namespace Go.Proofs.Ytbonbaccmlomhaa.Sx
open Go

/-KEEP Wf exW inU live Arn.cap Arn.free maxSize mkNode makeS relA nxt NodeR BuildR Rep lk pl rdS Tr.size-/
abbrev chL (lim : Int) (S : Arn) (out : List Ent) : List (Chunk C0) := [.box [.ptr 1 0, .slc 2, vI lim], .box [.ptr 3 0, .slc 4, .slc 5, vU64 S.reads], .row true EC.ent out, .box [.slc 6, .slc 7, .slc 8, vU S.fresh], .row true EC.node S.nodes, .row true EC.int S.counts, .row true EC.bool S.used, .row true EC.u32 S.gen, .row true EC.u32 S.rel]
def lsM (H : List (Chunk C0)) (k : Int → Arn → List Ent → Prop) : Prop := match H with
  | [.box [.ptr 1 0, .slc 2, .val (.int .i64 lim)], .box [.ptr 3 0, .slc 4, .slc 5, .val (.int .u64 rd)], .row true .ent out, .box [.slc 6, .slc 7, .slc 8, .val (.int .u32 fr)], .row true .node nd, .row true .int ct, .row true .bool us, .row true .u32 gn, .row true .u32 rl] => k lim ⟨us, gn, rl, fr, nd, ct, rd⟩ out
  | _ => False
def tFull : Tfm C0 := fun args H K => match args with
  | [.at (.ptr 0 0)] => lsM H fun lim S out => K (.one (.at (vB (decide (lim ≤ (out.length : Int)))))) (chL lim S out) []
  | _ => False
def room (lim : Int) (out : List Ent) : Nat := (lim - out.length).toNat
def tLk (n : Nat) : Tfm C0 := fun args H K => match args with
  | [.at (.ptr 0 0), .at (.val (.int .u32 i)), .at (.val (.int .i64 lo)), .at (.val (.int .i64 hi))] => lsM H fun lim S out => ∃ hs t, Wf S hs ∧ Rep S t i ∧ t.size < n ∧ t.size ≤ 1000000 ∧ out.length + t.size ≤ 3000000 ∧ S.reads + t.size ≤ 3000000000000000000 ∧
    ∀ S' out', S' = rdS S (lk t lo hi (room lim out)).2 → out' = out ++ (lk t lo hi (room lim out)).1 → K (.tup []) (chL lim S' out') [0, 1, 2]
  | _ => False
structure XSt (P : Arn → List Ent → Prop) where
  S : Arn
  out : List Ent
  h : P S out
noncomputable def aLk (n : Nat) (lim : Int) (nd : NodeT) (P1 P2 : Arn → List Ent → Prop) : Ann C0 := { Γ := [(145, frameT [] tFull), (63, frameT [] tNode), (124, frameT [] (tLk n))], inv := fun k => match k with
  | 1005 => some { X := XSt P1, sl := [8], tf := fun _ => [.one (.at (.ptr 9 0))], hf := fun x => chL lim x.S x.out ++ [bxN nd], wr := [0, 1, 2] }
  | 1007 => some { X := XSt P2, sl := [8], tf := fun _ => [.one (.at (.ptr 9 0))], hf := fun x => chL lim x.S x.out ++ [bxN nd], wr := [0, 1, 2] }
  | _ => none }
def tPl (n : Nat) : Tfm C0 := fun args H K => match args with
  | [.at (.ptr 0 0), .at (.val (.int .u32 i)), .at (.val (.int .i64 x)), .at (.val (.int .i64 y))] => lsM H fun lim S out => ∃ hs t, Wf S hs ∧ Rep S t i ∧ t.size < n ∧ t.size ≤ 1000000 ∧ out.length + t.size ≤ 3000000 ∧ S.reads + 2 * t.size ≤ 3000000000000000000 ∧ 0 ≤ x ∧ y ≤ t.size ∧
    ∀ S' out', S' = rdS S (pl t x y).2 → out' = out ++ (pl t x y).1 → K (.tup []) (chL lim S' out') [0, 1, 2]
  | _ => False
def lkA (t : Tr) (lo hi : Int) (rm : Nat) : List Ent × Nat := match t with
  | .nil => ([], 0)
  | .node l k _ _ => if lo < k then lk l lo hi rm else ([], 0)
def lkB (t : Tr) (lo hi : Int) (rm : Nat) : List Ent := match t with
  | .nil => []
  | .node _ k v _ => if lo ≤ k ∧ k ≤ hi ∧ (lkA t lo hi rm).1.length < rm then [(k, v)] else []
def plS (t : Tr) : Int := match t with
  | .nil => 0
  | .node l _ _ _ => l.size
def plA (t : Tr) (x y : Int) : List Ent × Nat := match t with
  | .nil => ([], 0)
  | .node l _ _ _ => if x < (l.size : Int) then pl l x (if (l.size : Int) < y then (l.size : Int) else y) else ([], 0)
def plB (t : Tr) (x y : Int) : List Ent := match t with
  | .nil => []
  | .node l k v _ => if x ≤ (l.size : Int) ∧ (l.size : Int) < y then [(k, v)] else []
end Go.Proofs.Ytbonbaccmlomhaa.Sx
end
