/- A part of the proof. -/
import Derived.Test.YtbonbaccmlomhaaG6
import Derived.Test.YtbonbaccmlomhaaG1
section
/- treework: popLast, Concat, Split, From, To, Insert, Delete, Hold, Room. -/
namespace Go.Proofs.Ytbonbaccmlomhaa.Sx
open Go

/-KEEP Wf exW inU live Arn.cap Arn.free NodeR Rep Kept rdS retL Tr.size Tr.list Tr.Bal balN balB jB pB cB iB dB sB gN OpnR TrR Got flt insE getE Asc-/
def tPopN (n : Nat) : Tfm C0 := fun args H K => match args with
  | [.at (.ptr 0 0), .at (.val (.int .u32 i))] => arM H fun S => ∃ hs a kr vr b, Wf S (i :: hs) ∧ Rep S (.node a kr vr b) i ∧ (Tr.node a kr vr b).Bal ∧ (Tr.node a kr vr b).size < n ∧ (Tr.node a kr vr b).size ≤ 800000 ∧ (pB (Tr.node a kr vr b).size : Int) ≤ S.free ∧
    hs.length + (Tr.node a kr vr b).size ≤ 600000000 ∧ S.reads + 5 * (pB (Tr.node a kr vr b).size) ≤ 1700000000000000000 ∧
    ∀ S' j k v L, (Tr.node a kr vr b).list = L ++ [(k, v)] → TrR S hs L (pB (Tr.node a kr vr b).size) (5 * pB (Tr.node a kr vr b).size) S' j → K (.tup [.at (vU j), .agg [vI k, vI v]]) (chS S') W7
  | _ => False
noncomputable def aPop' (n : Nat) : Ann C0 := { Γ := [(132, frameT [] tOpn), (144, frameT [] (tPopN n)), (114, frameT [] tJoin)] }
def tPopl : Tfm C0 := fun args H K => match args with
  | [.at (.ptr 0 0), .at (.val (.int .u32 i))] => arM H fun S => ∃ hs t, Wf S (i :: hs) ∧ Rep S t i ∧ t.Bal ∧ 1 ≤ t.size ∧ t.size ≤ 800000 ∧ (pB t.size : Int) ≤ S.free ∧ hs.length ≤ 500000000 ∧ S.reads + 5 * (pB t.size) ≤ 1700000000000000000 ∧
    ∀ S' j k v L, t.list = L ++ [(k, v)] → TrR S hs L (pB t.size) (5 * pB t.size) S' j → K (.tup [.at (vU j), .agg [vI k, vI v]]) (chS S') W7
  | _ => False
noncomputable def aCat : Ann C0 := { Γ := [(144, frameT [] tPopl), (114, frameT [] tJoin)] }
def tCat : Tfm C0 := fun args H K => match args with
  | [.at (.ptr 0 0), .at (.val (.int .u32 l)), .at (.val (.int .u32 r))] => arM H fun S => ∃ hs ta tb, Wf S (l :: r :: hs) ∧ Rep S ta l ∧ Rep S tb r ∧ ta.Bal ∧ tb.Bal ∧ ta.size + tb.size ≤ 800000 ∧ (cB ta.size tb.size : Int) ≤ S.free ∧ hs.length ≤ 400000000 ∧ S.reads + 5 * (cB ta.size tb.size) ≤ 1600000000000000000 ∧
    ∀ S' i, TrR S hs (ta.list ++ tb.list) (cB ta.size tb.size) (5 * cB ta.size tb.size) S' i → K (.one (.at (vU i))) (chS S') W7
  | _ => False
def tInsT (n : Nat) : Tfm C0 := fun args H K => match args with
  | [.at (.ptr 0 0), .at (.val (.int .u32 i)), .agg [.val (.int .i64 k), .val (.int .i64 v)]] => arM H fun S => ∃ hs t, Wf S (i :: hs) ∧ Rep S t i ∧ t.Bal ∧ Asc t.list ∧ t.size < n ∧ t.size ≤ 700000 ∧ (iB t.size : Int) ≤ S.free ∧ hs.length + t.size ≤ 600000000 ∧ S.reads + 5 * iB t.size ≤ 1600000000000000000 ∧
    ∀ S' j, TrR S hs (insE t.list (k, v)) (iB t.size) (5 * iB t.size) S' j → K (.one (.at (vU j))) (chS S') W7
  | _ => False
noncomputable def aIns' (n : Nat) : Ann C0 := { Γ := [(132, frameT [] tOpn), (105, frameT [] (tInsT n)), (114, frameT [] tJoin), (123, frameT [] tNodeX)] }
def tDlt (n : Nat) : Tfm C0 := fun args H K => match args with
  | [.at (.ptr 0 0), .at (.val (.int .u32 i)), .at (.val (.int .i64 key))] => arM H fun S => ∃ hs t, Wf S (i :: hs) ∧ Rep S t i ∧ t.Bal ∧ Asc t.list ∧ t.size < n ∧ t.size ≤ 700000 ∧ hasK t.list key ∧ (dB t.size : Int) ≤ S.free ∧ hs.length + t.size ≤ 300000000 ∧ S.reads + 5 * dB t.size ≤ 1500000000000000000 ∧
    ∀ S' j, TrR S hs (flt (neK key) t.list) (dB t.size) (5 * dB t.size) S' j → K (.one (.at (vU j))) (chS S') W7
  | _ => False
noncomputable def aDlt (n : Nat) : Ann C0 := { Γ := [(132, frameT [] tOpn), (102, frameT [] (tDlt n)), (114, frameT [] tJoin), (122, frameT [] tCat)] }
noncomputable def aHold : Ann C0 := { Γ := [(56, frameT [] tRetL)] }
def tHold : Tfm C0 := fun args H K => match args with
  | [.at (.ptr 0 0), .at (.val (.int .u32 i))] => arM H fun S => live S i ∧ exW S ∧ ∀ S', S' = retL S i → K (.one (.at (vU i))) (chS S') [3]
  | _ => False
noncomputable def aRoom : Ann C0 := { Γ := [(77, frameT [] tFree)] }
def tRoom : Tfm C0 := fun args H K => match args with
  | [.at (.ptr 0 0), .at (.val (.int .i64 n))] => arM H fun S => exW S ∧ ∀ b, b = (decide (0 ≤ n) && decide (n ≤ S.free)) → K (.one (.at (vB b))) (chS S) []
  | _ => False
theorem rep_ne {S : Arn} {b : Tr} {r : Int} (h : Rep S b r) (hr : r ≠ 0) : ∃ a2 k2 v2 b2, b = .node a2 k2 v2 b2 := by
  cases b with
  | nil => exact absurd h hr
  | node a2 k2 v2 b2 => exact ⟨a2, k2, v2, b2, rfl⟩
theorem node_size (a b : Tr) (k v : Int) : (Tr.node a k v b).size = a.size + b.size + 1 := by simp [Tr.size]; omega
theorem vc_popl (n : Nat) (S : Arn) (i : Int) (K : KT) (hs : List Int) (a : Tr) (kr vr : Int) (b : Tr) (hw : Wf S (i :: hs)) (h2 : Rep S (.node a kr vr b) i) (bal : (Tr.node a kr vr b).Bal) (hfu : (Tr.node a kr vr b).size < n + 1) (hz : (Tr.node a kr vr b).size ≤ 800000) (hf : (pB (Tr.node a kr vr b).size : Int) ≤ S.free)
    (hl : hs.length + (Tr.node a kr vr b).size ≤ 600000000) (hr : S.reads + 5 * (pB (Tr.node a kr vr b).size) ≤ 1700000000000000000)
    (h : ∀ S' j k v L, (Tr.node a kr vr b).list = L ++ [(k, v)] → TrR S hs L (pB (Tr.node a kr vr b).size) (5 * pB (Tr.node a kr vr b).size) S' j → K (.tup [.at (vU j), .agg [vI k, vI v]]) (chS S') W7) :
    vc C0 (aPop' n) Try.f144 [.at (.ptr 0 0), .at (vU i)] (chS S) (normK 7 (wideK W7 K)) := by
  refine Eq.mp (show (∃ hs : List Int, (∃ a : Tr, (∃ k : Int, (∃ v : Int, (∃ b : Tr, ((Wf S (i :: hs)) ∧ (Rep S (a.node k v b) i) ∧ (hs.length ≤ 900000000) ∧ (S.reads ≤ 3000000000000000000) ∧ (∀ S' : Arn, (∀ l : Int, (∀ r : Int, ((OpnR S hs a k v b S' l r) → (brS (r == 0) ((K (SV.tup [(TV.at (At.val (Value.int IntKind.u32 (l)))), (TV.agg [(At.val (Value.int IntKind.i64 (k))), (At.val (Value.int IntKind.i64 (v)))])]) [(Chunk.box [(At.ptr 1 0), (At.slc 2), (At.slc 3), (At.val (Value.int IntKind.u64 (S'.reads)))]), (Chunk.box [(At.slc 4), (At.slc 5), (At.slc 6), (At.val (Value.int IntKind.u32 (S'.fresh)))]), (Chunk.row true (EC.node) (S'.nodes)), (Chunk.row true (EC.int) (S'.counts)), (Chunk.row true (EC.bool) (S'.used)), (Chunk.row true (EC.u32) (S'.gen)), (Chunk.row true (EC.u32) (S'.rel))] [0, 1, 2, 3, 4, 5, 6])) ((∃ hs1 : List Int, (∃ a1 : Tr, (∃ kr : Int, (∃ vr : Int, (∃ b1 : Tr, ((Wf S' (r :: hs1)) ∧ (Rep S' (a1.node kr vr b1) r) ∧ ((a1.node kr vr b1).Bal) ∧ ((a1.node kr vr b1).size < n) ∧ ((a1.node kr vr b1).size ≤ 800000) ∧ ((↑(pB (a1.node kr vr b1).size) : Int) ≤ S'.free) ∧ (hs1.length + (a1.node kr vr b1).size ≤ 600000000) ∧ (S'.reads + 5 * (↑(pB (a1.node kr vr b1).size) : Int) ≤ 1700000000000000000) ∧ (∀ S'1 : Arn, (∀ j : Int, (∀ k1 : Int, (∀ v1 : Int, (∀ L : List Ent, ((((a1.node kr vr b1).list) = (L ++ [(k1, v1)])) → ((TrR S' hs1 L (pB (a1.node kr vr b1).size) (5 * pB (a1.node kr vr b1).size) S'1 j) → (∃ hs2 : List Int, (∃ ta : Tr, (∃ tb : Tr, ((Wf S'1 (l :: j :: hs2)) ∧ (Rep S'1 ta l) ∧
    (Rep S'1 tb j) ∧ (ta.Bal) ∧ (tb.Bal) ∧ (ta.size + tb.size ≤ 900000) ∧ ((↑(jB ta.size tb.size) : Int) ≤ S'1.free) ∧ (hs2.length ≤ 700000000) ∧ (S'1.reads + 5 * (↑(jB ta.size tb.size) : Int) ≤ 1800000000000000000) ∧ (∀ S'2 : Arn, (∀ i1 : Int, ((TrR S'1 hs2 (ta.list ++ (k, v) :: tb.list) (jB ta.size tb.size) (4 * jB ta.size tb.size) S'2 i1) → (((balN (↑ta.size : Int) (↑tb.size : Int)) → ((((S'2.nd i1).left) = (l)) ∧ (((S'2.nd i1).right) = (j)) ∧ ((S'2.nu) = (S'1.nu + 1)))) → (K (SV.tup [(TV.at (At.val (Value.int IntKind.u32 (i1)))), (TV.agg [(At.val (Value.int IntKind.i64 (k1))), (At.val (Value.int IntKind.i64 (v1)))])]) [(Chunk.box [(At.ptr 1 0), (At.slc 2), (At.slc 3), (At.val (Value.int IntKind.u64 (S'2.reads)))]), (Chunk.box [(At.slc 4), (At.slc 5), (At.slc 6), (At.val (Value.int IntKind.u32 (S'2.fresh)))]), (Chunk.row true (EC.node) (S'2.nodes)), (Chunk.row true (EC.int) (S'2.counts)), (Chunk.row true (EC.bool) (S'2.used)), (Chunk.row true (EC.u32) (S'2.gen)), (Chunk.row true (EC.u32) (S'2.rel))] [0, 1, 2, 3, 4, 5, 6])))))))))))))))))))))))))))))))))) = _ by kernel_rfl) ?_
  have zz := node_size a b kr vr
  rw [zz] at hfu hz hf hl hr h
  obtain ⟨bb, ba, bbb⟩ := bal
  have hrd := hw.rds
  refine ⟨hs, a, kr, vr, b, hw, h2, by omega, by omega, fun S1 l r o => brS_of (fun d => ?_) fun d => ?_⟩
  · have d : r = 0 := by simpa using d
    subst d
    have e := o.repr.zero o.got.wf
    subst e
    have pp := pB_pos (n := a.size + Tr.nil.size + 1) (by omega)
    exact h S1 l kr vr a.list (by simp [Tr.list]) ⟨((o.got.perm (List.Perm.swap _ _ _)).of_zero).mono (by omega) (by omega), a, o.repl, rfl, ba⟩
  · have d : r ≠ 0 := by simpa using d
    obtain ⟨a2, k2, v2, b2, e⟩ := rep_ne o.repr d
    have zb : 1 ≤ b.size := by rw [e, node_size]; omega
    have ps := pB_step bb zb (by omega)
    have jp0 := jB_pos a.size (b.size - 1)
    have f1 := o.got.free hw
    have q1 := o.got.rd
    have orr := o.repr
    have eb := e
    rw [e] at orr
    refine ⟨l :: hs, a2, k2, v2, b2, o.got.wf.perm (List.Perm.swap _ _ _), orr, ?_⟩
    rw [← e]
    refine ⟨bbb, by omega, by omega, by omega, by simp; omega, by omega, fun S2 j k1 v1 L eL tr => ?_⟩
    obtain ⟨t, rt, lt, bt⟩ := tr.tree
    have zt : t.size = b.size - 1 := by rw [← t.list_len, lt, ← b.list_len, eL]; simp
    have f2 := tr.got.free o.got.wf
    have q2 := tr.got.rd
    have jp := jB_pos a.size t.size
    rw [← zt] at ps
    refine ⟨hs, a, t, tr.got.wf.perm (List.Perm.swap _ _ _), o.repl.held o.got.wf tr.got.stay (.inr (by simp)), rt, ba, bt, by omega, by omega, by omega, by omega, fun S3 q tj _ => h S3 q k1 v1 (a.list ++ (kr, vr) :: L) ?_ ⟨?_, ?_⟩⟩
    · show a.list ++ (kr, vr) :: b.list = _
      rw [eL]; simp
    · exact ((o.got.seq tr.got (h := hs) (fun _ h => h) (fun _ h => by simp [h])).seq tj.got (fun _ h => h) (fun _ h => h)).mono (by omega) (by omega)
    · obtain ⟨t', rt', lt', bt'⟩ := tj.tree
      exact ⟨t', rt', by rw [lt', lt], bt'⟩
theorem s_pop' : ∀ n, SoundT C0 144 (tPopN n) := by
  intro n
  induction n with
  | zero =>
    refine .of Try.func144 (by decide) rfl fun args H K h hB => ?_
    exfalso
    unfold tPopN at h
    split at h <;> try exact h.elim
    unfold arM at h
    split at h <;> try exact h.elim
    obtain ⟨_, _, _, _, _, _, _, _, h1, _⟩ := h
    omega
  | succ n ih =>
    refine .ofW W7 Try.func144 (by decide) rfl fun args H K h hB => ?_
    unfold tPopN at h
    split at h <;> try exact h.elim
    unfold arM at h
    split at h <;> try exact h.elim
    rename_i i _ rd fr nd ct us gn rl
    obtain ⟨hs, a, kr, vr, b, h1, h2, h3, h4, h5, h6, h7, h8, h9⟩ := h
    exact ⟨aPop' n, ⟨frame C0.ok s_opn _, frame C0.ok ih _, frame C0.ok s_join _, trivial⟩, vc_popl n ⟨us, gn, rl, fr, nd, ct, rd⟩ i K hs a kr vr b h1 h2 h3 h4 h5 h6 h7 h8 h9⟩
theorem s_popl : SoundT C0 144 tPopl := (s_pop' 1000000).weak fun args H K h => by
  unfold tPopl at h
  unfold tPopN
  split at h <;> try exact h.elim
  unfold arM at h ⊢
  split at h <;> try exact h.elim
  obtain ⟨hs, t, h1, h2, h3, h4, h5, h6, h7, h8, h9⟩ := h
  cases t with
  | nil => exact absurd h4 (by decide)
  | node a k v b => exact ⟨hs, a, k, v, b, h1, h2, h3, by omega, h5, h6, by omega, h8, h9⟩
theorem vc_cat (S : Arn) (l r : Int) (K : KT) (hs : List Int) (ta tb : Tr) (hw : Wf S (l :: r :: hs)) (h1 : Rep S ta l) (h2 : Rep S tb r) (b1 : ta.Bal) (b2 : tb.Bal) (hz : ta.size + tb.size ≤ 800000) (hf : (cB ta.size tb.size : Int) ≤ S.free) (hl : hs.length ≤ 400000000) (hr : S.reads + 5 * (cB ta.size tb.size) ≤ 1600000000000000000)
    (h : ∀ S' i, TrR S hs (ta.list ++ tb.list) (cB ta.size tb.size) (5 * cB ta.size tb.size) S' i → K (.one (.at (vU i))) (chS S') W7) :
    vc C0 aCat Try.f122 [.at (.ptr 0 0), .at (vU l), .at (vU r)] (chS S) (normK 7 (wideK W7 K)) := by
  refine Eq.mp (show (brS (l == 0) ((K (SV.one (TV.at (At.val (Value.int IntKind.u32 (r))))) [(Chunk.box [(At.ptr 1 0), (At.slc 2), (At.slc 3), (At.val (Value.int IntKind.u64 (S.reads)))]), (Chunk.box [(At.slc 4), (At.slc 5), (At.slc 6), (At.val (Value.int IntKind.u32 (S.fresh)))]), (Chunk.row true (EC.node) (S.nodes)), (Chunk.row true (EC.int) (S.counts)), (Chunk.row true (EC.bool) (S.used)), (Chunk.row true (EC.u32) (S.gen)), (Chunk.row true (EC.u32) (S.rel))] [0, 1, 2, 3, 4, 5, 6])) ((brS (r == 0) ((K (SV.one (TV.at (At.val (Value.int IntKind.u32 (l))))) [(Chunk.box [(At.ptr 1 0), (At.slc 2), (At.slc 3), (At.val (Value.int IntKind.u64 (S.reads)))]), (Chunk.box [(At.slc 4), (At.slc 5), (At.slc 6), (At.val (Value.int IntKind.u32 (S.fresh)))]), (Chunk.row true (EC.node) (S.nodes)), (Chunk.row true (EC.int) (S.counts)), (Chunk.row true (EC.bool) (S.used)), (Chunk.row true (EC.u32) (S.gen)), (Chunk.row true (EC.u32) (S.rel))] [0, 1, 2, 3, 4, 5, 6])) ((∃ hs : List Int, (∃ t : Tr, ((Wf S (l :: hs)) ∧ (Rep S t l) ∧ (t.Bal) ∧ (1 ≤ t.size) ∧ (t.size ≤ 800000) ∧ ((↑(pB t.size) : Int) ≤ S.free) ∧ (hs.length ≤ 500000000) ∧ (S.reads + 5 * (↑(pB t.size) : Int) ≤ 1700000000000000000) ∧ (∀ S' : Arn, (∀ j : Int, (∀ k : Int, (∀ v : Int, (∀ L : List Ent, (((t.list) = (L ++ [(k, v)])) → ((TrR S hs L (pB t.size) (5 * pB t.size) S' j) → (∃ hs1 : List Int, (∃ ta : Tr, (∃ tb : Tr, ((Wf S' (j :: r :: hs1)) ∧ (Rep S' ta j) ∧ (Rep S' tb r) ∧ (ta.Bal) ∧ (tb.Bal) ∧ (ta.size + tb.size ≤ 900000) ∧
    ((↑(jB ta.size tb.size) : Int) ≤ S'.free) ∧ (hs1.length ≤ 700000000) ∧ (S'.reads + 5 * (↑(jB ta.size tb.size) : Int) ≤ 1800000000000000000) ∧ (∀ S'1 : Arn, (∀ i : Int, ((TrR S' hs1 (ta.list ++ (k, v) :: tb.list) (jB ta.size tb.size) (4 * jB ta.size tb.size) S'1 i) → (((balN (↑ta.size : Int) (↑tb.size : Int)) → ((((S'1.nd i).left) = (j)) ∧ (((S'1.nd i).right) = (r)) ∧ ((S'1.nu) = (S'.nu + 1)))) → (K (SV.one (TV.at (At.val (Value.int IntKind.u32 (i))))) [(Chunk.box [(At.ptr 1 0), (At.slc 2), (At.slc 3), (At.val (Value.int IntKind.u64 (S'1.reads)))]), (Chunk.box [(At.slc 4), (At.slc 5), (At.slc 6), (At.val (Value.int IntKind.u32 (S'1.fresh)))]), (Chunk.row true (EC.node) (S'1.nodes)), (Chunk.row true (EC.int) (S'1.counts)), (Chunk.row true (EC.bool) (S'1.used)), (Chunk.row true (EC.u32) (S'1.gen)), (Chunk.row true (EC.u32) (S'1.rel))] [0, 1, 2, 3, 4, 5, 6]))))))))))))))))))))))) = _ by kernel_rfl) ?_
  refine brS_of (fun d => ?_) fun d => brS_of (fun e => ?_) fun e => ?_
  · have d : l = 0 := by simpa using d
    subst d
    have e := h1.zero hw
    subst e
    exact h S r ⟨(Got.refl hw.of_zero).mono (Nat.zero_le _) (Nat.zero_le _), tb, h2, rfl, b2⟩
  · have e : r = 0 := by simpa using e
    subst e
    have e := h2.zero hw
    subst e
    exact h S l ⟨(Got.refl (hw.perm (List.Perm.swap _ _ _)).of_zero).mono (Nat.zero_le _) (Nat.zero_le _), ta, h1, by simp [Tr.list], b1⟩
  · have d : l ≠ 0 := by simpa using d
    have e : r ≠ 0 := by simpa using e
    obtain ⟨_, _, _, _, ea⟩ := rep_ne h1 d
    obtain ⟨_, _, _, _, eb⟩ := rep_ne h2 e
    have za : 1 ≤ ta.size := by rw [ea, node_size]; omega
    have zb : 1 ≤ tb.size := by rw [eb, node_size]; omega
    have ec : cB ta.size tb.size = pB ta.size + jB (ta.size - 1) tb.size := by unfold cB; rw [if_neg (by omega)]
    rw [ec] at hf hr h
    have hrd := hw.rds
    refine ⟨r :: hs, ta, hw, h1, b1, za, by omega, by omega, by simp; omega, by omega, fun S1 j k v L eL tr => ?_⟩
    obtain ⟨t, rt, lt, bt⟩ := tr.tree
    have zt : t.size = ta.size - 1 := by rw [← t.list_len, lt, ← ta.list_len, eL]; simp
    rw [← zt] at hf hr h
    have f2 := tr.got.free hw
    have q2 := tr.got.rd
    refine ⟨hs, t, tb, tr.got.wf, rt, h2.held hw tr.got.stay (.inr (by simp)), bt, b2, by omega, by omega, by omega, by omega, fun S2 q tj _ => h S2 q ⟨?_, ?_⟩⟩
    · exact (tr.got.seq tj.got (h := hs) (fun _ h => by simp [h]) (fun _ h => h)).mono (by omega) (by omega)
    · obtain ⟨t', rt', lt', bt'⟩ := tj.tree
      exact ⟨t', rt', by rw [lt', lt, eL]; simp, bt'⟩
theorem s_cat : SoundT C0 122 tCat := by
  refine .ofW W7 Try.func122 (by decide) rfl fun args H K h hB => ?_
  unfold tCat at h
  split at h <;> try exact h.elim
  unfold arM at h
  split at h <;> try exact h.elim
  rename_i l r _ rd fr nd ct us gn rl
  obtain ⟨hs, ta, tb, h1, h2, h3, h4, h5, h6, h7, h8, h9, h10⟩ := h
  exact ⟨aCat, ⟨frame C0.ok s_popl _, frame C0.ok s_join _, trivial⟩, vc_cat ⟨us, gn, rl, fr, nd, ct, rd⟩ l r K hs ta tb h1 h2 h3 h4 h5 h6 h7 h8 h9 h10⟩
theorem vc_hold (S : Arn) (i : Int) (K : KT) (h1 : live S i) (h2 : exW S) (h : ∀ S', S' = retL S i → K (.one (.at (vU i))) (chS S') [3]) :
    vc C0 aHold Try.f71 [.at (.ptr 0 0), .at (vU i)] (chS S) (normK 7 (wideK [3] K)) := by
  refine Eq.mp (show ((live S i) ∧
(exW S) ∧
(∀ S' : Arn, (((S') = (retL S i)) → (K (SV.one (TV.at (At.val (Value.int IntKind.u32 (i))))) [(Chunk.box [(At.ptr 1 0), (At.slc 2), (At.slc 3), (At.val (Value.int IntKind.u64 (S'.reads)))]), (Chunk.box [(At.slc 4), (At.slc 5), (At.slc 6), (At.val (Value.int IntKind.u32 (S'.fresh)))]), (Chunk.row true (EC.node) (S'.nodes)), (Chunk.row true (EC.int) (S'.counts)), (Chunk.row true (EC.bool) (S'.used)), (Chunk.row true (EC.u32) (S'.gen)), (Chunk.row true (EC.u32) (S'.rel))] [3])))) = _ by kernel_rfl) ?_
  exact ⟨h1, h2, h⟩
theorem s_hold : SoundT C0 71 tHold := by
  refine .ofW [3] Try.func71 (by decide) rfl fun args H K h hB => ?_
  unfold tHold at h
  split at h <;> try exact h.elim
  unfold arM at h
  split at h <;> try exact h.elim
  rename_i i _ rd fr nd ct us gn rl
  exact ⟨aHold, ⟨frame C0.ok s_retL _, trivial⟩, vc_hold ⟨us, gn, rl, fr, nd, ct, rd⟩ i K h.1 h.2.1 h.2.2⟩
theorem vc_room (S : Arn) (n : Int) (K : KT) (h1 : exW S) (h : ∀ b, b = (decide (0 ≤ n) && decide (n ≤ S.free)) → K (.one (.at (vB b))) (chS S) []) :
    vc C0 aRoom Try.f95 [.at (.ptr 0 0), .at (vI n)] (chS S) (normK 7 K) := by
  refine Eq.mp (show (brS (decide (n ≥ 0)) (((exW S) ∧ (K (SV.one (TV.at (At.val (Value.bool (decide (S.free ≥ n)))))) [(Chunk.box [(At.ptr 1 0), (At.slc 2), (At.slc 3), (At.val (Value.int IntKind.u64 (S.reads)))]), (Chunk.box [(At.slc 4), (At.slc 5), (At.slc 6), (At.val (Value.int IntKind.u32 (S.fresh)))]), (Chunk.row true (EC.node) (S.nodes)), (Chunk.row true (EC.int) (S.counts)), (Chunk.row true (EC.bool) (S.used)), (Chunk.row true (EC.u32) (S.gen)), (Chunk.row true (EC.u32) (S.rel))] []))) ((K (SV.one (TV.at (At.val (Value.bool false)))) [(Chunk.box [(At.ptr 1 0), (At.slc 2), (At.slc 3), (At.val (Value.int IntKind.u64 (S.reads)))]), (Chunk.box [(At.slc 4), (At.slc 5), (At.slc 6), (At.val (Value.int IntKind.u32 (S.fresh)))]), (Chunk.row true (EC.node) (S.nodes)), (Chunk.row true (EC.int) (S.counts)), (Chunk.row true (EC.bool) (S.used)), (Chunk.row true (EC.u32) (S.gen)), (Chunk.row true (EC.u32) (S.rel))] []))) = _ by kernel_rfl) ?_
  refine brS_of (fun d => ⟨h1, h _ ?_⟩) fun d => h _ ?_
  · have d : 0 ≤ n := of_decide_eq_true d
    rw [decide_eq_true d]; rfl
  · have d : ¬ 0 ≤ n := of_decide_eq_false d
    rw [decide_eq_false d]; rfl
theorem s_room : SoundT C0 95 tRoom := by
  refine .of Try.func95 (by decide) rfl fun args H K h hB => ?_
  unfold tRoom at h
  split at h <;> try exact h.elim
  unfold arM at h
  split at h <;> try exact h.elim
  rename_i n _ rd fr nd ct us gn rl
  exact ⟨aRoom, ⟨frame C0.ok s_free _, trivial⟩, vc_room ⟨us, gn, rl, fr, nd, ct, rd⟩ n K h.1 h.2⟩
theorem jB_ins {a b t : Nat} (h : balN a b) (h1 : a ≤ t) (h2 : t ≤ a + 1) : jB t b ≤ 4 := by
  rcases Nat.lt_or_ge a t with c | c
  · have : t = a + 1 := by omega
    subst this
    rw [jB_comm]; exact jB_more (balN_comm h)
  · have : t = a := by omega
    subst this
    rw [jB_bal h]; decide
theorem jB_ins' {a b t : Nat} (h : balN a b) (h1 : b ≤ t) (h2 : t ≤ b + 1) : jB a t ≤ 4 := by
  rw [jB_comm]; exact jB_ins (balN_comm h) h1 h2
theorem vc_insr (n : Nat) (S : Arn) (i k v : Int) (K : KT) (hs : List Int) (t : Tr) (hw : Wf S (i :: hs)) (h1 : Rep S t i) (bal : t.Bal) (asc : Asc t.list) (hfu : t.size < n + 1) (hz : t.size ≤ 700000) (hf : (iB t.size : Int) ≤ S.free) (hl : hs.length + t.size ≤ 600000000) (hr : S.reads + 5 * iB t.size ≤ 1600000000000000000)
    (h : ∀ S' j, TrR S hs (insE t.list (k, v)) (iB t.size) (5 * iB t.size) S' j → K (.one (.at (vU j))) (chS S') W7) :
    vc C0 (aIns' n) Try.f105 [.at (.ptr 0 0), .at (vU i), .agg [vI k, vI v]] (chS S) (normK 7 (wideK W7 K)) := by
  refine Eq.mp (show (brS (i == 0) ((∃ hs : List Int, (∃ tl : Tr, (∃ tr : Tr, ((Wf S (0 :: 0 :: hs)) ∧ (Rep S tl 0) ∧ (Rep S tr 0) ∧ (tl.size + tr.size ≤ 1000000) ∧ (0 < S.free) ∧ (hs.length ≤ 900000000) ∧ (∀ S' : Arn, (∀ i1 : Int, ((NodeR S hs k v tl tr S' i1) → ((((S'.nd i1).left) = 0) → ((((S'.nd i1).right) = 0) → (K (SV.one (TV.at (At.val (Value.int IntKind.u32 (i1))))) [(Chunk.box [(At.ptr 1 0), (At.slc 2), (At.slc 3), (At.val (Value.int IntKind.u64 (S'.reads)))]), (Chunk.box [(At.slc 4), (At.slc 5), (At.slc 6), (At.val (Value.int IntKind.u32 (S'.fresh)))]), (Chunk.row true (EC.node) (S'.nodes)), (Chunk.row true (EC.int) (S'.counts)), (Chunk.row true (EC.bool) (S'.used)), (Chunk.row true (EC.u32) (S'.gen)), (Chunk.row true (EC.u32) (S'.rel))] [0, 1, 2, 3, 4, 5, 6]))))))))))) ((∃ hs : List Int, (∃ a : Tr, (∃ k1 : Int, (∃ v1 : Int, (∃ b : Tr, ((Wf S (i :: hs)) ∧ (Rep S (a.node k1 v1 b) i) ∧ (hs.length ≤ 900000000) ∧ (S.reads ≤ 3000000000000000000) ∧ (∀ S' : Arn, (∀ l : Int, (∀ r : Int, ((OpnR S hs a k1 v1 b S' l r) → (brS (decide (k < k1)) ((((∃ hs1 : List Int, (∃ t : Tr, ((Wf S' (l :: hs1)) ∧ (Rep S' t l) ∧ (t.Bal) ∧ (Asc t.list) ∧ (t.size < n) ∧ (t.size ≤ 700000) ∧ ((↑(iB t.size) : Int) ≤ S'.free) ∧ (hs1.length + t.size ≤ 600000000) ∧ (S'.reads + 5 * (↑(iB t.size) : Int) ≤ 1600000000000000000) ∧ (∀ S'1 : Arn, (∀ j : Int, ((TrR S' hs1 (insE t.list (k, v)) (iB t.size) (5 * iB t.size) S'1 j) → (∃ hs2 : List Int, (∃ ta : Tr, (∃ tb : Tr, ((Wf S'1 (j :: r :: hs2)) ∧ (Rep S'1 ta j) ∧
    (Rep S'1 tb r) ∧ (ta.Bal) ∧ (tb.Bal) ∧ (ta.size + tb.size ≤ 900000) ∧ ((↑(jB ta.size tb.size) : Int) ≤ S'1.free) ∧ (hs2.length ≤ 700000000) ∧ (S'1.reads + 5 * (↑(jB ta.size tb.size) : Int) ≤ 1800000000000000000) ∧ (∀ S'2 : Arn, (∀ i1 : Int, ((TrR S'1 hs2 (ta.list ++ (k1, v1) :: tb.list) (jB ta.size tb.size) (4 * jB ta.size tb.size) S'2 i1) → (((balN (↑ta.size : Int) (↑tb.size : Int)) → ((((S'2.nd i1).left) = (j)) ∧ (((S'2.nd i1).right) = (r)) ∧ ((S'2.nu) = (S'1.nu + 1)))) → (K (SV.one (TV.at (At.val (Value.int IntKind.u32 (i1))))) [(Chunk.box [(At.ptr 1 0), (At.slc 2), (At.slc 3), (At.val (Value.int IntKind.u64 (S'2.reads)))]), (Chunk.box [(At.slc 4), (At.slc 5), (At.slc 6), (At.val (Value.int IntKind.u32 (S'2.fresh)))]), (Chunk.row true (EC.node) (S'2.nodes)), (Chunk.row true (EC.int) (S'2.counts)), (Chunk.row true (EC.bool) (S'2.used)), (Chunk.row true (EC.u32) (S'2.gen)), (Chunk.row true (EC.u32) (S'2.rel))] [0, 1, 2, 3, 4, 5, 6]))))))))))))))) ∧ (∃ hs1 : List Int, (∃ t : Tr, ((Wf S' (l :: hs1)) ∧ (Rep S' t l) ∧ (t.Bal) ∧ (Asc t.list) ∧ (t.size < n) ∧ (t.size ≤ 700000) ∧ ((↑(iB t.size) : Int) ≤ S'.free) ∧ (hs1.length + t.size ≤ 600000000) ∧ (S'.reads + 5 * (↑(iB t.size) : Int) ≤ 1600000000000000000) ∧ (∀ S'1 : Arn, (∀ j : Int, ((TrR S' hs1 (insE t.list (k, v)) (iB t.size) (5 * iB t.size) S'1 j) → (∃ hs2 : List Int, (∃ ta : Tr, (∃ tb : Tr, ((Wf S'1 (j :: r :: hs2)) ∧ (Rep S'1 ta j) ∧ (Rep S'1 tb r) ∧ (ta.Bal) ∧ (tb.Bal) ∧ (ta.size + tb.size ≤ 900000) ∧
    ((↑(jB ta.size tb.size) : Int) ≤ S'1.free) ∧ (hs2.length ≤ 700000000) ∧ (S'1.reads + 5 * (↑(jB ta.size tb.size) : Int) ≤ 1800000000000000000) ∧ (∀ S'2 : Arn, (∀ i1 : Int, ((TrR S'1 hs2 (ta.list ++ (k1, v1) :: tb.list) (jB ta.size tb.size) (4 * jB ta.size tb.size) S'2 i1) → (((balN (↑ta.size : Int) (↑tb.size : Int)) → ((((S'2.nd i1).left) = (j)) ∧ (((S'2.nd i1).right) = (r)) ∧ ((S'2.nu) = (S'1.nu + 1)))) → (K (SV.one (TV.at (At.val (Value.int IntKind.u32 (i1))))) [(Chunk.box [(At.ptr 1 0), (At.slc 2), (At.slc 3), (At.val (Value.int IntKind.u64 (S'2.reads)))]), (Chunk.box [(At.slc 4), (At.slc 5), (At.slc 6), (At.val (Value.int IntKind.u32 (S'2.fresh)))]), (Chunk.row true (EC.node) (S'2.nodes)), (Chunk.row true (EC.int) (S'2.counts)), (Chunk.row true (EC.bool) (S'2.used)), (Chunk.row true (EC.u32) (S'2.gen)), (Chunk.row true (EC.u32) (S'2.rel))] [0, 1, 2, 3, 4, 5, 6])))))))))))))))) ∧ (∃ hs1 : List Int, (∃ t : Tr, ((Wf S' (l :: hs1)) ∧ (Rep S' t l) ∧ (t.Bal) ∧ (Asc t.list) ∧ (t.size < n) ∧ (t.size ≤ 700000) ∧ ((↑(iB t.size) : Int) ≤ S'.free) ∧ (hs1.length + t.size ≤ 600000000) ∧ (S'.reads + 5 * (↑(iB t.size) : Int) ≤ 1600000000000000000) ∧ (∀ S'1 : Arn, (∀ j : Int, ((TrR S' hs1 (insE t.list (k, v)) (iB t.size) (5 * iB t.size) S'1 j) → (∃ hs2 : List Int, (∃ ta : Tr, (∃ tb : Tr, ((Wf S'1 (j :: r :: hs2)) ∧ (Rep S'1 ta j) ∧ (Rep S'1 tb r) ∧ (ta.Bal) ∧ (tb.Bal) ∧ (ta.size + tb.size ≤ 900000) ∧ ((↑(jB ta.size tb.size) : Int) ≤ S'1.free) ∧ (hs2.length ≤ 700000000) ∧
    (S'1.reads + 5 * (↑(jB ta.size tb.size) : Int) ≤ 1800000000000000000) ∧ (∀ S'2 : Arn, (∀ i1 : Int, ((TrR S'1 hs2 (ta.list ++ (k1, v1) :: tb.list) (jB ta.size tb.size) (4 * jB ta.size tb.size) S'2 i1) → (((balN (↑ta.size : Int) (↑tb.size : Int)) → ((((S'2.nd i1).left) = (j)) ∧ (((S'2.nd i1).right) = (r)) ∧ ((S'2.nu) = (S'1.nu + 1)))) → (K (SV.one (TV.at (At.val (Value.int IntKind.u32 (i1))))) [(Chunk.box [(At.ptr 1 0), (At.slc 2), (At.slc 3), (At.val (Value.int IntKind.u64 (S'2.reads)))]), (Chunk.box [(At.slc 4), (At.slc 5), (At.slc 6), (At.val (Value.int IntKind.u32 (S'2.fresh)))]), (Chunk.row true (EC.node) (S'2.nodes)), (Chunk.row true (EC.int) (S'2.counts)), (Chunk.row true (EC.bool) (S'2.used)), (Chunk.row true (EC.u32) (S'2.gen)), (Chunk.row true (EC.u32) (S'2.rel))] [0, 1, 2, 3, 4, 5, 6]))))))))))))))))) ((brS (decide (k > k1)) (((∃ hs1 : List Int, (∃ t : Tr, ((Wf S' (r :: hs1)) ∧ (Rep S' t r) ∧ (t.Bal) ∧ (Asc t.list) ∧ (t.size < n) ∧ (t.size ≤ 700000) ∧ ((↑(iB t.size) : Int) ≤ S'.free) ∧ (hs1.length + t.size ≤ 600000000) ∧ (S'.reads + 5 * (↑(iB t.size) : Int) ≤ 1600000000000000000) ∧ (∀ S'1 : Arn, (∀ j : Int, ((TrR S' hs1 (insE t.list (k, v)) (iB t.size) (5 * iB t.size) S'1 j) → (∃ hs2 : List Int, (∃ ta : Tr, (∃ tb : Tr, ((Wf S'1 (l :: j :: hs2)) ∧ (Rep S'1 ta l) ∧ (Rep S'1 tb j) ∧ (ta.Bal) ∧ (tb.Bal) ∧ (ta.size + tb.size ≤ 900000) ∧ ((↑(jB ta.size tb.size) : Int) ≤ S'1.free) ∧ (hs2.length ≤ 700000000) ∧
    (S'1.reads + 5 * (↑(jB ta.size tb.size) : Int) ≤ 1800000000000000000) ∧ (∀ S'2 : Arn, (∀ i1 : Int, ((TrR S'1 hs2 (ta.list ++ (k1, v1) :: tb.list) (jB ta.size tb.size) (4 * jB ta.size tb.size) S'2 i1) → (((balN (↑ta.size : Int) (↑tb.size : Int)) → ((((S'2.nd i1).left) = (l)) ∧ (((S'2.nd i1).right) = (j)) ∧ ((S'2.nu) = (S'1.nu + 1)))) → (K (SV.one (TV.at (At.val (Value.int IntKind.u32 (i1))))) [(Chunk.box [(At.ptr 1 0), (At.slc 2), (At.slc 3), (At.val (Value.int IntKind.u64 (S'2.reads)))]), (Chunk.box [(At.slc 4), (At.slc 5), (At.slc 6), (At.val (Value.int IntKind.u32 (S'2.fresh)))]), (Chunk.row true (EC.node) (S'2.nodes)), (Chunk.row true (EC.int) (S'2.counts)), (Chunk.row true (EC.bool) (S'2.used)), (Chunk.row true (EC.u32) (S'2.gen)), (Chunk.row true (EC.u32) (S'2.rel))] [0, 1, 2, 3, 4, 5, 6]))))))))))))))) ∧ (∃ hs1 : List Int, (∃ t : Tr, ((Wf S' (r :: hs1)) ∧ (Rep S' t r) ∧ (t.Bal) ∧ (Asc t.list) ∧ (t.size < n) ∧ (t.size ≤ 700000) ∧ ((↑(iB t.size) : Int) ≤ S'.free) ∧ (hs1.length + t.size ≤ 600000000) ∧ (S'.reads + 5 * (↑(iB t.size) : Int) ≤ 1600000000000000000) ∧ (∀ S'1 : Arn, (∀ j : Int, ((TrR S' hs1 (insE t.list (k, v)) (iB t.size) (5 * iB t.size) S'1 j) → (∃ hs2 : List Int, (∃ ta : Tr, (∃ tb : Tr, ((Wf S'1 (l :: j :: hs2)) ∧ (Rep S'1 ta l) ∧ (Rep S'1 tb j) ∧ (ta.Bal) ∧ (tb.Bal) ∧ (ta.size + tb.size ≤ 900000) ∧ ((↑(jB ta.size tb.size) : Int) ≤ S'1.free) ∧ (hs2.length ≤ 700000000) ∧ (S'1.reads + 5 * (↑(jB ta.size tb.size) : Int) ≤ 1800000000000000000) ∧ (∀ S'2 : Arn,
    (∀ i1 : Int, ((TrR S'1 hs2 (ta.list ++ (k1, v1) :: tb.list) (jB ta.size tb.size) (4 * jB ta.size tb.size) S'2 i1) → (((balN (↑ta.size : Int) (↑tb.size : Int)) → ((((S'2.nd i1).left) = (l)) ∧ (((S'2.nd i1).right) = (j)) ∧ ((S'2.nu) = (S'1.nu + 1)))) → (K (SV.one (TV.at (At.val (Value.int IntKind.u32 (i1))))) [(Chunk.box [(At.ptr 1 0), (At.slc 2), (At.slc 3), (At.val (Value.int IntKind.u64 (S'2.reads)))]), (Chunk.box [(At.slc 4), (At.slc 5), (At.slc 6), (At.val (Value.int IntKind.u32 (S'2.fresh)))]), (Chunk.row true (EC.node) (S'2.nodes)), (Chunk.row true (EC.int) (S'2.counts)), (Chunk.row true (EC.bool) (S'2.used)), (Chunk.row true (EC.u32) (S'2.gen)), (Chunk.row true (EC.u32) (S'2.rel))] [0, 1, 2, 3, 4, 5, 6]))))))))))))))) ∧ (∃ hs1 : List Int, (∃ t : Tr, ((Wf S' (r :: hs1)) ∧ (Rep S' t r) ∧ (t.Bal) ∧ (Asc t.list) ∧ (t.size < n) ∧ (t.size ≤ 700000) ∧ ((↑(iB t.size) : Int) ≤ S'.free) ∧ (hs1.length + t.size ≤ 600000000) ∧ (S'.reads + 5 * (↑(iB t.size) : Int) ≤ 1600000000000000000) ∧ (∀ S'1 : Arn, (∀ j : Int, ((TrR S' hs1 (insE t.list (k, v)) (iB t.size) (5 * iB t.size) S'1 j) → (∃ hs2 : List Int, (∃ ta : Tr, (∃ tb : Tr, ((Wf S'1 (l :: j :: hs2)) ∧ (Rep S'1 ta l) ∧ (Rep S'1 tb j) ∧ (ta.Bal) ∧ (tb.Bal) ∧ (ta.size + tb.size ≤ 900000) ∧ ((↑(jB ta.size tb.size) : Int) ≤ S'1.free) ∧ (hs2.length ≤ 700000000) ∧ (S'1.reads + 5 * (↑(jB ta.size tb.size) : Int) ≤ 1800000000000000000) ∧ (∀ S'2 : Arn, (∀ i1 : Int,
    ((TrR S'1 hs2 (ta.list ++ (k1, v1) :: tb.list) (jB ta.size tb.size) (4 * jB ta.size tb.size) S'2 i1) → (((balN (↑ta.size : Int) (↑tb.size : Int)) → ((((S'2.nd i1).left) = (l)) ∧ (((S'2.nd i1).right) = (j)) ∧ ((S'2.nu) = (S'1.nu + 1)))) → (K (SV.one (TV.at (At.val (Value.int IntKind.u32 (i1))))) [(Chunk.box [(At.ptr 1 0), (At.slc 2), (At.slc 3), (At.val (Value.int IntKind.u64 (S'2.reads)))]), (Chunk.box [(At.slc 4), (At.slc 5), (At.slc 6), (At.val (Value.int IntKind.u32 (S'2.fresh)))]), (Chunk.row true (EC.node) (S'2.nodes)), (Chunk.row true (EC.int) (S'2.counts)), (Chunk.row true (EC.bool) (S'2.used)), (Chunk.row true (EC.u32) (S'2.gen)), (Chunk.row true (EC.u32) (S'2.rel))] [0, 1, 2, 3, 4, 5, 6]))))))))))))))))) ((∃ hs1 : List Int, (∃ tl : Tr, (∃ tr : Tr, ((Wf S' (l :: r :: hs1)) ∧ (Rep S' tl l) ∧ (Rep S' tr r) ∧ (tl.size + tr.size ≤ 1000000) ∧ (0 < S'.free) ∧ (hs1.length ≤ 900000000) ∧ (∀ S'1 : Arn, (∀ i1 : Int, ((NodeR S' hs1 k v tl tr S'1 i1) → ((((S'1.nd i1).left) = (l)) → ((((S'1.nd i1).right) = (r)) →
    (K (SV.one (TV.at (At.val (Value.int IntKind.u32 (i1))))) [(Chunk.box [(At.ptr 1 0), (At.slc 2), (At.slc 3), (At.val (Value.int IntKind.u64 (S'1.reads)))]), (Chunk.box [(At.slc 4), (At.slc 5), (At.slc 6), (At.val (Value.int IntKind.u32 (S'1.fresh)))]), (Chunk.row true (EC.node) (S'1.nodes)), (Chunk.row true (EC.int) (S'1.counts)), (Chunk.row true (EC.bool) (S'1.used)), (Chunk.row true (EC.u32) (S'1.gen)), (Chunk.row true (EC.u32) (S'1.rel))] [0, 1, 2, 3, 4, 5, 6])))))))))))))))))))))))))) = _ by kernel_rfl) ?_
  have hrd := hw.rds
  refine brS_of (fun d => ?_) fun d => ?_
  · have d : i = 0 := by simpa using d
    subst d
    have e := h1.zero hw
    subst e
    have ep : 1 ≤ iB Tr.nil.size := by unfold iB; omega
    refine ⟨hs, .nil, .nil, hw.zero_cons (by simp; omega), rfl, rfl, by decide, by omega, by omega, fun S1 j nn _ _ => h S1 j ⟨(Got.node nn).mono (by omega) (by omega), _, nn.rep, ?_, ?_⟩⟩
    · simp [Tr.list, insE, insGo]
    · exact ⟨by decide, trivial, trivial⟩
  · have d : i ≠ 0 := by simpa using d
    obtain ⟨a, k1, v1, b, e⟩ := rep_ne h1 d
    subst e
    have zz := node_size a b k1 v1
    rw [zz] at hfu hz hf hl hr h
    obtain ⟨bb, ba, bbb⟩ := bal
    have asc' : Asc (a.list ++ (k1, v1) :: b.list) := asc
    obtain ⟨asca, ascb, ltk, gtk⟩ := asc_parts asc'
    have isa := iB_step (balN_comm bb) (by omega)
    have isb := iB_step bb (by omega)
    rw [show b.size + a.size + 1 = a.size + b.size + 1 by omega] at isa
    refine ⟨hs, a, k1, v1, b, hw, h1, by omega, by omega, fun S1 l r o => ?_⟩
    have f1 := o.got.free hw
    have q1 := o.got.rd
    refine brS_of (fun d => ?_) fun d => brS_of (fun e => ?_) fun e => ?_
    · have d : k < k1 := of_decide_eq_true d
      (repeat' apply And.intro)
      all_goals
        refine ⟨r :: hs, a, o.got.wf, o.repl, ba, asca, by omega, by omega, by omega, by simp; omega, by omega, fun S2 j tr => ?_⟩
        obtain ⟨t, rt, lt, bt⟩ := tr.tree
        have z1 := insE_ge (k, v) asca
        have z2 := insE_len a.list (k, v)
        rw [← lt, a.list_len, t.list_len] at z1 z2
        have jb := jB_ins bb z1 z2
        have jp := jB_pos t.size b.size
        have f2 := tr.got.free o.got.wf
        have q2 := tr.got.rd
        refine ⟨hs, t, b, tr.got.wf, rt, o.repr.held o.got.wf tr.got.stay (.inr (by simp)), bt, bbb, by omega, by omega, by omega, by omega, fun S3 q tj _ => h S3 q ⟨?_, ?_⟩⟩
        · exact ((o.got.seq tr.got (h := hs) (fun _ h => h) (fun _ h => by simp [h])).seq tj.got (fun _ h => h) (fun _ h => h)).mono (by omega) (by omega)
        · obtain ⟨t', rt', lt', bt'⟩ := tj.tree
          exact ⟨t', rt', by rw [lt', lt]; exact (insE_left asc' d).symm, bt'⟩
    · have e : k1 < k := of_decide_eq_true e
      (repeat' apply And.intro)
      all_goals
        refine ⟨l :: hs, b, o.got.wf.perm (List.Perm.swap _ _ _), o.repr, bbb, ascb, by omega, by omega, by omega, by simp; omega, by omega, fun S2 j tr => ?_⟩
        obtain ⟨t, rt, lt, bt⟩ := tr.tree
        have z1 := insE_ge (k, v) ascb
        have z2 := insE_len b.list (k, v)
        rw [← lt, b.list_len, t.list_len] at z1 z2
        have jb := jB_ins' bb z1 z2
        have jp := jB_pos a.size t.size
        have f2 := tr.got.free o.got.wf
        have q2 := tr.got.rd
        refine ⟨hs, a, t, tr.got.wf.perm (List.Perm.swap _ _ _), o.repl.held o.got.wf tr.got.stay (.inr (by simp)), rt, ba, bt, by omega, by omega, by omega, by omega, fun S3 q tj _ => h S3 q ⟨?_, ?_⟩⟩
        · exact ((o.got.seq tr.got (h := hs) (fun _ h => h) (fun _ h => by simp [h])).seq tj.got (fun _ h => h) (fun _ h => h)).mono (by omega) (by omega)
        · obtain ⟨t', rt', lt', bt'⟩ := tj.tree
          exact ⟨t', rt', by rw [lt', lt]; exact (insE_right asc' e).symm, bt'⟩
    · have d : ¬ k < k1 := of_decide_eq_false d
      have e : ¬ k > k1 := of_decide_eq_false e
      have ek : k1 = k := by omega
      subst ek
      have ip : 1 ≤ iB (a.size + b.size + 1) := by unfold iB; omega
      refine ⟨hs, a, b, o.got.wf, o.repl, o.repr, by omega, by omega, by omega, fun S2 j nn _ _ => h S2 j ⟨(o.got.seq (Got.node nn) (h := hs) (fun _ h => h) (fun _ h => h)).mono (by omega) (by omega), _, nn.rep, ?_, bb, ba, bbb⟩⟩
      exact (insE_at (e := (k1, v)) asc').symm
theorem s_insr : ∀ n, SoundT C0 105 (tInsT n) := by
  intro n
  induction n with
  | zero =>
    refine .of Try.func105 (by decide) rfl fun args H K h hB => ?_
    exfalso
    unfold tInsT at h
    split at h <;> try exact h.elim
    unfold arM at h
    split at h <;> try exact h.elim
    obtain ⟨_, _, _, _, _, _, h1, _⟩ := h
    omega
  | succ n ih =>
    refine .ofW W7 Try.func105 (by decide) rfl fun args H K h hB => ?_
    unfold tInsT at h
    split at h <;> try exact h.elim
    unfold arM at h
    split at h <;> try exact h.elim
    rename_i i k v _ rd fr nd ct us gn rl
    obtain ⟨hs, t, h1, h2, h3, h4, h5, h6, h7, h8, h9, h10⟩ := h
    exact ⟨aIns' n, ⟨frame C0.ok s_opn _, frame C0.ok ih _, frame C0.ok s_join _, frame C0.ok s_nodeX _, trivial⟩, vc_insr n ⟨us, gn, rl, fr, nd, ct, rd⟩ i k v K hs t h1 h2 h3 h4 h5 h6 h7 h8 h9 h10⟩
theorem hasK_left {a b : List Ent} {k v q : Int} (h : Asc (a ++ (k, v) :: b)) (hk : hasK (a ++ (k, v) :: b) q) (hq : q < k) : hasK a q := by
  obtain ⟨w, hw⟩ := hk
  obtain ⟨_, _, _, h4⟩ := asc_parts h
  rcases List.mem_append.1 hw with c | c
  · exact ⟨w, c⟩
  · rcases List.mem_cons.1 c with c | c
    · have := congrArg Prod.fst c; simp at this; omega
    · have := h4 _ c; simp at this; omega
theorem hasK_right {a b : List Ent} {k v q : Int} (h : Asc (a ++ (k, v) :: b)) (hk : hasK (a ++ (k, v) :: b) q) (hq : k < q) : hasK b q := by
  obtain ⟨w, hw⟩ := hk
  obtain ⟨_, _, h3, _⟩ := asc_parts h
  rcases List.mem_append.1 hw with c | c
  · have := h3 _ c; simp at this; omega
  · rcases List.mem_cons.1 c with c | c
    · have := congrArg Prod.fst c; simp at this; omega
    · exact ⟨w, c⟩
theorem vc_dlt (n : Nat) (S : Arn) (i key : Int) (K : KT) (hs : List Int) (t : Tr) (hw : Wf S (i :: hs)) (h1 : Rep S t i) (bal : t.Bal) (asc : Asc t.list) (hfu : t.size < n + 1) (hz : t.size ≤ 700000) (hk : hasK t.list key) (hf : (dB t.size : Int) ≤ S.free) (hl : hs.length + t.size ≤ 300000000) (hr : S.reads + 5 * dB t.size ≤ 1500000000000000000)
    (h : ∀ S' j, TrR S hs (flt (neK key) t.list) (dB t.size) (5 * dB t.size) S' j → K (.one (.at (vU j))) (chS S') W7) :
    vc C0 (aDlt n) Try.f102 [.at (.ptr 0 0), .at (vU i), .at (vI key)] (chS S) (normK 7 (wideK W7 K)) := by
  refine Eq.mp (show (brS (i == 0) ((K (SV.one (TV.at (At.val (Value.int IntKind.u32 0)))) [(Chunk.box [(At.ptr 1 0), (At.slc 2), (At.slc 3), (At.val (Value.int IntKind.u64 (S.reads)))]), (Chunk.box [(At.slc 4), (At.slc 5), (At.slc 6), (At.val (Value.int IntKind.u32 (S.fresh)))]), (Chunk.row true (EC.node) (S.nodes)), (Chunk.row true (EC.int) (S.counts)), (Chunk.row true (EC.bool) (S.used)), (Chunk.row true (EC.u32) (S.gen)), (Chunk.row true (EC.u32) (S.rel))] [0, 1, 2, 3, 4, 5, 6])) ((∃ hs : List Int, (∃ a : Tr, (∃ k : Int, (∃ v : Int, (∃ b : Tr, ((Wf S (i :: hs)) ∧ (Rep S (a.node k v b) i) ∧ (hs.length ≤ 900000000) ∧ (S.reads ≤ 3000000000000000000) ∧ (∀ S' : Arn, (∀ l : Int, (∀ r : Int, ((OpnR S hs a k v b S' l r) → (brS (decide (key < k)) (((∃ hs1 : List Int, (∃ t : Tr, ((Wf S' (l :: hs1)) ∧ (Rep S' t l) ∧ (t.Bal) ∧ (Asc t.list) ∧ (t.size < n) ∧ (t.size ≤ 700000) ∧ (hasK t.list key) ∧ ((↑(dB t.size) : Int) ≤ S'.free) ∧ (hs1.length + t.size ≤ 300000000) ∧ (S'.reads + 5 * (↑(dB t.size) : Int) ≤ 1500000000000000000) ∧ (∀ S'1 : Arn, (∀ j : Int, ((TrR S' hs1 (flt (neK key) t.list) (dB t.size) (5 * dB t.size) S'1 j) → (∃ hs2 : List Int, (∃ ta : Tr, (∃ tb : Tr, ((Wf S'1 (j :: r :: hs2)) ∧ (Rep S'1 ta j) ∧ (Rep S'1 tb r) ∧ (ta.Bal) ∧ (tb.Bal) ∧ (ta.size + tb.size ≤ 900000) ∧ ((↑(jB ta.size tb.size) : Int) ≤ S'1.free) ∧ (hs2.length ≤ 700000000) ∧ (S'1.reads + 5 * (↑(jB ta.size tb.size) : Int) ≤ 1800000000000000000) ∧ (∀ S'2 : Arn, (∀ i1 : Int,
    ((TrR S'1 hs2 (ta.list ++ (k, v) :: tb.list) (jB ta.size tb.size) (4 * jB ta.size tb.size) S'2 i1) → (((balN (↑ta.size : Int) (↑tb.size : Int)) → ((((S'2.nd i1).left) = (j)) ∧ (((S'2.nd i1).right) = (r)) ∧ ((S'2.nu) = (S'1.nu + 1)))) → (K (SV.one (TV.at (At.val (Value.int IntKind.u32 (i1))))) [(Chunk.box [(At.ptr 1 0), (At.slc 2), (At.slc 3), (At.val (Value.int IntKind.u64 (S'2.reads)))]), (Chunk.box [(At.slc 4), (At.slc 5), (At.slc 6), (At.val (Value.int IntKind.u32 (S'2.fresh)))]), (Chunk.row true (EC.node) (S'2.nodes)), (Chunk.row true (EC.int) (S'2.counts)), (Chunk.row true (EC.bool) (S'2.used)), (Chunk.row true (EC.u32) (S'2.gen)), (Chunk.row true (EC.u32) (S'2.rel))] [0, 1, 2, 3, 4, 5, 6]))))))))))))))) ∧ (∃ hs1 : List Int, (∃ t : Tr, ((Wf S' (l :: hs1)) ∧ (Rep S' t l) ∧ (t.Bal) ∧ (Asc t.list) ∧ (t.size < n) ∧ (t.size ≤ 700000) ∧ (hasK t.list key) ∧ ((↑(dB t.size) : Int) ≤ S'.free) ∧ (hs1.length + t.size ≤ 300000000) ∧ (S'.reads + 5 * (↑(dB t.size) : Int) ≤ 1500000000000000000) ∧ (∀ S'1 : Arn, (∀ j : Int, ((TrR S' hs1 (flt (neK key) t.list) (dB t.size) (5 * dB t.size) S'1 j) → (∃ hs2 : List Int, (∃ ta : Tr, (∃ tb : Tr, ((Wf S'1 (j :: r :: hs2)) ∧ (Rep S'1 ta j) ∧ (Rep S'1 tb r) ∧ (ta.Bal) ∧ (tb.Bal) ∧ (ta.size + tb.size ≤ 900000) ∧ ((↑(jB ta.size tb.size) : Int) ≤ S'1.free) ∧ (hs2.length ≤ 700000000) ∧ (S'1.reads + 5 * (↑(jB ta.size tb.size) : Int) ≤ 1800000000000000000) ∧ (∀ S'2 : Arn, (∀ i1 : Int,
    ((TrR S'1 hs2 (ta.list ++ (k, v) :: tb.list) (jB ta.size tb.size) (4 * jB ta.size tb.size) S'2 i1) → (((balN (↑ta.size : Int) (↑tb.size : Int)) → ((((S'2.nd i1).left) = (j)) ∧ (((S'2.nd i1).right) = (r)) ∧ ((S'2.nu) = (S'1.nu + 1)))) → (K (SV.one (TV.at (At.val (Value.int IntKind.u32 (i1))))) [(Chunk.box [(At.ptr 1 0), (At.slc 2), (At.slc 3), (At.val (Value.int IntKind.u64 (S'2.reads)))]), (Chunk.box [(At.slc 4), (At.slc 5), (At.slc 6), (At.val (Value.int IntKind.u32 (S'2.fresh)))]), (Chunk.row true (EC.node) (S'2.nodes)), (Chunk.row true (EC.int) (S'2.counts)), (Chunk.row true (EC.bool) (S'2.used)), (Chunk.row true (EC.u32) (S'2.gen)), (Chunk.row true (EC.u32) (S'2.rel))] [0, 1, 2, 3, 4, 5, 6]))))))))))))))))) ((brS (decide (key > k)) (((∃ hs1 : List Int, (∃ t : Tr, ((Wf S' (r :: hs1)) ∧ (Rep S' t r) ∧ (t.Bal) ∧ (Asc t.list) ∧ (t.size < n) ∧ (t.size ≤ 700000) ∧ (hasK t.list key) ∧ ((↑(dB t.size) : Int) ≤ S'.free) ∧ (hs1.length + t.size ≤ 300000000) ∧ (S'.reads + 5 * (↑(dB t.size) : Int) ≤ 1500000000000000000) ∧ (∀ S'1 : Arn, (∀ j : Int, ((TrR S' hs1 (flt (neK key) t.list) (dB t.size) (5 * dB t.size) S'1 j) → (∃ hs2 : List Int, (∃ ta : Tr, (∃ tb : Tr, ((Wf S'1 (l :: j :: hs2)) ∧ (Rep S'1 ta l) ∧ (Rep S'1 tb j) ∧ (ta.Bal) ∧ (tb.Bal) ∧ (ta.size + tb.size ≤ 900000) ∧ ((↑(jB ta.size tb.size) : Int) ≤ S'1.free) ∧ (hs2.length ≤ 700000000) ∧ (S'1.reads + 5 * (↑(jB ta.size tb.size) : Int) ≤ 1800000000000000000) ∧ (∀ S'2 : Arn, (∀ i1 : Int,
    ((TrR S'1 hs2 (ta.list ++ (k, v) :: tb.list) (jB ta.size tb.size) (4 * jB ta.size tb.size) S'2 i1) → (((balN (↑ta.size : Int) (↑tb.size : Int)) → ((((S'2.nd i1).left) = (l)) ∧ (((S'2.nd i1).right) = (j)) ∧ ((S'2.nu) = (S'1.nu + 1)))) → (K (SV.one (TV.at (At.val (Value.int IntKind.u32 (i1))))) [(Chunk.box [(At.ptr 1 0), (At.slc 2), (At.slc 3), (At.val (Value.int IntKind.u64 (S'2.reads)))]), (Chunk.box [(At.slc 4), (At.slc 5), (At.slc 6), (At.val (Value.int IntKind.u32 (S'2.fresh)))]), (Chunk.row true (EC.node) (S'2.nodes)), (Chunk.row true (EC.int) (S'2.counts)), (Chunk.row true (EC.bool) (S'2.used)), (Chunk.row true (EC.u32) (S'2.gen)), (Chunk.row true (EC.u32) (S'2.rel))] [0, 1, 2, 3, 4, 5, 6]))))))))))))))) ∧ (∃ hs1 : List Int, (∃ t : Tr, ((Wf S' (r :: hs1)) ∧ (Rep S' t r) ∧ (t.Bal) ∧ (Asc t.list) ∧ (t.size < n) ∧ (t.size ≤ 700000) ∧ (hasK t.list key) ∧ ((↑(dB t.size) : Int) ≤ S'.free) ∧ (hs1.length + t.size ≤ 300000000) ∧ (S'.reads + 5 * (↑(dB t.size) : Int) ≤ 1500000000000000000) ∧ (∀ S'1 : Arn, (∀ j : Int, ((TrR S' hs1 (flt (neK key) t.list) (dB t.size) (5 * dB t.size) S'1 j) → (∃ hs2 : List Int, (∃ ta : Tr, (∃ tb : Tr, ((Wf S'1 (l :: j :: hs2)) ∧ (Rep S'1 ta l) ∧ (Rep S'1 tb j) ∧ (ta.Bal) ∧ (tb.Bal) ∧ (ta.size + tb.size ≤ 900000) ∧ ((↑(jB ta.size tb.size) : Int) ≤ S'1.free) ∧ (hs2.length ≤ 700000000) ∧ (S'1.reads + 5 * (↑(jB ta.size tb.size) : Int) ≤ 1800000000000000000) ∧ (∀ S'2 : Arn, (∀ i1 : Int,
    ((TrR S'1 hs2 (ta.list ++ (k, v) :: tb.list) (jB ta.size tb.size) (4 * jB ta.size tb.size) S'2 i1) → (((balN (↑ta.size : Int) (↑tb.size : Int)) → ((((S'2.nd i1).left) = (l)) ∧ (((S'2.nd i1).right) = (j)) ∧ ((S'2.nu) = (S'1.nu + 1)))) → (K (SV.one (TV.at (At.val (Value.int IntKind.u32 (i1))))) [(Chunk.box [(At.ptr 1 0), (At.slc 2), (At.slc 3), (At.val (Value.int IntKind.u64 (S'2.reads)))]), (Chunk.box [(At.slc 4), (At.slc 5), (At.slc 6), (At.val (Value.int IntKind.u32 (S'2.fresh)))]), (Chunk.row true (EC.node) (S'2.nodes)), (Chunk.row true (EC.int) (S'2.counts)), (Chunk.row true (EC.bool) (S'2.used)), (Chunk.row true (EC.u32) (S'2.gen)), (Chunk.row true (EC.u32) (S'2.rel))] [0, 1, 2, 3, 4, 5, 6]))))))))))))))))) ((∃ hs1 : List Int, (∃ ta : Tr, (∃ tb : Tr, ((Wf S' (l :: r :: hs1)) ∧ (Rep S' ta l) ∧ (Rep S' tb r) ∧ (ta.Bal) ∧ (tb.Bal) ∧ (ta.size + tb.size ≤ 800000) ∧ ((↑(cB ta.size tb.size) : Int) ≤ S'.free) ∧ (hs1.length ≤ 400000000) ∧ (S'.reads + 5 * (↑(cB ta.size tb.size) : Int) ≤ 1600000000000000000) ∧ (∀ S'1 : Arn, (∀ i1 : Int, ((TrR S' hs1 (ta.list ++ tb.list) (cB ta.size tb.size) (5 * cB ta.size tb.size) S'1 i1) →
    (K (SV.one (TV.at (At.val (Value.int IntKind.u32 (i1))))) [(Chunk.box [(At.ptr 1 0), (At.slc 2), (At.slc 3), (At.val (Value.int IntKind.u64 (S'1.reads)))]), (Chunk.box [(At.slc 4), (At.slc 5), (At.slc 6), (At.val (Value.int IntKind.u32 (S'1.fresh)))]), (Chunk.row true (EC.node) (S'1.nodes)), (Chunk.row true (EC.int) (S'1.counts)), (Chunk.row true (EC.bool) (S'1.used)), (Chunk.row true (EC.u32) (S'1.gen)), (Chunk.row true (EC.u32) (S'1.rel))] [0, 1, 2, 3, 4, 5, 6])))))))))))))))))))))))) = _ by kernel_rfl) ?_
  have hrd := hw.rds
  refine brS_of (fun d => ?_) fun d => ?_
  · have d : i = 0 := by simpa using d
    subst d
    have e := h1.zero hw
    subst e
    obtain ⟨v, hv⟩ := hk
    simp [Tr.list] at hv
  · have d : i ≠ 0 := by simpa using d
    obtain ⟨a, k1, v1, b, e⟩ := rep_ne h1 d
    subst e
    have zz := node_size a b k1 v1
    rw [zz] at hfu hz hf hl hr h
    obtain ⟨bb, ba, bbb⟩ := bal
    have asc' : Asc (a.list ++ (k1, v1) :: b.list) := asc
    have hk' : hasK (a.list ++ (k1, v1) :: b.list) key := hk
    have h' : ∀ S' j, TrR S hs (flt (neK key) (a.list ++ (k1, v1) :: b.list)) (dB (a.size + b.size + 1)) (5 * dB (a.size + b.size + 1)) S' j → K (.one (.at (vU j))) (chS S') W7 := h
    obtain ⟨asca, ascb, ltk, gtk⟩ := asc_parts asc'
    have dp := dB_pos (a.size + b.size + 1)
    refine ⟨hs, a, k1, v1, b, hw, h1, by omega, by omega, fun S1 l r o => ?_⟩
    have f1 := o.got.free hw
    have q1 := o.got.rd
    refine brS_of (fun d => ?_) fun d => brS_of (fun e => ?_) fun e => ?_
    · have d : key < k1 := of_decide_eq_true d
      have hka := hasK_left asc' hk' d
      have zl := flt_ne_len asca hka
      rw [a.list_len] at zl
      have ds := dB_step (balN_comm bb) (c := a.size) (by omega) (by omega)
      rw [show b.size + a.size + 1 = a.size + b.size + 1 by omega] at ds
      have jp := jB_pos b.size (a.size - 1)
      (repeat' apply And.intro)
      all_goals
        refine ⟨r :: hs, a, o.got.wf, o.repl, ba, asca, by omega, by omega, hka, by omega, by simp; omega, by omega, fun S2 j tr => ?_⟩
        obtain ⟨t, rt, lt, bt⟩ := tr.tree
        have zt : t.size = a.size - 1 := by rw [← t.list_len, lt]; omega
        have f2 := tr.got.free o.got.wf
        have q2 := tr.got.rd
        have ej : jB t.size b.size = jB b.size (a.size - 1) := by rw [zt, jB_comm]
        refine ⟨hs, t, b, tr.got.wf, rt, o.repr.held o.got.wf tr.got.stay (.inr (by simp)), bt, bbb, by omega, by omega, by omega, by omega, fun S3 q tj _ => h' S3 q ⟨?_, ?_⟩⟩
        · exact ((o.got.seq tr.got (h := hs) (fun _ h => h) (fun _ h => by simp [h])).seq tj.got (fun _ h => h) (fun _ h => h)).mono (by omega) (by omega)
        · obtain ⟨t', rt', lt', bt'⟩ := tj.tree
          refine ⟨t', rt', ?_, bt'⟩
          rw [lt', lt]
          exact (flt_upR (fun x hx => by have := gtk x hx; simp [neK]; omega) (by simp [neK]; omega)).symm
    · have e : k1 < key := of_decide_eq_true e
      have hkb := hasK_right asc' hk' e
      have zl := flt_ne_len ascb hkb
      rw [b.list_len] at zl
      have ds := dB_step bb (by omega) (by omega)
      have jp := jB_pos a.size (b.size - 1)
      (repeat' apply And.intro)
      all_goals
        refine ⟨l :: hs, b, o.got.wf.perm (List.Perm.swap _ _ _), o.repr, bbb, ascb, by omega, by omega, hkb, by omega, by simp; omega, by omega, fun S2 j tr => ?_⟩
        obtain ⟨t, rt, lt, bt⟩ := tr.tree
        have zt : t.size = b.size - 1 := by rw [← t.list_len, lt]; omega
        have f2 := tr.got.free o.got.wf
        have q2 := tr.got.rd
        have ej : jB a.size t.size = jB a.size (b.size - 1) := by rw [zt]
        refine ⟨hs, a, t, tr.got.wf.perm (List.Perm.swap _ _ _), o.repl.held o.got.wf tr.got.stay (.inr (by simp)), rt, ba, bt, by omega, by omega, by omega, by omega, fun S3 q tj _ => h' S3 q ⟨?_, ?_⟩⟩
        · exact ((o.got.seq tr.got (h := hs) (fun _ h => h) (fun _ h => by simp [h])).seq tj.got (fun _ h => h) (fun _ h => h)).mono (by omega) (by omega)
        · obtain ⟨t', rt', lt', bt'⟩ := tj.tree
          refine ⟨t', rt', ?_, bt'⟩
          rw [lt', lt]
          exact (flt_upL (fun x hx => by have := ltk x hx; simp [neK]; omega) (by simp [neK]; omega)).symm
    · have d : ¬ key < k1 := of_decide_eq_false d
      have e : ¬ key > k1 := of_decide_eq_false e
      have ek : key = k1 := by omega
      have df := dB_found bb (by omega)
      refine ⟨hs, a, b, o.got.wf, o.repl, o.repr, ba, bbb, by omega, by omega, by omega, by omega, fun S2 j tr => h' S2 j ⟨?_, ?_⟩⟩
      · exact (o.got.seq tr.got (h := hs) (fun _ h => h) (fun _ h => h)).mono (by omega) (by omega)
      · obtain ⟨t', rt', lt', bt'⟩ := tr.tree
        refine ⟨t', rt', ?_, bt'⟩
        rw [lt', flt_node, flt_all (l := a.list) (fun x hx => by have := ltk x hx; simp [neK]; omega), flt_all (l := b.list) (fun x hx => by have := gtk x hx; simp [neK]; omega), ek]
        simp [neK]
theorem s_dlt : ∀ n, SoundT C0 102 (tDlt n) := by
  intro n
  induction n with
  | zero =>
    refine .of Try.func102 (by decide) rfl fun args H K h hB => ?_
    exfalso
    unfold tDlt at h
    split at h <;> try exact h.elim
    unfold arM at h
    split at h <;> try exact h.elim
    obtain ⟨_, _, _, _, _, _, h1, _⟩ := h
    omega
  | succ n ih =>
    refine .ofW W7 Try.func102 (by decide) rfl fun args H K h hB => ?_
    unfold tDlt at h
    split at h <;> try exact h.elim
    unfold arM at h
    split at h <;> try exact h.elim
    rename_i i key _ rd fr nd ct us gn rl
    obtain ⟨hs, t, h1, h2, h3, h4, h5, h6, h7, h8, h9, h10, h11⟩ := h
    exact ⟨aDlt n, ⟨frame C0.ok s_opn _, frame C0.ok ih _, frame C0.ok s_join _, frame C0.ok s_cat _, trivial⟩, vc_dlt n ⟨us, gn, rl, fr, nd, ct, rd⟩ i key K hs t h1 h2 h3 h4 h5 h6 h7 h8 h9 h10 h11⟩
end Go.Proofs.Ytbonbaccmlomhaa.Sx
end
section
/- treework: Split, From, To. -/
namespace Go.Proofs.Ytbonbaccmlomhaa.Sx
open Go

/-KEEP Wf exW inU live Arn.cap Arn.free NodeR Rep Kept rdS retL Tr.size Tr.list Tr.Bal balN balB jB pB cB iB dB sB gN OpnR TrR Got flt insE getE Asc-/
def ltK (key : Int) (q : Int) : Bool := decide (q < key)
def gtK (key : Int) (q : Int) : Bool := decide (key < q)
def tSpl (n : Nat) : Tfm C0 := fun args H K => match args with
  | [.at (.ptr 0 0), .at (.val (.int .u32 i)), .at (.val (.int .i64 key))] => arM H fun S => ∃ hs t, Wf S (i :: hs) ∧ Rep S t i ∧ t.Bal ∧ Asc t.list ∧ t.size < n ∧ t.size ≤ 700000 ∧ 7 * (gN (t.size + 1) : Int) + 1 ≤ S.free ∧ hs.length + t.size ≤ 600000000 ∧ S.reads + (35 * gN (t.size + 1) + 5) ≤ 1600000000000000000 ∧
    ∀ S' x y m (o : Option Int), m ≤ gN (t.size + 1) + 3 * gN ((flt (ltK key) t.list).length + 1) + 3 * gN ((flt (gtK key) t.list).length + 1) + 1 → Got S hs m (5 * m) S' (x :: y :: hs) → (∃ t1, Rep S' t1 x ∧ t1.list = flt (ltK key) t.list ∧ t1.Bal) → (∃ t2, Rep S' t2 y ∧ t2.list = flt (gtK key) t.list ∧ t2.Bal) → o = getE t.list key →
      K (.tup [.at (vU x), .at (vI (o.getD 0)), .at (vB o.isSome), .at (vU y)]) (chS S') W7
  | _ => False
noncomputable def aSpl (n : Nat) : Ann C0 := { Γ := [(132, frameT [] tOpn), (136, frameT [] (tSpl n)), (114, frameT [] tJoin)] }
def frK (key : Int) (eq : Bool) (q : Int) : Bool := decide (key < q) || (eq && decide (q = key))
def toK (key : Int) (eq : Bool) (q : Int) : Bool := decide (q < key) || (eq && decide (q = key))
def tCut (p : Int → Bool → Int → Bool) (n : Nat) : Tfm C0 := fun args H K => match args with
  | [.at (.ptr 0 0), .at (.val (.int .u32 i)), .at (.val (.int .i64 key)), .at (.val (.bool eq))] => arM H fun S => ∃ hs t, Wf S (i :: hs) ∧ Rep S t i ∧ t.Bal ∧ Asc t.list ∧ t.size < n ∧ t.size ≤ 700000 ∧ 4 * (gN (t.size + 1) : Int) + 1 ≤ S.free ∧ hs.length + t.size ≤ 600000000 ∧ S.reads + (20 * gN (t.size + 1) + 5) ≤ 1600000000000000000 ∧
    ∀ S' x m, m ≤ sB t.size (flt (p key eq) t.list).length → TrR S hs (flt (p key eq) t.list) m (5 * m) S' x → K (.one (.at (vU x))) (chS S') W7
  | _ => False
theorem lt_low {a b : List Ent} {k v q : Int} (h : Asc (a ++ (k, v) :: b)) (hq : q ≤ k) : flt (ltK q) (a ++ (k, v) :: b) = flt (ltK q) a := by
  obtain ⟨_, _, _, h4⟩ := asc_parts h
  exact flt_suf (fun x hx => by have := h4 x hx; simp [ltK]; omega) (by simp [ltK]; omega)
theorem lt_high {a b : List Ent} {k v q : Int} (h : Asc (a ++ (k, v) :: b)) (hq : k < q) : flt (ltK q) (a ++ (k, v) :: b) = a ++ (k, v) :: flt (ltK q) b := by
  obtain ⟨_, _, h3, _⟩ := asc_parts h
  exact flt_upL (fun x hx => by have := h3 x hx; simp [ltK]; omega) (by simp [ltK]; omega)
theorem gt_low {a b : List Ent} {k v q : Int} (h : Asc (a ++ (k, v) :: b)) (hq : q < k) : flt (gtK q) (a ++ (k, v) :: b) = flt (gtK q) a ++ (k, v) :: b := by
  obtain ⟨_, _, _, h4⟩ := asc_parts h
  exact flt_upR (fun x hx => by have := h4 x hx; simp [gtK]; omega) (by simp [gtK]; omega)
theorem gt_high {a b : List Ent} {k v q : Int} (h : Asc (a ++ (k, v) :: b)) (hq : k ≤ q) : flt (gtK q) (a ++ (k, v) :: b) = flt (gtK q) b := by
  obtain ⟨_, _, h3, _⟩ := asc_parts h
  exact flt_pre (fun x hx => by have := h3 x hx; simp [gtK]; omega) (by simp [gtK]; omega)
theorem lt_at {a b : List Ent} {k v : Int} (h : Asc (a ++ (k, v) :: b)) : flt (ltK k) (a ++ (k, v) :: b) = a := by
  rw [lt_low h (Int.le_refl _)]
  exact flt_all fun x hx => by have := (asc_parts h).2.2.1 x hx; simp [ltK]; omega
theorem gt_at {a b : List Ent} {k v : Int} (h : Asc (a ++ (k, v) :: b)) : flt (gtK k) (a ++ (k, v) :: b) = b := by
  rw [gt_high h (Int.le_refl _)]
  exact flt_all fun x hx => by have := (asc_parts h).2.2.2 x hx; simp [gtK]; omega
theorem vc_spl (n : Nat) (S : Arn) (i key : Int) (K : KT) (hs : List Int) (t : Tr) (hw : Wf S (i :: hs)) (h1 : Rep S t i) (bal : t.Bal) (asc : Asc t.list) (hfu : t.size < n + 1) (hz : t.size ≤ 700000) (hf : 7 * (gN (t.size + 1) : Int) + 1 ≤ S.free) (hl : hs.length + t.size ≤ 600000000) (hr : S.reads + (35 * gN (t.size + 1) + 5) ≤ 1600000000000000000)
    (h : ∀ S' x y m (o : Option Int), m ≤ gN (t.size + 1) + 3 * gN ((flt (ltK key) t.list).length + 1) + 3 * gN ((flt (gtK key) t.list).length + 1) + 1 → Got S hs m (5 * m) S' (x :: y :: hs) → (∃ t1, Rep S' t1 x ∧ t1.list = flt (ltK key) t.list ∧ t1.Bal) → (∃ t2, Rep S' t2 y ∧ t2.list = flt (gtK key) t.list ∧ t2.Bal) → o = getE t.list key →
      K (.tup [.at (vU x), .at (vI (o.getD 0)), .at (vB o.isSome), .at (vU y)]) (chS S') W7) :
    vc C0 (aSpl n) Try.f136 [.at (.ptr 0 0), .at (vU i), .at (vI key)] (chS S) (normK 7 (wideK W7 K)) := by
  refine Eq.mp (show (brS (i == 0) ((K (SV.tup [(TV.at (At.val (Value.int IntKind.u32 0))), (TV.at (At.val (Value.int IntKind.i64 0))), (TV.at (At.val (Value.bool false))), (TV.at (At.val (Value.int IntKind.u32 0)))]) [(Chunk.box [(At.ptr 1 0), (At.slc 2), (At.slc 3), (At.val (Value.int IntKind.u64 (S.reads)))]), (Chunk.box [(At.slc 4), (At.slc 5), (At.slc 6), (At.val (Value.int IntKind.u32 (S.fresh)))]), (Chunk.row true (EC.node) (S.nodes)), (Chunk.row true (EC.int) (S.counts)), (Chunk.row true (EC.bool) (S.used)), (Chunk.row true (EC.u32) (S.gen)), (Chunk.row true (EC.u32) (S.rel))] [0, 1, 2, 3, 4, 5, 6])) ((∃ hs : List Int, (∃ a : Tr, (∃ k : Int, (∃ v : Int, (∃ b : Tr, ((Wf S (i :: hs)) ∧ (Rep S (a.node k v b) i) ∧ (hs.length ≤ 900000000) ∧ (S.reads ≤ 3000000000000000000) ∧ (∀ S' : Arn, (∀ l : Int, (∀ r : Int, ((OpnR S hs a k v b S' l r) → (brS (decide (key < k)) ((∃ hs1 : List Int, (∃ t : Tr, ((Wf S' (l :: hs1)) ∧ (Rep S' t l) ∧ (t.Bal) ∧ (Asc t.list) ∧ (t.size < n) ∧ (t.size ≤ 700000) ∧ (7 * (↑(gN (t.size + 1)) : Int) + 1 ≤ S'.free) ∧ (hs1.length + t.size ≤ 600000000) ∧ (S'.reads + (35 * (↑(gN (t.size + 1)) : Int) + 5) ≤ 1600000000000000000) ∧ (∀ S'1 : Arn, (∀ x : Int, (∀ y : Int, (∀ m : Nat, (∀ o : Option Int, ((m ≤ gN (t.size + 1) + 3 * gN ((flt (ltK key) t.list).length + 1) + 3 * gN ((flt (gtK key) t.list).length + 1) + 1) → ((Got S' hs1 m (5 * m) S'1 (x :: y :: hs1)) → ((∃ t1 : Tr, ((Rep S'1 t1 x) ∧ ((t1.list) = (flt (ltK key) t.list)) ∧ (t1.Bal))) → ((∃ t2 : Tr, ((Rep S'1 t2 y) ∧
    ((t2.list) = (flt (gtK key) t.list)) ∧ (t2.Bal))) → (((o) = (getE t.list key)) → (∃ hs2 : List Int, (∃ ta : Tr, (∃ tb : Tr, ((Wf S'1 (y :: r :: hs2)) ∧ (Rep S'1 ta y) ∧ (Rep S'1 tb r) ∧ (ta.Bal) ∧ (tb.Bal) ∧ (ta.size + tb.size ≤ 900000) ∧ ((↑(jB ta.size tb.size) : Int) ≤ S'1.free) ∧ (hs2.length ≤ 700000000) ∧ (S'1.reads + 5 * (↑(jB ta.size tb.size) : Int) ≤ 1800000000000000000) ∧ (∀ S'2 : Arn, (∀ i1 : Int, ((TrR S'1 hs2 (ta.list ++ (k, v) :: tb.list) (jB ta.size tb.size) (4 * jB ta.size tb.size) S'2 i1) → (((balN (↑ta.size : Int) (↑tb.size : Int)) → ((((S'2.nd i1).left) = (y)) ∧ (((S'2.nd i1).right) = (r)) ∧ ((S'2.nu) = (S'1.nu + 1)))) → (K (SV.tup [(TV.at (At.val (Value.int IntKind.u32 (x)))), (TV.at (At.val (Value.int IntKind.i64 (o.getD 0)))), (TV.at (At.val (Value.bool (o.isSome)))), (TV.at (At.val (Value.int IntKind.u32 (i1))))]) [(Chunk.box [(At.ptr 1 0), (At.slc 2), (At.slc 3), (At.val (Value.int IntKind.u64 (S'2.reads)))]), (Chunk.box [(At.slc 4), (At.slc 5), (At.slc 6), (At.val (Value.int IntKind.u32 (S'2.fresh)))]), (Chunk.row true (EC.node) (S'2.nodes)), (Chunk.row true (EC.int) (S'2.counts)), (Chunk.row true (EC.bool) (S'2.used)), (Chunk.row true (EC.u32) (S'2.gen)), (Chunk.row true (EC.u32) (S'2.rel))] [0, 1, 2, 3, 4, 5, 6]))))))))))))))))))))))) ((brS (decide (key > k)) ((∃ hs1 : List Int, (∃ t : Tr, ((Wf S' (r :: hs1)) ∧ (Rep S' t r) ∧ (t.Bal) ∧ (Asc t.list) ∧ (t.size < n) ∧ (t.size ≤ 700000) ∧ (7 * (↑(gN (t.size + 1)) : Int) + 1 ≤ S'.free) ∧
    (hs1.length + t.size ≤ 600000000) ∧ (S'.reads + (35 * (↑(gN (t.size + 1)) : Int) + 5) ≤ 1600000000000000000) ∧ (∀ S'1 : Arn, (∀ x : Int, (∀ y : Int, (∀ m : Nat, (∀ o : Option Int, ((m ≤ gN (t.size + 1) + 3 * gN ((flt (ltK key) t.list).length + 1) + 3 * gN ((flt (gtK key) t.list).length + 1) + 1) → ((Got S' hs1 m (5 * m) S'1 (x :: y :: hs1)) → ((∃ t1 : Tr, ((Rep S'1 t1 x) ∧ ((t1.list) = (flt (ltK key) t.list)) ∧ (t1.Bal))) → ((∃ t2 : Tr, ((Rep S'1 t2 y) ∧ ((t2.list) = (flt (gtK key) t.list)) ∧ (t2.Bal))) → (((o) = (getE t.list key)) → (∃ hs2 : List Int, (∃ ta : Tr, (∃ tb : Tr, ((Wf S'1 (l :: x :: hs2)) ∧ (Rep S'1 ta l) ∧ (Rep S'1 tb x) ∧ (ta.Bal) ∧ (tb.Bal) ∧ (ta.size + tb.size ≤ 900000) ∧ ((↑(jB ta.size tb.size) : Int) ≤ S'1.free) ∧ (hs2.length ≤ 700000000) ∧ (S'1.reads + 5 * (↑(jB ta.size tb.size) : Int) ≤ 1800000000000000000) ∧ (∀ S'2 : Arn, (∀ i1 : Int, ((TrR S'1 hs2 (ta.list ++ (k, v) :: tb.list) (jB ta.size tb.size) (4 * jB ta.size tb.size) S'2 i1) → (((balN (↑ta.size : Int) (↑tb.size : Int)) → ((((S'2.nd i1).left) = (l)) ∧ (((S'2.nd i1).right) = (x)) ∧ ((S'2.nu) = (S'1.nu + 1)))) →
    (K (SV.tup [(TV.at (At.val (Value.int IntKind.u32 (i1)))), (TV.at (At.val (Value.int IntKind.i64 (o.getD 0)))), (TV.at (At.val (Value.bool (o.isSome)))), (TV.at (At.val (Value.int IntKind.u32 (y))))]) [(Chunk.box [(At.ptr 1 0), (At.slc 2), (At.slc 3), (At.val (Value.int IntKind.u64 (S'2.reads)))]), (Chunk.box [(At.slc 4), (At.slc 5), (At.slc 6), (At.val (Value.int IntKind.u32 (S'2.fresh)))]), (Chunk.row true (EC.node) (S'2.nodes)), (Chunk.row true (EC.int) (S'2.counts)), (Chunk.row true (EC.bool) (S'2.used)), (Chunk.row true (EC.u32) (S'2.gen)), (Chunk.row true (EC.u32) (S'2.rel))] [0, 1, 2, 3, 4, 5, 6]))))))))))))))))))))))) ((K (SV.tup [(TV.at (At.val (Value.int IntKind.u32 (l)))), (TV.at (At.val (Value.int IntKind.i64 (v)))), (TV.at (At.val (Value.bool true))), (TV.at (At.val (Value.int IntKind.u32 (r))))]) [(Chunk.box [(At.ptr 1 0), (At.slc 2), (At.slc 3), (At.val (Value.int IntKind.u64 (S'.reads)))]), (Chunk.box [(At.slc 4), (At.slc 5), (At.slc 6), (At.val (Value.int IntKind.u32 (S'.fresh)))]), (Chunk.row true (EC.node) (S'.nodes)), (Chunk.row true (EC.int) (S'.counts)), (Chunk.row true (EC.bool) (S'.used)), (Chunk.row true (EC.u32) (S'.gen)), (Chunk.row true (EC.u32) (S'.rel))] [0, 1, 2, 3, 4, 5, 6]))))))))))))))))) = _ by kernel_rfl) ?_
  have hrd := hw.rds
  refine brS_of (fun d => ?_) fun d => ?_
  · have d : i = 0 := by simpa using d
    subst d
    have e := h1.zero hw
    subst e
    exact h S 0 0 0 none (Nat.zero_le _) (Got.refl (hw.zero_cons (by simp; omega))) ⟨.nil, rfl, rfl, trivial⟩ ⟨.nil, rfl, rfl, trivial⟩ rfl
  · have d : i ≠ 0 := by simpa using d
    obtain ⟨a, k1, v1, b, e⟩ := rep_ne h1 d
    subst e
    have zz := node_size a b k1 v1
    rw [zz] at hfu hz hf hl hr h
    obtain ⟨bb, ba, bbb⟩ := bal
    have asc' : Asc (a.list ++ (k1, v1) :: b.list) := asc
    have h' : ∀ S' x y m (o : Option Int), m ≤ gN (a.size + b.size + 2) + 3 * gN ((flt (ltK key) (a.list ++ (k1, v1) :: b.list)).length + 1) + 3 * gN ((flt (gtK key) (a.list ++ (k1, v1) :: b.list)).length + 1) + 1 → Got S hs m (5 * m) S' (x :: y :: hs) → (∃ t1, Rep S' t1 x ∧ t1.list = flt (ltK key) (a.list ++ (k1, v1) :: b.list) ∧ t1.Bal) →
      (∃ t2, Rep S' t2 y ∧ t2.list = flt (gtK key) (a.list ++ (k1, v1) :: b.list) ∧ t2.Bal) → o = getE (a.list ++ (k1, v1) :: b.list) key → K (.tup [.at (vU x), .at (vI (o.getD 0)), .at (vB o.isSome), .at (vU y)]) (chS S') W7 := h
    rw [show a.size + b.size + 1 + 1 = a.size + b.size + 2 by omega] at hf hr
    obtain ⟨asca, ascb, ltk, gtk⟩ := asc_parts asc'
    have ga := gN_l bb (by omega)
    have gb := gN_r bb (by omega)
    refine ⟨hs, a, k1, v1, b, hw, h1, by omega, by omega, fun S1 l r o => ?_⟩
    have f1 := o.got.free hw
    have q1 := o.got.rd
    refine brS_of (fun d => ?_) fun d => brS_of (fun e => ?_) fun e => ?_
    · have d : key < k1 := of_decide_eq_true d
      refine ⟨r :: hs, a, o.got.wf, o.repl, ba, asca, by omega, by omega, by omega, by simp; omega, by omega, fun S2 x y m w hm g t1 t2 ew => ?_⟩
      obtain ⟨tx, rx, lx, bx⟩ := t1
      obtain ⟨ty, ry, ly, bY⟩ := t2
      have l1 : (flt (ltK key) a.list).length ≤ a.size := by have := flt_len (p := ltK key) (l := a.list); rw [a.list_len] at this; exact this
      have l2 : ty.size ≤ a.size := by rw [← ty.list_len, ly]; have := flt_len (p := gtK key) (l := a.list); rw [a.list_len] at this; exact this
      have l3 : (flt (gtK key) a.list).length = ty.size := by rw [← ly, ty.list_len]
      rw [l3] at hm
      have jp := jB_part (a := ty.size) bb l2 (by omega)
      have m1 := gN_mono (v := (flt (ltK key) a.list).length + 1) (w := a.size + b.size + 2) (by omega) (by omega)
      have m2 := gN_mono (v := ty.size + b.size + 2) (w := a.size + b.size + 2) (by omega) (by omega)
      have jq := jB_pos ty.size b.size
      have f2 := g.free o.got.wf
      have q2 := g.rd
      refine ⟨x :: hs, ty, b, g.wf.perm (perm_tor x y r hs), ry, o.repr.held o.got.wf g.stay (.inr (by simp)), bY, bbb, by omega, by omega, by simp; omega, by omega, fun S3 q tj _ => h' S3 x q (m + jB ty.size b.size) w ?_ ?_ ?_ ?_ ?_⟩
      · rw [lt_low asc' (by omega), gt_low asc' d, List.length_append, List.length_cons, l3, b.list_len]
        rw [show ty.size + (b.size + 1) + 1 = ty.size + b.size + 2 by omega]
        omega
      · exact (((o.got.seq g (h := hs) (fun _ h => h) (fun _ h => by simp [h])).seq tj.got (fun _ h => h) (fun _ h => by simp [h])).mono (by omega) (by omega)).perm (List.Perm.swap _ _ _)
      · exact ⟨tx, rx.held g.wf tj.got.stay (.inr (by simp)), by rw [lx, lt_low asc' (by omega)], bx⟩
      · obtain ⟨t', rt', lt', bt'⟩ := tj.tree
        exact ⟨t', rt', by rw [lt', ly, gt_low asc' d], bt'⟩
      · rw [ew, getE_left asc' d]
    · have e : k1 < key := of_decide_eq_true e
      refine ⟨l :: hs, b, o.got.wf.perm (List.Perm.swap _ _ _), o.repr, bbb, ascb, by omega, by omega, by omega, by simp; omega, by omega, fun S2 x y m w hm g t1 t2 ew => ?_⟩
      obtain ⟨tx, rx, lx, bx⟩ := t1
      obtain ⟨ty, ry, ly, bY⟩ := t2
      have l1 : (flt (gtK key) b.list).length ≤ b.size := by have := flt_len (p := gtK key) (l := b.list); rw [b.list_len] at this; exact this
      have l2 : tx.size ≤ b.size := by rw [← tx.list_len, lx]; have := flt_len (p := ltK key) (l := b.list); rw [b.list_len] at this; exact this
      have l3 : (flt (ltK key) b.list).length = tx.size := by rw [← lx, tx.list_len]
      rw [l3] at hm
      have jp := jB_part (a := tx.size) (balN_comm bb) l2 (by omega)
      rw [jB_comm] at jp
      have m1 := gN_mono (v := (flt (gtK key) b.list).length + 1) (w := a.size + b.size + 2) (by omega) (by omega)
      have m2 := gN_mono (v := tx.size + a.size + 2) (w := a.size + b.size + 2) (by omega) (by omega)
      have jq := jB_pos a.size tx.size
      have f2 := g.free o.got.wf
      have q2 := g.rd
      refine ⟨y :: hs, a, tx, g.wf.perm (perm_rot x y l hs), o.repl.held o.got.wf g.stay (.inr (by simp)), rx, ba, bx, by omega, by omega, by simp; omega, by omega, fun S3 q tj _ => h' S3 q y (m + jB a.size tx.size) w ?_ ?_ ?_ ?_ ?_⟩
      · rw [lt_high asc' e, gt_high asc' (by omega), List.length_append, List.length_cons, l3, a.list_len]
        rw [show a.size + (tx.size + 1) + 1 = tx.size + a.size + 2 by omega]
        omega
      · exact (((o.got.seq g (h := hs) (fun _ h => h) (fun _ h => by simp [h])).seq tj.got (fun _ h => h) (fun _ h => by simp [h])).mono (by omega) (by omega))
      · obtain ⟨t', rt', lt', bt'⟩ := tj.tree
        exact ⟨t', rt', by rw [lt', lx, lt_high asc' e], bt'⟩
      · exact ⟨ty, ry.held g.wf tj.got.stay (.inr (by simp)), by rw [ly, gt_high asc' (by omega)], bY⟩
      · rw [ew, getE_right asc' e]
    · have d : ¬ key < k1 := of_decide_eq_false d
      have e : ¬ key > k1 := of_decide_eq_false e
      have ek : key = k1 := by omega
      subst ek
      exact h' S1 l r 1 (some v1) (by omega) (o.got.mono (by omega) (by omega)) ⟨a, o.repl, by rw [lt_at asc'], ba⟩ ⟨b, o.repr, by rw [gt_at asc'], bbb⟩ (getE_at asc').symm
theorem s_spl : ∀ n, SoundT C0 136 (tSpl n) := by
  intro n
  induction n with
  | zero =>
    refine .of Try.func136 (by decide) rfl fun args H K h hB => ?_
    exfalso
    unfold tSpl at h
    split at h <;> try exact h.elim
    unfold arM at h
    split at h <;> try exact h.elim
    obtain ⟨_, _, _, _, _, _, h1, _⟩ := h
    omega
  | succ n ih =>
    refine .ofW W7 Try.func136 (by decide) rfl fun args H K h hB => ?_
    unfold tSpl at h
    split at h <;> try exact h.elim
    unfold arM at h
    split at h <;> try exact h.elim
    rename_i i key _ rd fr nd ct us gn rl
    obtain ⟨hs, t, h1, h2, h3, h4, h5, h6, h7, h8, h9, h10⟩ := h
    exact ⟨aSpl n, ⟨frame C0.ok s_opn _, frame C0.ok ih _, frame C0.ok s_join _, trivial⟩, vc_spl n ⟨us, gn, rl, fr, nd, ct, rd⟩ i key K hs t h1 h2 h3 h4 h5 h6 h7 h8 h9 h10⟩
end Go.Proofs.Ytbonbaccmlomhaa.Sx
end
section
/- How many slots can be reached: the bound for what set operations need. No program in sight. -/
namespace Go.Proofs.Ytbonbaccmlomhaa
open Go

variable {S S' S1 S2 : Arn} {hs h1 h2 hs1 hs2 : List Int}

theorem countP_or {α : Type} (p q : α → Bool) : ∀ l : List α, l.countP (fun x => p x || q x) ≤ l.countP p + l.countP q
  | [] => by simp
  | a :: l => by
    have ih := countP_or p q l
    simp only [List.countP_cons]
    cases p a <;> cases q a <;> simp <;> omega
theorem countP_imp {α : Type} (p q : α → Bool) : ∀ l : List α, (∀ x ∈ l, p x = true → q x = true) → l.countP p ≤ l.countP q
  | [], _ => by simp
  | a :: l, h => by
    have ih := countP_imp p q l fun x hx => h x (List.mem_cons_of_mem _ hx)
    have h0 := h a (List.mem_cons_self ..)
    simp only [List.countP_cons]
    cases e : p a <;> cases f : q a <;> simp_all <;> omega
theorem countP_eqr (n : Nat) (a : Int) : (List.range n).countP (fun i : Nat => decide ((i : Int) = a)) ≤ 1 := by
  have h := List.nodup_iff_count.1 (List.nodup_range (n := n)) a.toNat
  refine Nat.le_trans (countP_imp _ (fun i => i == a.toNat) _ fun x _ hx => ?_) h
  have : (x : Int) = a := of_decide_eq_true hx
  simp; omega
theorem countP_mem (n : Nat) : ∀ L : List Int, (List.range n).countP (fun i : Nat => decide ((i : Int) ∈ L)) ≤ L.length
  | [] => by simp
  | a :: L => by
    have ih := countP_mem n L
    have h1 := countP_eqr n a
    have h2 := countP_or (fun i : Nat => decide ((i : Int) = a)) (fun i : Nat => decide ((i : Int) ∈ L)) (List.range n)
    refine Nat.le_trans (countP_imp _ (fun i : Nat => decide ((i : Int) = a) || decide ((i : Int) ∈ L)) _ fun x _ hx => ?_) (Nat.le_trans h2 (by simp; omega))
    have hx := of_decide_eq_true hx
    rcases List.mem_cons.1 hx with e | e <;> simp [e]
theorem countP_range_getD : ∀ (l : List Bool), l.countP id = (List.range l.length).countP (fun i => l.getD i false) := by
  intro l
  conv => lhs; rw [show l = (List.range l.length).map (fun i => l.getD i false) from (List.ext_getElem (by simp) fun i h1 h2 => by simp [List.getD_eq_getElem?_getD, h1])]
  rw [List.countP_map]; rfl

open Classical in
/-- How many slots can be reached from hs. -/
noncomputable def nuR (S : Arn) (hs : List Int) : Nat := (List.range S.used.length).countP fun i : Nat => decide (Rch S hs (i : Int))
open Classical in
theorem nuR_le (h : ∀ i : Int, Rch S hs1 i → Rch S' hs2 i) (hl : S.used.length = S'.used.length) : nuR S hs1 ≤ nuR S' hs2 := by
  unfold nuR
  rw [hl]
  exact countP_imp _ _ _ fun x _ hx => decide_eq_true (h _ (of_decide_eq_true hx))
open Classical in
/-- All that is used can be reached from what is held. -/
theorem Wf.nuR (w : Wf S hs) : S.nu ≤ nuR S hs := by
  unfold Arn.nu Proofs.Ytbonbaccmlomhaa.nuR
  rw [countP_range_getD]
  refine countP_imp _ _ _ fun x _ hx => decide_eq_true (w.reached ?_)
  unfold Arn.us; simpa using hx
theorem Rch.back (w : Wf S hs1) (w' : Wf S' hs2) (hh : ∀ i ∈ hs, i ∈ hs1) (st : Stay S S' hs) {i : Int} (h : Rch S' hs i) : Rch S hs i := by
  have n0 : S'.us 0 = false := w'.us0 (Int.le_refl 0)
  induction h with
  | root a b => exact .root a ((w.held _ (hh _ a)).resolve_left fun e => by rw [e, n0] at b; cases b)
  | left a b ih =>
    have e := (st _ ih).2.1
    rw [e] at b ⊢
    exact .left ih ((w.kid _ ih.us).1.resolve_left fun e => by rw [e, n0] at b; cases b)
  | right a b ih =>
    have e := (st _ ih).2.1
    rw [e] at b ⊢
    exact .right ih ((w.kid _ ih.us).2.resolve_left fun e => by rw [e, n0] at b; cases b)
theorem Got.nuR {m r : Nat} (g : Got S hs m r S' hs2) (w : Wf S hs1) (hh : ∀ i ∈ hs, i ∈ hs1) : nuR S' hs ≤ nuR S hs := nuR_le (fun _ h => h.back w g.wf hh g.stay) g.len
/-- The slots of a tree. -/
def inT (S : Arn) : Tr → Int → List Int
  | .nil, _ => []
  | .node l _ _ r, i => i :: (inT S l (S.nd i).left ++ inT S r (S.nd i).right)
theorem inT_len : ∀ (t : Tr) (i : Int), (inT S t i).length = t.size
  | .nil, _ => rfl
  | .node l _ _ r, i => by simp [inT, Tr.size, inT_len l, inT_len r]; omega
theorem inT_root (h0 : S.us 0 = false) {t : Tr} {i : Int} (h : Rep S t i) (hu : S.us i = true) : i ∈ inT S t i := by
  cases t with
  | nil => have e : i = 0 := h; rw [e, h0] at hu; cases hu
  | node l k v r => simp [inT]
theorem inT_kid (h0 : S.us 0 = false) : ∀ {t : Tr} {i j : Int}, Rep S t i → j ∈ inT S t i → (S.us (S.nd j).left = true → (S.nd j).left ∈ inT S t i) ∧ (S.us (S.nd j).right = true → (S.nd j).right ∈ inT S t i)
  | .nil, _, _, _, hj => by simp [inT] at hj
  | .node l k v r, i, j, h, hj => by
    obtain ⟨_, _, _, h4, h5⟩ := h
    simp only [inT, List.mem_cons, List.mem_append] at hj ⊢
    rcases hj with rfl | hj | hj
    · exact ⟨fun hu => .inr (.inl (inT_root h0 h4 hu)), fun hu => .inr (.inr (inT_root h0 h5 hu))⟩
    · obtain ⟨a, b⟩ := inT_kid h0 h4 hj
      exact ⟨fun hu => .inr (.inl (a hu)), fun hu => .inr (.inl (b hu))⟩
    · obtain ⟨a, b⟩ := inT_kid h0 h5 hj
      exact ⟨fun hu => .inr (.inr (a hu)), fun hu => .inr (.inr (b hu))⟩
theorem rch_cons (h0 : S.us 0 = false) {t : Tr} {x i : Int} (h : Rep S t x) (hr : Rch S (x :: hs) i) : Rch S hs i ∨ i ∈ inT S t x := by
  induction hr with
  | root a b =>
    rcases List.mem_cons.1 a with rfl | a
    · exact .inr (inT_root h0 h b)
    · exact .inl (.root a b)
  | left a b ih => exact ih.imp (fun c => .left c b) fun c => (inT_kid h0 h c).1 b
  | right a b ih => exact ih.imp (fun c => .right c b) fun c => (inT_kid h0 h c).2 b
open Classical in
theorem nuR_cons (w : Wf S hs1) {t : Tr} {x : Int} (h : Rep S t x) : nuR S (x :: hs) ≤ nuR S hs + t.size := by
  unfold nuR
  have h0 : S.us 0 = false := w.us0 (Int.le_refl 0)
  have h1 := countP_mem S.used.length (inT S t x)
  rw [inT_len] at h1
  have h2 := countP_or (fun i : Nat => decide (Rch S hs (i : Int))) (fun i : Nat => decide ((i : Int) ∈ inT S t x)) (List.range S.used.length)
  refine Nat.le_trans (countP_imp _ (fun i : Nat => decide (Rch S hs (i : Int)) || decide ((i : Int) ∈ inT S t x)) _ fun i _ hi => ?_) (by omega)
  rcases rch_cons h0 h (of_decide_eq_true hi) with e | e <;> simp [e]
theorem free_two {x y : Int} (w : Wf S (x :: y :: hs)) {t u : Tr} (h : Rep S t x) (h' : Rep S u y) : S.cap ≤ S.free + nuR S hs + t.size + u.size := by
  have a := w.free_nonneg.2.2.2
  have b := w.nuR
  have c := nuR_cons (hs := y :: hs) w h
  have d := nuR_cons (hs := hs) w h'
  omega
/-- Makes are not counted any more. -/
theorem Got.loose {m r : Nat} (g : Got S hs m r S' hs2) : Got S hs 65537 r S' hs2 := ⟨g.wf, g.stay, g.len, by have := g.wf.nu_le; omega, g.rd0, g.rd⟩
theorem TrR.loose {m r : Nat} {L : List Ent} {i : Int} (g : TrR S hs L m r S' i) : TrR S hs L 65537 r S' i := ⟨g.got.loose, g.tree⟩
end Go.Proofs.Ytbonbaccmlomhaa
end
section
/- The recursion of the set operations: what each call finds. No program in sight. -/
namespace Go.Proofs.Ytbonbaccmlomhaa
open Go

variable {S S' S1 S2 S3 : Arn} {hs : List Int} {a b tx ty tl tr u w : Tr} {k v x y xl yl xr yr i j : Int} {N : Nat}

def rdW (N s : Nat) : Nat := (60 * gN (N + 1) + 40) * s
theorem rdW_node (N a b : Nat) : rdW N (a + b + 1) = rdW N a + rdW N b + (60 * gN (N + 1) + 40) := by unfold rdW; rw [Nat.mul_add, Nat.mul_add, Nat.mul_one]
def dW (N : Nat) : Nat := 7 * gN (N + 1) + 4
/-- Two trees in hand, room for their nodes and for one split or join more. -/
structure StM (S : Arn) (hs : List Int) (tx ty : Tr) (x y : Int) (N : Nat) : Prop where
  wf : Wf S (x :: y :: hs)
  rx : Rep S tx x
  ry : Rep S ty y
  bx : tx.Bal
  bY : ty.Bal
  ax : Asc tx.list
  ay : Asc ty.list
  sz : tx.size + ty.size ≤ N
  big : N ≤ 140000
  room : nuR S hs + tx.size + ty.size + dW N ≤ S.cap
  hl : hs.length + 2 * tx.size ≤ 300000000
  rd : S.reads + rdW N tx.size ≤ 1200000000000000000
/-- The first tree opened, the second split at its root's key. -/
structure CutR (S : Arn) (hs : List Int) (a : Tr) (k : Int) (b ty : Tr) (S1 : Arn) (xl yl xr yr : Int) : Prop where
  got : Got S hs 65537 (35 * gN (ty.size + 1) + 6) S1 (xl :: yl :: xr :: yr :: hs)
  ra : Rep S1 a xl
  rb : Rep S1 b xr
  l : ∃ t, Rep S1 t yl ∧ t.list = flt (ltB k) ty.list ∧ t.Bal
  r : ∃ t, Rep S1 t yr ∧ t.list = flt (gtB k) ty.list ∧ t.Bal
theorem cap_len (h : S'.used.length = S.used.length) : S'.cap = S.cap := by unfold Arn.cap; rw [h]
theorem StM.sizes (h : StM S hs tx ty x y N) : gN (ty.size + 1) ≤ gN (N + 1) := gN_mono (by omega) (by have := h.sz; omega)
/-- What the first tree's opening and the second tree's split want. -/
theorem StM.free (h : StM S hs tx ty x y N) : (dW N : Int) ≤ S.free := by
  have e := free_two h.wf h.rx h.ry
  have := h.room
  omega
/-- The middle of a step: the first result is being made. -/
structure Mid (S0 S1 : Arn) (hs : List Int) (a : Tr) (k v : Int) (b ty tl tr : Tr) (xl yl xr yr : Int) (N : Nat) : Prop where
  h0 : ∃ x y, StM S0 hs (.node a k v b) ty x y N
  first : StM S1 (xr :: yr :: hs) a tl xl yl N
  rb : Rep S1 b xr
  rr : Rep S1 tr yr
  el : tl.list = flt (ltB k) ty.list
  er : tr.list = flt (gtB k) ty.list
  br : tr.Bal
  got : Got S0 hs 65537 (35 * gN (N + 1) + 6) S1 (xl :: yl :: xr :: yr :: hs)
theorem StM.mid (h : StM S hs (.node a k v b) ty x y N) (c : CutR S hs a k b ty S1 xl yl xr yr) : ∃ tl tr, Mid S S1 hs a k v b ty tl tr xl yl xr yr N := by
  obtain ⟨tl, rl, el, bl⟩ := c.l
  obtain ⟨tr, rr, er, br⟩ := c.r
  have two := flt_two (ltB k) (gtB k) (fun x hx => by unfold ltB gtB at *; simp at *; omega) ty.list
  rw [← el, ← er, tl.list_len, tr.list_len, ty.list_len] at two
  have zz : (Tr.node a k v b).size = a.size + b.size + 1 := by simp [Tr.size]; omega
  have hr := h.room
  have hl := h.hl
  have hd := h.rd
  have hs' := h.sz
  rw [zz] at hr hl hd hs'
  rw [rdW_node] at hd
  have g := h.sizes
  have n0 := c.got.nuR h.wf (fun i hi => by simp [hi])
  have n1 := nuR_cons (hs := yr :: hs) c.got.wf c.rb
  have n2 := nuR_cons (hs := hs) c.got.wf rr
  have ec := cap_len c.got.len
  have hd1 := c.got.rd
  have asc : Asc (a.list ++ (k, v) :: b.list) := h.ax
  obtain ⟨asca, ascb, _, _⟩ := asc_parts asc
  refine ⟨tl, tr, ⟨x, y, h⟩, ?_, c.rb, rr, el, er, br, c.got.mono (Nat.le_refl _) (by omega)⟩
  exact ⟨c.got.wf, c.ra, rl, h.bx.2.1, bl, asca, by rw [el]; exact flt_asc h.ay, by omega, h.big, by omega, by simp; omega, by omega⟩
variable {f : Option Int → Option Int → Option Int} {L R : List Ent}
/-- The first result is made, the second is wanted. -/
theorem Mid.second {S0 : Arn} (m : Mid S0 S1 hs a k v b ty tl tr xl yl xr yr N) (hL : SetR f a.list tl.list L) (t : TrR S1 (xr :: yr :: hs) L 65537 (rdW N a.size) S2 i) :
    StM S2 (i :: hs) b tr xr yr N ∧ Got S0 hs 65537 (35 * gN (N + 1) + 6 + rdW N a.size) S2 (i :: xr :: yr :: hs) := by
  obtain ⟨x, y, h⟩ := m.h0
  obtain ⟨u, ru, eu, bu⟩ := t.tree
  have two := flt_two (ltB k) (gtB k) (fun x hx => by unfold ltB gtB at *; simp at *; omega) ty.list
  rw [← m.el, ← m.er, tl.list_len, tr.list_len, ty.list_len] at two
  have zz : (Tr.node a k v b).size = a.size + b.size + 1 := by simp [Tr.size]; omega
  have hr := h.room
  have hl := h.hl
  have hd := h.rd
  have hs' := h.sz
  rw [zz] at hr hl hd hs'
  rw [rdW_node] at hd
  have lu := hL.len
  rw [← eu, u.list_len, a.list_len, tl.list_len] at lu
  have g2 : Got S0 hs 65537 (35 * gN (N + 1) + 6 + rdW N a.size) S2 (i :: xr :: yr :: hs) := ((m.got.seq t.got (h := hs) (fun _ h => h) (fun _ h => by simp [h])).mono (m' := 65537 + 65537) (by omega) (by omega)).loose
  have n0 := g2.nuR h.wf (fun i hi => by simp [hi])
  have n1 := nuR_cons (hs := hs) t.got.wf ru
  have ec := cap_len g2.len
  have hd1 := g2.rd
  have asc : Asc (a.list ++ (k, v) :: b.list) := h.ax
  obtain ⟨asca, ascb, _, _⟩ := asc_parts asc
  refine ⟨⟨t.got.wf.perm (perm_tor i xr yr hs), m.rb.held m.first.wf t.got.stay (.inr (by simp)), m.rr.held m.first.wf t.got.stay (.inr (by simp)), h.bx.2.2, m.br, ascb, by rw [m.er]; exact flt_asc h.ay, by omega, h.big, by omega, by simp; omega, by omega⟩, g2⟩
/-- Both results are made. -/
theorem Mid.third {S0 : Arn} (m : Mid S0 S1 hs a k v b ty tl tr xl yl xr yr N) (hL : SetR f a.list tl.list L) (t : TrR S1 (xr :: yr :: hs) L 65537 (rdW N a.size) S2 i)
    (hR : SetR f b.list tr.list R) (t' : TrR S2 (i :: hs) R 65537 (rdW N b.size) S3 j) :
    ∃ u w, Wf S3 (i :: j :: hs) ∧ Rep S3 u i ∧ Rep S3 w j ∧ u.Bal ∧ w.Bal ∧ u.list = L ∧ w.list = R ∧ u.size + w.size ≤ 140000 ∧ (jB u.size w.size : Int) ≤ S3.free ∧ (cB u.size w.size : Int) ≤ S3.free ∧ hs.length ≤ 300000000 ∧ S3.reads + (60 * gN (N + 1) + 30) ≤ 1400000000000000000 ∧
      5 * jB u.size w.size ≤ 20 * gN (N + 1) + 20 ∧ 5 * cB u.size w.size ≤ 20 * gN (N + 1) + 20 ∧ Got S0 hs 65537 (35 * gN (N + 1) + 6 + rdW N a.size + rdW N b.size) S3 (i :: j :: hs) := by
  obtain ⟨h2, g2⟩ := m.second hL t
  obtain ⟨x, y, h⟩ := m.h0
  obtain ⟨u, ru, eu, bu⟩ := t.tree
  obtain ⟨w, rw', ew, bw⟩ := t'.tree
  have two := flt_two (ltB k) (gtB k) (fun x hx => by unfold ltB gtB at *; simp at *; omega) ty.list
  rw [← m.el, ← m.er, tl.list_len, tr.list_len, ty.list_len] at two
  have zz : (Tr.node a k v b).size = a.size + b.size + 1 := by simp [Tr.size]; omega
  have hr := h.room
  have hl := h.hl
  have hd := h.rd
  have hs' := h.sz
  have hb := h.big
  rw [zz] at hr hl hd hs'
  rw [rdW_node] at hd
  have lu := hL.len
  rw [← eu, u.list_len, a.list_len, tl.list_len] at lu
  have lw := hR.len
  rw [← ew, w.list_len, b.list_len, tr.list_len] at lw
  have g3 : Got S0 hs 65537 (35 * gN (N + 1) + 6 + rdW N a.size + rdW N b.size) S3 (j :: i :: hs) := ((g2.seq t'.got (h := hs) (fun _ h => by simp [h]) (fun _ h => by simp [h])).mono (m' := 65537 + 65537) (by omega) (by omega)).loose
  have n0 := g3.nuR h.wf (fun i hi => by simp [hi])
  have w3 := t'.got.wf.perm (List.Perm.swap i j hs)
  have ru' : Rep S3 u i := ru.held t.got.wf t'.got.stay (.inr (by simp))
  have fr := free_two w3 ru' rw'
  have ec := cap_len g3.len
  have hd1 := g3.rd
  have jg := jB_g (a := u.size) (b := w.size) (by omega)
  have cg := cB_g (l := u.size) (r := w.size) (by omega)
  have gm := gN_mono (v := u.size + w.size + 1) (w := N + 1) (by omega) (by omega)
  unfold dW at hr
  have g8 := gN_rng (N + 1)
  exact ⟨u, w, w3, ru', rw', bu, bw, eu, ew, by omega, by omega, by omega, by omega, by omega, by omega, by omega, g3.perm (List.Perm.swap i j hs)⟩
/-- The value at the root's key. -/
def cutV (p v : Int) : Option Int → Int
  | some u => chooseP p v u
  | none => v
/-- The end of a step: joined or put together. -/
theorem Mid.fin {S0 S4 : Arn} {q : Int} {M : List Ent} {mk rd : Nat} {hs3 : List Int} (g : Got S0 hs 65537 (35 * gN (N + 1) + 6 + rdW N a.size + rdW N b.size) S3 hs3) (t : TrR S3 hs M mk rd S4 q) (hrd : rd ≤ 20 * gN (N + 1) + 20) :
    TrR S0 hs M 65537 (rdW N (Tr.node a k v b).size) S4 q := by
  have zz : (Tr.node a k v b).size = a.size + b.size + 1 := by simp [Tr.size]; omega
  refine ⟨((g.seq t.got (h := hs) (fun _ h => h) (fun _ h => h)).mono (m' := 65537 + mk) (Nat.le_refl _) ?_).loose, t.tree⟩
  rw [zz, rdW_node]; omega
theorem Mid.stepJ {S0 : Arn} {w : Int} (m : Mid S0 S1 hs a k v b ty tl tr xl yl xr yr N) (h0 : f none none = none) (hL : SetR f a.list tl.list L) (hR : SetR f b.list tr.list R) (e : f (some v) (getE ty.list k) = some w) :
    SetR f (Tr.node a k v b).list ty.list (L ++ (k, w) :: R) := by
  obtain ⟨x, y, h⟩ := m.h0
  rw [m.el] at hL
  rw [m.er] at hR
  exact (SetR.step h0 h.ax hL hR).1 w e
theorem Mid.stepC {S0 : Arn} (m : Mid S0 S1 hs a k v b ty tl tr xl yl xr yr N) (h0 : f none none = none) (hL : SetR f a.list tl.list L) (hR : SetR f b.list tr.list R) (e : f (some v) (getE ty.list k) = none) :
    SetR f (Tr.node a k v b).list ty.list (L ++ R) := by
  obtain ⟨x, y, h⟩ := m.h0
  rw [m.el] at hL
  rw [m.er] at hR
  exact (SetR.step h0 h.ax hL hR).2 e
open Classical in
/-- What can be reached is used. -/
theorem nuR_nu : nuR S hs ≤ S.nu := by
  unfold Arn.nu nuR
  rw [countP_range_getD]
  refine countP_imp _ _ _ fun z _ hz => ?_
  have := (of_decide_eq_true hz : Rch S hs (z : Int)).us
  unfold Arn.us at this
  simpa using this
/-- Both trees are held once more, and the work starts. -/
theorem StM.start (w : Wf S hs) (rx : Rep S tx x) (ry : Rep S ty y) (bx : tx.Bal) (bY : ty.Bal) (ax : Asc tx.list) (ay : Asc ty.list) (sz : tx.size + ty.size ≤ 140000) (hl : hs.length ≤ 1000000) (rd : S.reads ≤ 1000000000000000000)
    (need : (tx.size : Int) + ty.size + 12 * (Hn ((tx.size + ty.size : Nat) : Int) + 2) ≤ S.free) :
    StM (retL (retL S x) y) hs tx ty x y (tx.size + ty.size) ∧ Got S hs 0 0 (retL (retL S x) y) (x :: y :: hs) := by
  have g1 : Got S hs 0 0 (retL S x) (x :: hs) := retL_got w rx.us (by omega)
  have g2 : Got (retL S x) hs 0 0 (retL (retL S x) y) (y :: x :: hs) := retL_got g1.wf (ry.retL (j := x)).us (by simp; omega)
  have g := ((g1.seq g2 (h := hs) (fun _ h => h) (fun _ h => h)).perm (List.Perm.swap x y hs))
  have n0 := g.nuR w (fun _ h => h)
  have n1 := nuR_nu (S := S) (hs := hs)
  have c := w.free_nonneg.2.2.2
  have ec := cap_len g.len
  have gs := gN_size (tx.size + ty.size)
  have g8 := gN_rng (tx.size + ty.size + 1)
  have rr := g.rd
  have lt : rdW (tx.size + ty.size) tx.size ≤ 4840 * 140000 := by
    unfold rdW
    exact Nat.mul_le_mul (by omega) (by omega)
  refine ⟨⟨g.wf, rx.retL.retL, ry.retL.retL, bx, bY, ax, ay, Nat.le_refl _, sz, ?_, by omega, by omega⟩, g.mono (Nat.le_refl _) (Nat.le_refl _)⟩
  unfold dW; omega
end Go.Proofs.Ytbonbaccmlomhaa
end
