/- A part of the proof. -/
import Derived.Test.YtbonbaccmlomhaaG8
import Derived.Test.YtbonbaccmlomhaaG7
import Derived.Test.YtbonbaccmlomhaaG4
section
/- treework: popLast, Concat, Split, From, To, Insert, Delete, Hold, Room. -/
namespace Go.Proofs.Ytbonbaccmlomhaa.Sx
open Go

/-KEEP Wf exW inU live Arn.cap Arn.free NodeR Rep Kept rdS retL Tr.size Tr.list Tr.Bal balN balB jB pB cB iB dB sB gN OpnR TrR Got flt insE getE Asc-/
def tPopN (n : Nat) : Tfm C0 := fun args H K => match args with
  | [.at (.ptr 0 0), .at (.val (.int .u32 i))] => arM H fun S => ∃ hs a kr vr b, Wf S (i :: hs) ∧ Rep S (.node a kr vr b) i ∧ (Tr.node a kr vr b).Bal ∧ (Tr.node a kr vr b).size < n ∧ (Tr.node a kr vr b).size ≤ 800000 ∧ (pB (Tr.node a kr vr b).size : Int) ≤ S.free ∧
    hs.length + (Tr.node a kr vr b).size ≤ 600000000 ∧ S.reads + 5 * (pB (Tr.node a kr vr b).size) ≤ 1700000000000000000 ∧
    ∀ S' j k v L, (Tr.node a kr vr b).list = L ++ [(k, v)] → TrR S hs L (pB (Tr.node a kr vr b).size) (5 * pB (Tr.node a kr vr b).size) S' j → K (.tup [.at (vU j), .agg [vI k, vI v]]) (chS S') W7
  | _ => False
noncomputable def aPop' (n : Nat) : Ann C0 := { Γ := [(132, frameT [] tOpn), (144, frameT [] (tPopN n)), (114, frameT [] tJoin)] }
def tPopl : Tfm C0 := fun args H K => match args with
  | [.at (.ptr 0 0), .at (.val (.int .u32 i))] => arM H fun S => ∃ hs t, Wf S (i :: hs) ∧ Rep S t i ∧ t.Bal ∧ 1 ≤ t.size ∧ t.size ≤ 800000 ∧ (pB t.size : Int) ≤ S.free ∧ hs.length ≤ 500000000 ∧ S.reads + 5 * (pB t.size) ≤ 1700000000000000000 ∧
    ∀ S' j k v L, t.list = L ++ [(k, v)] → TrR S hs L (pB t.size) (5 * pB t.size) S' j → K (.tup [.at (vU j), .agg [vI k, vI v]]) (chS S') W7
  | _ => False
noncomputable def aCat : Ann C0 := { Γ := [(144, frameT [] tPopl), (114, frameT [] tJoin)] }
def tCat : Tfm C0 := fun args H K => match args with
  | [.at (.ptr 0 0), .at (.val (.int .u32 l)), .at (.val (.int .u32 r))] => arM H fun S => ∃ hs ta tb, Wf S (l :: r :: hs) ∧ Rep S ta l ∧ Rep S tb r ∧ ta.Bal ∧ tb.Bal ∧ ta.size + tb.size ≤ 800000 ∧ (cB ta.size tb.size : Int) ≤ S.free ∧ hs.length ≤ 400000000 ∧ S.reads + 5 * (cB ta.size tb.size) ≤ 1600000000000000000 ∧
    ∀ S' i, TrR S hs (ta.list ++ tb.list) (cB ta.size tb.size) (5 * cB ta.size tb.size) S' i → K (.one (.at (vU i))) (chS S') W7
  | _ => False
def tInsT (n : Nat) : Tfm C0 := fun args H K => match args with
  | [.at (.ptr 0 0), .at (.val (.int .u32 i)), .agg [.val (.int .i64 k), .val (.int .i64 v)]] => arM H fun S => ∃ hs t, Wf S (i :: hs) ∧ Rep S t i ∧ t.Bal ∧ Asc t.list ∧ t.size < n ∧ t.size ≤ 700000 ∧ (iB t.size : Int) ≤ S.free ∧ hs.length + t.size ≤ 600000000 ∧ S.reads + 5 * iB t.size ≤ 1600000000000000000 ∧
    ∀ S' j, TrR S hs (insE t.list (k, v)) (iB t.size) (5 * iB t.size) S' j → K (.one (.at (vU j))) (chS S') W7
  | _ => False
noncomputable def aIns' (n : Nat) : Ann C0 := { Γ := [(132, frameT [] tOpn), (105, frameT [] (tInsT n)), (114, frameT [] tJoin), (123, frameT [] tNodeX)] }
def tDlt (n : Nat) : Tfm C0 := fun args H K => match args with
  | [.at (.ptr 0 0), .at (.val (.int .u32 i)), .at (.val (.int .i64 key))] => arM H fun S => ∃ hs t, Wf S (i :: hs) ∧ Rep S t i ∧ t.Bal ∧ Asc t.list ∧ t.size < n ∧ t.size ≤ 700000 ∧ hasK t.list key ∧ (dB t.size : Int) ≤ S.free ∧ hs.length + t.size ≤ 300000000 ∧ S.reads + 5 * dB t.size ≤ 1500000000000000000 ∧
    ∀ S' j, TrR S hs (flt (neK key) t.list) (dB t.size) (5 * dB t.size) S' j → K (.one (.at (vU j))) (chS S') W7
  | _ => False
noncomputable def aDlt (n : Nat) : Ann C0 := { Γ := [(132, frameT [] tOpn), (102, frameT [] (tDlt n)), (114, frameT [] tJoin), (122, frameT [] tCat)] }
noncomputable def aHold : Ann C0 := { Γ := [(56, frameT [] tRetL)] }
def tHold : Tfm C0 := fun args H K => match args with
  | [.at (.ptr 0 0), .at (.val (.int .u32 i))] => arM H fun S => live S i ∧ exW S ∧ ∀ S', S' = retL S i → K (.one (.at (vU i))) (chS S') [3]
  | _ => False
noncomputable def aRoom : Ann C0 := { Γ := [(77, frameT [] tFree)] }
def tRoom : Tfm C0 := fun args H K => match args with
  | [.at (.ptr 0 0), .at (.val (.int .i64 n))] => arM H fun S => exW S ∧ ∀ b, b = (decide (0 ≤ n) && decide (n ≤ S.free)) → K (.one (.at (vB b))) (chS S) []
  | _ => False
theorem rep_ne {S : Arn} {b : Tr} {r : Int} (h : Rep S b r) (hr : r ≠ 0) : ∃ a2 k2 v2 b2, b = .node a2 k2 v2 b2 := by
  cases b with
  | nil => exact absurd h hr
  | node a2 k2 v2 b2 => exact ⟨a2, k2, v2, b2, rfl⟩
theorem node_size (a b : Tr) (k v : Int) : (Tr.node a k v b).size = a.size + b.size + 1 := by simp [Tr.size]; omega
theorem vc_popl (n : Nat) (S : Arn) (i : Int) (K : KT) (hs : List Int) (a : Tr) (kr vr : Int) (b : Tr) (hw : Wf S (i :: hs)) (h2 : Rep S (.node a kr vr b) i) (bal : (Tr.node a kr vr b).Bal) (hfu : (Tr.node a kr vr b).size < n + 1) (hz : (Tr.node a kr vr b).size ≤ 800000) (hf : (pB (Tr.node a kr vr b).size : Int) ≤ S.free)
    (hl : hs.length + (Tr.node a kr vr b).size ≤ 600000000) (hr : S.reads + 5 * (pB (Tr.node a kr vr b).size) ≤ 1700000000000000000)
    (h : ∀ S' j k v L, (Tr.node a kr vr b).list = L ++ [(k, v)] → TrR S hs L (pB (Tr.node a kr vr b).size) (5 * pB (Tr.node a kr vr b).size) S' j → K (.tup [.at (vU j), .agg [vI k, vI v]]) (chS S') W7) :
    vc C0 (aPop' n) Try.f144 [.at (.ptr 0 0), .at (vU i)] (chS S) (normK 7 (wideK W7 K)) := by
  refine Eq.mp (show (∃ hs : List Int, (∃ a : Tr, (∃ k : Int, (∃ v : Int, (∃ b : Tr, ((Wf S (i :: hs)) ∧ (Rep S (a.node k v b) i) ∧ (hs.length ≤ 900000000) ∧ (S.reads ≤ 3000000000000000000) ∧ (∀ S' : Arn, (∀ l : Int, (∀ r : Int, ((OpnR S hs a k v b S' l r) → (brS (r == 0) ((K (SV.tup [(TV.at (At.val (Value.int IntKind.u32 (l)))), (TV.agg [(At.val (Value.int IntKind.i64 (k))), (At.val (Value.int IntKind.i64 (v)))])]) [(Chunk.box [(At.ptr 1 0), (At.slc 2), (At.slc 3), (At.val (Value.int IntKind.u64 (S'.reads)))]), (Chunk.box [(At.slc 4), (At.slc 5), (At.slc 6), (At.val (Value.int IntKind.u32 (S'.fresh)))]), (Chunk.row true (EC.node) (S'.nodes)), (Chunk.row true (EC.int) (S'.counts)), (Chunk.row true (EC.bool) (S'.used)), (Chunk.row true (EC.u32) (S'.gen)), (Chunk.row true (EC.u32) (S'.rel))] [0, 1, 2, 3, 4, 5, 6])) ((∃ hs1 : List Int, (∃ a1 : Tr, (∃ kr : Int, (∃ vr : Int, (∃ b1 : Tr, ((Wf S' (r :: hs1)) ∧ (Rep S' (a1.node kr vr b1) r) ∧ ((a1.node kr vr b1).Bal) ∧ ((a1.node kr vr b1).size < n) ∧ ((a1.node kr vr b1).size ≤ 800000) ∧ ((↑(pB (a1.node kr vr b1).size) : Int) ≤ S'.free) ∧ (hs1.length + (a1.node kr vr b1).size ≤ 600000000) ∧ (S'.reads + 5 * (↑(pB (a1.node kr vr b1).size) : Int) ≤ 1700000000000000000) ∧ (∀ S'1 : Arn, (∀ j : Int, (∀ k1 : Int, (∀ v1 : Int, (∀ L : List Ent, ((((a1.node kr vr b1).list) = (L ++ [(k1, v1)])) → ((TrR S' hs1 L (pB (a1.node kr vr b1).size) (5 * pB (a1.node kr vr b1).size) S'1 j) → (∃ hs2 : List Int, (∃ ta : Tr, (∃ tb : Tr, ((Wf S'1 (l :: j :: hs2)) ∧ (Rep S'1 ta l) ∧
    (Rep S'1 tb j) ∧ (ta.Bal) ∧ (tb.Bal) ∧ (ta.size + tb.size ≤ 900000) ∧ ((↑(jB ta.size tb.size) : Int) ≤ S'1.free) ∧ (hs2.length ≤ 700000000) ∧ (S'1.reads + 5 * (↑(jB ta.size tb.size) : Int) ≤ 1800000000000000000) ∧ (∀ S'2 : Arn, (∀ i1 : Int, ((TrR S'1 hs2 (ta.list ++ (k, v) :: tb.list) (jB ta.size tb.size) (4 * jB ta.size tb.size) S'2 i1) → (((balN (↑ta.size : Int) (↑tb.size : Int)) → ((((S'2.nd i1).left) = (l)) ∧ (((S'2.nd i1).right) = (j)) ∧ ((S'2.nu) = (S'1.nu + 1)))) → (K (SV.tup [(TV.at (At.val (Value.int IntKind.u32 (i1)))), (TV.agg [(At.val (Value.int IntKind.i64 (k1))), (At.val (Value.int IntKind.i64 (v1)))])]) [(Chunk.box [(At.ptr 1 0), (At.slc 2), (At.slc 3), (At.val (Value.int IntKind.u64 (S'2.reads)))]), (Chunk.box [(At.slc 4), (At.slc 5), (At.slc 6), (At.val (Value.int IntKind.u32 (S'2.fresh)))]), (Chunk.row true (EC.node) (S'2.nodes)), (Chunk.row true (EC.int) (S'2.counts)), (Chunk.row true (EC.bool) (S'2.used)), (Chunk.row true (EC.u32) (S'2.gen)), (Chunk.row true (EC.u32) (S'2.rel))] [0, 1, 2, 3, 4, 5, 6])))))))))))))))))))))))))))))))))) = _ by kernel_rfl) ?_
  have zz := node_size a b kr vr
  rw [zz] at hfu hz hf hl hr h
  obtain ⟨bb, ba, bbb⟩ := bal
  have hrd := hw.rds
  refine ⟨hs, a, kr, vr, b, hw, h2, by omega, by omega, fun S1 l r o => brS_of (fun d => ?_) fun d => ?_⟩
  · have d : r = 0 := by simpa using d
    subst d
    have e := o.repr.zero o.got.wf
    subst e
    have pp := pB_pos (n := a.size + Tr.nil.size + 1) (by omega)
    exact h S1 l kr vr a.list (by simp [Tr.list]) ⟨((o.got.perm (List.Perm.swap _ _ _)).of_zero).mono (by omega) (by omega), a, o.repl, rfl, ba⟩
  · have d : r ≠ 0 := by simpa using d
    obtain ⟨a2, k2, v2, b2, e⟩ := rep_ne o.repr d
    have zb : 1 ≤ b.size := by rw [e, node_size]; omega
    have ps := pB_step bb zb (by omega)
    have jp0 := jB_pos a.size (b.size - 1)
    have f1 := o.got.free hw
    have q1 := o.got.rd
    have orr := o.repr
    have eb := e
    rw [e] at orr
    refine ⟨l :: hs, a2, k2, v2, b2, o.got.wf.perm (List.Perm.swap _ _ _), orr, ?_⟩
    rw [← e]
    refine ⟨bbb, by omega, by omega, by omega, by simp; omega, by omega, fun S2 j k1 v1 L eL tr => ?_⟩
    obtain ⟨t, rt, lt, bt⟩ := tr.tree
    have zt : t.size = b.size - 1 := by rw [← t.list_len, lt, ← b.list_len, eL]; simp
    have f2 := tr.got.free o.got.wf
    have q2 := tr.got.rd
    have jp := jB_pos a.size t.size
    rw [← zt] at ps
    refine ⟨hs, a, t, tr.got.wf.perm (List.Perm.swap _ _ _), o.repl.held o.got.wf tr.got.stay (.inr (by simp)), rt, ba, bt, by omega, by omega, by omega, by omega, fun S3 q tj _ => h S3 q k1 v1 (a.list ++ (kr, vr) :: L) ?_ ⟨?_, ?_⟩⟩
    · show a.list ++ (kr, vr) :: b.list = _
      rw [eL]; simp
    · exact ((o.got.seq tr.got (h := hs) (fun _ h => h) (fun _ h => by simp [h])).seq tj.got (fun _ h => h) (fun _ h => h)).mono (by omega) (by omega)
    · obtain ⟨t', rt', lt', bt'⟩ := tj.tree
      exact ⟨t', rt', by rw [lt', lt], bt'⟩
theorem s_pop' : ∀ n, SoundT C0 144 (tPopN n) := by
  intro n
  induction n with
  | zero =>
    refine .of Try.func144 (by decide) rfl fun args H K h hB => ?_
    exfalso
    unfold tPopN at h
    split at h <;> try exact h.elim
    unfold arM at h
    split at h <;> try exact h.elim
    obtain ⟨_, _, _, _, _, _, _, _, h1, _⟩ := h
    omega
  | succ n ih =>
    refine .ofW W7 Try.func144 (by decide) rfl fun args H K h hB => ?_
    unfold tPopN at h
    split at h <;> try exact h.elim
    unfold arM at h
    split at h <;> try exact h.elim
    rename_i i _ rd fr nd ct us gn rl
    obtain ⟨hs, a, kr, vr, b, h1, h2, h3, h4, h5, h6, h7, h8, h9⟩ := h
    exact ⟨aPop' n, ⟨frame C0.ok s_opn _, frame C0.ok ih _, frame C0.ok s_join _, trivial⟩, vc_popl n ⟨us, gn, rl, fr, nd, ct, rd⟩ i K hs a kr vr b h1 h2 h3 h4 h5 h6 h7 h8 h9⟩
theorem s_popl : SoundT C0 144 tPopl := (s_pop' 1000000).weak fun args H K h => by
  unfold tPopl at h
  unfold tPopN
  split at h <;> try exact h.elim
  unfold arM at h ⊢
  split at h <;> try exact h.elim
  obtain ⟨hs, t, h1, h2, h3, h4, h5, h6, h7, h8, h9⟩ := h
  cases t with
  | nil => exact absurd h4 (by decide)
  | node a k v b => exact ⟨hs, a, k, v, b, h1, h2, h3, by omega, h5, h6, by omega, h8, h9⟩
theorem vc_cat (S : Arn) (l r : Int) (K : KT) (hs : List Int) (ta tb : Tr) (hw : Wf S (l :: r :: hs)) (h1 : Rep S ta l) (h2 : Rep S tb r) (b1 : ta.Bal) (b2 : tb.Bal) (hz : ta.size + tb.size ≤ 800000) (hf : (cB ta.size tb.size : Int) ≤ S.free) (hl : hs.length ≤ 400000000) (hr : S.reads + 5 * (cB ta.size tb.size) ≤ 1600000000000000000)
    (h : ∀ S' i, TrR S hs (ta.list ++ tb.list) (cB ta.size tb.size) (5 * cB ta.size tb.size) S' i → K (.one (.at (vU i))) (chS S') W7) :
    vc C0 aCat Try.f122 [.at (.ptr 0 0), .at (vU l), .at (vU r)] (chS S) (normK 7 (wideK W7 K)) := by
  refine Eq.mp (show (brS (l == 0) ((K (SV.one (TV.at (At.val (Value.int IntKind.u32 (r))))) [(Chunk.box [(At.ptr 1 0), (At.slc 2), (At.slc 3), (At.val (Value.int IntKind.u64 (S.reads)))]), (Chunk.box [(At.slc 4), (At.slc 5), (At.slc 6), (At.val (Value.int IntKind.u32 (S.fresh)))]), (Chunk.row true (EC.node) (S.nodes)), (Chunk.row true (EC.int) (S.counts)), (Chunk.row true (EC.bool) (S.used)), (Chunk.row true (EC.u32) (S.gen)), (Chunk.row true (EC.u32) (S.rel))] [0, 1, 2, 3, 4, 5, 6])) ((brS (r == 0) ((K (SV.one (TV.at (At.val (Value.int IntKind.u32 (l))))) [(Chunk.box [(At.ptr 1 0), (At.slc 2), (At.slc 3), (At.val (Value.int IntKind.u64 (S.reads)))]), (Chunk.box [(At.slc 4), (At.slc 5), (At.slc 6), (At.val (Value.int IntKind.u32 (S.fresh)))]), (Chunk.row true (EC.node) (S.nodes)), (Chunk.row true (EC.int) (S.counts)), (Chunk.row true (EC.bool) (S.used)), (Chunk.row true (EC.u32) (S.gen)), (Chunk.row true (EC.u32) (S.rel))] [0, 1, 2, 3, 4, 5, 6])) ((∃ hs : List Int, (∃ t : Tr, ((Wf S (l :: hs)) ∧ (Rep S t l) ∧ (t.Bal) ∧ (1 ≤ t.size) ∧ (t.size ≤ 800000) ∧ ((↑(pB t.size) : Int) ≤ S.free) ∧ (hs.length ≤ 500000000) ∧ (S.reads + 5 * (↑(pB t.size) : Int) ≤ 1700000000000000000) ∧ (∀ S' : Arn, (∀ j : Int, (∀ k : Int, (∀ v : Int, (∀ L : List Ent, (((t.list) = (L ++ [(k, v)])) → ((TrR S hs L (pB t.size) (5 * pB t.size) S' j) → (∃ hs1 : List Int, (∃ ta : Tr, (∃ tb : Tr, ((Wf S' (j :: r :: hs1)) ∧ (Rep S' ta j) ∧ (Rep S' tb r) ∧ (ta.Bal) ∧ (tb.Bal) ∧ (ta.size + tb.size ≤ 900000) ∧
    ((↑(jB ta.size tb.size) : Int) ≤ S'.free) ∧ (hs1.length ≤ 700000000) ∧ (S'.reads + 5 * (↑(jB ta.size tb.size) : Int) ≤ 1800000000000000000) ∧ (∀ S'1 : Arn, (∀ i : Int, ((TrR S' hs1 (ta.list ++ (k, v) :: tb.list) (jB ta.size tb.size) (4 * jB ta.size tb.size) S'1 i) → (((balN (↑ta.size : Int) (↑tb.size : Int)) → ((((S'1.nd i).left) = (j)) ∧ (((S'1.nd i).right) = (r)) ∧ ((S'1.nu) = (S'.nu + 1)))) → (K (SV.one (TV.at (At.val (Value.int IntKind.u32 (i))))) [(Chunk.box [(At.ptr 1 0), (At.slc 2), (At.slc 3), (At.val (Value.int IntKind.u64 (S'1.reads)))]), (Chunk.box [(At.slc 4), (At.slc 5), (At.slc 6), (At.val (Value.int IntKind.u32 (S'1.fresh)))]), (Chunk.row true (EC.node) (S'1.nodes)), (Chunk.row true (EC.int) (S'1.counts)), (Chunk.row true (EC.bool) (S'1.used)), (Chunk.row true (EC.u32) (S'1.gen)), (Chunk.row true (EC.u32) (S'1.rel))] [0, 1, 2, 3, 4, 5, 6]))))))))))))))))))))))) = _ by kernel_rfl) ?_
  refine brS_of (fun d => ?_) fun d => brS_of (fun e => ?_) fun e => ?_
  · have d : l = 0 := by simpa using d
    subst d
    have e := h1.zero hw
    subst e
    exact h S r ⟨(Got.refl hw.of_zero).mono (Nat.zero_le _) (Nat.zero_le _), tb, h2, rfl, b2⟩
  · have e : r = 0 := by simpa using e
    subst e
    have e := h2.zero hw
    subst e
    exact h S l ⟨(Got.refl (hw.perm (List.Perm.swap _ _ _)).of_zero).mono (Nat.zero_le _) (Nat.zero_le _), ta, h1, by simp [Tr.list], b1⟩
  · have d : l ≠ 0 := by simpa using d
    have e : r ≠ 0 := by simpa using e
    obtain ⟨_, _, _, _, ea⟩ := rep_ne h1 d
    obtain ⟨_, _, _, _, eb⟩ := rep_ne h2 e
    have za : 1 ≤ ta.size := by rw [ea, node_size]; omega
    have zb : 1 ≤ tb.size := by rw [eb, node_size]; omega
    have ec : cB ta.size tb.size = pB ta.size + jB (ta.size - 1) tb.size := by unfold cB; rw [if_neg (by omega)]
    rw [ec] at hf hr h
    have hrd := hw.rds
    refine ⟨r :: hs, ta, hw, h1, b1, za, by omega, by omega, by simp; omega, by omega, fun S1 j k v L eL tr => ?_⟩
    obtain ⟨t, rt, lt, bt⟩ := tr.tree
    have zt : t.size = ta.size - 1 := by rw [← t.list_len, lt, ← ta.list_len, eL]; simp
    rw [← zt] at hf hr h
    have f2 := tr.got.free hw
    have q2 := tr.got.rd
    refine ⟨hs, t, tb, tr.got.wf, rt, h2.held hw tr.got.stay (.inr (by simp)), bt, b2, by omega, by omega, by omega, by omega, fun S2 q tj _ => h S2 q ⟨?_, ?_⟩⟩
    · exact (tr.got.seq tj.got (h := hs) (fun _ h => by simp [h]) (fun _ h => h)).mono (by omega) (by omega)
    · obtain ⟨t', rt', lt', bt'⟩ := tj.tree
      exact ⟨t', rt', by rw [lt', lt, eL]; simp, bt'⟩
theorem s_cat : SoundT C0 122 tCat := by
  refine .ofW W7 Try.func122 (by decide) rfl fun args H K h hB => ?_
  unfold tCat at h
  split at h <;> try exact h.elim
  unfold arM at h
  split at h <;> try exact h.elim
  rename_i l r _ rd fr nd ct us gn rl
  obtain ⟨hs, ta, tb, h1, h2, h3, h4, h5, h6, h7, h8, h9, h10⟩ := h
  exact ⟨aCat, ⟨frame C0.ok s_popl _, frame C0.ok s_join _, trivial⟩, vc_cat ⟨us, gn, rl, fr, nd, ct, rd⟩ l r K hs ta tb h1 h2 h3 h4 h5 h6 h7 h8 h9 h10⟩
theorem vc_hold (S : Arn) (i : Int) (K : KT) (h1 : live S i) (h2 : exW S) (h : ∀ S', S' = retL S i → K (.one (.at (vU i))) (chS S') [3]) :
    vc C0 aHold Try.f71 [.at (.ptr 0 0), .at (vU i)] (chS S) (normK 7 (wideK [3] K)) := by
  refine Eq.mp (show ((live S i) ∧
(exW S) ∧
(∀ S' : Arn, (((S') = (retL S i)) → (K (SV.one (TV.at (At.val (Value.int IntKind.u32 (i))))) [(Chunk.box [(At.ptr 1 0), (At.slc 2), (At.slc 3), (At.val (Value.int IntKind.u64 (S'.reads)))]), (Chunk.box [(At.slc 4), (At.slc 5), (At.slc 6), (At.val (Value.int IntKind.u32 (S'.fresh)))]), (Chunk.row true (EC.node) (S'.nodes)), (Chunk.row true (EC.int) (S'.counts)), (Chunk.row true (EC.bool) (S'.used)), (Chunk.row true (EC.u32) (S'.gen)), (Chunk.row true (EC.u32) (S'.rel))] [3])))) = _ by kernel_rfl) ?_
  exact ⟨h1, h2, h⟩
theorem s_hold : SoundT C0 71 tHold := by
  refine .ofW [3] Try.func71 (by decide) rfl fun args H K h hB => ?_
  unfold tHold at h
  split at h <;> try exact h.elim
  unfold arM at h
  split at h <;> try exact h.elim
  rename_i i _ rd fr nd ct us gn rl
  exact ⟨aHold, ⟨frame C0.ok s_retL _, trivial⟩, vc_hold ⟨us, gn, rl, fr, nd, ct, rd⟩ i K h.1 h.2.1 h.2.2⟩
theorem vc_room (S : Arn) (n : Int) (K : KT) (h1 : exW S) (h : ∀ b, b = (decide (0 ≤ n) && decide (n ≤ S.free)) → K (.one (.at (vB b))) (chS S) []) :
    vc C0 aRoom Try.f95 [.at (.ptr 0 0), .at (vI n)] (chS S) (normK 7 K) := by
  refine Eq.mp (show (brS (decide (n ≥ 0)) (((exW S) ∧ (K (SV.one (TV.at (At.val (Value.bool (decide (S.free ≥ n)))))) [(Chunk.box [(At.ptr 1 0), (At.slc 2), (At.slc 3), (At.val (Value.int IntKind.u64 (S.reads)))]), (Chunk.box [(At.slc 4), (At.slc 5), (At.slc 6), (At.val (Value.int IntKind.u32 (S.fresh)))]), (Chunk.row true (EC.node) (S.nodes)), (Chunk.row true (EC.int) (S.counts)), (Chunk.row true (EC.bool) (S.used)), (Chunk.row true (EC.u32) (S.gen)), (Chunk.row true (EC.u32) (S.rel))] []))) ((K (SV.one (TV.at (At.val (Value.bool false)))) [(Chunk.box [(At.ptr 1 0), (At.slc 2), (At.slc 3), (At.val (Value.int IntKind.u64 (S.reads)))]), (Chunk.box [(At.slc 4), (At.slc 5), (At.slc 6), (At.val (Value.int IntKind.u32 (S.fresh)))]), (Chunk.row true (EC.node) (S.nodes)), (Chunk.row true (EC.int) (S.counts)), (Chunk.row true (EC.bool) (S.used)), (Chunk.row true (EC.u32) (S.gen)), (Chunk.row true (EC.u32) (S.rel))] []))) = _ by kernel_rfl) ?_
  refine brS_of (fun d => ⟨h1, h _ ?_⟩) fun d => h _ ?_
  · have d : 0 ≤ n := of_decide_eq_true d
    rw [decide_eq_true d]; rfl
  · have d : ¬ 0 ≤ n := of_decide_eq_false d
    rw [decide_eq_false d]; rfl
theorem s_room : SoundT C0 95 tRoom := by
  refine .of Try.func95 (by decide) rfl fun args H K h hB => ?_
  unfold tRoom at h
  split at h <;> try exact h.elim
  unfold arM at h
  split at h <;> try exact h.elim
  rename_i n _ rd fr nd ct us gn rl
  exact ⟨aRoom, ⟨frame C0.ok s_free _, trivial⟩, vc_room ⟨us, gn, rl, fr, nd, ct, rd⟩ n K h.1 h.2⟩
theorem jB_ins {a b t : Nat} (h : balN a b) (h1 : a ≤ t) (h2 : t ≤ a + 1) : jB t b ≤ 4 := by
  rcases Nat.lt_or_ge a t with c | c
  · have : t = a + 1 := by omega
    subst this
    rw [jB_comm]; exact jB_more (balN_comm h)
  · have : t = a := by omega
    subst this
    rw [jB_bal h]; decide
theorem jB_ins' {a b t : Nat} (h : balN a b) (h1 : b ≤ t) (h2 : t ≤ b + 1) : jB a t ≤ 4 := by
  rw [jB_comm]; exact jB_ins (balN_comm h) h1 h2
theorem vc_insr (n : Nat) (S : Arn) (i k v : Int) (K : KT) (hs : List Int) (t : Tr) (hw : Wf S (i :: hs)) (h1 : Rep S t i) (bal : t.Bal) (asc : Asc t.list) (hfu : t.size < n + 1) (hz : t.size ≤ 700000) (hf : (iB t.size : Int) ≤ S.free) (hl : hs.length + t.size ≤ 600000000) (hr : S.reads + 5 * iB t.size ≤ 1600000000000000000)
    (h : ∀ S' j, TrR S hs (insE t.list (k, v)) (iB t.size) (5 * iB t.size) S' j → K (.one (.at (vU j))) (chS S') W7) :
    vc C0 (aIns' n) Try.f105 [.at (.ptr 0 0), .at (vU i), .agg [vI k, vI v]] (chS S) (normK 7 (wideK W7 K)) := by
  refine Eq.mp (show (brS (i == 0) ((∃ hs : List Int, (∃ tl : Tr, (∃ tr : Tr, ((Wf S (0 :: 0 :: hs)) ∧ (Rep S tl 0) ∧ (Rep S tr 0) ∧ (tl.size + tr.size ≤ 1000000) ∧ (0 < S.free) ∧ (hs.length ≤ 900000000) ∧ (∀ S' : Arn, (∀ i1 : Int, ((NodeR S hs k v tl tr S' i1) → ((((S'.nd i1).left) = 0) → ((((S'.nd i1).right) = 0) → (K (SV.one (TV.at (At.val (Value.int IntKind.u32 (i1))))) [(Chunk.box [(At.ptr 1 0), (At.slc 2), (At.slc 3), (At.val (Value.int IntKind.u64 (S'.reads)))]), (Chunk.box [(At.slc 4), (At.slc 5), (At.slc 6), (At.val (Value.int IntKind.u32 (S'.fresh)))]), (Chunk.row true (EC.node) (S'.nodes)), (Chunk.row true (EC.int) (S'.counts)), (Chunk.row true (EC.bool) (S'.used)), (Chunk.row true (EC.u32) (S'.gen)), (Chunk.row true (EC.u32) (S'.rel))] [0, 1, 2, 3, 4, 5, 6]))))))))))) ((∃ hs : List Int, (∃ a : Tr, (∃ k1 : Int, (∃ v1 : Int, (∃ b : Tr, ((Wf S (i :: hs)) ∧ (Rep S (a.node k1 v1 b) i) ∧ (hs.length ≤ 900000000) ∧ (S.reads ≤ 3000000000000000000) ∧ (∀ S' : Arn, (∀ l : Int, (∀ r : Int, ((OpnR S hs a k1 v1 b S' l r) → (brS (decide (k < k1)) ((((∃ hs1 : List Int, (∃ t : Tr, ((Wf S' (l :: hs1)) ∧ (Rep S' t l) ∧ (t.Bal) ∧ (Asc t.list) ∧ (t.size < n) ∧ (t.size ≤ 700000) ∧ ((↑(iB t.size) : Int) ≤ S'.free) ∧ (hs1.length + t.size ≤ 600000000) ∧ (S'.reads + 5 * (↑(iB t.size) : Int) ≤ 1600000000000000000) ∧ (∀ S'1 : Arn, (∀ j : Int, ((TrR S' hs1 (insE t.list (k, v)) (iB t.size) (5 * iB t.size) S'1 j) → (∃ hs2 : List Int, (∃ ta : Tr, (∃ tb : Tr, ((Wf S'1 (j :: r :: hs2)) ∧ (Rep S'1 ta j) ∧
    (Rep S'1 tb r) ∧ (ta.Bal) ∧ (tb.Bal) ∧ (ta.size + tb.size ≤ 900000) ∧ ((↑(jB ta.size tb.size) : Int) ≤ S'1.free) ∧ (hs2.length ≤ 700000000) ∧ (S'1.reads + 5 * (↑(jB ta.size tb.size) : Int) ≤ 1800000000000000000) ∧ (∀ S'2 : Arn, (∀ i1 : Int, ((TrR S'1 hs2 (ta.list ++ (k1, v1) :: tb.list) (jB ta.size tb.size) (4 * jB ta.size tb.size) S'2 i1) → (((balN (↑ta.size : Int) (↑tb.size : Int)) → ((((S'2.nd i1).left) = (j)) ∧ (((S'2.nd i1).right) = (r)) ∧ ((S'2.nu) = (S'1.nu + 1)))) → (K (SV.one (TV.at (At.val (Value.int IntKind.u32 (i1))))) [(Chunk.box [(At.ptr 1 0), (At.slc 2), (At.slc 3), (At.val (Value.int IntKind.u64 (S'2.reads)))]), (Chunk.box [(At.slc 4), (At.slc 5), (At.slc 6), (At.val (Value.int IntKind.u32 (S'2.fresh)))]), (Chunk.row true (EC.node) (S'2.nodes)), (Chunk.row true (EC.int) (S'2.counts)), (Chunk.row true (EC.bool) (S'2.used)), (Chunk.row true (EC.u32) (S'2.gen)), (Chunk.row true (EC.u32) (S'2.rel))] [0, 1, 2, 3, 4, 5, 6]))))))))))))))) ∧ (∃ hs1 : List Int, (∃ t : Tr, ((Wf S' (l :: hs1)) ∧ (Rep S' t l) ∧ (t.Bal) ∧ (Asc t.list) ∧ (t.size < n) ∧ (t.size ≤ 700000) ∧ ((↑(iB t.size) : Int) ≤ S'.free) ∧ (hs1.length + t.size ≤ 600000000) ∧ (S'.reads + 5 * (↑(iB t.size) : Int) ≤ 1600000000000000000) ∧ (∀ S'1 : Arn, (∀ j : Int, ((TrR S' hs1 (insE t.list (k, v)) (iB t.size) (5 * iB t.size) S'1 j) → (∃ hs2 : List Int, (∃ ta : Tr, (∃ tb : Tr, ((Wf S'1 (j :: r :: hs2)) ∧ (Rep S'1 ta j) ∧ (Rep S'1 tb r) ∧ (ta.Bal) ∧ (tb.Bal) ∧ (ta.size + tb.size ≤ 900000) ∧
    ((↑(jB ta.size tb.size) : Int) ≤ S'1.free) ∧ (hs2.length ≤ 700000000) ∧ (S'1.reads + 5 * (↑(jB ta.size tb.size) : Int) ≤ 1800000000000000000) ∧ (∀ S'2 : Arn, (∀ i1 : Int, ((TrR S'1 hs2 (ta.list ++ (k1, v1) :: tb.list) (jB ta.size tb.size) (4 * jB ta.size tb.size) S'2 i1) → (((balN (↑ta.size : Int) (↑tb.size : Int)) → ((((S'2.nd i1).left) = (j)) ∧ (((S'2.nd i1).right) = (r)) ∧ ((S'2.nu) = (S'1.nu + 1)))) → (K (SV.one (TV.at (At.val (Value.int IntKind.u32 (i1))))) [(Chunk.box [(At.ptr 1 0), (At.slc 2), (At.slc 3), (At.val (Value.int IntKind.u64 (S'2.reads)))]), (Chunk.box [(At.slc 4), (At.slc 5), (At.slc 6), (At.val (Value.int IntKind.u32 (S'2.fresh)))]), (Chunk.row true (EC.node) (S'2.nodes)), (Chunk.row true (EC.int) (S'2.counts)), (Chunk.row true (EC.bool) (S'2.used)), (Chunk.row true (EC.u32) (S'2.gen)), (Chunk.row true (EC.u32) (S'2.rel))] [0, 1, 2, 3, 4, 5, 6])))))))))))))))) ∧ (∃ hs1 : List Int, (∃ t : Tr, ((Wf S' (l :: hs1)) ∧ (Rep S' t l) ∧ (t.Bal) ∧ (Asc t.list) ∧ (t.size < n) ∧ (t.size ≤ 700000) ∧ ((↑(iB t.size) : Int) ≤ S'.free) ∧ (hs1.length + t.size ≤ 600000000) ∧ (S'.reads + 5 * (↑(iB t.size) : Int) ≤ 1600000000000000000) ∧ (∀ S'1 : Arn, (∀ j : Int, ((TrR S' hs1 (insE t.list (k, v)) (iB t.size) (5 * iB t.size) S'1 j) → (∃ hs2 : List Int, (∃ ta : Tr, (∃ tb : Tr, ((Wf S'1 (j :: r :: hs2)) ∧ (Rep S'1 ta j) ∧ (Rep S'1 tb r) ∧ (ta.Bal) ∧ (tb.Bal) ∧ (ta.size + tb.size ≤ 900000) ∧ ((↑(jB ta.size tb.size) : Int) ≤ S'1.free) ∧ (hs2.length ≤ 700000000) ∧
    (S'1.reads + 5 * (↑(jB ta.size tb.size) : Int) ≤ 1800000000000000000) ∧ (∀ S'2 : Arn, (∀ i1 : Int, ((TrR S'1 hs2 (ta.list ++ (k1, v1) :: tb.list) (jB ta.size tb.size) (4 * jB ta.size tb.size) S'2 i1) → (((balN (↑ta.size : Int) (↑tb.size : Int)) → ((((S'2.nd i1).left) = (j)) ∧ (((S'2.nd i1).right) = (r)) ∧ ((S'2.nu) = (S'1.nu + 1)))) → (K (SV.one (TV.at (At.val (Value.int IntKind.u32 (i1))))) [(Chunk.box [(At.ptr 1 0), (At.slc 2), (At.slc 3), (At.val (Value.int IntKind.u64 (S'2.reads)))]), (Chunk.box [(At.slc 4), (At.slc 5), (At.slc 6), (At.val (Value.int IntKind.u32 (S'2.fresh)))]), (Chunk.row true (EC.node) (S'2.nodes)), (Chunk.row true (EC.int) (S'2.counts)), (Chunk.row true (EC.bool) (S'2.used)), (Chunk.row true (EC.u32) (S'2.gen)), (Chunk.row true (EC.u32) (S'2.rel))] [0, 1, 2, 3, 4, 5, 6]))))))))))))))))) ((brS (decide (k > k1)) (((∃ hs1 : List Int, (∃ t : Tr, ((Wf S' (r :: hs1)) ∧ (Rep S' t r) ∧ (t.Bal) ∧ (Asc t.list) ∧ (t.size < n) ∧ (t.size ≤ 700000) ∧ ((↑(iB t.size) : Int) ≤ S'.free) ∧ (hs1.length + t.size ≤ 600000000) ∧ (S'.reads + 5 * (↑(iB t.size) : Int) ≤ 1600000000000000000) ∧ (∀ S'1 : Arn, (∀ j : Int, ((TrR S' hs1 (insE t.list (k, v)) (iB t.size) (5 * iB t.size) S'1 j) → (∃ hs2 : List Int, (∃ ta : Tr, (∃ tb : Tr, ((Wf S'1 (l :: j :: hs2)) ∧ (Rep S'1 ta l) ∧ (Rep S'1 tb j) ∧ (ta.Bal) ∧ (tb.Bal) ∧ (ta.size + tb.size ≤ 900000) ∧ ((↑(jB ta.size tb.size) : Int) ≤ S'1.free) ∧ (hs2.length ≤ 700000000) ∧
    (S'1.reads + 5 * (↑(jB ta.size tb.size) : Int) ≤ 1800000000000000000) ∧ (∀ S'2 : Arn, (∀ i1 : Int, ((TrR S'1 hs2 (ta.list ++ (k1, v1) :: tb.list) (jB ta.size tb.size) (4 * jB ta.size tb.size) S'2 i1) → (((balN (↑ta.size : Int) (↑tb.size : Int)) → ((((S'2.nd i1).left) = (l)) ∧ (((S'2.nd i1).right) = (j)) ∧ ((S'2.nu) = (S'1.nu + 1)))) → (K (SV.one (TV.at (At.val (Value.int IntKind.u32 (i1))))) [(Chunk.box [(At.ptr 1 0), (At.slc 2), (At.slc 3), (At.val (Value.int IntKind.u64 (S'2.reads)))]), (Chunk.box [(At.slc 4), (At.slc 5), (At.slc 6), (At.val (Value.int IntKind.u32 (S'2.fresh)))]), (Chunk.row true (EC.node) (S'2.nodes)), (Chunk.row true (EC.int) (S'2.counts)), (Chunk.row true (EC.bool) (S'2.used)), (Chunk.row true (EC.u32) (S'2.gen)), (Chunk.row true (EC.u32) (S'2.rel))] [0, 1, 2, 3, 4, 5, 6]))))))))))))))) ∧ (∃ hs1 : List Int, (∃ t : Tr, ((Wf S' (r :: hs1)) ∧ (Rep S' t r) ∧ (t.Bal) ∧ (Asc t.list) ∧ (t.size < n) ∧ (t.size ≤ 700000) ∧ ((↑(iB t.size) : Int) ≤ S'.free) ∧ (hs1.length + t.size ≤ 600000000) ∧ (S'.reads + 5 * (↑(iB t.size) : Int) ≤ 1600000000000000000) ∧ (∀ S'1 : Arn, (∀ j : Int, ((TrR S' hs1 (insE t.list (k, v)) (iB t.size) (5 * iB t.size) S'1 j) → (∃ hs2 : List Int, (∃ ta : Tr, (∃ tb : Tr, ((Wf S'1 (l :: j :: hs2)) ∧ (Rep S'1 ta l) ∧ (Rep S'1 tb j) ∧ (ta.Bal) ∧ (tb.Bal) ∧ (ta.size + tb.size ≤ 900000) ∧ ((↑(jB ta.size tb.size) : Int) ≤ S'1.free) ∧ (hs2.length ≤ 700000000) ∧ (S'1.reads + 5 * (↑(jB ta.size tb.size) : Int) ≤ 1800000000000000000) ∧ (∀ S'2 : Arn,
    (∀ i1 : Int, ((TrR S'1 hs2 (ta.list ++ (k1, v1) :: tb.list) (jB ta.size tb.size) (4 * jB ta.size tb.size) S'2 i1) → (((balN (↑ta.size : Int) (↑tb.size : Int)) → ((((S'2.nd i1).left) = (l)) ∧ (((S'2.nd i1).right) = (j)) ∧ ((S'2.nu) = (S'1.nu + 1)))) → (K (SV.one (TV.at (At.val (Value.int IntKind.u32 (i1))))) [(Chunk.box [(At.ptr 1 0), (At.slc 2), (At.slc 3), (At.val (Value.int IntKind.u64 (S'2.reads)))]), (Chunk.box [(At.slc 4), (At.slc 5), (At.slc 6), (At.val (Value.int IntKind.u32 (S'2.fresh)))]), (Chunk.row true (EC.node) (S'2.nodes)), (Chunk.row true (EC.int) (S'2.counts)), (Chunk.row true (EC.bool) (S'2.used)), (Chunk.row true (EC.u32) (S'2.gen)), (Chunk.row true (EC.u32) (S'2.rel))] [0, 1, 2, 3, 4, 5, 6]))))))))))))))) ∧ (∃ hs1 : List Int, (∃ t : Tr, ((Wf S' (r :: hs1)) ∧ (Rep S' t r) ∧ (t.Bal) ∧ (Asc t.list) ∧ (t.size < n) ∧ (t.size ≤ 700000) ∧ ((↑(iB t.size) : Int) ≤ S'.free) ∧ (hs1.length + t.size ≤ 600000000) ∧ (S'.reads + 5 * (↑(iB t.size) : Int) ≤ 1600000000000000000) ∧ (∀ S'1 : Arn, (∀ j : Int, ((TrR S' hs1 (insE t.list (k, v)) (iB t.size) (5 * iB t.size) S'1 j) → (∃ hs2 : List Int, (∃ ta : Tr, (∃ tb : Tr, ((Wf S'1 (l :: j :: hs2)) ∧ (Rep S'1 ta l) ∧ (Rep S'1 tb j) ∧ (ta.Bal) ∧ (tb.Bal) ∧ (ta.size + tb.size ≤ 900000) ∧ ((↑(jB ta.size tb.size) : Int) ≤ S'1.free) ∧ (hs2.length ≤ 700000000) ∧ (S'1.reads + 5 * (↑(jB ta.size tb.size) : Int) ≤ 1800000000000000000) ∧ (∀ S'2 : Arn, (∀ i1 : Int,
    ((TrR S'1 hs2 (ta.list ++ (k1, v1) :: tb.list) (jB ta.size tb.size) (4 * jB ta.size tb.size) S'2 i1) → (((balN (↑ta.size : Int) (↑tb.size : Int)) → ((((S'2.nd i1).left) = (l)) ∧ (((S'2.nd i1).right) = (j)) ∧ ((S'2.nu) = (S'1.nu + 1)))) → (K (SV.one (TV.at (At.val (Value.int IntKind.u32 (i1))))) [(Chunk.box [(At.ptr 1 0), (At.slc 2), (At.slc 3), (At.val (Value.int IntKind.u64 (S'2.reads)))]), (Chunk.box [(At.slc 4), (At.slc 5), (At.slc 6), (At.val (Value.int IntKind.u32 (S'2.fresh)))]), (Chunk.row true (EC.node) (S'2.nodes)), (Chunk.row true (EC.int) (S'2.counts)), (Chunk.row true (EC.bool) (S'2.used)), (Chunk.row true (EC.u32) (S'2.gen)), (Chunk.row true (EC.u32) (S'2.rel))] [0, 1, 2, 3, 4, 5, 6]))))))))))))))))) ((∃ hs1 : List Int, (∃ tl : Tr, (∃ tr : Tr, ((Wf S' (l :: r :: hs1)) ∧ (Rep S' tl l) ∧ (Rep S' tr r) ∧ (tl.size + tr.size ≤ 1000000) ∧ (0 < S'.free) ∧ (hs1.length ≤ 900000000) ∧ (∀ S'1 : Arn, (∀ i1 : Int, ((NodeR S' hs1 k v tl tr S'1 i1) → ((((S'1.nd i1).left) = (l)) → ((((S'1.nd i1).right) = (r)) →
    (K (SV.one (TV.at (At.val (Value.int IntKind.u32 (i1))))) [(Chunk.box [(At.ptr 1 0), (At.slc 2), (At.slc 3), (At.val (Value.int IntKind.u64 (S'1.reads)))]), (Chunk.box [(At.slc 4), (At.slc 5), (At.slc 6), (At.val (Value.int IntKind.u32 (S'1.fresh)))]), (Chunk.row true (EC.node) (S'1.nodes)), (Chunk.row true (EC.int) (S'1.counts)), (Chunk.row true (EC.bool) (S'1.used)), (Chunk.row true (EC.u32) (S'1.gen)), (Chunk.row true (EC.u32) (S'1.rel))] [0, 1, 2, 3, 4, 5, 6])))))))))))))))))))))))))) = _ by kernel_rfl) ?_
  have hrd := hw.rds
  refine brS_of (fun d => ?_) fun d => ?_
  · have d : i = 0 := by simpa using d
    subst d
    have e := h1.zero hw
    subst e
    have ep : 1 ≤ iB Tr.nil.size := by unfold iB; omega
    refine ⟨hs, .nil, .nil, hw.zero_cons (by simp; omega), rfl, rfl, by decide, by omega, by omega, fun S1 j nn _ _ => h S1 j ⟨(Got.node nn).mono (by omega) (by omega), _, nn.rep, ?_, ?_⟩⟩
    · simp [Tr.list, insE, insGo]
    · exact ⟨by decide, trivial, trivial⟩
  · have d : i ≠ 0 := by simpa using d
    obtain ⟨a, k1, v1, b, e⟩ := rep_ne h1 d
    subst e
    have zz := node_size a b k1 v1
    rw [zz] at hfu hz hf hl hr h
    obtain ⟨bb, ba, bbb⟩ := bal
    have asc' : Asc (a.list ++ (k1, v1) :: b.list) := asc
    obtain ⟨asca, ascb, ltk, gtk⟩ := asc_parts asc'
    have isa := iB_step (balN_comm bb) (by omega)
    have isb := iB_step bb (by omega)
    rw [show b.size + a.size + 1 = a.size + b.size + 1 by omega] at isa
    refine ⟨hs, a, k1, v1, b, hw, h1, by omega, by omega, fun S1 l r o => ?_⟩
    have f1 := o.got.free hw
    have q1 := o.got.rd
    refine brS_of (fun d => ?_) fun d => brS_of (fun e => ?_) fun e => ?_
    · have d : k < k1 := of_decide_eq_true d
      (repeat' apply And.intro)
      all_goals
        refine ⟨r :: hs, a, o.got.wf, o.repl, ba, asca, by omega, by omega, by omega, by simp; omega, by omega, fun S2 j tr => ?_⟩
        obtain ⟨t, rt, lt, bt⟩ := tr.tree
        have z1 := insE_ge (k, v) asca
        have z2 := insE_len a.list (k, v)
        rw [← lt, a.list_len, t.list_len] at z1 z2
        have jb := jB_ins bb z1 z2
        have jp := jB_pos t.size b.size
        have f2 := tr.got.free o.got.wf
        have q2 := tr.got.rd
        refine ⟨hs, t, b, tr.got.wf, rt, o.repr.held o.got.wf tr.got.stay (.inr (by simp)), bt, bbb, by omega, by omega, by omega, by omega, fun S3 q tj _ => h S3 q ⟨?_, ?_⟩⟩
        · exact ((o.got.seq tr.got (h := hs) (fun _ h => h) (fun _ h => by simp [h])).seq tj.got (fun _ h => h) (fun _ h => h)).mono (by omega) (by omega)
        · obtain ⟨t', rt', lt', bt'⟩ := tj.tree
          exact ⟨t', rt', by rw [lt', lt]; exact (insE_left asc' d).symm, bt'⟩
    · have e : k1 < k := of_decide_eq_true e
      (repeat' apply And.intro)
      all_goals
        refine ⟨l :: hs, b, o.got.wf.perm (List.Perm.swap _ _ _), o.repr, bbb, ascb, by omega, by omega, by omega, by simp; omega, by omega, fun S2 j tr => ?_⟩
        obtain ⟨t, rt, lt, bt⟩ := tr.tree
        have z1 := insE_ge (k, v) ascb
        have z2 := insE_len b.list (k, v)
        rw [← lt, b.list_len, t.list_len] at z1 z2
        have jb := jB_ins' bb z1 z2
        have jp := jB_pos a.size t.size
        have f2 := tr.got.free o.got.wf
        have q2 := tr.got.rd
        refine ⟨hs, a, t, tr.got.wf.perm (List.Perm.swap _ _ _), o.repl.held o.got.wf tr.got.stay (.inr (by simp)), rt, ba, bt, by omega, by omega, by omega, by omega, fun S3 q tj _ => h S3 q ⟨?_, ?_⟩⟩
        · exact ((o.got.seq tr.got (h := hs) (fun _ h => h) (fun _ h => by simp [h])).seq tj.got (fun _ h => h) (fun _ h => h)).mono (by omega) (by omega)
        · obtain ⟨t', rt', lt', bt'⟩ := tj.tree
          exact ⟨t', rt', by rw [lt', lt]; exact (insE_right asc' e).symm, bt'⟩
    · have d : ¬ k < k1 := of_decide_eq_false d
      have e : ¬ k > k1 := of_decide_eq_false e
      have ek : k1 = k := by omega
      subst ek
      have ip : 1 ≤ iB (a.size + b.size + 1) := by unfold iB; omega
      refine ⟨hs, a, b, o.got.wf, o.repl, o.repr, by omega, by omega, by omega, fun S2 j nn _ _ => h S2 j ⟨(o.got.seq (Got.node nn) (h := hs) (fun _ h => h) (fun _ h => h)).mono (by omega) (by omega), _, nn.rep, ?_, bb, ba, bbb⟩⟩
      exact (insE_at (e := (k1, v)) asc').symm
theorem s_insr : ∀ n, SoundT C0 105 (tInsT n) := by
  intro n
  induction n with
  | zero =>
    refine .of Try.func105 (by decide) rfl fun args H K h hB => ?_
    exfalso
    unfold tInsT at h
    split at h <;> try exact h.elim
    unfold arM at h
    split at h <;> try exact h.elim
    obtain ⟨_, _, _, _, _, _, h1, _⟩ := h
    omega
  | succ n ih =>
    refine .ofW W7 Try.func105 (by decide) rfl fun args H K h hB => ?_
    unfold tInsT at h
    split at h <;> try exact h.elim
    unfold arM at h
    split at h <;> try exact h.elim
    rename_i i k v _ rd fr nd ct us gn rl
    obtain ⟨hs, t, h1, h2, h3, h4, h5, h6, h7, h8, h9, h10⟩ := h
    exact ⟨aIns' n, ⟨frame C0.ok s_opn _, frame C0.ok ih _, frame C0.ok s_join _, frame C0.ok s_nodeX _, trivial⟩, vc_insr n ⟨us, gn, rl, fr, nd, ct, rd⟩ i k v K hs t h1 h2 h3 h4 h5 h6 h7 h8 h9 h10⟩
theorem hasK_left {a b : List Ent} {k v q : Int} (h : Asc (a ++ (k, v) :: b)) (hk : hasK (a ++ (k, v) :: b) q) (hq : q < k) : hasK a q := by
  obtain ⟨w, hw⟩ := hk
  obtain ⟨_, _, _, h4⟩ := asc_parts h
  rcases List.mem_append.1 hw with c | c
  · exact ⟨w, c⟩
  · rcases List.mem_cons.1 c with c | c
    · have := congrArg Prod.fst c; simp at this; omega
    · have := h4 _ c; simp at this; omega
theorem hasK_right {a b : List Ent} {k v q : Int} (h : Asc (a ++ (k, v) :: b)) (hk : hasK (a ++ (k, v) :: b) q) (hq : k < q) : hasK b q := by
  obtain ⟨w, hw⟩ := hk
  obtain ⟨_, _, h3, _⟩ := asc_parts h
  rcases List.mem_append.1 hw with c | c
  · have := h3 _ c; simp at this; omega
  · rcases List.mem_cons.1 c with c | c
    · have := congrArg Prod.fst c; simp at this; omega
    · exact ⟨w, c⟩
theorem vc_dlt (n : Nat) (S : Arn) (i key : Int) (K : KT) (hs : List Int) (t : Tr) (hw : Wf S (i :: hs)) (h1 : Rep S t i) (bal : t.Bal) (asc : Asc t.list) (hfu : t.size < n + 1) (hz : t.size ≤ 700000) (hk : hasK t.list key) (hf : (dB t.size : Int) ≤ S.free) (hl : hs.length + t.size ≤ 300000000) (hr : S.reads + 5 * dB t.size ≤ 1500000000000000000)
    (h : ∀ S' j, TrR S hs (flt (neK key) t.list) (dB t.size) (5 * dB t.size) S' j → K (.one (.at (vU j))) (chS S') W7) :
    vc C0 (aDlt n) Try.f102 [.at (.ptr 0 0), .at (vU i), .at (vI key)] (chS S) (normK 7 (wideK W7 K)) := by
  refine Eq.mp (show (brS (i == 0) ((K (SV.one (TV.at (At.val (Value.int IntKind.u32 0)))) [(Chunk.box [(At.ptr 1 0), (At.slc 2), (At.slc 3), (At.val (Value.int IntKind.u64 (S.reads)))]), (Chunk.box [(At.slc 4), (At.slc 5), (At.slc 6), (At.val (Value.int IntKind.u32 (S.fresh)))]), (Chunk.row true (EC.node) (S.nodes)), (Chunk.row true (EC.int) (S.counts)), (Chunk.row true (EC.bool) (S.used)), (Chunk.row true (EC.u32) (S.gen)), (Chunk.row true (EC.u32) (S.rel))] [0, 1, 2, 3, 4, 5, 6])) ((∃ hs : List Int, (∃ a : Tr, (∃ k : Int, (∃ v : Int, (∃ b : Tr, ((Wf S (i :: hs)) ∧ (Rep S (a.node k v b) i) ∧ (hs.length ≤ 900000000) ∧ (S.reads ≤ 3000000000000000000) ∧ (∀ S' : Arn, (∀ l : Int, (∀ r : Int, ((OpnR S hs a k v b S' l r) → (brS (decide (key < k)) (((∃ hs1 : List Int, (∃ t : Tr, ((Wf S' (l :: hs1)) ∧ (Rep S' t l) ∧ (t.Bal) ∧ (Asc t.list) ∧ (t.size < n) ∧ (t.size ≤ 700000) ∧ (hasK t.list key) ∧ ((↑(dB t.size) : Int) ≤ S'.free) ∧ (hs1.length + t.size ≤ 300000000) ∧ (S'.reads + 5 * (↑(dB t.size) : Int) ≤ 1500000000000000000) ∧ (∀ S'1 : Arn, (∀ j : Int, ((TrR S' hs1 (flt (neK key) t.list) (dB t.size) (5 * dB t.size) S'1 j) → (∃ hs2 : List Int, (∃ ta : Tr, (∃ tb : Tr, ((Wf S'1 (j :: r :: hs2)) ∧ (Rep S'1 ta j) ∧ (Rep S'1 tb r) ∧ (ta.Bal) ∧ (tb.Bal) ∧ (ta.size + tb.size ≤ 900000) ∧ ((↑(jB ta.size tb.size) : Int) ≤ S'1.free) ∧ (hs2.length ≤ 700000000) ∧ (S'1.reads + 5 * (↑(jB ta.size tb.size) : Int) ≤ 1800000000000000000) ∧ (∀ S'2 : Arn, (∀ i1 : Int,
    ((TrR S'1 hs2 (ta.list ++ (k, v) :: tb.list) (jB ta.size tb.size) (4 * jB ta.size tb.size) S'2 i1) → (((balN (↑ta.size : Int) (↑tb.size : Int)) → ((((S'2.nd i1).left) = (j)) ∧ (((S'2.nd i1).right) = (r)) ∧ ((S'2.nu) = (S'1.nu + 1)))) → (K (SV.one (TV.at (At.val (Value.int IntKind.u32 (i1))))) [(Chunk.box [(At.ptr 1 0), (At.slc 2), (At.slc 3), (At.val (Value.int IntKind.u64 (S'2.reads)))]), (Chunk.box [(At.slc 4), (At.slc 5), (At.slc 6), (At.val (Value.int IntKind.u32 (S'2.fresh)))]), (Chunk.row true (EC.node) (S'2.nodes)), (Chunk.row true (EC.int) (S'2.counts)), (Chunk.row true (EC.bool) (S'2.used)), (Chunk.row true (EC.u32) (S'2.gen)), (Chunk.row true (EC.u32) (S'2.rel))] [0, 1, 2, 3, 4, 5, 6]))))))))))))))) ∧ (∃ hs1 : List Int, (∃ t : Tr, ((Wf S' (l :: hs1)) ∧ (Rep S' t l) ∧ (t.Bal) ∧ (Asc t.list) ∧ (t.size < n) ∧ (t.size ≤ 700000) ∧ (hasK t.list key) ∧ ((↑(dB t.size) : Int) ≤ S'.free) ∧ (hs1.length + t.size ≤ 300000000) ∧ (S'.reads + 5 * (↑(dB t.size) : Int) ≤ 1500000000000000000) ∧ (∀ S'1 : Arn, (∀ j : Int, ((TrR S' hs1 (flt (neK key) t.list) (dB t.size) (5 * dB t.size) S'1 j) → (∃ hs2 : List Int, (∃ ta : Tr, (∃ tb : Tr, ((Wf S'1 (j :: r :: hs2)) ∧ (Rep S'1 ta j) ∧ (Rep S'1 tb r) ∧ (ta.Bal) ∧ (tb.Bal) ∧ (ta.size + tb.size ≤ 900000) ∧ ((↑(jB ta.size tb.size) : Int) ≤ S'1.free) ∧ (hs2.length ≤ 700000000) ∧ (S'1.reads + 5 * (↑(jB ta.size tb.size) : Int) ≤ 1800000000000000000) ∧ (∀ S'2 : Arn, (∀ i1 : Int,
    ((TrR S'1 hs2 (ta.list ++ (k, v) :: tb.list) (jB ta.size tb.size) (4 * jB ta.size tb.size) S'2 i1) → (((balN (↑ta.size : Int) (↑tb.size : Int)) → ((((S'2.nd i1).left) = (j)) ∧ (((S'2.nd i1).right) = (r)) ∧ ((S'2.nu) = (S'1.nu + 1)))) → (K (SV.one (TV.at (At.val (Value.int IntKind.u32 (i1))))) [(Chunk.box [(At.ptr 1 0), (At.slc 2), (At.slc 3), (At.val (Value.int IntKind.u64 (S'2.reads)))]), (Chunk.box [(At.slc 4), (At.slc 5), (At.slc 6), (At.val (Value.int IntKind.u32 (S'2.fresh)))]), (Chunk.row true (EC.node) (S'2.nodes)), (Chunk.row true (EC.int) (S'2.counts)), (Chunk.row true (EC.bool) (S'2.used)), (Chunk.row true (EC.u32) (S'2.gen)), (Chunk.row true (EC.u32) (S'2.rel))] [0, 1, 2, 3, 4, 5, 6]))))))))))))))))) ((brS (decide (key > k)) (((∃ hs1 : List Int, (∃ t : Tr, ((Wf S' (r :: hs1)) ∧ (Rep S' t r) ∧ (t.Bal) ∧ (Asc t.list) ∧ (t.size < n) ∧ (t.size ≤ 700000) ∧ (hasK t.list key) ∧ ((↑(dB t.size) : Int) ≤ S'.free) ∧ (hs1.length + t.size ≤ 300000000) ∧ (S'.reads + 5 * (↑(dB t.size) : Int) ≤ 1500000000000000000) ∧ (∀ S'1 : Arn, (∀ j : Int, ((TrR S' hs1 (flt (neK key) t.list) (dB t.size) (5 * dB t.size) S'1 j) → (∃ hs2 : List Int, (∃ ta : Tr, (∃ tb : Tr, ((Wf S'1 (l :: j :: hs2)) ∧ (Rep S'1 ta l) ∧ (Rep S'1 tb j) ∧ (ta.Bal) ∧ (tb.Bal) ∧ (ta.size + tb.size ≤ 900000) ∧ ((↑(jB ta.size tb.size) : Int) ≤ S'1.free) ∧ (hs2.length ≤ 700000000) ∧ (S'1.reads + 5 * (↑(jB ta.size tb.size) : Int) ≤ 1800000000000000000) ∧ (∀ S'2 : Arn, (∀ i1 : Int,
    ((TrR S'1 hs2 (ta.list ++ (k, v) :: tb.list) (jB ta.size tb.size) (4 * jB ta.size tb.size) S'2 i1) → (((balN (↑ta.size : Int) (↑tb.size : Int)) → ((((S'2.nd i1).left) = (l)) ∧ (((S'2.nd i1).right) = (j)) ∧ ((S'2.nu) = (S'1.nu + 1)))) → (K (SV.one (TV.at (At.val (Value.int IntKind.u32 (i1))))) [(Chunk.box [(At.ptr 1 0), (At.slc 2), (At.slc 3), (At.val (Value.int IntKind.u64 (S'2.reads)))]), (Chunk.box [(At.slc 4), (At.slc 5), (At.slc 6), (At.val (Value.int IntKind.u32 (S'2.fresh)))]), (Chunk.row true (EC.node) (S'2.nodes)), (Chunk.row true (EC.int) (S'2.counts)), (Chunk.row true (EC.bool) (S'2.used)), (Chunk.row true (EC.u32) (S'2.gen)), (Chunk.row true (EC.u32) (S'2.rel))] [0, 1, 2, 3, 4, 5, 6]))))))))))))))) ∧ (∃ hs1 : List Int, (∃ t : Tr, ((Wf S' (r :: hs1)) ∧ (Rep S' t r) ∧ (t.Bal) ∧ (Asc t.list) ∧ (t.size < n) ∧ (t.size ≤ 700000) ∧ (hasK t.list key) ∧ ((↑(dB t.size) : Int) ≤ S'.free) ∧ (hs1.length + t.size ≤ 300000000) ∧ (S'.reads + 5 * (↑(dB t.size) : Int) ≤ 1500000000000000000) ∧ (∀ S'1 : Arn, (∀ j : Int, ((TrR S' hs1 (flt (neK key) t.list) (dB t.size) (5 * dB t.size) S'1 j) → (∃ hs2 : List Int, (∃ ta : Tr, (∃ tb : Tr, ((Wf S'1 (l :: j :: hs2)) ∧ (Rep S'1 ta l) ∧ (Rep S'1 tb j) ∧ (ta.Bal) ∧ (tb.Bal) ∧ (ta.size + tb.size ≤ 900000) ∧ ((↑(jB ta.size tb.size) : Int) ≤ S'1.free) ∧ (hs2.length ≤ 700000000) ∧ (S'1.reads + 5 * (↑(jB ta.size tb.size) : Int) ≤ 1800000000000000000) ∧ (∀ S'2 : Arn, (∀ i1 : Int,
    ((TrR S'1 hs2 (ta.list ++ (k, v) :: tb.list) (jB ta.size tb.size) (4 * jB ta.size tb.size) S'2 i1) → (((balN (↑ta.size : Int) (↑tb.size : Int)) → ((((S'2.nd i1).left) = (l)) ∧ (((S'2.nd i1).right) = (j)) ∧ ((S'2.nu) = (S'1.nu + 1)))) → (K (SV.one (TV.at (At.val (Value.int IntKind.u32 (i1))))) [(Chunk.box [(At.ptr 1 0), (At.slc 2), (At.slc 3), (At.val (Value.int IntKind.u64 (S'2.reads)))]), (Chunk.box [(At.slc 4), (At.slc 5), (At.slc 6), (At.val (Value.int IntKind.u32 (S'2.fresh)))]), (Chunk.row true (EC.node) (S'2.nodes)), (Chunk.row true (EC.int) (S'2.counts)), (Chunk.row true (EC.bool) (S'2.used)), (Chunk.row true (EC.u32) (S'2.gen)), (Chunk.row true (EC.u32) (S'2.rel))] [0, 1, 2, 3, 4, 5, 6]))))))))))))))))) ((∃ hs1 : List Int, (∃ ta : Tr, (∃ tb : Tr, ((Wf S' (l :: r :: hs1)) ∧ (Rep S' ta l) ∧ (Rep S' tb r) ∧ (ta.Bal) ∧ (tb.Bal) ∧ (ta.size + tb.size ≤ 800000) ∧ ((↑(cB ta.size tb.size) : Int) ≤ S'.free) ∧ (hs1.length ≤ 400000000) ∧ (S'.reads + 5 * (↑(cB ta.size tb.size) : Int) ≤ 1600000000000000000) ∧ (∀ S'1 : Arn, (∀ i1 : Int, ((TrR S' hs1 (ta.list ++ tb.list) (cB ta.size tb.size) (5 * cB ta.size tb.size) S'1 i1) →
    (K (SV.one (TV.at (At.val (Value.int IntKind.u32 (i1))))) [(Chunk.box [(At.ptr 1 0), (At.slc 2), (At.slc 3), (At.val (Value.int IntKind.u64 (S'1.reads)))]), (Chunk.box [(At.slc 4), (At.slc 5), (At.slc 6), (At.val (Value.int IntKind.u32 (S'1.fresh)))]), (Chunk.row true (EC.node) (S'1.nodes)), (Chunk.row true (EC.int) (S'1.counts)), (Chunk.row true (EC.bool) (S'1.used)), (Chunk.row true (EC.u32) (S'1.gen)), (Chunk.row true (EC.u32) (S'1.rel))] [0, 1, 2, 3, 4, 5, 6])))))))))))))))))))))))) = _ by kernel_rfl) ?_
  have hrd := hw.rds
  refine brS_of (fun d => ?_) fun d => ?_
  · have d : i = 0 := by simpa using d
    subst d
    have e := h1.zero hw
    subst e
    obtain ⟨v, hv⟩ := hk
    simp [Tr.list] at hv
  · have d : i ≠ 0 := by simpa using d
    obtain ⟨a, k1, v1, b, e⟩ := rep_ne h1 d
    subst e
    have zz := node_size a b k1 v1
    rw [zz] at hfu hz hf hl hr h
    obtain ⟨bb, ba, bbb⟩ := bal
    have asc' : Asc (a.list ++ (k1, v1) :: b.list) := asc
    have hk' : hasK (a.list ++ (k1, v1) :: b.list) key := hk
    have h' : ∀ S' j, TrR S hs (flt (neK key) (a.list ++ (k1, v1) :: b.list)) (dB (a.size + b.size + 1)) (5 * dB (a.size + b.size + 1)) S' j → K (.one (.at (vU j))) (chS S') W7 := h
    obtain ⟨asca, ascb, ltk, gtk⟩ := asc_parts asc'
    have dp := dB_pos (a.size + b.size + 1)
    refine ⟨hs, a, k1, v1, b, hw, h1, by omega, by omega, fun S1 l r o => ?_⟩
    have f1 := o.got.free hw
    have q1 := o.got.rd
    refine brS_of (fun d => ?_) fun d => brS_of (fun e => ?_) fun e => ?_
    · have d : key < k1 := of_decide_eq_true d
      have hka := hasK_left asc' hk' d
      have zl := flt_ne_len asca hka
      rw [a.list_len] at zl
      have ds := dB_step (balN_comm bb) (c := a.size) (by omega) (by omega)
      rw [show b.size + a.size + 1 = a.size + b.size + 1 by omega] at ds
      have jp := jB_pos b.size (a.size - 1)
      (repeat' apply And.intro)
      all_goals
        refine ⟨r :: hs, a, o.got.wf, o.repl, ba, asca, by omega, by omega, hka, by omega, by simp; omega, by omega, fun S2 j tr => ?_⟩
        obtain ⟨t, rt, lt, bt⟩ := tr.tree
        have zt : t.size = a.size - 1 := by rw [← t.list_len, lt]; omega
        have f2 := tr.got.free o.got.wf
        have q2 := tr.got.rd
        have ej : jB t.size b.size = jB b.size (a.size - 1) := by rw [zt, jB_comm]
        refine ⟨hs, t, b, tr.got.wf, rt, o.repr.held o.got.wf tr.got.stay (.inr (by simp)), bt, bbb, by omega, by omega, by omega, by omega, fun S3 q tj _ => h' S3 q ⟨?_, ?_⟩⟩
        · exact ((o.got.seq tr.got (h := hs) (fun _ h => h) (fun _ h => by simp [h])).seq tj.got (fun _ h => h) (fun _ h => h)).mono (by omega) (by omega)
        · obtain ⟨t', rt', lt', bt'⟩ := tj.tree
          refine ⟨t', rt', ?_, bt'⟩
          rw [lt', lt]
          exact (flt_upR (fun x hx => by have := gtk x hx; simp [neK]; omega) (by simp [neK]; omega)).symm
    · have e : k1 < key := of_decide_eq_true e
      have hkb := hasK_right asc' hk' e
      have zl := flt_ne_len ascb hkb
      rw [b.list_len] at zl
      have ds := dB_step bb (by omega) (by omega)
      have jp := jB_pos a.size (b.size - 1)
      (repeat' apply And.intro)
      all_goals
        refine ⟨l :: hs, b, o.got.wf.perm (List.Perm.swap _ _ _), o.repr, bbb, ascb, by omega, by omega, hkb, by omega, by simp; omega, by omega, fun S2 j tr => ?_⟩
        obtain ⟨t, rt, lt, bt⟩ := tr.tree
        have zt : t.size = b.size - 1 := by rw [← t.list_len, lt]; omega
        have f2 := tr.got.free o.got.wf
        have q2 := tr.got.rd
        have ej : jB a.size t.size = jB a.size (b.size - 1) := by rw [zt]
        refine ⟨hs, a, t, tr.got.wf.perm (List.Perm.swap _ _ _), o.repl.held o.got.wf tr.got.stay (.inr (by simp)), rt, ba, bt, by omega, by omega, by omega, by omega, fun S3 q tj _ => h' S3 q ⟨?_, ?_⟩⟩
        · exact ((o.got.seq tr.got (h := hs) (fun _ h => h) (fun _ h => by simp [h])).seq tj.got (fun _ h => h) (fun _ h => h)).mono (by omega) (by omega)
        · obtain ⟨t', rt', lt', bt'⟩ := tj.tree
          refine ⟨t', rt', ?_, bt'⟩
          rw [lt', lt]
          exact (flt_upL (fun x hx => by have := ltk x hx; simp [neK]; omega) (by simp [neK]; omega)).symm
    · have d : ¬ key < k1 := of_decide_eq_false d
      have e : ¬ key > k1 := of_decide_eq_false e
      have ek : key = k1 := by omega
      have df := dB_found bb (by omega)
      refine ⟨hs, a, b, o.got.wf, o.repl, o.repr, ba, bbb, by omega, by omega, by omega, by omega, fun S2 j tr => h' S2 j ⟨?_, ?_⟩⟩
      · exact (o.got.seq tr.got (h := hs) (fun _ h => h) (fun _ h => h)).mono (by omega) (by omega)
      · obtain ⟨t', rt', lt', bt'⟩ := tr.tree
        refine ⟨t', rt', ?_, bt'⟩
        rw [lt', flt_node, flt_all (l := a.list) (fun x hx => by have := ltk x hx; simp [neK]; omega), flt_all (l := b.list) (fun x hx => by have := gtk x hx; simp [neK]; omega), ek]
        simp [neK]
theorem s_dlt : ∀ n, SoundT C0 102 (tDlt n) := by
  intro n
  induction n with
  | zero =>
    refine .of Try.func102 (by decide) rfl fun args H K h hB => ?_
    exfalso
    unfold tDlt at h
    split at h <;> try exact h.elim
    unfold arM at h
    split at h <;> try exact h.elim
    obtain ⟨_, _, _, _, _, _, h1, _⟩ := h
    omega
  | succ n ih =>
    refine .ofW W7 Try.func102 (by decide) rfl fun args H K h hB => ?_
    unfold tDlt at h
    split at h <;> try exact h.elim
    unfold arM at h
    split at h <;> try exact h.elim
    rename_i i key _ rd fr nd ct us gn rl
    obtain ⟨hs, t, h1, h2, h3, h4, h5, h6, h7, h8, h9, h10, h11⟩ := h
    exact ⟨aDlt n, ⟨frame C0.ok s_opn _, frame C0.ok ih _, frame C0.ok s_join _, frame C0.ok s_cat _, trivial⟩, vc_dlt n ⟨us, gn, rl, fr, nd, ct, rd⟩ i key K hs t h1 h2 h3 h4 h5 h6 h7 h8 h9 h10 h11⟩
end Go.Proofs.Ytbonbaccmlomhaa.Sx
end
section
/- update.Insert, Delete, Increase. -/
namespace Go.Proofs.Ytbonbaccmlomhaa.Sx
open Go

/-KEEP Wf exW inU live Arn.free Rep rdS retL Tr.size Tr.list Tr.Bal getE Asc ht Hn gN iB dB insE flt neK hasK TrR Got-/
def tIn : Tfm C0 := fun args H K => match args with
  | [.at (.ptr 0 0), .at (.val (.int .u32 i)), .agg [.val (.int .i64 k), .val (.int .i64 v)]] => arM H fun S => ∃ hs t, Wf S (i :: hs) ∧ Rep S t i ∧ t.Bal ∧ Asc t.list ∧ t.size ≤ 700000 ∧ (iB t.size : Int) ≤ S.free ∧ hs.length ≤ 500000000 ∧ S.reads + 5 * iB t.size ≤ 1600000000000000000 ∧
    ∀ S' j, TrR S hs (insE t.list (k, v)) (iB t.size) (5 * iB t.size) S' j → K (.one (.at (vU j))) (chS S') W7
  | _ => False
theorem s_in : SoundT C0 105 tIn := (s_insr 1000000).weak fun args H K h => by
  unfold tIn at h
  unfold tInsT
  split at h <;> try exact h.elim
  unfold arM at h ⊢
  split at h <;> try exact h.elim
  obtain ⟨hs, t, h1, h2, h3, h4, h6, h7, h8, h9, h10⟩ := h
  exact ⟨hs, t, h1, h2, h3, h4, by omega, h6, h7, by omega, h9, h10⟩
def tDe : Tfm C0 := fun args H K => match args with
  | [.at (.ptr 0 0), .at (.val (.int .u32 i)), .at (.val (.int .i64 key))] => arM H fun S => ∃ hs t, Wf S (i :: hs) ∧ Rep S t i ∧ t.Bal ∧ Asc t.list ∧ t.size ≤ 700000 ∧ hasK t.list key ∧ (dB t.size : Int) ≤ S.free ∧ hs.length ≤ 200000000 ∧ S.reads + 5 * dB t.size ≤ 1500000000000000000 ∧
    ∀ S' j, TrR S hs (flt (neK key) t.list) (dB t.size) (5 * dB t.size) S' j → K (.one (.at (vU j))) (chS S') W7
  | _ => False
theorem s_de : SoundT C0 102 tDe := (s_dlt 1000000).weak fun args H K h => by
  unfold tDe at h
  unfold tDlt
  split at h <;> try exact h.elim
  unfold arM at h ⊢
  split at h <;> try exact h.elim
  obtain ⟨hs, t, h1, h2, h3, h4, h6, h7, h8, h9, h10, h11⟩ := h
  exact ⟨hs, t, h1, h2, h3, h4, by omega, h6, h7, h8, by omega, h10, h11⟩
/-- What an update of a held tree starts from. -/
def upM (S : Arn) (hs : List Int) (t : Tr) (root : Int) : Prop := Wf S hs ∧ Rep S t root ∧ t.Bal ∧ Asc t.list ∧ t.size ≤ 60000 ∧ hs.length ≤ 100000000 ∧ S.reads ≤ 1000000000000000000
noncomputable def aUpI : Ann C0 := { Γ := [(18, frameT [] tGetT), (71, frameT [] tHold), (49, frameT [] tSize), (104, frameT [] (tRes1 4 1)), (95, frameT [] tRoom), (105, frameT [] tIn)] }
def tUpI : Tfm C0 := fun args H K => match args with
  | [.at (.ptr 0 0), .at (.val (.int .u32 r)), .agg [.val (.int .i64 k), .val (.int .i64 v)]] => arM H fun S => ∃ hs t, upM S hs t r ∧
    (getE t.list k = some v → ∀ S' m, S' = retL (rdS S m) r → m ≤ ht t → K (.tup [.at (vU r), .at (vI v), .at (vB true), .at (vI 0)]) (chS S') W7) ∧
    (getE t.list k ≠ some v → S.free < 4 * (Hn (t.size + 1) + 2) → ∀ S' m, S' = rdS S m → m ≤ ht t + 1 → K (.tup [.at (vU 0), .at (vI 0), .at (vB false), .at (vI 2)]) (chS S') W7) ∧
    (getE t.list k ≠ some v → 4 * (Hn (t.size + 1) + 2) ≤ S.free → ∀ S' j (o : Option Int), o = getE t.list k → TrR S hs (insE t.list (k, v)) (iB t.size) (5 * iB t.size + ht t + 1) S' j → K (.tup [.at (vU j), .at (vI (o.getD 0)), .at (vB o.isSome), .at (vI 0)]) (chS S') W7)
  | _ => False
noncomputable def aUpD : Ann C0 := { Γ := [(18, frameT [] tGetT), (71, frameT [] tHold), (49, frameT [] tSize), (101, frameT [] (tRes1 4 0)), (95, frameT [] tRoom), (102, frameT [] tDe)] }
def tUpD : Tfm C0 := fun args H K => match args with
  | [.at (.ptr 0 0), .at (.val (.int .u32 r)), .at (.val (.int .i64 k))] => arM H fun S => ∃ hs t, upM S hs t r ∧
    (getE t.list k = none → ∀ S' m, S' = rdS S m → m ≤ ht t → K (.tup [.at (vU 0), .at (vI 0), .at (vI 4)]) (chS S') W7) ∧
    (∀ v, getE t.list k = some v → S.free < 4 * (Hn t.size + 2) → ∀ S' m, S' = rdS S m → m ≤ ht t + 1 → K (.tup [.at (vU 0), .at (vI 0), .at (vI 2)]) (chS S') W7) ∧
    (∀ v, getE t.list k = some v → 4 * (Hn t.size + 2) ≤ S.free → ∀ S' j, TrR S hs (flt (neK k) t.list) (dB t.size) (5 * dB t.size + ht t + 1) S' j → K (.tup [.at (vU j), .at (vI v), .at (vI 0)]) (chS S') W7)
  | _ => False
theorem Hn_mono1 (n : Nat) : Hn n ≤ Hn ((n : Int) + 1) := by
  have a := gN_size n
  have b := gN_size (n + 1)
  have c := gN_mono (v := n + 1) (w := n + 1 + 1) (by omega) (by omega)
  rw [show ((n + 1 : Nat) : Int) = (n : Int) + 1 by omega] at b
  omega
theorem retL_free (S : Arn) (i : Int) : (retL S i).free = S.free := by unfold retL; split <;> rfl
theorem us_one (b : Bool) : b.toNat ≤ 1 := by cases b <;> decide
theorem iB_Hn (n : Nat) : (iB n : Int) = 4 * Hn n + 1 := by have := gN_size n; unfold iB; omega
theorem dB_Hn (n : Nat) : (dB n : Int) ≤ 4 * Hn n + 4 := by have := gN_size n; have := dB_le n; omega
theorem vc_upI (S : Arn) (r k v : Int) (K : KT) (hs : List Int) (t : Tr) (hm : upM S hs t r)
    (h1 : getE t.list k = some v → ∀ S' m, S' = retL (rdS S m) r → m ≤ ht t → K (.tup [.at (vU r), .at (vI v), .at (vB true), .at (vI 0)]) (chS S') W7)
    (h2 : getE t.list k ≠ some v → S.free < 4 * (Hn (t.size + 1) + 2) → ∀ S' m, S' = rdS S m → m ≤ ht t + 1 → K (.tup [.at (vU 0), .at (vI 0), .at (vB false), .at (vI 2)]) (chS S') W7)
    (h3 : getE t.list k ≠ some v → 4 * (Hn (t.size + 1) + 2) ≤ S.free → ∀ S' j (o : Option Int), o = getE t.list k → TrR S hs (insE t.list (k, v)) (iB t.size) (5 * iB t.size + ht t + 1) S' j → K (.tup [.at (vU j), .at (vI (o.getD 0)), .at (vB o.isSome), .at (vI 0)]) (chS S') W7) :
    vc C0 aUpI Try.f59 [.at (.ptr 0 0), .at (vU r), .agg [vI k, vI v]] (chS S) (normK 7 (wideK W7 K)) := by
  refine Eq.mp (show (∃ hs : List Int, (∃ t : Tr, ((Wf S hs) ∧ (Rep S t r) ∧ (Asc t.list) ∧ (t.size ≤ 1000000) ∧ (S.reads + (↑t.size : Int) ≤ 3000000000000000000) ∧ (∀ S' : Arn, (∀ m : Nat, (∀ o : Option Int, (((S') = (rdS S m)) → ((m ≤ ht t) → (((o) = (getE t.list k)) → (brS (o.isSome) ((brS (o.getD 0 == v) (((live S' r) ∧ (exW S') ∧ (∀ S'1 : Arn, (((S'1) = (retL S' r)) → (K (SV.tup [(TV.at (At.val (Value.int IntKind.u32 (r)))), (TV.at (At.val (Value.int IntKind.i64 (o.getD 0)))), (TV.at (At.val (Value.bool true))), (TV.at (At.val (Value.int IntKind.i64 0)))]) [(Chunk.box [(At.ptr 1 0), (At.slc 2), (At.slc 3), (At.val (Value.int IntKind.u64 (S'1.reads)))]), (Chunk.box [(At.slc 4), (At.slc 5), (At.slc 6), (At.val (Value.int IntKind.u32 (S'1.fresh)))]), (Chunk.row true (EC.node) (S'1.nodes)), (Chunk.row true (EC.int) (S'1.counts)), (Chunk.row true (EC.bool) (S'1.used)), (Chunk.row true (EC.u32) (S'1.gen)), (Chunk.row true (EC.u32) (S'1.rel))] [0, 1, 2, 3, 4, 5, 6]))))) (((inU r) ∧ (exW S') ∧ (S'.reads < 4000000000000000000) ∧ (∀ S'1 : Arn, (((S'1) = (rdS S' (S'.us r).toNat)) → ((0 ≤ (S'.nd r).size) ∧ ((S'.nd r).size ≤ 65536) ∧ (∀ p : Int, (((p) = (4 * (Hn ((S'.nd r).size + 1) + 2))) → ((exW S'1) ∧ (∀ b : Bool, (((b) = (decide (0 ≤ p) && decide (p ≤ S'1.free))) → (brS (!b)
    ((K (SV.tup [(TV.at (At.val (Value.int IntKind.u32 0))), (TV.at (At.val (Value.int IntKind.i64 0))), (TV.at (At.val (Value.bool false))), (TV.at (At.val (Value.int IntKind.i64 2)))]) [(Chunk.box [(At.ptr 1 0), (At.slc 2), (At.slc 3), (At.val (Value.int IntKind.u64 (S'1.reads)))]), (Chunk.box [(At.slc 4), (At.slc 5), (At.slc 6), (At.val (Value.int IntKind.u32 (S'1.fresh)))]), (Chunk.row true (EC.node) (S'1.nodes)), (Chunk.row true (EC.int) (S'1.counts)), (Chunk.row true (EC.bool) (S'1.used)), (Chunk.row true (EC.u32) (S'1.gen)), (Chunk.row true (EC.u32) (S'1.rel))] [0, 1, 2, 3, 4, 5, 6])) ((((live S'1 r) ∧ (exW S'1) ∧ (∀ S'2 : Arn, (((S'2) = (retL S'1 r)) → (∃ hs1 : List Int, (∃ t1 : Tr, ((Wf S'2 (r :: hs1)) ∧ (Rep S'2 t1 r) ∧ (t1.Bal) ∧ (Asc t1.list) ∧ (t1.size ≤ 700000) ∧ ((↑(iB t1.size) : Int) ≤ S'2.free) ∧ (hs1.length ≤ 500000000) ∧ (S'2.reads + 5 * (↑(iB t1.size) : Int) ≤ 1600000000000000000) ∧ (∀ S'3 : Arn, (∀ j : Int, ((TrR S'2 hs1 (insE t1.list (k, v)) (iB t1.size) (5 * iB t1.size) S'3 j) →
    (K (SV.tup [(TV.at (At.val (Value.int IntKind.u32 (j)))), (TV.at (At.val (Value.int IntKind.i64 (o.getD 0)))), (TV.at (At.val (Value.bool (o.isSome)))), (TV.at (At.val (Value.int IntKind.i64 0)))]) [(Chunk.box [(At.ptr 1 0), (At.slc 2), (At.slc 3), (At.val (Value.int IntKind.u64 (S'3.reads)))]), (Chunk.box [(At.slc 4), (At.slc 5), (At.slc 6), (At.val (Value.int IntKind.u32 (S'3.fresh)))]), (Chunk.row true (EC.node) (S'3.nodes)), (Chunk.row true (EC.int) (S'3.counts)), (Chunk.row true (EC.bool) (S'3.used)), (Chunk.row true (EC.u32) (S'3.gen)), (Chunk.row true (EC.u32) (S'3.rel))] [0, 1, 2, 3, 4, 5, 6])))))))))) ∧ (live S'1 r) ∧ (exW S'1) ∧ (∀ S'2 : Arn, (((S'2) = (retL S'1 r)) → (∃ hs1 : List Int, (∃ t1 : Tr, ((Wf S'2 (r :: hs1)) ∧ (Rep S'2 t1 r) ∧ (t1.Bal) ∧ (Asc t1.list) ∧ (t1.size ≤ 700000) ∧ ((↑(iB t1.size) : Int) ≤ S'2.free) ∧ (hs1.length ≤ 500000000) ∧ (S'2.reads + 5 * (↑(iB t1.size) : Int) ≤ 1600000000000000000) ∧ (∀ S'3 : Arn, (∀ j : Int, ((TrR S'2 hs1 (insE t1.list (k, v)) (iB t1.size) (5 * iB t1.size) S'3 j) →
    (K (SV.tup [(TV.at (At.val (Value.int IntKind.u32 (j)))), (TV.at (At.val (Value.int IntKind.i64 (o.getD 0)))), (TV.at (At.val (Value.bool (o.isSome)))), (TV.at (At.val (Value.int IntKind.i64 0)))]) [(Chunk.box [(At.ptr 1 0), (At.slc 2), (At.slc 3), (At.val (Value.int IntKind.u64 (S'3.reads)))]), (Chunk.box [(At.slc 4), (At.slc 5), (At.slc 6), (At.val (Value.int IntKind.u32 (S'3.fresh)))]), (Chunk.row true (EC.node) (S'3.nodes)), (Chunk.row true (EC.int) (S'3.counts)), (Chunk.row true (EC.bool) (S'3.used)), (Chunk.row true (EC.u32) (S'3.gen)), (Chunk.row true (EC.u32) (S'3.rel))] [0, 1, 2, 3, 4, 5, 6])))))))))))))))))))))))) (((inU r) ∧ (exW S') ∧ (S'.reads < 4000000000000000000) ∧ (∀ S'1 : Arn, (((S'1) = (rdS S' (S'.us r).toNat)) → ((0 ≤ (S'.nd r).size) ∧ ((S'.nd r).size ≤ 65536) ∧ (∀ p : Int, (((p) = (4 * (Hn ((S'.nd r).size + 1) + 2))) → ((exW S'1) ∧ (∀ b : Bool, (((b) = (decide (0 ≤ p) && decide (p ≤ S'1.free))) → (brS (!b)
    ((K (SV.tup [(TV.at (At.val (Value.int IntKind.u32 0))), (TV.at (At.val (Value.int IntKind.i64 0))), (TV.at (At.val (Value.bool false))), (TV.at (At.val (Value.int IntKind.i64 2)))]) [(Chunk.box [(At.ptr 1 0), (At.slc 2), (At.slc 3), (At.val (Value.int IntKind.u64 (S'1.reads)))]), (Chunk.box [(At.slc 4), (At.slc 5), (At.slc 6), (At.val (Value.int IntKind.u32 (S'1.fresh)))]), (Chunk.row true (EC.node) (S'1.nodes)), (Chunk.row true (EC.int) (S'1.counts)), (Chunk.row true (EC.bool) (S'1.used)), (Chunk.row true (EC.u32) (S'1.gen)), (Chunk.row true (EC.u32) (S'1.rel))] [0, 1, 2, 3, 4, 5, 6])) ((((live S'1 r) ∧ (exW S'1) ∧ (∀ S'2 : Arn, (((S'2) = (retL S'1 r)) → (∃ hs1 : List Int, (∃ t1 : Tr, ((Wf S'2 (r :: hs1)) ∧ (Rep S'2 t1 r) ∧ (t1.Bal) ∧ (Asc t1.list) ∧ (t1.size ≤ 700000) ∧ ((↑(iB t1.size) : Int) ≤ S'2.free) ∧ (hs1.length ≤ 500000000) ∧ (S'2.reads + 5 * (↑(iB t1.size) : Int) ≤ 1600000000000000000) ∧ (∀ S'3 : Arn, (∀ j : Int, ((TrR S'2 hs1 (insE t1.list (k, v)) (iB t1.size) (5 * iB t1.size) S'3 j) →
    (K (SV.tup [(TV.at (At.val (Value.int IntKind.u32 (j)))), (TV.at (At.val (Value.int IntKind.i64 (o.getD 0)))), (TV.at (At.val (Value.bool (o.isSome)))), (TV.at (At.val (Value.int IntKind.i64 0)))]) [(Chunk.box [(At.ptr 1 0), (At.slc 2), (At.slc 3), (At.val (Value.int IntKind.u64 (S'3.reads)))]), (Chunk.box [(At.slc 4), (At.slc 5), (At.slc 6), (At.val (Value.int IntKind.u32 (S'3.fresh)))]), (Chunk.row true (EC.node) (S'3.nodes)), (Chunk.row true (EC.int) (S'3.counts)), (Chunk.row true (EC.bool) (S'3.used)), (Chunk.row true (EC.u32) (S'3.gen)), (Chunk.row true (EC.u32) (S'3.rel))] [0, 1, 2, 3, 4, 5, 6])))))))))) ∧ (live S'1 r) ∧ (exW S'1) ∧ (∀ S'2 : Arn, (((S'2) = (retL S'1 r)) → (∃ hs1 : List Int, (∃ t1 : Tr, ((Wf S'2 (r :: hs1)) ∧ (Rep S'2 t1 r) ∧ (t1.Bal) ∧ (Asc t1.list) ∧ (t1.size ≤ 700000) ∧ ((↑(iB t1.size) : Int) ≤ S'2.free) ∧ (hs1.length ≤ 500000000) ∧ (S'2.reads + 5 * (↑(iB t1.size) : Int) ≤ 1600000000000000000) ∧ (∀ S'3 : Arn, (∀ j : Int, ((TrR S'2 hs1 (insE t1.list (k, v)) (iB t1.size) (5 * iB t1.size) S'3 j) →
    (K (SV.tup [(TV.at (At.val (Value.int IntKind.u32 (j)))), (TV.at (At.val (Value.int IntKind.i64 (o.getD 0)))), (TV.at (At.val (Value.bool (o.isSome)))), (TV.at (At.val (Value.int IntKind.i64 0)))]) [(Chunk.box [(At.ptr 1 0), (At.slc 2), (At.slc 3), (At.val (Value.int IntKind.u64 (S'3.reads)))]), (Chunk.box [(At.slc 4), (At.slc 5), (At.slc 6), (At.val (Value.int IntKind.u32 (S'3.fresh)))]), (Chunk.row true (EC.node) (S'3.nodes)), (Chunk.row true (EC.int) (S'3.counts)), (Chunk.row true (EC.bool) (S'3.used)), (Chunk.row true (EC.u32) (S'3.gen)), (Chunk.row true (EC.u32) (S'3.rel))] [0, 1, 2, 3, 4, 5, 6])))))))))))))))))))))))))))))))) = _ by kernel_rfl) ?_
  obtain ⟨w, rp, bal, asc, sz, hl, rd⟩ := hm
  have hrd := w.rds
  have hb := Bal.height bal (by omega)
  have hH := Hn_rng t.size
  have hH1 := Hn_rng ((t.size : Int) + 1)
  have hmo := Hn_mono1 t.size
  have hi := iB_Hn t.size
  refine ⟨hs, t, w, rp, asc, by omega, by omega, fun S1 m o e1 hm1 eo => ?_⟩
  have wl : Wf S1 hs := by rw [e1]; exact w.rd (by omega)
  have rp1 : Rep S1 t r := by rw [e1]; exact rep_rd rp m
  have lv : live S1 r := rp1.us
  have q1 : S1.reads = S.reads + m := by rw [e1]; rfl
  have f1 : S1.free = S.free := by rw [e1]; rfl
  have z1 : (S1.nd r).size = t.size := rp1.size wl
  refine brS_of (fun c => brS_of (fun d => ?_) fun d => ?_) fun c => ?_
  · have d : o.getD 0 = v := by simpa using d
    obtain ⟨x, ex⟩ := Option.isSome_iff_exists.1 c
    have ev : x = v := by rw [ex] at d; exact d
    have he : getE t.list k = some v := by rw [← eo, ex, ev]
    refine ⟨lv, ⟨hs, wl⟩, fun S2 e2 => ?_⟩
    rw [d]
    exact h1 he S2 m (by rw [e2, e1]) hm1
  all_goals
    have hne : getE t.list k ≠ some v := by
      intro he
      rw [he] at eo
      subst eo
      first
        | (simp at d; done)
        | (simp at c; done)
    refine ⟨inU_of wl lv, ⟨hs, wl⟩, by omega, fun S2 e2 => ?_⟩
    have hu := us_one (S1.us r)
    have wl2 : Wf S2 hs := by rw [e2]; exact wl.rd (by omega)
    have rp2 : Rep S2 t r := by rw [e2]; exact rep_rd rp1 _
    have lv2 : live S2 r := rp2.us
    have f2 : S2.free = S.free := by rw [e2]; exact f1
    have q2 : S2.reads = S.reads + m + (S1.us r).toNat := by rw [e2, ← q1]; rfl
    have gA : Got S hs 0 (ht t + 1) S2 hs := by
      rw [e2, e1, rdS_rdS]
      rw [e1] at hu
      exact (Got.rds w (by omega)).mono (by omega) (by omega)
    rw [z1]
    refine ⟨by omega, by omega, fun p ep => ⟨⟨hs, wl2⟩, fun b eb => brS_of (fun d2 => ?_) fun d2 => ?_⟩⟩
    · have d2 : b = false := by simpa using d2
      rw [d2] at eb
      have hf : ¬ p ≤ S2.free := fun hp => by
        rw [decide_eq_true hp, decide_eq_true (show 0 ≤ p by omega)] at eb; cases eb
      exact h2 hne (by omega) S2 (m + (S1.us r).toNat) (by rw [e2, e1, rdS_rdS]) (by omega)
    · have d2 : b = true := by simpa using d2
      rw [d2] at eb
      have hf : p ≤ S2.free := by
        by_cases hp : p ≤ S2.free
        · exact hp
        · rw [decide_eq_false hp, Bool.and_false] at eb; cases eb
      refine ⟨⟨lv2, ⟨hs, wl2⟩, ?_⟩, lv2, ⟨hs, wl2⟩, ?_⟩
      all_goals
        intro S3 e3
        have g3 := retL_got (hs := hs) wl2 lv2 (by omega)
        rw [← e3] at g3
        have rp3 : Rep S3 t r := by rw [e3]; exact rp2.retL
        have f3 : S3.free = S2.free := by rw [e3]; exact retL_free _ _
        have q3 : S3.reads = S2.reads := by rw [e3]; exact (retL_flds _ _).1
        refine ⟨hs, t, g3.wf, rp3, bal, asc, by omega, by omega, by omega, by omega, fun S4 j tr => h3 hne (by omega) S4 j o eo ⟨?_, tr.tree⟩⟩
        exact ((gA.seq g3 (h := hs) (fun _ h => h) (fun _ h => h)).seq tr.got (fun _ h => h) (fun _ h => h)).mono (by omega) (by omega)
theorem s_upI : SoundT C0 59 tUpI := by
  refine .ofW W7 Try.func59 (by decide) rfl fun args H K h hB => ?_
  unfold tUpI at h
  split at h <;> try exact h.elim
  unfold arM at h
  split at h <;> try exact h.elim
  rename_i r k v _ rd fr nd ct us gn rl
  obtain ⟨hs, t, h1, h2, h3, h4⟩ := h
  exact ⟨aUpI, ⟨frame C0.ok s_getT _, frame C0.ok s_hold _, frame C0.ok s_size _, frame C0.ok s_rIns _, frame C0.ok s_room _, frame C0.ok s_in _, trivial⟩, vc_upI ⟨us, gn, rl, fr, nd, ct, rd⟩ r k v K hs t h1 h2 h3 h4⟩
theorem getE_has {l : List Ent} {k v : Int} (h : getE l k = some v) : hasK l k := by
  induction l with
  | nil => cases h
  | cons x l ih =>
    obtain ⟨a, b⟩ := x
    unfold getE at h
    split at h
    · rename_i e
      exact ⟨b, by rw [← e]; simp⟩
    · obtain ⟨w, hw⟩ := ih h
      exact ⟨w, by simp [hw]⟩
theorem vc_upD (S : Arn) (r k : Int) (K : KT) (hs : List Int) (t : Tr) (hm : upM S hs t r)
    (h1 : getE t.list k = none → ∀ S' m, S' = rdS S m → m ≤ ht t → K (.tup [.at (vU 0), .at (vI 0), .at (vI 4)]) (chS S') W7)
    (h2 : ∀ v, getE t.list k = some v → S.free < 4 * (Hn t.size + 2) → ∀ S' m, S' = rdS S m → m ≤ ht t + 1 → K (.tup [.at (vU 0), .at (vI 0), .at (vI 2)]) (chS S') W7)
    (h3 : ∀ v, getE t.list k = some v → 4 * (Hn t.size + 2) ≤ S.free → ∀ S' j, TrR S hs (flt (neK k) t.list) (dB t.size) (5 * dB t.size + ht t + 1) S' j → K (.tup [.at (vU j), .at (vI v), .at (vI 0)]) (chS S') W7) :
    vc C0 aUpD Try.f57 [.at (.ptr 0 0), .at (vU r), .at (vI k)] (chS S) (normK 7 (wideK W7 K)) := by
  refine Eq.mp (show (∃ hs : List Int, (∃ t : Tr, ((Wf S hs) ∧ (Rep S t r) ∧ (Asc t.list) ∧ (t.size ≤ 1000000) ∧ (S.reads + (↑t.size : Int) ≤ 3000000000000000000) ∧ (∀ S' : Arn, (∀ m : Nat, (∀ o : Option Int, (((S') = (rdS S m)) → ((m ≤ ht t) → (((o) = (getE t.list k)) → (brS (!o.isSome) ((K (SV.tup [(TV.at (At.val (Value.int IntKind.u32 0))), (TV.at (At.val (Value.int IntKind.i64 0))), (TV.at (At.val (Value.int IntKind.i64 4)))]) [(Chunk.box [(At.ptr 1 0), (At.slc 2), (At.slc 3), (At.val (Value.int IntKind.u64 (S'.reads)))]), (Chunk.box [(At.slc 4), (At.slc 5), (At.slc 6), (At.val (Value.int IntKind.u32 (S'.fresh)))]), (Chunk.row true (EC.node) (S'.nodes)), (Chunk.row true (EC.int) (S'.counts)), (Chunk.row true (EC.bool) (S'.used)), (Chunk.row true (EC.u32) (S'.gen)), (Chunk.row true (EC.u32) (S'.rel))] [0, 1, 2, 3, 4, 5, 6])) (((inU r) ∧ (exW S') ∧ (S'.reads < 4000000000000000000) ∧ (∀ S'1 : Arn, (((S'1) = (rdS S' (S'.us r).toNat)) → ((0 ≤ (S'.nd r).size) ∧ ((S'.nd r).size ≤ 65536) ∧ (∀ p : Int, (((p) = (4 * (Hn ((S'.nd r).size + 0) + 2))) → ((exW S'1) ∧ (∀ b : Bool, (((b) = (decide (0 ≤ p) && decide (p ≤ S'1.free))) → (brS (!b)
    ((K (SV.tup [(TV.at (At.val (Value.int IntKind.u32 0))), (TV.at (At.val (Value.int IntKind.i64 0))), (TV.at (At.val (Value.int IntKind.i64 2)))]) [(Chunk.box [(At.ptr 1 0), (At.slc 2), (At.slc 3), (At.val (Value.int IntKind.u64 (S'1.reads)))]), (Chunk.box [(At.slc 4), (At.slc 5), (At.slc 6), (At.val (Value.int IntKind.u32 (S'1.fresh)))]), (Chunk.row true (EC.node) (S'1.nodes)), (Chunk.row true (EC.int) (S'1.counts)), (Chunk.row true (EC.bool) (S'1.used)), (Chunk.row true (EC.u32) (S'1.gen)), (Chunk.row true (EC.u32) (S'1.rel))] [0, 1, 2, 3, 4, 5, 6])) (((live S'1 r) ∧ (exW S'1) ∧ (∀ S'2 : Arn, (((S'2) = (retL S'1 r)) → (∃ hs1 : List Int, (∃ t1 : Tr, ((Wf S'2 (r :: hs1)) ∧ (Rep S'2 t1 r) ∧ (t1.Bal) ∧ (Asc t1.list) ∧ (t1.size ≤ 700000) ∧ (hasK t1.list k) ∧ ((↑(dB t1.size) : Int) ≤ S'2.free) ∧ (hs1.length ≤ 200000000) ∧ (S'2.reads + 5 * (↑(dB t1.size) : Int) ≤ 1500000000000000000) ∧ (∀ S'3 : Arn, (∀ j : Int, ((TrR S'2 hs1 (flt (neK k) t1.list) (dB t1.size) (5 * dB t1.size) S'3 j) →
    (K (SV.tup [(TV.at (At.val (Value.int IntKind.u32 (j)))), (TV.at (At.val (Value.int IntKind.i64 (o.getD 0)))), (TV.at (At.val (Value.int IntKind.i64 0)))]) [(Chunk.box [(At.ptr 1 0), (At.slc 2), (At.slc 3), (At.val (Value.int IntKind.u64 (S'3.reads)))]), (Chunk.box [(At.slc 4), (At.slc 5), (At.slc 6), (At.val (Value.int IntKind.u32 (S'3.fresh)))]), (Chunk.row true (EC.node) (S'3.nodes)), (Chunk.row true (EC.int) (S'3.counts)), (Chunk.row true (EC.bool) (S'3.used)), (Chunk.row true (EC.u32) (S'3.gen)), (Chunk.row true (EC.u32) (S'3.rel))] [0, 1, 2, 3, 4, 5, 6])))))))))))))))))))))))))))))))) = _ by kernel_rfl) ?_
  obtain ⟨w, rp, bal, asc, sz, hl, rd⟩ := hm
  have hrd := w.rds
  have hb := Bal.height bal (by omega)
  have hH := Hn_rng t.size
  have hi := dB_Hn t.size
  refine ⟨hs, t, w, rp, asc, by omega, by omega, fun S1 m o e1 hm1 eo => ?_⟩
  have wl : Wf S1 hs := by rw [e1]; exact w.rd (by omega)
  have rp1 : Rep S1 t r := by rw [e1]; exact rep_rd rp m
  have lv : live S1 r := rp1.us
  have q1 : S1.reads = S.reads + m := by rw [e1]; rfl
  have f1 : S1.free = S.free := by rw [e1]; rfl
  have z1 : (S1.nd r).size = t.size := rp1.size wl
  refine brS_of (fun c => ?_) fun c => ?_
  · have c : o = none := by simpa using c
    exact h1 (by rw [← eo, c]) S1 m e1 hm1
  obtain ⟨v, ev⟩ := Option.isSome_iff_exists.1 (show o.isSome = true by simpa using c)
  subst ev
  have he := eo.symm
  refine ⟨inU_of wl lv, ⟨hs, wl⟩, by omega, fun S2 e2 => ?_⟩
  have hu := us_one (S1.us r)
  have wl2 : Wf S2 hs := by rw [e2]; exact wl.rd (by omega)
  have rp2 : Rep S2 t r := by rw [e2]; exact rep_rd rp1 _
  have lv2 : live S2 r := rp2.us
  have f2 : S2.free = S.free := by rw [e2]; exact f1
  have q2 : S2.reads = S.reads + m + (S1.us r).toNat := by rw [e2, ← q1]; rfl
  have gA : Got S hs 0 (ht t + 1) S2 hs := by
    rw [e2, e1, rdS_rdS]
    rw [e1] at hu
    exact (Got.rds w (by omega)).mono (by omega) (by omega)
  rw [z1, Int.add_zero]
  refine ⟨by omega, by omega, fun p ep => ⟨⟨hs, wl2⟩, fun b eb => brS_of (fun d2 => ?_) fun d2 => ?_⟩⟩
  · have d2 : b = false := by simpa using d2
    rw [d2] at eb
    have hf : ¬ p ≤ S2.free := fun hp => by
      rw [decide_eq_true hp, decide_eq_true (show 0 ≤ p by omega)] at eb; cases eb
    exact h2 v he (by omega) S2 (m + (S1.us r).toNat) (by rw [e2, e1, rdS_rdS]) (by omega)
  · have d2 : b = true := by simpa using d2
    rw [d2] at eb
    have hf : p ≤ S2.free := by
      by_cases hp : p ≤ S2.free
      · exact hp
      · rw [decide_eq_false hp, Bool.and_false] at eb; cases eb
    refine ⟨lv2, ⟨hs, wl2⟩, fun S3 e3 => ?_⟩
    have g3 := retL_got (hs := hs) wl2 lv2 (by omega)
    rw [← e3] at g3
    have rp3 : Rep S3 t r := by rw [e3]; exact rp2.retL
    have f3 : S3.free = S2.free := by rw [e3]; exact retL_free _ _
    have q3 : S3.reads = S2.reads := by rw [e3]; exact (retL_flds _ _).1
    refine ⟨hs, t, g3.wf, rp3, bal, asc, by omega, getE_has he, by omega, by omega, by omega, fun S4 j tr => h3 v he (by omega) S4 j ⟨?_, tr.tree⟩⟩
    exact ((gA.seq g3 (h := hs) (fun _ h => h) (fun _ h => h)).seq tr.got (fun _ h => h) (fun _ h => h)).mono (by omega) (by omega)
theorem s_upD : SoundT C0 57 tUpD := by
  refine .ofW W7 Try.func57 (by decide) rfl fun args H K h hB => ?_
  unfold tUpD at h
  split at h <;> try exact h.elim
  unfold arM at h
  split at h <;> try exact h.elim
  rename_i r k _ rd fr nd ct us gn rl
  obtain ⟨hs, t, h1, h2, h3, h4⟩ := h
  exact ⟨aUpD, ⟨frame C0.ok s_getT _, frame C0.ok s_hold _, frame C0.ok s_size _, frame C0.ok s_rDel _, frame C0.ok s_room _, frame C0.ok s_de _, trivial⟩, vc_upD ⟨us, gn, rl, fr, nd, ct, rd⟩ r k K hs t h1 h2 h3 h4⟩
/-! ### Where there is room -/
theorem insE_same {l : List Ent} {k v : Int} (ha : Asc l) (h : getE l k = some v) : insE l (k, v) = l :=
  Asc.ext (insE_asc _ ha) ha fun q => by
    rw [insE_get _ ha]
    show (if k = q then some v else getE l q) = _
    split
    · rename_i e; rw [← e, h]
    · rfl
def tUpIn : Tfm C0 := fun args H K => match args with
  | [.at (.ptr 0 0), .at (.val (.int .u32 r)), .agg [.val (.int .i64 k), .val (.int .i64 v)]] => arM H fun S => ∃ hs t, upM S hs t r ∧ 4 * (Hn (t.size + 1) + 2) ≤ S.free ∧
    ∀ S' j (o : Option Int), o = getE t.list k → TrR S hs (insE t.list (k, v)) (iB t.size) (5 * iB t.size + ht t + 1) S' j → K (.tup [.at (vU j), .at (vI (o.getD 0)), .at (vB o.isSome), .at (vI 0)]) (chS S') W7
  | _ => False
theorem hold_tr {S S' : Arn} {hs : List Int} {t : Tr} {r : Int} {m a b : Nat} {L : List Ent} (w : Wf S hs) (rp : Rep S t r) (bal : t.Bal) (hl : hs.length ≤ 900000000) (hr : S.reads + m ≤ 4000000000000000000) (e : S' = retL (rdS S m) r) (hb : m ≤ b) (hL : t.list = L) : TrR S hs L a b S' r := by
  have g := Got.rds (hs := hs) w hr
  have rp1 : Rep (rdS S m) t r := rep_rd rp m
  have g2 := retL_got (hs := hs) g.wf rp1.us (by omega)
  rw [← e] at g2
  exact ⟨(g.seq g2 (h := hs) (fun _ h => h) (fun _ h => h)).mono (by omega) (by omega), t, by rw [e]; exact rp1.retL, hL, bal⟩
theorem s_upIn : SoundT C0 59 tUpIn := s_upI.weak fun args H K h => by
  unfold tUpIn at h
  unfold tUpI
  split at h <;> try exact h.elim
  unfold arM at h ⊢
  split at h <;> try exact h.elim
  obtain ⟨hs, t, hm, hf, h⟩ := h
  refine ⟨hs, t, hm, fun he S' m e hm' => ?_, fun _ hf' => absurd hf (by omega), fun _ _ => h⟩
  obtain ⟨w, rp, bal, asc, sz, hl, rd⟩ := hm
  have hb := Bal.height bal (by omega)
  have hH := Hn_rng t.size
  exact h S' _ (some _) he.symm (hold_tr w rp bal (by omega) (by omega) e (by omega) (insE_same asc he).symm)
def tUpDe : Tfm C0 := fun args H K => match args with
  | [.at (.ptr 0 0), .at (.val (.int .u32 r)), .at (.val (.int .i64 k))] => arM H fun S => ∃ hs t v, upM S hs t r ∧ getE t.list k = some v ∧ 4 * (Hn t.size + 2) ≤ S.free ∧
    ∀ S' j, TrR S hs (flt (neK k) t.list) (dB t.size) (5 * dB t.size + ht t + 1) S' j → K (.tup [.at (vU j), .at (vI v), .at (vI 0)]) (chS S') W7
  | _ => False
theorem s_upDe : SoundT C0 57 tUpDe := s_upD.weak fun args H K h => by
  unfold tUpDe at h
  unfold tUpD
  split at h <;> try exact h.elim
  unfold arM at h ⊢
  split at h <;> try exact h.elim
  obtain ⟨hs, t, v, hm, he, hf, h⟩ := h
  refine ⟨hs, t, hm, fun hn => (by rw [he] at hn; cases hn), fun v' _ hf' => absurd hf (by omega), fun v' he' _ S' j tr => ?_⟩
  rw [he] at he'
  obtain rfl := Option.some.inj he'
  exact h S' j tr
end Go.Proofs.Ytbonbaccmlomhaa.Sx
end
section
/- The order of the free slots, and the arena's Dump. -/
/-KEEP exW inU Arn.cap Arn.free-/
namespace Go.Proofs.Ytbonbaccmlomhaa.Sx
open Go

def upTo (fr : Int) (n : Nat) : List Int := (List.range n).map fun (k : Nat) => fr + 1 + (k : Int)
def orderL (us : List Bool) (rl : List Int) (fr : Int) : List Int := rl.reverse ++ upTo fr ((us.length : Int) - 1 - fr).toNat
structure XOr1 (rl : List Int) where
  k : Nat
  h : k ≤ rl.length
structure XOr2 (us : List Bool) (fr : Int) where
  n : Nat
  h : n ≤ ((us.length : Int) - 1 - fr).toNat
noncomputable def aOrder (us : List Bool) (gn rl : List Int) (fr : Int) : Ann C0 := { Γ := [(109, frameT [] tSlFree), (108, frameT [] tSlCap)], inv := fun n => match n with
  | 3 => some { X := XOr1 rl, sl := [4, 3], tf := fun x => [vi .i64 ((x.k : Int) - 1), .one (.at (.slc 4))], hf := fun x => slC us gn rl fr ++ [.row true EC.u32 (rl.drop x.k).reverse], μ := fun x => x.k }
  | 7 => some { X := XOr2 us fr, sl := [5, 3], tf := fun x => [vi .i64 (fr + 1 + (x.n : Int)), .one (.at (.slc 4))], hf := fun x => slC us gn rl fr ++ [.row true EC.u32 (rl.reverse ++ upTo fr x.n)], μ := fun x => ((us.length : Int) - 1 - fr).toNat - x.n }
  | _ => none }
def tOrder : Tfm C0 := fun args H K => match args with
  | [.at (.ptr 0 0)] => slM H fun us gn rl fr => 1 ≤ us.length ∧ us.length ≤ 65537 ∧ rl.length ≤ 65537 ∧ 0 ≤ fr ∧ fr ≤ us.length - 1 ∧ ∀ o : List Int, o = orderL us rl fr → K (.one (.at (.slc 4))) (slC us gn rl fr ++ [.row true EC.u32 o]) []
  | _ => False
def SlotT.zero : SlotT := ⟨false, 0, 0, NodeT.zero⟩
def slotAt (S : Arn) (k : Nat) : SlotT := ⟨S.us ((k : Int) + 1), if S.us ((k : Int) + 1) then S.ct ((k : Int) + 1) else 0, S.gn ((k : Int) + 1), S.nd ((k : Int) + 1)⟩
def ncap (S : Arn) : Nat := S.used.length - 1
def slotsOf (S : Arn) : List SlotT := (List.range (ncap S)).map (slotAt S)
def orderOf (S : Arn) : List Int := orderL S.used S.rel S.fresh
structure XDu (S : Arn) where
  i : Nat
  h : i ≤ ncap S
def fillS (S : Arn) (i : Nat) : List SlotT := (List.range i).map (slotAt S) ++ List.replicate (ncap S - i) SlotT.zero
noncomputable def aDump (S : Arn) : Ann C0 := { quiet := [67, 68, 69, 65], Γ := [(65, frameT [] tCap), (66, frameT [] tOrder), (67, frameT [] tSlAllocated), (68, frameT [] tCount), (69, frameT [] tGen)], inv := fun n => match n with
  | 1002 => some { X := Unit, sl := [3, 2], tf := fun _ => [.one (.at (.ptr 7 0)), .one (.at (.ptr 10 0))], hf := fun _ => chS S ++ [.box [.slc 8, .slc 9], .row true EC.slot (fillS S 0), .row true EC.u32 (orderOf S), .box [.slc 11, .slc 12], .row true EC.slot [], .row true EC.u32 []] }
  | 3 => some { X := XDu S, sl := [18, 3, 2], tf := fun x => [vi .i64 x.i, .one (.at (.ptr 7 0)), .one (.at (.ptr 10 0))], hf := fun x => chS S ++ [.box [.slc 8, .slc 9], .row true EC.slot (fillS S x.i), .row true EC.u32 (orderOf S), .box [.slc 11, .slc 12], .row true EC.slot [], .row true EC.u32 []], μ := fun x => ncap S - x.i }
  | _ => none }
def tDump : Tfm C0 := fun args H K => match args with
  | [.at (.ptr 0 0)] => arM H fun S => exW S ∧ ∀ (d : List SlotT) (o : List Int), d = slotsOf S → o = orderOf S → K (.one (.agg [.slc 7, .slc 8])) (chS S ++ [.row true EC.slot d, .row true EC.u32 o]) []
  | _ => False
end Go.Proofs.Ytbonbaccmlomhaa.Sx
end
section
/- A dump's allocated slots, edges, marks; the reference's Check; Sound. -/
namespace Go.Proofs.Ytbonbaccmlomhaa.Sx
open Go

/-KEEP Wf exW inU allU Arn.cap Arn.free alcD cntL kidsL slotsOf orderOf MarksR CleanD kidsU-/
def alcD (d : List SlotT) (i : Int) : Bool := decide (1 ≤ i) && (decide (i ≤ (d.length : Int)) && (d.getD (i - 1).toNat SlotT.zero).alloc)
def cntL (l : List Int) (n : Nat) : List Int := (List.range n).map fun (j : Nat) => ((l.count ((j : Int) + 1) : Nat) : Int)
def kidsL (d : List SlotT) : List Int := d.flatMap fun x => if x.alloc = true then [x.node.left, x.node.right] else []
def allU (l : List Int) : Prop := ∀ x ∈ l, inU x
def kidsU (d : List SlotT) : Prop := ∀ x ∈ d, inU x.node.left ∧ inU x.node.right
def mkd (m : List Bool) (i : Int) : Prop := 1 ≤ i ∧ m.getD (i - 1).toNat false = true
def sltD (d : List SlotT) (i : Int) : SlotT := d.getD (i - 1).toNat SlotT.zero
abbrev eS (d : List SlotT) (i : Nat) : SlotT := d.getD i SlotT.zero
structure MarksR (d : List SlotT) (roots : List Int) (m : List Bool) : Prop where
  len : m.length = d.length
  root : ∀ i ∈ roots, alcD d i = true → mkd m i
  left : ∀ i, mkd m i → alcD d (sltD d i).node.left = true → mkd m (sltD d i).node.left
  right : ∀ i, mkd m i → alcD d (sltD d i).node.right = true → mkd m (sltD d i).node.right
def szD (d : List SlotT) (i : Int) : Int := if alcD d i = true then (sltD d i).node.size else 0
structure CleanD (d : List SlotT) (fl roots : List Int) : Prop where
  free : ∀ i < d.length, fl.count ((i : Int) + 1) = if (d.getD i SlotT.zero).alloc = true then 0 else 1
  left : ∀ i < d.length, (d.getD i SlotT.zero).alloc = true → (d.getD i SlotT.zero).node.left = 0 ∨ alcD d (d.getD i SlotT.zero).node.left = true
  right : ∀ i < d.length, (d.getD i SlotT.zero).alloc = true → (d.getD i SlotT.zero).node.right = 0 ∨ alcD d (d.getD i SlotT.zero).node.right = true
  size : ∀ i < d.length, (d.getD i SlotT.zero).alloc = true → (d.getD i SlotT.zero).node.size = 1 + szD d (d.getD i SlotT.zero).node.left + szD d (d.getD i SlotT.zero).node.right
  zr : ∀ i < d.length, 0 ≤ (d.getD i SlotT.zero).node.size ∧ (d.getD i SlotT.zero).node.size ≤ 4294967296
  count : ∀ i < d.length, (d.getD i SlotT.zero).count = if (d.getD i SlotT.zero).alloc = true then ((kidsL d).count ((i : Int) + 1) : Int) + (roots.count ((i : Int) + 1) : Int) else 0
  mark : ∀ m, MarksR d roots m → ∀ i < d.length, (d.getD i SlotT.zero).alloc = true → m.getD i false = true
  rng : ∀ x ∈ fl, 1 ≤ x ∧ x ≤ d.length
  held : ∀ x ∈ roots, x = 0 ∨ alcD d x = true
def tAlc : Tfm C0 := fun args H K => match args, H with
  | [.agg [.slc 0, .slc 1], .at (.val (.int .u32 i))], [.row false .slot d, .row false .u32 fl] => inU i ∧ d.length ≤ 1000000 ∧ K (.one (.at (vB (alcD d i)))) [.row false EC.slot d, .row false EC.u32 fl] []
  | _, _ => False
def tKids : Tfm C0 := fun args H K => match args, H with
  | [.agg [.val (.bool _), .val (.int .i64 _), .val (.int .u32 _), .val (.int .i64 _), .val (.int .i64 _), .val (.int .u32 l), .val (.int .u32 r), .val (.int .i64 _), .val (.int .i64 _), .val (.int .i64 _), .val (.int .i64 _)]], [] => K (.one (.agg [vU l, vU r])) [] []
  | _, _ => False
structure XIx (n : Nat) where
  i : Nat
  h : i ≤ n
structure XIn (d : List SlotT) where
  i : Nat
  h : i < d.length
noncomputable def aInE (d : List SlotT) (fl : List Int) : Ann C0 := { Γ := [(149, frameT [] tKids)], rounds := fun n => if n = 7 then 3 else 0, inv := fun n => match n with
  | 3 => some { X := XIx d.length, sl := [4, 1, 3], tf := fun x => [vi .i64 x.i, .one (.at (.ptr 2 0)), .one (.at (.slc 3))], hf := fun x => [.row false EC.slot d, .row false EC.u32 fl, .box [.slc 0, .slc 1], .row true EC.int (cntL (kidsL (d.take x.i)) d.length)], μ := fun x => d.length - x.i }
  | 1004 => some { X := XIn d, sl := [4, 1, 3], tf := fun x => [vi .i64 x.i, .one (.at (.ptr 2 0)), .one (.at (.slc 3))], hf := fun x => [.row false EC.slot d, .row false EC.u32 fl, .box [.slc 0, .slc 1], .row true EC.int (cntL (kidsL (d.take (x.i + 1))) d.length)], rel := fun T _ z => slotI T 4 z.i }
  | _ => none }
def tInE : Tfm C0 := fun args H K => match args, H with
  | [.agg [.slc 0, .slc 1]], [.row false .slot d, .row false .u32 fl] => d.length ≤ 100000 ∧ kidsU d ∧ ∀ o, o = cntL (kidsL d) d.length → K (.one (.at (.slc 2))) [.row false EC.slot d, .row false EC.u32 fl, .row true EC.int o] []
  | _, _ => False
noncomputable def aCnt (l : List Int) (n : Int) : Ann C0 := { Γ := [], inv := fun k => match k with
  | 3 => some { X := XIx l.length, sl := [6, 5], tf := fun x => [vi .i64 x.i, .one (.at (.slc 1))], hf := fun x => [.row false EC.u32 l, .row true EC.int (cntL (l.take x.i) n.toNat)], μ := fun x => l.length - x.i }
  | _ => none }
def tCnt : Tfm C0 := fun args H K => match args, H with
  | [.at (.slc 0), .at (.val (.int .i64 n))], [.row false .u32 l] => 0 ≤ n ∧ n ≤ 100000 ∧ l.length ≤ 1000000 ∧ allU l ∧ ∀ o, o = cntL l n.toNat → K (.one (.at (.slc 1))) [.row false EC.u32 l, .row true EC.int o] []
  | _, _ => False
structure XMks (P : List Bool → List Int → Prop) where
  m : List Bool
  w : List Int
  h : P m w
noncomputable def aMk (P : List Bool → List Int → Prop) (d : List SlotT) (fl roots : List Int) : Ann C0 := { Γ := [(140, frameT [] tAlc), (149, frameT [] tKids)], trunc := fun n => n = 28, inv := fun k => match k with
  | 3 => some { X := XMks P, sl := [2, 5, 6], tf := fun _ => [.one (.at (.ptr 3 0)), .one (.at (.slc 4)), .one (.at (.slc 5))], hf := fun x => [.row false EC.slot d, .row false EC.u32 fl, .row false EC.u32 roots, .box [.slc 0, .slc 1], .row true EC.bool x.m, .row true EC.u32 x.w], μ := fun x => x.w.length + 3 * x.m.count false }
  | _ => none }
def tMk : Tfm C0 := fun args H K => match args, H with
  | [.agg [.slc 0, .slc 1], .at (.slc 2)], [.row false .slot d, .row false .u32 fl, .row false .u32 roots] => d.length ≤ 100000 ∧ roots.length ≤ 1000000 ∧ kidsU d ∧ allU roots ∧ ∀ m, MarksR d roots m → K (.one (.at (.slc 3))) [.row false EC.slot d, .row false EC.u32 fl, .row false EC.u32 roots, .row true EC.bool m] []
  | _, _ => False
theorem alcD_lo {d : List SlotT} {i : Int} (h : ¬ 1 ≤ i) : alcD d i = false := by simp [alcD, h]
theorem alcD_rng {d : List SlotT} {i : Int} (h : alcD d i = true) : 1 ≤ i ∧ i ≤ (d.length : Int) := by simp [alcD] at h; exact ⟨h.1, h.2.1⟩
structure PMk (d : List SlotT) (roots : List Int) (m : List Bool) (w : List Int) : Prop where
  len : m.length = d.length
  u : ∀ x ∈ w, inU x
  wl : w.length + 2 * m.count false ≤ roots.length + 2 * d.length
  root : ∀ i ∈ roots, alcD d i = true → mkd m i ∨ i ∈ w
  left : ∀ i, mkd m i → alcD d (sltD d i).node.left = true → mkd m (sltD d i).node.left ∨ (sltD d i).node.left ∈ w
  right : ∀ i, mkd m i → alcD d (sltD d i).node.right = true → mkd m (sltD d i).node.right ∨ (sltD d i).node.right ∈ w
theorem PMk.start (d : List SlotT) (roots : List Int) (h : ∀ x ∈ roots, inU x) : PMk d roots (List.replicate d.length false) roots := by
  have z : ∀ i, ¬ mkd (List.replicate d.length false) i := fun i hi => by
    have := hi.2
    rw [getD_replicate] at this; cases this
  exact ⟨by simp, h, by simp, fun i hi _ => .inr hi, fun i hi => (z i hi).elim, fun i hi => (z i hi).elim⟩
theorem PMk.done {d : List SlotT} {roots : List Int} {m : List Bool} (h : PMk d roots m []) : MarksR d roots m :=
  ⟨h.len, fun i a b => (h.root i a b).resolve_right (by simp), fun i a b => (h.left i a b).resolve_right (by simp), fun i a b => (h.right i a b).resolve_right (by simp)⟩
/-- What was taken from the work needs no mark: it is marked, or not allocated. -/
theorem PMk.skip {d : List SlotT} {roots : List Int} {m : List Bool} {w : List Int} {x : Int} (h : PMk d roots m (w ++ [x])) (hx : alcD d x = true → mkd m x) : PMk d roots m w := by
  have key : ∀ j, alcD d j = true → mkd m j ∨ j ∈ w ++ [x] → mkd m j ∨ j ∈ w := fun j ha hj => by
    rcases hj with hj | hj
    · exact .inl hj
    · rcases List.mem_append.1 hj with hj | hj
      · exact .inr hj
      · have e : j = x := by simpa using hj
        subst e; exact .inl (hx ha)
  refine ⟨h.len, fun y hy => h.u y (by simp [hy]), by have := h.wl; simp at this; omega, fun i a b => key i b (h.root i a b), fun i a b => key _ b (h.left i a b), fun i a b => key _ b (h.right i a b)⟩
theorem count_mark {m : List Bool} {k : Nat} (h1 : k < m.length) (h2 : m.getD k false = false) : (m.set k true).count false + 1 = m.count false := by
  have := countP_set' (fun b : Bool => b == false) m k true false h1
  rw [h2] at this
  simpa [List.count] using this
theorem PMk.mark {d : List SlotT} {roots : List Int} {m : List Bool} {w : List Int} {x : Int} (h : PMk d roots m (w ++ [x])) (hx : alcD d x = true) (hm : m.getD (x - 1).toNat false = false) (hk : inU (sltD d x).node.left ∧ inU (sltD d x).node.right) :
    PMk d roots (m.set (x - 1).toNat true) (w ++ [(sltD d x).node.left, (sltD d x).node.right]) := by
  obtain ⟨x1, x2⟩ := alcD_rng hx
  have hl := h.len
  have hs : ∀ j, mkd (m.set (x - 1).toNat true) j ↔ j = x ∨ mkd m j := fun j => by
    unfold mkd
    rw [getD_set]
    constructor
    · rintro ⟨a, b⟩
      by_cases e : j = x
      · exact .inl e
      · rw [if_neg (by omega)] at b; exact .inr ⟨a, b⟩
    · rintro (e | ⟨a, b⟩)
      · subst e; exact ⟨x1, by rw [if_pos ⟨rfl, by omega⟩]⟩
      · refine ⟨a, ?_⟩
        split
        · rfl
        · exact b
  have key : ∀ j, mkd m j ∨ j ∈ w ++ [x] → mkd (m.set (x - 1).toNat true) j ∨ j ∈ w ++ [(sltD d x).node.left, (sltD d x).node.right] := fun j hj => by
    rw [hs]
    rcases hj with hj | hj
    · exact .inl (.inr hj)
    · rcases List.mem_append.1 hj with hj | hj
      · exact .inr (by simp [hj])
      · exact .inl (.inl (by simpa using hj))
  have hc := count_mark (m := m) (k := (x - 1).toNat) (by omega) hm
  have l1 : (w ++ [(sltD d x).node.left, (sltD d x).node.right]).length = w.length + 2 := by simp
  have l2 : (w ++ [x]).length = w.length + 1 := by simp
  refine ⟨by simp [hl], fun y hy => ?_, by have := h.wl; omega, fun i a b => key i (h.root i a b), fun i a b => ?_, fun i a b => ?_⟩
  · simp at hy
    rcases hy with hy | hy | hy
    · exact h.u y (by simp [hy])
    · subst hy; exact hk.1
    · subst hy; exact hk.2
  · rcases (hs i).1 a with e | e
    · subst e; exact .inr (by simp)
    · exact key _ (h.left i e b)
  · rcases (hs i).1 a with e | e
    · subst e; exact .inr (by simp)
    · exact key _ (h.right i e b)
/-! ### The plain law: a whole arena's dump is clean. -/
def ineQ (out : List Int) (c : Int) (al : Bool) (ja jb : Prop) (G : List Int → Prop) : Prop :=
  brS al (ja ∧ jb ∧ brS (decide (c ≥ 1)) (ja ∧ jb ∧ brS (decide (IntKind.u64.wrap c ≤ IntKind.u64.wrap (out.length : Int))) (ja ∧ jb ∧ 0 ≤ IntKind.u32.wrap (c - 1) ∧ IntKind.u32.wrap (c - 1) < (out.length : Int) ∧ 0 ≤ IntKind.u32.wrap (c - 1) ∧ IntKind.u32.wrap (c - 1) < (out.length : Int) ∧
    G (out.set (IntKind.u32.wrap (c - 1)).toNat (IntKind.i64.wrap (out.getD (IntKind.u32.wrap (c - 1)).toNat 0 + 1)))) (G out)) (G out)) (G out)
end Go.Proofs.Ytbonbaccmlomhaa.Sx
end
section
/- Equal dumps, and the count of a slot of a dump. -/
namespace Go.Proofs.Ytbonbaccmlomhaa.Sx
open Go

/-KEEP Wf exW inU alcD slotsOf orderOf-/
noncomputable def aSameS (l m : List SlotT) : Ann C0 := { Γ := [], inv := fun n => match n with
  | 4 => some { X := XIx l.length, sl := [5], tf := fun x => [vi .i64 x.i], hf := fun _ => [.row false EC.slot l, .row false EC.slot m], μ := fun x => l.length - x.i }
  | _ => none }
def tSameS : Tfm C0 := fun args H K => match args, H with
  | [.at (.slc 0), .at (.slc 1)], [.row false .slot l, .row false .slot m] => l = m ∧ l.length ≤ 1000000 ∧ K (.one (.at (vB true))) [.row false EC.slot l, .row false EC.slot m] []
  | _, _ => False
noncomputable def aSameU (l m : List Int) : Ann C0 := { Γ := [], inv := fun n => match n with
  | 4 => some { X := XIx l.length, sl := [5], tf := fun x => [vi .i64 x.i], hf := fun _ => [.row false EC.u32 l, .row false EC.u32 m], μ := fun x => l.length - x.i }
  | _ => none }
def tSameU : Tfm C0 := fun args H K => match args, H with
  | [.at (.slc 0), .at (.slc 1)], [.row false .u32 l, .row false .u32 m] => l = m ∧ l.length ≤ 1000000 ∧ K (.one (.at (vB true))) [.row false EC.u32 l, .row false EC.u32 m] []
  | _, _ => False
noncomputable def aSameD : Ann C0 := { Γ := [(74, frameT [] tSameS), (75, frameT [] tSameU)] }
def tSameD : Tfm C0 := fun args H K => match args, H with
  | [.agg [.slc 0, .slc 1], .agg [.slc 2, .slc 3]], [.row false .slot d, .row false .u32 f, .row false .slot e, .row false .u32 g] => d = e ∧ f = g ∧ d.length ≤ 1000000 ∧ f.length ≤ 1000000 ∧ K (.one (.at (vB true))) [.row false EC.slot d, .row false EC.u32 f, .row false EC.slot e, .row false EC.u32 g] []
  | _, _ => False
def cntD (d : List SlotT) (i : Int) : Int := if alcD d i = true then (sltD d i).count else 0
noncomputable def aCn24 : Ann C0 := { Γ := [(140, frameT [] tAlc)] }
def tCn24 : Tfm C0 := fun args H K => match args, H with
  | [.agg [.slc 0, .slc 1], .at (.val (.int .u32 i))], [.row false .slot d, .row false .u32 fl] => inU i ∧ d.length ≤ 1000000 ∧ ∀ c, c = cntD d i → K (.one (.at (vI c))) [.row false EC.slot d, .row false EC.u32 fl] []
  | _, _ => False
end Go.Proofs.Ytbonbaccmlomhaa.Sx
end
section
/- The reference's Check of a dump, Clean and Sound. -/
namespace Go.Proofs.Ytbonbaccmlomhaa.Sx
open Go

/-KEEP Wf exW inU allU Arn.cap Arn.free alcD cntL kidsL slotsOf orderOf MarksR CleanD kidsU-/
structure XCk (d : List SlotT) (roots : List Int) where
  i : Nat
  m : List Bool
  h : i ≤ d.length ∧ MarksR d roots m
structure XCj (d : List SlotT) (roots : List Int) (P : Nat → Int → Prop) where
  i : Nat
  m : List Bool
  c : Int
  h : i < d.length ∧ MarksR d roots m ∧ P i c
abbrev bxSl (x : SlotT) : Chunk C0 := .box [.val (.bool x.alloc), vI x.count, vU x.gen, vI x.node.key, vI x.node.value, vU x.node.left, vU x.node.right, vI x.node.size, vI x.node.sum, vI x.node.min, vI x.node.max]
abbrev chK (d : List SlotT) (fl roots : List Int) (m : List Bool) : List (Chunk C0) := [.row false EC.slot d, .row false EC.u32 fl, .row false EC.u32 roots, .box [.slc 0, .slc 1], .row true EC.int (cntL (kidsL d) d.length), .row true EC.bool m, .row true EC.int (cntL fl d.length), .row true EC.int (cntL roots d.length), .row true EC.find []]
structure XIy (n : Nat) where
  i : Nat
  h : i < n
noncomputable def aChk (P0 P1 P2 P3 P4 : Nat → Int → Prop) (d : List SlotT) (fl roots : List Int) : Ann C0 := { Γ := [(146, frameT [] tInE), (147, frameT [] tMk), (148, frameT [] tCnt), (140, frameT [] tAlc), (149, frameT [] tKids)], quiet := [146, 147, 148, 140, 149], rounds := fun n => if n = 19 then 3 else 0, inv := fun n => match n with
  | 5 => some { X := XCk d roots, sl := [2, 6, 7, 8, 9, 5, 10], tf := fun x => [.one (.at (.ptr 3 0)), .one (.at (.slc 4)), .one (.at (.slc 5)), .one (.at (.slc 6)), .one (.at (.slc 7)), .one (.at (.slc 8)), vi .i64 x.i], hf := fun x => chK d fl roots x.m, μ := fun x => d.length - x.i }
  | 1011 => some { X := XCj d roots P4, sl := [2, 6, 7, 8, 9, 5, 10, 12, 13], tf := fun x => [.one (.at (.ptr 3 0)), .one (.at (.slc 4)), .one (.at (.slc 5)), .one (.at (.slc 6)), .one (.at (.slc 7)), .one (.at (.slc 8)), vi .i64 x.i, .one (.at (.ptr 9 0)), vi .i64 x.c], hf := fun x => chK d fl roots x.m ++ [bxSl (eS d x.i)], rel := fun T _ z => slotI T 10 z.i }
  | 1013 => some { X := XCj d roots P0, sl := [2, 6, 7, 8, 9, 5, 10, 12, 60], tf := fun x => [.one (.at (.ptr 3 0)), .one (.at (.slc 4)), .one (.at (.slc 5)), .one (.at (.slc 6)), .one (.at (.slc 7)), .one (.at (.slc 8)), vi .i64 x.i, .one (.at (.ptr 9 0)), vb false], hf := fun x => chK d fl roots x.m ++ [bxSl (eS d x.i)], rel := fun T _ z => slotI T 10 z.i }
  | 1025 => some { X := XCj d roots P1, sl := [2, 6, 7, 8, 9, 5, 10, 12, 17], tf := fun x => [.one (.at (.ptr 3 0)), .one (.at (.slc 4)), .one (.at (.slc 5)), .one (.at (.slc 6)), .one (.at (.slc 7)), .one (.at (.slc 8)), vi .i64 x.i, .one (.at (.ptr 9 0)), vi .i64 x.c], hf := fun x => chK d fl roots x.m ++ [bxSl (eS d x.i)], rel := fun T _ z => slotI T 10 z.i }
  | 1026 => some { X := XCj d roots P2, sl := [2, 6, 7, 8, 9, 5, 10, 12, 110], tf := fun x => [.one (.at (.ptr 3 0)), .one (.at (.slc 4)), .one (.at (.slc 5)), .one (.at (.slc 6)), .one (.at (.slc 7)), .one (.at (.slc 8)), vi .i64 x.i, .one (.at (.ptr 9 0)), vb false], hf := fun x => chK d fl roots x.m ++ [bxSl (eS d x.i)], rel := fun T _ z => slotI T 10 z.i }
  | 1028 => some { X := XCj d roots P3, sl := [2, 6, 7, 8, 9, 5, 10, 12, 15], tf := fun x => [.one (.at (.ptr 3 0)), .one (.at (.slc 4)), .one (.at (.slc 5)), .one (.at (.slc 6)), .one (.at (.slc 7)), .one (.at (.slc 8)), vi .i64 x.i, .one (.at (.ptr 9 0)), vi .i64 x.c], hf := fun x => chK d fl roots x.m ++ [bxSl (eS d x.i)], rel := fun T _ z => slotI T 10 z.i }
  | 1029 => some { X := XCj d roots P0, sl := [2, 6, 7, 8, 9, 5, 10, 12, 132], tf := fun x => [.one (.at (.ptr 3 0)), .one (.at (.slc 4)), .one (.at (.slc 5)), .one (.at (.slc 6)), .one (.at (.slc 7)), .one (.at (.slc 8)), vi .i64 x.i, .one (.at (.ptr 9 0)), vb false], hf := fun x => chK d fl roots x.m ++ [bxSl (eS d x.i)], rel := fun T _ z => slotI T 10 z.i }
  | 1031 => some { X := XCj d roots P0, sl := [2, 6, 7, 8, 9, 5, 10, 12, 149], tf := fun x => [.one (.at (.ptr 3 0)), .one (.at (.slc 4)), .one (.at (.slc 5)), .one (.at (.slc 6)), .one (.at (.slc 7)), .one (.at (.slc 8)), vi .i64 x.i, .one (.at (.ptr 9 0)), vb false], hf := fun x => chK d fl roots x.m ++ [bxSl (eS d x.i)], rel := fun T _ z => slotI T 10 z.i }
  | 33 => some { X := XIx fl.length, sl := [2, 5, 19], tf := fun x => [.one (.at (.ptr 3 0)), .one (.at (.slc 4)), vi .i64 x.i], hf := fun _ => [.row false EC.slot d, .row false EC.u32 fl, .row false EC.u32 roots, .box [.slc 0, .slc 1], .row true EC.find []], μ := fun x => fl.length - x.i }
  | 1036 => some { X := XIy fl.length, sl := [2, 5, 19, 180], tf := fun x => [.one (.at (.ptr 3 0)), .one (.at (.slc 4)), vi .i64 x.i, vb false], hf := fun _ => [.row false EC.slot d, .row false EC.u32 fl, .row false EC.u32 roots, .box [.slc 0, .slc 1], .row true EC.find []], rel := fun T _ z => slotI T 19 z.i }
  | 38 => some { X := XIx roots.length, sl := [2, 5, 20], tf := fun x => [.one (.at (.ptr 3 0)), .one (.at (.slc 4)), vi .i64 x.i], hf := fun _ => [.row false EC.slot d, .row false EC.u32 fl, .row false EC.u32 roots, .box [.slc 0, .slc 1], .row true EC.find []], μ := fun x => roots.length - x.i }
  | 1041 => some { X := XIy roots.length, sl := [2, 5, 20, 209], tf := fun x => [.one (.at (.ptr 3 0)), .one (.at (.slc 4)), vi .i64 x.i, vb false], hf := fun _ => [.row false EC.slot d, .row false EC.u32 fl, .row false EC.u32 roots, .box [.slc 0, .slc 1], .row true EC.find []], rel := fun T _ z => slotI T 20 z.i }
  | _ => none }
def tChk : Tfm C0 := fun args H K => match args, H with
  | [.agg [.slc 0, .slc 1], .at (.slc 2)], [.row false .slot d, .row false .u32 fl, .row false .u32 roots] => CleanD d fl roots ∧ kidsU d ∧ allU fl ∧ allU roots ∧ d.length ≤ 100000 ∧ fl.length ≤ 1000000 ∧ roots.length ≤ 1000000 ∧
    K (.one (.at (.slc 3))) [.row false EC.slot d, .row false EC.u32 fl, .row false EC.u32 roots, .row true EC.find []] []
  | _, _ => False
noncomputable def aCln : Ann C0 := { Γ := [(125, frameT [] tChk)] }
def tCln : Tfm C0 := fun args H K => match args, H with
  | [.agg [.slc 0, .slc 1], .at (.slc 2)], [.row false .slot d, .row false .u32 fl, .row false .u32 roots] => CleanD d fl roots ∧ kidsU d ∧ allU fl ∧ allU roots ∧ d.length ≤ 100000 ∧ fl.length ≤ 1000000 ∧ roots.length ≤ 1000000 ∧
    K (.one (.at (vB true))) [.row false EC.slot d, .row false EC.u32 fl, .row false EC.u32 roots] []
  | _, _ => False
noncomputable def aSound : Ann C0 := { Γ := [(21, frameT [] tDump), (91, frameT [] tCln)] }
def tSound : Tfm C0 := fun args H K => match args with
  | [.at (.ptr 0 0), .at (.slc 7)] => arMr H fun S rest => match rest with
    | [.row false .u32 roots] => ∃ hs, Wf S hs ∧ roots.Perm hs ∧ roots.length ≤ 1000000 ∧ K (.one (.at (vB true))) (chS S ++ [.row false EC.u32 roots]) []
    | _ => False
  | _ => False
def P0c (_ : Nat) (_ : Int) : Prop := True
def P4c (d : List SlotT) (i : Nat) (c : Int) : Prop := c = if (eS d i).alloc = true then 0 else 1
def P1c (d : List SlotT) (i : Nat) (c : Int) : Prop := (eS d i).alloc = true ∧ c = 1 + szD d (eS d i).node.left + szD d (eS d i).node.right
def P2c (d : List SlotT) (i : Nat) (_ : Int) : Prop := (eS d i).alloc = true
def P3c (d : List SlotT) (roots : List Int) (i : Nat) (c : Int) : Prop := c = if (eS d i).alloc = true then ((kidsL d).count ((i : Int) + 1) : Int) + (roots.count ((i : Int) + 1) : Int) else 0
end Go.Proofs.Ytbonbaccmlomhaa.Sx
end
section
/- The reference's trees over a dump: nodes, balance, height, list, order, Check, Tree. -/
namespace Go.Proofs.Ytbonbaccmlomhaa.Sx
open Go

/-KEEP Wf exW inU alcD slotsOf orderOf ndD RepD Asc Tr.Bal Tr.size Tr.list ht balB lastK anyK gtL ShpT-/
def ndD (d : List SlotT) (i : Int) : NodeT := if alcD d i = true then (sltD d i).node else NodeT.zero
def lastK : Tr → Int → Int
  | .nil, x => x
  | .node _ k _ r, _ => lastK r k
def anyK : Tr → Bool → Bool
  | .nil, b => b
  | .node _ _ _ _, _ => true
def gtL (x : Int) (l : List Ent) : Prop := ∀ y ∈ l, x < y.1
/-- An index of a dump stands for a tree. -/
def RepD (d : List SlotT) : Tr → Int → Prop
  | .nil, i => i = 0
  | .node l k v r, i => alcD d i = true ∧ (ndD d i).key = k ∧ (ndD d i).value = v ∧ (ndD d i).size = 1 + l.size + r.size ∧ RepD d l (ndD d i).left ∧ RepD d r (ndD d i).right
noncomputable def aAlcG : Ann C0 := { Γ := [(140, frameT [] tAlc)] }
def tNd : Tfm C0 := fun args H K => match args, H with
  | [.agg [.slc 0, .slc 1], .at (.val (.int .u32 i))], [.row false .slot d, .row false .u32 fl] => inU i ∧ d.length ≤ 1000000 ∧ ∀ n, n = ndD d i → K (.one (nodeA n)) [.row false EC.slot d, .row false EC.u32 fl] []
  | _, _ => False
def tBl7 (n : Nat) : Tfm C0 := fun args H K => match args, H with
  | [.agg [.slc 0, .slc 1], .at (.val (.int .u32 i))], [.row false .slot d, .row false .u32 fl] => d.length ≤ 1000000 ∧ (∃ t, RepD d t i ∧ t.Bal ∧ t.size < n ∧ t.size ≤ 1000000) ∧ K (.one (.at (vB true))) [.row false EC.slot d, .row false EC.u32 fl] []
  | _, _ => False
noncomputable def aBl7 (n : Nat) : Ann C0 := { quiet := [116, 130, 142], Γ := [(116, frameT [] tNd), (130, frameT [] tBal), (142, frameT [] (tBl7 n))] }
def tHt7 (n : Nat) : Tfm C0 := fun args H K => match args, H with
  | [.agg [.slc 0, .slc 1], .at (.val (.int .u32 i))], [.row false .slot d, .row false .u32 fl] => d.length ≤ 1000000 ∧ ∃ t, RepD d t i ∧ t.size < n ∧ t.size ≤ 1000000 ∧ ∀ h, h = (ht t : Int) → K (.one (.at (vI h))) [.row false EC.slot d, .row false EC.u32 fl] []
  | _, _ => False
def tLi7 (n : Nat) : Tfm C0 := fun args H K => match args, H with
  | [.agg [.slc 0, .slc 1], .at (.val (.int .u32 i))], [.row false .slot d, .row false .u32 fl] => d.length ≤ 1000000 ∧ ∃ t, RepD d t i ∧ t.size < n ∧ t.size ≤ 1000000 ∧ ∀ r, r = t.list → K (.one (.at (.slc 2))) [.row false EC.slot d, .row false EC.u32 fl, .row true EC.ent r] []
  | _, _ => False
noncomputable def aLi7 (n : Nat) : Ann C0 := { quiet := [116, 117], Γ := [(116, frameT [] tNd), (117, frameT [] (tLi7 n))] }
def tOr7 (n : Nat) : Tfm C0 := fun args H K => match args, H with
  | [.at (.ptr 0 0), .at (.val (.int .u32 i))], [.box [.slc 1, .slc 2, .val (.int .i64 last), .val (.bool any), .val (.int .i64 most)], .row false .slot d, .row false .u32 fl] => d.length ≤ 1000000 ∧ ∃ t, RepD d t i ∧ Asc t.list ∧ t.size < n ∧ (t.size : Int) ≤ most ∧ most ≤ 10000000 ∧ (any = true → gtL last t.list) ∧
    ∀ la an mo, la = lastK t last → an = anyK t any → mo = most - t.size → K (.one (.at (vB true))) [.box [.slc 1, .slc 2, vI la, vB an, vI mo], .row false EC.slot d, .row false EC.u32 fl] [0]
  | _, _ => False
noncomputable def aOr7 (n : Nat) : Ann C0 := { Γ := [(116, frameT [] tNd), (141, frameT [] (tOr7 n))] }
noncomputable def aCk7 (n : Nat) : Ann C0 := { Γ := [(140, frameT [] tAlc), (141, frameT [] (tOr7 n)), (142, frameT [] (tBl7 n))] }
def tCk7 : Tfm C0 := fun args H K => match args, H with
  | [.agg [.slc 0, .slc 1], .at (.val (.int .u32 i))], [.row false .slot d, .row false .u32 fl] => d.length ≤ 1000000 ∧ (∃ t, RepD d t i ∧ Asc t.list ∧ t.Bal ∧ t.size ≤ 2 * d.length + 2 ∧ t.size ≤ 1000000) ∧ K (.one (.at (vI 0))) [.row false EC.slot d, .row false EC.u32 fl] []
  | _, _ => False
noncomputable def aTr7 (n : Nat) (l : List Ent) (d : List SlotT) (fl : List Int) : Ann C0 := { Γ := [(115, frameT [] tCk7), (116, frameT [] tNd), (117, frameT [] (tLi7 n))], inv := fun k => match k with
  | 7 => some { X := XIx l.length, sl := [8, 3, 7], tf := fun x => [vi .i64 x.i, .one (.at (.ptr 3 0)), .one (.at (.slc 4))], hf := fun _ => [.row false EC.slot d, .row false EC.u32 fl, .row false EC.ent l, .box [.slc 0, .slc 1], .row true EC.ent l], μ := fun x => l.length - x.i }
  | _ => none }
def tTr7 : Tfm C0 := fun args H K => match args, H with
  | [.agg [.slc 0, .slc 1], .at (.val (.int .u32 i)), .at (.slc 2)], [.row false .slot d, .row false .u32 fl, .row false .ent l] => d.length ≤ 1000000 ∧ (∃ t, RepD d t i ∧ Asc t.list ∧ t.Bal ∧ t.size ≤ 2 * d.length + 2 ∧ t.size ≤ 1000000 ∧ t.list = l) ∧ K (.one (.at (vB true))) [.row false EC.slot d, .row false EC.u32 fl, .row false EC.ent l] []
  | _, _ => False
theorem RepD.inU {d : List SlotT} {t : Tr} {i : Int} (h : RepD d t i) (hl : d.length ≤ 1000000) : inU i := by
  cases t with
  | nil => have : i = 0 := h; rw [this]; exact ⟨by omega, by omega⟩
  | node l k v r => have := alcD_rng h.1; exact ⟨by omega, by omega⟩
theorem RepD.sz {d : List SlotT} {t : Tr} {i : Int} (h : RepD d t i) : (ndD d i).size = t.size := by
  cases t with
  | nil =>
    have : i = 0 := h
    unfold ndD
    rw [this, alcD_lo (by omega)]; rfl
  | node l k v r => rw [h.2.2.2.1]; simp [Tr.size]
theorem RepD.ne {d : List SlotT} {l r : Tr} {k v i : Int} (h : RepD d (.node l k v r) i) : i ≠ 0 := by have := alcD_rng h.1; omega
/-! ### From the arena to its dump -/
end Go.Proofs.Ytbonbaccmlomhaa.Sx
end
section
/- What the update laws share: Kept, spare, awake, lengths of dumps. -/
namespace Go.Proofs.Ytbonbaccmlomhaa.Sx
open Go

/-KEEP Wf exW inU live Arn.cap Arn.free Rep rdS Tr.size Tr.list alcD slotsOf orderOf PlantR newS insE flt getE TrR upM Hn-/
/-- Every slot that is allocated in d is so in e, with the same node and generation. -/
def keptD (d e : List SlotT) : Prop := d.length = e.length ∧ ∀ i : Nat, i < d.length → (eS d i).alloc = true → (eS e i).alloc = true ∧ (eS e i).node = (eS d i).node ∧ (eS e i).gen = (eS d i).gen
structure XKp (d : List SlotT) where
  i : Nat
  h : i ≤ d.length
noncomputable def aKp (d e : List SlotT) (fl gl : List Int) : Ann C0 := { Γ := [], inv := fun n => match n with
  | 4 => some { X := XKp d, sl := [5, 2, 3], tf := fun x => [vi .i64 x.i, .one (.at (.ptr 4 0)), .one (.at (.ptr 5 0))], hf := fun _ => [.row false EC.slot d, .row false EC.u32 fl, .row false EC.slot e, .row false EC.u32 gl, .box [.slc 0, .slc 1], .box [.slc 2, .slc 3]], μ := fun x => d.length - x.i }
  | _ => none }
def tKept : Tfm C0 := fun args H K => match args, H with
  | [.agg [.slc 0, .slc 1], .agg [.slc 2, .slc 3]], [.row false .slot d, .row false .u32 fl, .row false .slot e, .row false .u32 gl] => keptD d e ∧ d.length ≤ 1000000 ∧ K (.one (.at (vB true))) [.row false EC.slot d, .row false EC.u32 fl, .row false EC.slot e, .row false EC.u32 gl] []
  | _, _ => False
def tSpare : Tfm C0 := fun args H K => match args, H with
  | [.at (.val (.int .u16 n)), .at (.val (.int .i64 need))], [] => 0 ≤ n ∧ n ≤ 65535 ∧ 0 ≤ need ∧ need ≤ 60000 ∧ ∀ s, 0 ≤ s → s ≤ need + 8 → K (.one (.at (vI s))) [] []
  | _, _ => False
noncomputable def aAw14 : Ann C0 := { Γ := [(34, frameT [] tNew), (59, frameT [] tUpIn), (57, frameT [] tUpDe), (49, frameT [] tSize)] }
def tAw14 : Tfm C0 := fun args H K => match args, H with
  | [], [] => K (.one (.at (vB true))) [] []
  | _, _ => False
theorem plant_free {S : Arn} {hs : List Int} {l : List Ent} {c : Nat} {i : Int} (hp : PlantR (newS c) hs l S i) : S.free = c - l.length := by
  have h1 := hp.wf.free_nonneg.2.2.2
  have h2 : S.cap = c := by unfold Arn.cap; rw [hp.len]; simp [newS]
  have h3 : (newS c).nu = 0 := by simp [Arn.nu, newS, List.countP_replicate]
  have := hp.nu
  omega
theorem plant_up {S : Arn} {l : List Ent} {c : Nat} {i : Int} (hp : PlantR (newS c) [] l S i) (asc : Asc l) (hl : l.length ≤ 60000) : ∃ t, upM S [i] t i ∧ t.list = l ∧ t.size = l.length := by
  obtain ⟨t, r1, r2, r3⟩ := hp.rep
  have sz : t.size = l.length := by rw [← t.list_len, r2]
  have rd : S.reads = 0 := by rw [hp.rds]; rfl
  exact ⟨t, ⟨hp.wf, r1, r3, by rw [r2]; exact asc, by omega, by simp, by omega⟩, r2, sz⟩
end Go.Proofs.Ytbonbaccmlomhaa.Sx
end
