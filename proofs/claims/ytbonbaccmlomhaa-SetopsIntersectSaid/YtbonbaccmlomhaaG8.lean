/- A part of the proof. -/
import Derived.Test.YtbonbaccmlomhaaG7
import Derived.Test.YtbonbaccmlomhaaG4
import Derived.Test.YtbonbaccmlomhaaG1
import Derived.Test.YtbonbaccmlomhaaG5
section
/- setops: value, cut, and the recursive operations. -/
namespace Go.Proofs.Ytbonbaccmlomhaa.Sx
open Go

/-KEEP Wf exW inU live Arn.cap Arn.free Rep Kept rdS retL Tr.size Tr.list Tr.Bal jB cB gN TrR Got OpnR flt getE Asc SetR StM CutR rdW dW chooseP cutV fUni fInt fSub fExc ltK gtK ltB gtB-/
def tVal : Tfm C0 := fun args H K => match args, H with
  | [.at (.val (.int .i64 p)), .at (.val (.int .i64 v)), .at (.val (.int .i64 w))], [] => 1 ≤ p ∧ p ≤ 5 ∧ ∀ x, x = chooseP p v w → K (.one (.at (vI x))) [] []
  | _, _ => False
noncomputable def aOneW : Ann C0 := { Γ := [(25, frameT [] tRel)] }
def tOneW : Tfm C0 := fun args H K => match args with
  | [.agg [.ptr 0 0, .val (.int .i64 _)], .at (.val (.int .u32 x))] => arM H fun S => ∃ hs, Wf S (x :: hs) ∧ ∀ S', Wf S' hs → Kept S S' → K (.one (.at (vU x))) (chS S') W7
  | _ => False
def tNoneW : Tfm C0 := fun args H K => match args with
  | [.agg [.ptr 0 0, .val (.int .i64 _)], .at (.val (.int .u32 x)), .at (.val (.int .u32 y))] => arM H fun S => ∃ hs, Wf S (x :: y :: hs) ∧ ∀ S', Wf S' hs → Kept S S' → K (.one (.at (vU 0))) (chS S') W7
  | _ => False
def tSplN : Tfm C0 := tSpl 1000000
noncomputable def aCutW : Ann C0 := { Γ := [(132, frameT [] tOpn), (136, frameT [] tSplN), (137, frameT [] tVal)] }
def tCutW : Tfm C0 := fun args H K => match args with
  | [.agg [.ptr 0 0, .val (.int .i64 p)], .at (.val (.int .u32 x)), .at (.val (.int .u32 y))] => arM H fun S => ∃ hs a k v b ty N, 1 ≤ p ∧ p ≤ 5 ∧ StM S hs (.node a k v b) ty x y N ∧
    ∀ S1 xl yl xr yr (o : Option Int) w, o = getE ty.list k → w = cutV p v o → CutR S hs a k b ty S1 xl yl xr yr → K (.tup [.at (vU xl), .at (vU yl), .agg [vI k, vI w], .at (vB o.isSome), .at (vU xr), .at (vU yr)]) (chS S1) W7
  | _ => False
/-- A recursive operation with the answer f. -/
def tWk (f : Int → Option Int → Option Int → Option Int) (n : Nat) : Tfm C0 := fun args H K => match args with
  | [.agg [.ptr 0 0, .val (.int .i64 p)], .at (.val (.int .u32 x)), .at (.val (.int .u32 y))] => arM H fun S => ∃ hs tx ty N, 1 ≤ p ∧ p ≤ 5 ∧ StM S hs tx ty x y N ∧ tx.size < n ∧
    ∀ S' i L, SetR (f p) tx.list ty.list L → TrR S hs L 65537 (rdW N tx.size) S' i → K (.one (.at (vU i))) (chS S') W7
  | _ => False
noncomputable def aWk (g : FuncId) (f : Int → Option Int → Option Int → Option Int) (n : Nat) : Ann C0 := { Γ := [(112, frameT [] tOneW), (121, frameT [] tNoneW), (113, frameT [] tCutW), (g, frameT [] (tWk f n)), (114, frameT [] tJoin), (122, frameT [] tCat)] }
def gSub : Int → Option Int → Option Int → Option Int := fun _ => fSub
def gExc : Int → Option Int → Option Int → Option Int := fun _ => fExc
theorem s_val : SoundT C0 137 tVal := by
  refine .of Try.func137 (by decide) rfl fun args H K h hB => ⟨A0, trivial, ?_⟩
  unfold tVal at h
  split at h <;> try exact h.elim
  rename_i p v w
  obtain ⟨h1, h2, h⟩ := h
  have h := h _ rfl
  refine Eq.mp (show (brS (p == 2) ((K (SV.one (TV.at (At.val (Value.int IntKind.i64 (w))))) [] [])) ((brS (p == 3) ((K (SV.one (TV.at (At.val (Value.int IntKind.i64 (IntKind.i64.wrap (v + w)))))) [] [])) ((brS (p == 4) ((K (SV.one (TV.at (At.val (Value.int IntKind.i64 (if w < v then w else v))))) [] [])) ((brS (p == 5) ((K (SV.one (TV.at (At.val (Value.int IntKind.i64 (if w > v then w else v))))) [] [])) ((K (SV.one (TV.at (At.val (Value.int IntKind.i64 (v))))) [] []))))))))) = _ by kernel_rfl) ?_
  unfold chooseP at h
  refine brS_of (fun e => ?_) fun e => brS_of (fun e1 => ?_) fun e1 => brS_of (fun e2 => ?_) fun e2 => brS_of (fun e3 => ?_) fun e3 => ?_
  all_goals simp only [beq_iff_eq, beq_eq_false_iff_ne, ne_eq] at *
  · rw [if_neg (by omega), if_pos e] at h; exact h
  · rw [if_neg (by omega), if_neg e, if_pos e1] at h; rw [show IntKind.i64.wrap (v + w) = RowKit.wrap64 (v + w) from IntWalk.i64_left _]; exact h
  · rw [if_neg (by omega), if_neg e, if_neg e1, if_pos e2] at h; exact h
  · rw [if_neg (by omega), if_neg e, if_neg e1, if_neg e2] at h; exact h
  · rw [if_pos (by omega)] at h; exact h
theorem vc_oneW (S : Arn) (p x : Int) (K : KT) (hs : List Int) (w : Wf S (x :: hs)) (h : ∀ S', Wf S' hs → Kept S S' → K (.one (.at (vU x))) (chS S') W7) :
    vc C0 aOneW Try.f112 [.agg [.ptr 0 0, vI p], .at (vU x)] (chS S) (normK 7 (wideK W7 K)) := by
  refine Eq.mp (show (∃ hs : List Int, ((Wf S (x :: hs)) ∧ (∀ S' : Arn, (∀ fr : Int, ((Wf S' hs) → ((Kept S S') → (K (SV.one (TV.at (At.val (Value.int IntKind.u32 (x))))) [(Chunk.box [(At.ptr 1 0), (At.slc 2), (At.slc 3), (At.val (Value.int IntKind.u64 (S'.reads)))]), (Chunk.box [(At.slc 4), (At.slc 5), (At.slc 6), (At.val (Value.int IntKind.u32 (S'.fresh)))]), (Chunk.row true (EC.node) (S'.nodes)), (Chunk.row true (EC.int) (S'.counts)), (Chunk.row true (EC.bool) (S'.used)), (Chunk.row true (EC.u32) (S'.gen)), (Chunk.row true (EC.u32) (S'.rel))] [0, 1, 2, 3, 4, 5, 6]))))))) = _ by kernel_rfl) ?_
  exact ⟨hs, w, fun S' _ w' k => h S' w' k⟩
theorem s_oneW : SoundT C0 112 tOneW := by
  refine .ofW W7 Try.func112 (by decide) rfl fun args H K h hB => ?_
  unfold tOneW at h
  split at h <;> try exact h.elim
  unfold arM at h
  split at h <;> try exact h.elim
  rename_i p x _ rd fr nd ct us gn rl
  obtain ⟨hs, h1, h2⟩ := h
  exact ⟨aOneW, ⟨frame C0.ok s_rel _, trivial⟩, vc_oneW ⟨us, gn, rl, fr, nd, ct, rd⟩ p x K hs h1 h2⟩
theorem vc_noneW (S : Arn) (p x y : Int) (K : KT) (hs : List Int) (w : Wf S (x :: y :: hs)) (h : ∀ S', Wf S' hs → Kept S S' → K (.one (.at (vU 0))) (chS S') W7) :
    vc C0 aOneW Try.f121 [.agg [.ptr 0 0, vI p], .at (vU x), .at (vU y)] (chS S) (normK 7 (wideK W7 K)) := by
  refine Eq.mp (show (∃ hs : List Int, ((Wf S (x :: hs)) ∧ (∀ S' : Arn, (∀ fr : Int, ((Wf S' hs) → ((Kept S S') → (∃ hs1 : List Int, ((Wf S' (y :: hs1)) ∧ (∀ S'1 : Arn, (∀ fr1 : Int, ((Wf S'1 hs1) → ((Kept S' S'1) → (K (SV.one (TV.at (At.val (Value.int IntKind.u32 0)))) [(Chunk.box [(At.ptr 1 0), (At.slc 2), (At.slc 3), (At.val (Value.int IntKind.u64 (S'1.reads)))]), (Chunk.box [(At.slc 4), (At.slc 5), (At.slc 6), (At.val (Value.int IntKind.u32 (S'1.fresh)))]), (Chunk.row true (EC.node) (S'1.nodes)), (Chunk.row true (EC.int) (S'1.counts)), (Chunk.row true (EC.bool) (S'1.used)), (Chunk.row true (EC.u32) (S'1.gen)), (Chunk.row true (EC.u32) (S'1.rel))] [0, 1, 2, 3, 4, 5, 6]))))))))))))) = _ by kernel_rfl) ?_
  exact ⟨y :: hs, w, fun S1 _ w1 k1 => ⟨hs, w1, fun S2 _ w2 k2 => h S2 w2 (k1.trans k2)⟩⟩
theorem s_noneW : SoundT C0 121 tNoneW := by
  refine .ofW W7 Try.func121 (by decide) rfl fun args H K h hB => ?_
  unfold tNoneW at h
  split at h <;> try exact h.elim
  unfold arM at h
  split at h <;> try exact h.elim
  rename_i p x y _ rd fr nd ct us gn rl
  obtain ⟨hs, h1, h2⟩ := h
  exact ⟨aOneW, ⟨frame C0.ok s_rel _, trivial⟩, vc_noneW ⟨us, gn, rl, fr, nd, ct, rd⟩ p x y K hs h1 h2⟩
theorem vc_cutW (S : Arn) (p x y : Int) (K : KT) (hs : List Int) (a : Tr) (k v : Int) (b ty : Tr) (N : Nat) (p1 : 1 ≤ p) (p2 : p ≤ 5) (st : StM S hs (.node a k v b) ty x y N)
    (h : ∀ S1 xl yl xr yr (o : Option Int) w, o = getE ty.list k → w = cutV p v o → CutR S hs a k b ty S1 xl yl xr yr → K (.tup [.at (vU xl), .at (vU yl), .agg [vI k, vI w], .at (vB o.isSome), .at (vU xr), .at (vU yr)]) (chS S1) W7) :
    vc C0 aCutW Try.f113 [.agg [.ptr 0 0, vI p], .at (vU x), .at (vU y)] (chS S) (normK 7 (wideK W7 K)) := by
  refine Eq.mp (show (∃ hs : List Int, (∃ a : Tr, (∃ k : Int, (∃ v : Int, (∃ b : Tr, ((Wf S (x :: hs)) ∧ (Rep S (a.node k v b) x) ∧ (hs.length ≤ 900000000) ∧ (S.reads ≤ 3000000000000000000) ∧ (∀ S' : Arn, (∀ l : Int, (∀ r : Int, ((OpnR S hs a k v b S' l r) → (∃ hs1 : List Int, (∃ t : Tr, ((Wf S' (y :: hs1)) ∧ (Rep S' t y) ∧ (t.Bal) ∧ (Asc t.list) ∧ (t.size < 1000000) ∧ (t.size ≤ 700000) ∧ (7 * (↑(gN (t.size + 1)) : Int) + 1 ≤ S'.free) ∧ (hs1.length + t.size ≤ 600000000) ∧ (S'.reads + (35 * (↑(gN (t.size + 1)) : Int) + 5) ≤ 1600000000000000000) ∧ (∀ S'1 : Arn, (∀ x1 : Int, (∀ y1 : Int, (∀ m : Nat, (∀ o : Option Int, ((m ≤ gN (t.size + 1) + 3 * gN ((flt (ltK k) t.list).length + 1) + 3 * gN ((flt (gtK k) t.list).length + 1) + 1) → ((Got S' hs1 m (5 * m) S'1 (x1 :: y1 :: hs1)) → ((∃ t1 : Tr, ((Rep S'1 t1 x1) ∧ ((t1.list) = (flt (ltK k) t.list)) ∧ (t1.Bal))) → ((∃ t2 : Tr, ((Rep S'1 t2 y1) ∧ ((t2.list) = (flt (gtK k) t.list)) ∧ (t2.Bal))) → (((o) = (getE t.list k)) → (brS (o.isSome) (((1 ≤ p) ∧ (p ≤ 5) ∧ (∀ x2 : Int, (((x2) = (chooseP p v (o.getD 0))) →
    (K (SV.tup [(TV.at (At.val (Value.int IntKind.u32 (l)))), (TV.at (At.val (Value.int IntKind.u32 (x1)))), (TV.agg [(At.val (Value.int IntKind.i64 (k))), (At.val (Value.int IntKind.i64 (x2)))]), (TV.at (At.val (Value.bool (o.isSome)))), (TV.at (At.val (Value.int IntKind.u32 (r)))), (TV.at (At.val (Value.int IntKind.u32 (y1))))]) [(Chunk.box [(At.ptr 1 0), (At.slc 2), (At.slc 3), (At.val (Value.int IntKind.u64 (S'1.reads)))]), (Chunk.box [(At.slc 4), (At.slc 5), (At.slc 6), (At.val (Value.int IntKind.u32 (S'1.fresh)))]), (Chunk.row true (EC.node) (S'1.nodes)), (Chunk.row true (EC.int) (S'1.counts)), (Chunk.row true (EC.bool) (S'1.used)), (Chunk.row true (EC.u32) (S'1.gen)), (Chunk.row true (EC.u32) (S'1.rel))] [0, 1, 2, 3, 4, 5, 6])))))
    ((K (SV.tup [(TV.at (At.val (Value.int IntKind.u32 (l)))), (TV.at (At.val (Value.int IntKind.u32 (x1)))), (TV.agg [(At.val (Value.int IntKind.i64 (k))), (At.val (Value.int IntKind.i64 (v)))]), (TV.at (At.val (Value.bool (o.isSome)))), (TV.at (At.val (Value.int IntKind.u32 (r)))), (TV.at (At.val (Value.int IntKind.u32 (y1))))]) [(Chunk.box [(At.ptr 1 0), (At.slc 2), (At.slc 3), (At.val (Value.int IntKind.u64 (S'1.reads)))]), (Chunk.box [(At.slc 4), (At.slc 5), (At.slc 6), (At.val (Value.int IntKind.u32 (S'1.fresh)))]), (Chunk.row true (EC.node) (S'1.nodes)), (Chunk.row true (EC.int) (S'1.counts)), (Chunk.row true (EC.bool) (S'1.used)), (Chunk.row true (EC.u32) (S'1.gen)), (Chunk.row true (EC.u32) (S'1.rel))] [0, 1, 2, 3, 4, 5, 6])))))))))))))))))))))))))) = _ by kernel_rfl) ?_
  have zz : (Tr.node a k v b).size = a.size + b.size + 1 := by simp [Tr.size]; omega
  have hl := st.hl
  have hd := st.rd
  have fr := st.free
  have gs := st.sizes
  have sz := st.sz
  have bg := st.big
  have g8 := gN_rng (N + 1)
  rw [zz] at hl hd sz
  rw [rdW_node] at hd
  unfold dW at fr
  refine ⟨y :: hs, a, k, v, b, st.wf, st.rx, by simp; omega, by omega, fun S1 xl xr o => ?_⟩
  have w1 := o.got.wf
  have ry : Rep S1 ty y := st.ry.held st.wf o.got.stay (.inr (by simp))
  have f1 := o.got.free st.wf
  have q1 := o.got.rd
  have w1' : Wf S1 (y :: xl :: xr :: hs) := w1.perm (perm_rot xl xr y hs)
  refine ⟨xl :: xr :: hs, ty, w1', ry, st.bY, st.ay, by omega, by omega, by omega, by simp; omega, by omega, fun S2 yl yr m oy hm g t1 t2 eo => ?_⟩
  have g12 : Got S hs 65537 (35 * gN (ty.size + 1) + 6) S2 (xl :: yl :: xr :: yr :: hs) := by
    have l1 := flt_two (ltB k) (gtB k) (fun x hx => by unfold ltB gtB at *; simp at *; omega) ty.list
    have e1 : (flt (ltK k) ty.list).length = (flt (ltB k) ty.list).length := rfl
    have e2 : (flt (gtK k) ty.list).length = (flt (gtB k) ty.list).length := rfl
    rw [ty.list_len] at l1
    have m1 := gN_mono (v := (flt (ltK k) ty.list).length + 1) (w := ty.size + 1) (by omega) (by omega)
    have m2 := gN_mono (v := (flt (gtK k) ty.list).length + 1) (w := ty.size + 1) (by omega) (by omega)
    refine (((o.got.seq g (h := hs) (fun _ h => by simp [h]) (fun _ h => by simp [h])).mono (m' := m) (r' := 35 * gN (ty.size + 1) + 6) (by omega) (by omega)).loose).perm ((perm_rot yl yr xl (xr :: hs)).trans (((List.Perm.swap xr yr hs).cons yl).cons xl))
  have ra : Rep S2 a xl := o.repl.held w1 g.stay (.inr (by simp))
  have rb : Rep S2 b xr := o.repr.held w1 g.stay (.inr (by simp))
  have c : CutR S hs a k b ty S2 xl yl xr yr := ⟨g12, ra, rb, t1, t2⟩
  have key : ∀ w, w = cutV p v oy → K (.tup [.at (vU xl), .at (vU yl), .agg [vI k, vI w], .at (vB oy.isSome), .at (vU xr), .at (vU yr)]) (chS S2) W7 := fun w ew => h S2 xl yl xr yr oy w eo ew c
  refine brS_of (fun d => ⟨p1, p2, fun w ew => key w ?_⟩) fun d => key v ?_
  · cases oy with
    | none => cases d
    | some u => exact ew
  · cases oy with
    | none => rfl
    | some u => cases d
theorem s_cutW : SoundT C0 113 tCutW := by
  refine .ofW W7 Try.func113 (by decide) rfl fun args H K h hB => ?_
  unfold tCutW at h
  split at h <;> try exact h.elim
  unfold arM at h
  split at h <;> try exact h.elim
  rename_i p x y _ rd fr nd ct us gn rl
  obtain ⟨hs, a, k, v, b, ty, N, h1, h2, h3, h4⟩ := h
  exact ⟨aCutW, ⟨frame C0.ok s_opn _, frame C0.ok (s_spl 1000000) _, frame C0.ok s_val _, trivial⟩, vc_cutW ⟨us, gn, rl, fr, nd, ct, rd⟩ p x y K hs a k v b ty N h1 h2 h3 h4⟩
theorem tr_self {S : Arn} {hs : List Int} {t : Tr} {i : Int} {N : Nat} (w : Wf S (i :: hs)) (r : Rep S t i) (b : t.Bal) : TrR S hs t.list 65537 N S i := ⟨(Got.refl w).mono (Nat.zero_le _) (Nat.zero_le _), t, r, rfl, b⟩
theorem rel_tr {S S' : Arn} {hs : List Int} {t : Tr} {i N : Int} {n : Nat} (w : Wf S (i :: i :: hs)) (w' : Wf S' (i :: hs)) (k : Kept S S') (r : Rep S t i) (b : t.Bal) : TrR S hs t.list 65537 n S' i := by
  have st := k.stay w w'
  exact ⟨⟨w', st.mono fun _ h => by simp [h], k.len, by have := k.nu_le; omega, by rw [k.rds]; exact Int.le_refl _, by rw [k.rds]; omega⟩, t, r.held w st (.inr (by simp)), rfl, b⟩
theorem none_tr {S S' : Arn} {hs h0 : List Int} {n : Nat} (w : Wf S h0) (w' : Wf S' hs) (k : Kept S S') (hl : hs.length ≤ 300000000) : TrR S hs [] 65537 n S' 0 :=
  ⟨⟨w'.zero_cons (by omega), k.stay w w', k.len, by have := k.nu_le; omega, by rw [k.rds]; exact Int.le_refl _, by rw [k.rds]; omega⟩, .nil, rfl, rfl, trivial⟩
theorem getE_nil (q : Int) : getE Tr.nil.list q = none := rfl
theorem vc_wUni (n : Nat) (S : Arn) (p x y : Int) (K : KT) (hs : List Int) (tx ty : Tr) (N : Nat) (p1 : 1 ≤ p) (p2 : p ≤ 5) (st : StM S hs tx ty x y N) (hf : tx.size < n + 1)
    (h : ∀ S' i L, SetR (fUni p) tx.list ty.list L → TrR S hs L 65537 (rdW N tx.size) S' i → K (.one (.at (vU i))) (chS S') W7) :
    vc C0 (aWk 73 fUni n) Try.f73 [.agg [.ptr 0 0, vI p], .at (vU x), .at (vU y)] (chS S) (normK 7 (wideK W7 K)) := by
  refine Eq.mp (show (brS (x == 0) ((K (SV.one (TV.at (At.val (Value.int IntKind.u32 (y))))) [(Chunk.box [(At.ptr 1 0), (At.slc 2), (At.slc 3), (At.val (Value.int IntKind.u64 (S.reads)))]), (Chunk.box [(At.slc 4), (At.slc 5), (At.slc 6), (At.val (Value.int IntKind.u32 (S.fresh)))]), (Chunk.row true (EC.node) (S.nodes)), (Chunk.row true (EC.int) (S.counts)), (Chunk.row true (EC.bool) (S.used)), (Chunk.row true (EC.u32) (S.gen)), (Chunk.row true (EC.u32) (S.rel))] [0, 1, 2, 3, 4, 5, 6])) ((brS (y == 0) ((K (SV.one (TV.at (At.val (Value.int IntKind.u32 (x))))) [(Chunk.box [(At.ptr 1 0), (At.slc 2), (At.slc 3), (At.val (Value.int IntKind.u64 (S.reads)))]), (Chunk.box [(At.slc 4), (At.slc 5), (At.slc 6), (At.val (Value.int IntKind.u32 (S.fresh)))]), (Chunk.row true (EC.node) (S.nodes)), (Chunk.row true (EC.int) (S.counts)), (Chunk.row true (EC.bool) (S.used)), (Chunk.row true (EC.u32) (S.gen)), (Chunk.row true (EC.u32) (S.rel))] [0, 1, 2, 3, 4, 5, 6])) ((brS (x == y) ((brS (p != 3) ((∃ hs : List Int, ((Wf S (x :: hs)) ∧ (∀ S' : Arn, ((Wf S' hs) → ((Kept S S') →
    (K (SV.one (TV.at (At.val (Value.int IntKind.u32 (x))))) [(Chunk.box [(At.ptr 1 0), (At.slc 2), (At.slc 3), (At.val (Value.int IntKind.u64 (S'.reads)))]), (Chunk.box [(At.slc 4), (At.slc 5), (At.slc 6), (At.val (Value.int IntKind.u32 (S'.fresh)))]), (Chunk.row true (EC.node) (S'.nodes)), (Chunk.row true (EC.int) (S'.counts)), (Chunk.row true (EC.bool) (S'.used)), (Chunk.row true (EC.u32) (S'.gen)), (Chunk.row true (EC.u32) (S'.rel))] [0, 1, 2, 3, 4, 5, 6]))))))) ((∃ hs : List Int, (∃ a : Tr, (∃ k : Int, (∃ v : Int, (∃ b : Tr, (∃ ty : Tr, (∃ N : Nat, ((1 ≤ p) ∧ (p ≤ 5) ∧ (StM S hs (a.node k v b) ty x y N) ∧ (∀ S1 : Arn, (∀ xl : Int, (∀ yl : Int, (∀ xr : Int, (∀ yr : Int, (∀ o : Option Int, (∀ w : Int, (((o) = (getE ty.list k)) → (((w) = (cutV p v o)) → ((CutR S hs a k b ty S1 xl yl xr yr) → (∃ hs1 : List Int, (∃ tx : Tr, (∃ ty1 : Tr, (∃ N1 : Nat, ((1 ≤ p) ∧ (p ≤ 5) ∧ (StM S1 hs1 tx ty1 xl yl N1) ∧ (tx.size < n) ∧ (∀ S' : Arn, (∀ i : Int, (∀ L : List Ent, ((SetR (fUni p) tx.list ty1.list L) → ((TrR S1 hs1 L 65537 (rdW N1 tx.size) S' i) → (((∃ hs2 : List Int, (∃ tx1 : Tr, (∃ ty2 : Tr, (∃ N2 : Nat, ((1 ≤ p) ∧ (p ≤ 5) ∧ (StM S' hs2 tx1 ty2 xr yr N2) ∧ (tx1.size < n) ∧ (∀ S'1 : Arn, (∀ i1 : Int, (∀ L1 : List Ent, ((SetR (fUni p) tx1.list ty2.list L1) → ((TrR S' hs2 L1 65537 (rdW N2 tx1.size) S'1 i1) → (∃ hs3 : List Int, (∃ ta : Tr, (∃ tb : Tr, ((Wf S'1 (i :: i1 :: hs3)) ∧ (Rep S'1 ta i) ∧ (Rep S'1 tb i1) ∧ (ta.Bal) ∧ (tb.Bal) ∧ (ta.size + tb.size ≤ 900000) ∧
    ((↑(jB ta.size tb.size) : Int) ≤ S'1.free) ∧ (hs3.length ≤ 700000000) ∧ (S'1.reads + 5 * (↑(jB ta.size tb.size) : Int) ≤ 1800000000000000000) ∧ (∀ S'2 : Arn, (∀ i2 : Int, ((TrR S'1 hs3 (ta.list ++ (k, w) :: tb.list) (jB ta.size tb.size) (4 * jB ta.size tb.size) S'2 i2) → (((((↑ta.size : Int) + 1 ≤ 3 * ((↑tb.size : Int) + 1)) ∧ ((↑tb.size : Int) + 1 ≤ 3 * ((↑ta.size : Int) + 1))) → ((((S'2.nd i2).left) = (i)) ∧ (((S'2.nd i2).right) = (i1)) ∧ ((S'2.nu) = (S'1.nu + 1)))) → (K (SV.one (TV.at (At.val (Value.int IntKind.u32 (i2))))) [(Chunk.box [(At.ptr 1 0), (At.slc 2), (At.slc 3), (At.val (Value.int IntKind.u64 (S'2.reads)))]), (Chunk.box [(At.slc 4), (At.slc 5), (At.slc 6), (At.val (Value.int IntKind.u32 (S'2.fresh)))]), (Chunk.row true (EC.node) (S'2.nodes)), (Chunk.row true (EC.int) (S'2.counts)), (Chunk.row true (EC.bool) (S'2.used)), (Chunk.row true (EC.u32) (S'2.gen)), (Chunk.row true (EC.u32) (S'2.rel))] [0, 1, 2, 3, 4, 5, 6]))))))))))))))))))) ∧ (∃ hs2 : List Int, (∃ tx1 : Tr, (∃ ty2 : Tr, (∃ N2 : Nat, ((1 ≤ p) ∧ (p ≤ 5) ∧ (StM S' hs2 tx1 ty2 xr yr N2) ∧ (tx1.size < n) ∧ (∀ S'1 : Arn, (∀ i1 : Int, (∀ L1 : List Ent, ((SetR (fUni p) tx1.list ty2.list L1) → ((TrR S' hs2 L1 65537 (rdW N2 tx1.size) S'1 i1) → (∃ hs3 : List Int, (∃ ta : Tr, (∃ tb : Tr, ((Wf S'1 (i :: i1 :: hs3)) ∧ (Rep S'1 ta i) ∧ (Rep S'1 tb i1) ∧ (ta.Bal) ∧ (tb.Bal) ∧ (ta.size + tb.size ≤ 900000) ∧ ((↑(jB ta.size tb.size) : Int) ≤ S'1.free) ∧ (hs3.length ≤ 700000000) ∧
    (S'1.reads + 5 * (↑(jB ta.size tb.size) : Int) ≤ 1800000000000000000) ∧ (∀ S'2 : Arn, (∀ i2 : Int, ((TrR S'1 hs3 (ta.list ++ (k, w) :: tb.list) (jB ta.size tb.size) (4 * jB ta.size tb.size) S'2 i2) → (((((↑ta.size : Int) + 1 ≤ 3 * ((↑tb.size : Int) + 1)) ∧ ((↑tb.size : Int) + 1 ≤ 3 * ((↑ta.size : Int) + 1))) → ((((S'2.nd i2).left) = (i)) ∧ (((S'2.nd i2).right) = (i1)) ∧ ((S'2.nu) = (S'1.nu + 1)))) → (K (SV.one (TV.at (At.val (Value.int IntKind.u32 (i2))))) [(Chunk.box [(At.ptr 1 0), (At.slc 2), (At.slc 3), (At.val (Value.int IntKind.u64 (S'2.reads)))]), (Chunk.box [(At.slc 4), (At.slc 5), (At.slc 6), (At.val (Value.int IntKind.u32 (S'2.fresh)))]), (Chunk.row true (EC.node) (S'2.nodes)), (Chunk.row true (EC.int) (S'2.counts)), (Chunk.row true (EC.bool) (S'2.used)), (Chunk.row true (EC.u32) (S'2.gen)), (Chunk.row true (EC.u32) (S'2.rel))] [0, 1, 2, 3, 4, 5, 6]))))))))))))))))))) ∧ (∃ hs2 : List Int, (∃ tx1 : Tr, (∃ ty2 : Tr, (∃ N2 : Nat, ((1 ≤ p) ∧ (p ≤ 5) ∧ (StM S' hs2 tx1 ty2 xr yr N2) ∧ (tx1.size < n) ∧ (∀ S'1 : Arn, (∀ i1 : Int, (∀ L1 : List Ent, ((SetR (fUni p) tx1.list ty2.list L1) → ((TrR S' hs2 L1 65537 (rdW N2 tx1.size) S'1 i1) → (∃ hs3 : List Int, (∃ ta : Tr, (∃ tb : Tr, ((Wf S'1 (i :: i1 :: hs3)) ∧ (Rep S'1 ta i) ∧ (Rep S'1 tb i1) ∧ (ta.Bal) ∧ (tb.Bal) ∧ (ta.size + tb.size ≤ 900000) ∧ ((↑(jB ta.size tb.size) : Int) ≤ S'1.free) ∧ (hs3.length ≤ 700000000) ∧ (S'1.reads + 5 * (↑(jB ta.size tb.size) : Int) ≤ 1800000000000000000) ∧ (∀ S'2 : Arn, (∀ i2 : Int,
    ((TrR S'1 hs3 (ta.list ++ (k, w) :: tb.list) (jB ta.size tb.size) (4 * jB ta.size tb.size) S'2 i2) → (((((↑ta.size : Int) + 1 ≤ 3 * ((↑tb.size : Int) + 1)) ∧ ((↑tb.size : Int) + 1 ≤ 3 * ((↑ta.size : Int) + 1))) → ((((S'2.nd i2).left) = (i)) ∧ (((S'2.nd i2).right) = (i1)) ∧ ((S'2.nu) = (S'1.nu + 1)))) → (K (SV.one (TV.at (At.val (Value.int IntKind.u32 (i2))))) [(Chunk.box [(At.ptr 1 0), (At.slc 2), (At.slc 3), (At.val (Value.int IntKind.u64 (S'2.reads)))]), (Chunk.box [(At.slc 4), (At.slc 5), (At.slc 6), (At.val (Value.int IntKind.u32 (S'2.fresh)))]), (Chunk.row true (EC.node) (S'2.nodes)), (Chunk.row true (EC.int) (S'2.counts)), (Chunk.row true (EC.bool) (S'2.used)), (Chunk.row true (EC.u32) (S'2.gen)), (Chunk.row true (EC.u32) (S'2.rel))] [0, 1, 2, 3, 4, 5, 6])))))))))))))))))))) ∧ ((∃ hs2 : List Int, (∃ tx1 : Tr, (∃ ty2 : Tr, (∃ N2 : Nat, ((1 ≤ p) ∧ (p ≤ 5) ∧ (StM S' hs2 tx1 ty2 xr yr N2) ∧ (tx1.size < n) ∧ (∀ S'1 : Arn, (∀ i1 : Int, (∀ L1 : List Ent, ((SetR (fUni p) tx1.list ty2.list L1) → ((TrR S' hs2 L1 65537 (rdW N2 tx1.size) S'1 i1) → (∃ hs3 : List Int, (∃ ta : Tr, (∃ tb : Tr, ((Wf S'1 (i :: i1 :: hs3)) ∧ (Rep S'1 ta i) ∧ (Rep S'1 tb i1) ∧ (ta.Bal) ∧ (tb.Bal) ∧ (ta.size + tb.size ≤ 900000) ∧ ((↑(jB ta.size tb.size) : Int) ≤ S'1.free) ∧ (hs3.length ≤ 700000000) ∧ (S'1.reads + 5 * (↑(jB ta.size tb.size) : Int) ≤ 1800000000000000000) ∧ (∀ S'2 : Arn, (∀ i2 : Int, ((TrR S'1 hs3 (ta.list ++ (k, w) :: tb.list) (jB ta.size tb.size) (4 * jB ta.size tb.size) S'2 i2) →
    (((((↑ta.size : Int) + 1 ≤ 3 * ((↑tb.size : Int) + 1)) ∧ ((↑tb.size : Int) + 1 ≤ 3 * ((↑ta.size : Int) + 1))) → ((((S'2.nd i2).left) = (i)) ∧ (((S'2.nd i2).right) = (i1)) ∧ ((S'2.nu) = (S'1.nu + 1)))) → (K (SV.one (TV.at (At.val (Value.int IntKind.u32 (i2))))) [(Chunk.box [(At.ptr 1 0), (At.slc 2), (At.slc 3), (At.val (Value.int IntKind.u64 (S'2.reads)))]), (Chunk.box [(At.slc 4), (At.slc 5), (At.slc 6), (At.val (Value.int IntKind.u32 (S'2.fresh)))]), (Chunk.row true (EC.node) (S'2.nodes)), (Chunk.row true (EC.int) (S'2.counts)), (Chunk.row true (EC.bool) (S'2.used)), (Chunk.row true (EC.u32) (S'2.gen)), (Chunk.row true (EC.u32) (S'2.rel))] [0, 1, 2, 3, 4, 5, 6]))))))))))))))))))) ∧ (∃ hs2 : List Int, (∃ tx1 : Tr, (∃ ty2 : Tr, (∃ N2 : Nat, ((1 ≤ p) ∧ (p ≤ 5) ∧ (StM S' hs2 tx1 ty2 xr yr N2) ∧ (tx1.size < n) ∧ (∀ S'1 : Arn, (∀ i1 : Int, (∀ L1 : List Ent, ((SetR (fUni p) tx1.list ty2.list L1) → ((TrR S' hs2 L1 65537 (rdW N2 tx1.size) S'1 i1) → (∃ hs3 : List Int, (∃ ta : Tr, (∃ tb : Tr, ((Wf S'1 (i :: i1 :: hs3)) ∧ (Rep S'1 ta i) ∧ (Rep S'1 tb i1) ∧ (ta.Bal) ∧ (tb.Bal) ∧ (ta.size + tb.size ≤ 900000) ∧ ((↑(jB ta.size tb.size) : Int) ≤ S'1.free) ∧ (hs3.length ≤ 700000000) ∧ (S'1.reads + 5 * (↑(jB ta.size tb.size) : Int) ≤ 1800000000000000000) ∧ (∀ S'2 : Arn, (∀ i2 : Int, ((TrR S'1 hs3 (ta.list ++ (k, w) :: tb.list) (jB ta.size tb.size) (4 * jB ta.size tb.size) S'2 i2) → (((((↑ta.size : Int) + 1 ≤ 3 * ((↑tb.size : Int) + 1)) ∧ ((↑tb.size : Int) + 1 ≤ 3 * ((↑ta.size : Int) + 1))) →
    ((((S'2.nd i2).left) = (i)) ∧ (((S'2.nd i2).right) = (i1)) ∧ ((S'2.nu) = (S'1.nu + 1)))) → (K (SV.one (TV.at (At.val (Value.int IntKind.u32 (i2))))) [(Chunk.box [(At.ptr 1 0), (At.slc 2), (At.slc 3), (At.val (Value.int IntKind.u64 (S'2.reads)))]), (Chunk.box [(At.slc 4), (At.slc 5), (At.slc 6), (At.val (Value.int IntKind.u32 (S'2.fresh)))]), (Chunk.row true (EC.node) (S'2.nodes)), (Chunk.row true (EC.int) (S'2.counts)), (Chunk.row true (EC.bool) (S'2.used)), (Chunk.row true (EC.u32) (S'2.gen)), (Chunk.row true (EC.u32) (S'2.rel))] [0, 1, 2, 3, 4, 5, 6]))))))))))))))))))) ∧ (∃ hs2 : List Int, (∃ tx1 : Tr, (∃ ty2 : Tr, (∃ N2 : Nat, ((1 ≤ p) ∧ (p ≤ 5) ∧ (StM S' hs2 tx1 ty2 xr yr N2) ∧ (tx1.size < n) ∧ (∀ S'1 : Arn, (∀ i1 : Int, (∀ L1 : List Ent, ((SetR (fUni p) tx1.list ty2.list L1) → ((TrR S' hs2 L1 65537 (rdW N2 tx1.size) S'1 i1) → (∃ hs3 : List Int, (∃ ta : Tr, (∃ tb : Tr, ((Wf S'1 (i :: i1 :: hs3)) ∧ (Rep S'1 ta i) ∧ (Rep S'1 tb i1) ∧ (ta.Bal) ∧ (tb.Bal) ∧ (ta.size + tb.size ≤ 900000) ∧ ((↑(jB ta.size tb.size) : Int) ≤ S'1.free) ∧ (hs3.length ≤ 700000000) ∧ (S'1.reads + 5 * (↑(jB ta.size tb.size) : Int) ≤ 1800000000000000000) ∧ (∀ S'2 : Arn, (∀ i2 : Int, ((TrR S'1 hs3 (ta.list ++ (k, w) :: tb.list) (jB ta.size tb.size) (4 * jB ta.size tb.size) S'2 i2) → (((((↑ta.size : Int) + 1 ≤ 3 * ((↑tb.size : Int) + 1)) ∧ ((↑tb.size : Int) + 1 ≤ 3 * ((↑ta.size : Int) + 1))) → ((((S'2.nd i2).left) = (i)) ∧ (((S'2.nd i2).right) = (i1)) ∧ ((S'2.nu) = (S'1.nu + 1)))) →
    (K (SV.one (TV.at (At.val (Value.int IntKind.u32 (i2))))) [(Chunk.box [(At.ptr 1 0), (At.slc 2), (At.slc 3), (At.val (Value.int IntKind.u64 (S'2.reads)))]), (Chunk.box [(At.slc 4), (At.slc 5), (At.slc 6), (At.val (Value.int IntKind.u32 (S'2.fresh)))]), (Chunk.row true (EC.node) (S'2.nodes)), (Chunk.row true (EC.int) (S'2.counts)), (Chunk.row true (EC.bool) (S'2.used)), (Chunk.row true (EC.u32) (S'2.gen)), (Chunk.row true (EC.u32) (S'2.rel))] [0, 1, 2, 3, 4, 5, 6])))))))))))))))))))) ∧ ((∃ hs2 : List Int, (∃ tx1 : Tr, (∃ ty2 : Tr, (∃ N2 : Nat, ((1 ≤ p) ∧ (p ≤ 5) ∧ (StM S' hs2 tx1 ty2 xr yr N2) ∧ (tx1.size < n) ∧ (∀ S'1 : Arn, (∀ i1 : Int, (∀ L1 : List Ent, ((SetR (fUni p) tx1.list ty2.list L1) → ((TrR S' hs2 L1 65537 (rdW N2 tx1.size) S'1 i1) → (∃ hs3 : List Int, (∃ ta : Tr, (∃ tb : Tr, ((Wf S'1 (i :: i1 :: hs3)) ∧ (Rep S'1 ta i) ∧ (Rep S'1 tb i1) ∧ (ta.Bal) ∧ (tb.Bal) ∧ (ta.size + tb.size ≤ 900000) ∧ ((↑(jB ta.size tb.size) : Int) ≤ S'1.free) ∧ (hs3.length ≤ 700000000) ∧ (S'1.reads + 5 * (↑(jB ta.size tb.size) : Int) ≤ 1800000000000000000) ∧ (∀ S'2 : Arn, (∀ i2 : Int, ((TrR S'1 hs3 (ta.list ++ (k, w) :: tb.list) (jB ta.size tb.size) (4 * jB ta.size tb.size) S'2 i2) → (((((↑ta.size : Int) + 1 ≤ 3 * ((↑tb.size : Int) + 1)) ∧ ((↑tb.size : Int) + 1 ≤ 3 * ((↑ta.size : Int) + 1))) → ((((S'2.nd i2).left) = (i)) ∧ (((S'2.nd i2).right) = (i1)) ∧ ((S'2.nu) = (S'1.nu + 1)))) →
    (K (SV.one (TV.at (At.val (Value.int IntKind.u32 (i2))))) [(Chunk.box [(At.ptr 1 0), (At.slc 2), (At.slc 3), (At.val (Value.int IntKind.u64 (S'2.reads)))]), (Chunk.box [(At.slc 4), (At.slc 5), (At.slc 6), (At.val (Value.int IntKind.u32 (S'2.fresh)))]), (Chunk.row true (EC.node) (S'2.nodes)), (Chunk.row true (EC.int) (S'2.counts)), (Chunk.row true (EC.bool) (S'2.used)), (Chunk.row true (EC.u32) (S'2.gen)), (Chunk.row true (EC.u32) (S'2.rel))] [0, 1, 2, 3, 4, 5, 6]))))))))))))))))))) ∧ (∃ hs2 : List Int, (∃ tx1 : Tr, (∃ ty2 : Tr, (∃ N2 : Nat, ((1 ≤ p) ∧ (p ≤ 5) ∧ (StM S' hs2 tx1 ty2 xr yr N2) ∧ (tx1.size < n) ∧ (∀ S'1 : Arn, (∀ i1 : Int, (∀ L1 : List Ent, ((SetR (fUni p) tx1.list ty2.list L1) → ((TrR S' hs2 L1 65537 (rdW N2 tx1.size) S'1 i1) → (∃ hs3 : List Int, (∃ ta : Tr, (∃ tb : Tr, ((Wf S'1 (i :: i1 :: hs3)) ∧ (Rep S'1 ta i) ∧ (Rep S'1 tb i1) ∧ (ta.Bal) ∧ (tb.Bal) ∧ (ta.size + tb.size ≤ 900000) ∧ ((↑(jB ta.size tb.size) : Int) ≤ S'1.free) ∧ (hs3.length ≤ 700000000) ∧ (S'1.reads + 5 * (↑(jB ta.size tb.size) : Int) ≤ 1800000000000000000) ∧ (∀ S'2 : Arn, (∀ i2 : Int, ((TrR S'1 hs3 (ta.list ++ (k, w) :: tb.list) (jB ta.size tb.size) (4 * jB ta.size tb.size) S'2 i2) → (((((↑ta.size : Int) + 1 ≤ 3 * ((↑tb.size : Int) + 1)) ∧ ((↑tb.size : Int) + 1 ≤ 3 * ((↑ta.size : Int) + 1))) → ((((S'2.nd i2).left) = (i)) ∧ (((S'2.nd i2).right) = (i1)) ∧ ((S'2.nu) = (S'1.nu + 1)))) →
    (K (SV.one (TV.at (At.val (Value.int IntKind.u32 (i2))))) [(Chunk.box [(At.ptr 1 0), (At.slc 2), (At.slc 3), (At.val (Value.int IntKind.u64 (S'2.reads)))]), (Chunk.box [(At.slc 4), (At.slc 5), (At.slc 6), (At.val (Value.int IntKind.u32 (S'2.fresh)))]), (Chunk.row true (EC.node) (S'2.nodes)), (Chunk.row true (EC.int) (S'2.counts)), (Chunk.row true (EC.bool) (S'2.used)), (Chunk.row true (EC.u32) (S'2.gen)), (Chunk.row true (EC.u32) (S'2.rel))] [0, 1, 2, 3, 4, 5, 6])))))))))))))))))))) ∧ ((∃ hs2 : List Int, (∃ tx1 : Tr, (∃ ty2 : Tr, (∃ N2 : Nat, ((1 ≤ p) ∧ (p ≤ 5) ∧ (StM S' hs2 tx1 ty2 xr yr N2) ∧ (tx1.size < n) ∧ (∀ S'1 : Arn, (∀ i1 : Int, (∀ L1 : List Ent, ((SetR (fUni p) tx1.list ty2.list L1) → ((TrR S' hs2 L1 65537 (rdW N2 tx1.size) S'1 i1) → (∃ hs3 : List Int, (∃ ta : Tr, (∃ tb : Tr, ((Wf S'1 (i :: i1 :: hs3)) ∧ (Rep S'1 ta i) ∧ (Rep S'1 tb i1) ∧ (ta.Bal) ∧ (tb.Bal) ∧ (ta.size + tb.size ≤ 900000) ∧ ((↑(jB ta.size tb.size) : Int) ≤ S'1.free) ∧ (hs3.length ≤ 700000000) ∧ (S'1.reads + 5 * (↑(jB ta.size tb.size) : Int) ≤ 1800000000000000000) ∧ (∀ S'2 : Arn, (∀ i2 : Int, ((TrR S'1 hs3 (ta.list ++ (k, w) :: tb.list) (jB ta.size tb.size) (4 * jB ta.size tb.size) S'2 i2) → (((((↑ta.size : Int) + 1 ≤ 3 * ((↑tb.size : Int) + 1)) ∧ ((↑tb.size : Int) + 1 ≤ 3 * ((↑ta.size : Int) + 1))) → ((((S'2.nd i2).left) = (i)) ∧ (((S'2.nd i2).right) = (i1)) ∧ ((S'2.nu) = (S'1.nu + 1)))) →
    (K (SV.one (TV.at (At.val (Value.int IntKind.u32 (i2))))) [(Chunk.box [(At.ptr 1 0), (At.slc 2), (At.slc 3), (At.val (Value.int IntKind.u64 (S'2.reads)))]), (Chunk.box [(At.slc 4), (At.slc 5), (At.slc 6), (At.val (Value.int IntKind.u32 (S'2.fresh)))]), (Chunk.row true (EC.node) (S'2.nodes)), (Chunk.row true (EC.int) (S'2.counts)), (Chunk.row true (EC.bool) (S'2.used)), (Chunk.row true (EC.u32) (S'2.gen)), (Chunk.row true (EC.u32) (S'2.rel))] [0, 1, 2, 3, 4, 5, 6]))))))))))))))))))) ∧ (∃ hs2 : List Int, (∃ tx1 : Tr, (∃ ty2 : Tr, (∃ N2 : Nat, ((1 ≤ p) ∧ (p ≤ 5) ∧ (StM S' hs2 tx1 ty2 xr yr N2) ∧ (tx1.size < n) ∧ (∀ S'1 : Arn, (∀ i1 : Int, (∀ L1 : List Ent, ((SetR (fUni p) tx1.list ty2.list L1) → ((TrR S' hs2 L1 65537 (rdW N2 tx1.size) S'1 i1) → (∃ hs3 : List Int, (∃ ta : Tr, (∃ tb : Tr, ((Wf S'1 (i :: i1 :: hs3)) ∧ (Rep S'1 ta i) ∧ (Rep S'1 tb i1) ∧ (ta.Bal) ∧ (tb.Bal) ∧ (ta.size + tb.size ≤ 900000) ∧ ((↑(jB ta.size tb.size) : Int) ≤ S'1.free) ∧ (hs3.length ≤ 700000000) ∧ (S'1.reads + 5 * (↑(jB ta.size tb.size) : Int) ≤ 1800000000000000000) ∧ (∀ S'2 : Arn, (∀ i2 : Int, ((TrR S'1 hs3 (ta.list ++ (k, w) :: tb.list) (jB ta.size tb.size) (4 * jB ta.size tb.size) S'2 i2) → (((((↑ta.size : Int) + 1 ≤ 3 * ((↑tb.size : Int) + 1)) ∧ ((↑tb.size : Int) + 1 ≤ 3 * ((↑ta.size : Int) + 1))) → ((((S'2.nd i2).left) = (i)) ∧ (((S'2.nd i2).right) = (i1)) ∧ ((S'2.nu) = (S'1.nu + 1)))) →
    (K (SV.one (TV.at (At.val (Value.int IntKind.u32 (i2))))) [(Chunk.box [(At.ptr 1 0), (At.slc 2), (At.slc 3), (At.val (Value.int IntKind.u64 (S'2.reads)))]), (Chunk.box [(At.slc 4), (At.slc 5), (At.slc 6), (At.val (Value.int IntKind.u32 (S'2.fresh)))]), (Chunk.row true (EC.node) (S'2.nodes)), (Chunk.row true (EC.int) (S'2.counts)), (Chunk.row true (EC.bool) (S'2.used)), (Chunk.row true (EC.u32) (S'2.gen)), (Chunk.row true (EC.u32) (S'2.rel))] [0, 1, 2, 3, 4, 5, 6])))))))))))))))))))) ∧ (∃ hs2 : List Int, (∃ tx1 : Tr, (∃ ty2 : Tr, (∃ N2 : Nat, ((1 ≤ p) ∧ (p ≤ 5) ∧ (StM S' hs2 tx1 ty2 xr yr N2) ∧ (tx1.size < n) ∧ (∀ S'1 : Arn, (∀ i1 : Int, (∀ L1 : List Ent, ((SetR (fUni p) tx1.list ty2.list L1) → ((TrR S' hs2 L1 65537 (rdW N2 tx1.size) S'1 i1) → ((∃ hs3 : List Int, (∃ ta : Tr, (∃ tb : Tr, ((Wf S'1 (i :: i1 :: hs3)) ∧ (Rep S'1 ta i) ∧ (Rep S'1 tb i1) ∧ (ta.Bal) ∧ (tb.Bal) ∧ (ta.size + tb.size ≤ 900000) ∧ ((↑(jB ta.size tb.size) : Int) ≤ S'1.free) ∧ (hs3.length ≤ 700000000) ∧ (S'1.reads + 5 * (↑(jB ta.size tb.size) : Int) ≤ 1800000000000000000) ∧ (∀ S'2 : Arn, (∀ i2 : Int, ((TrR S'1 hs3 (ta.list ++ (k, w) :: tb.list) (jB ta.size tb.size) (4 * jB ta.size tb.size) S'2 i2) → (((((↑ta.size : Int) + 1 ≤ 3 * ((↑tb.size : Int) + 1)) ∧ ((↑tb.size : Int) + 1 ≤ 3 * ((↑ta.size : Int) + 1))) → ((((S'2.nd i2).left) = (i)) ∧ (((S'2.nd i2).right) = (i1)) ∧ ((S'2.nu) = (S'1.nu + 1)))) →
    (K (SV.one (TV.at (At.val (Value.int IntKind.u32 (i2))))) [(Chunk.box [(At.ptr 1 0), (At.slc 2), (At.slc 3), (At.val (Value.int IntKind.u64 (S'2.reads)))]), (Chunk.box [(At.slc 4), (At.slc 5), (At.slc 6), (At.val (Value.int IntKind.u32 (S'2.fresh)))]), (Chunk.row true (EC.node) (S'2.nodes)), (Chunk.row true (EC.int) (S'2.counts)), (Chunk.row true (EC.bool) (S'2.used)), (Chunk.row true (EC.u32) (S'2.gen)), (Chunk.row true (EC.u32) (S'2.rel))] [0, 1, 2, 3, 4, 5, 6]))))))))) ∧ (∃ hs3 : List Int, (∃ ta : Tr, (∃ tb : Tr, ((Wf S'1 (i :: i1 :: hs3)) ∧ (Rep S'1 ta i) ∧ (Rep S'1 tb i1) ∧ (ta.Bal) ∧ (tb.Bal) ∧ (ta.size + tb.size ≤ 900000) ∧ ((↑(jB ta.size tb.size) : Int) ≤ S'1.free) ∧ (hs3.length ≤ 700000000) ∧ (S'1.reads + 5 * (↑(jB ta.size tb.size) : Int) ≤ 1800000000000000000) ∧ (∀ S'2 : Arn, (∀ i2 : Int, ((TrR S'1 hs3 (ta.list ++ (k, w) :: tb.list) (jB ta.size tb.size) (4 * jB ta.size tb.size) S'2 i2) → (((((↑ta.size : Int) + 1 ≤ 3 * ((↑tb.size : Int) + 1)) ∧ ((↑tb.size : Int) + 1 ≤ 3 * ((↑ta.size : Int) + 1))) → ((((S'2.nd i2).left) = (i)) ∧ (((S'2.nd i2).right) = (i1)) ∧ ((S'2.nu) = (S'1.nu + 1)))) →
    (K (SV.one (TV.at (At.val (Value.int IntKind.u32 (i2))))) [(Chunk.box [(At.ptr 1 0), (At.slc 2), (At.slc 3), (At.val (Value.int IntKind.u64 (S'2.reads)))]), (Chunk.box [(At.slc 4), (At.slc 5), (At.slc 6), (At.val (Value.int IntKind.u32 (S'2.fresh)))]), (Chunk.row true (EC.node) (S'2.nodes)), (Chunk.row true (EC.int) (S'2.counts)), (Chunk.row true (EC.bool) (S'2.used)), (Chunk.row true (EC.u32) (S'2.gen)), (Chunk.row true (EC.u32) (S'2.rel))] [0, 1, 2, 3, 4, 5, 6])))))))))))))))))))))))))))))))))))))))))))))))))))) ((∃ hs : List Int, (∃ a : Tr, (∃ k : Int, (∃ v : Int, (∃ b : Tr, (∃ ty : Tr, (∃ N : Nat, ((1 ≤ p) ∧ (p ≤ 5) ∧ (StM S hs (a.node k v b) ty x y N) ∧ (∀ S1 : Arn, (∀ xl : Int, (∀ yl : Int, (∀ xr : Int, (∀ yr : Int, (∀ o : Option Int, (∀ w : Int, (((o) = (getE ty.list k)) → (((w) = (cutV p v o)) → ((CutR S hs a k b ty S1 xl yl xr yr) → (∃ hs1 : List Int, (∃ tx : Tr, (∃ ty1 : Tr, (∃ N1 : Nat, ((1 ≤ p) ∧ (p ≤ 5) ∧ (StM S1 hs1 tx ty1 xl yl N1) ∧ (tx.size < n) ∧ (∀ S' : Arn, (∀ i : Int, (∀ L : List Ent, ((SetR (fUni p) tx.list ty1.list L) → ((TrR S1 hs1 L 65537 (rdW N1 tx.size) S' i) → (((∃ hs2 : List Int, (∃ tx1 : Tr, (∃ ty2 : Tr, (∃ N2 : Nat, ((1 ≤ p) ∧ (p ≤ 5) ∧ (StM S' hs2 tx1 ty2 xr yr N2) ∧ (tx1.size < n) ∧ (∀ S'1 : Arn, (∀ i1 : Int, (∀ L1 : List Ent, ((SetR (fUni p) tx1.list ty2.list L1) → ((TrR S' hs2 L1 65537 (rdW N2 tx1.size) S'1 i1) → (∃ hs3 : List Int, (∃ ta : Tr, (∃ tb : Tr, ((Wf S'1 (i :: i1 :: hs3)) ∧ (Rep S'1 ta i) ∧ (Rep S'1 tb i1) ∧ (ta.Bal) ∧ (tb.Bal) ∧
    (ta.size + tb.size ≤ 900000) ∧ ((↑(jB ta.size tb.size) : Int) ≤ S'1.free) ∧ (hs3.length ≤ 700000000) ∧ (S'1.reads + 5 * (↑(jB ta.size tb.size) : Int) ≤ 1800000000000000000) ∧ (∀ S'2 : Arn, (∀ i2 : Int, ((TrR S'1 hs3 (ta.list ++ (k, w) :: tb.list) (jB ta.size tb.size) (4 * jB ta.size tb.size) S'2 i2) → (((((↑ta.size : Int) + 1 ≤ 3 * ((↑tb.size : Int) + 1)) ∧ ((↑tb.size : Int) + 1 ≤ 3 * ((↑ta.size : Int) + 1))) → ((((S'2.nd i2).left) = (i)) ∧ (((S'2.nd i2).right) = (i1)) ∧ ((S'2.nu) = (S'1.nu + 1)))) → (K (SV.one (TV.at (At.val (Value.int IntKind.u32 (i2))))) [(Chunk.box [(At.ptr 1 0), (At.slc 2), (At.slc 3), (At.val (Value.int IntKind.u64 (S'2.reads)))]), (Chunk.box [(At.slc 4), (At.slc 5), (At.slc 6), (At.val (Value.int IntKind.u32 (S'2.fresh)))]), (Chunk.row true (EC.node) (S'2.nodes)), (Chunk.row true (EC.int) (S'2.counts)), (Chunk.row true (EC.bool) (S'2.used)), (Chunk.row true (EC.u32) (S'2.gen)), (Chunk.row true (EC.u32) (S'2.rel))] [0, 1, 2, 3, 4, 5, 6]))))))))))))))))))) ∧ (∃ hs2 : List Int, (∃ tx1 : Tr, (∃ ty2 : Tr, (∃ N2 : Nat, ((1 ≤ p) ∧ (p ≤ 5) ∧ (StM S' hs2 tx1 ty2 xr yr N2) ∧ (tx1.size < n) ∧ (∀ S'1 : Arn, (∀ i1 : Int, (∀ L1 : List Ent, ((SetR (fUni p) tx1.list ty2.list L1) → ((TrR S' hs2 L1 65537 (rdW N2 tx1.size) S'1 i1) → (∃ hs3 : List Int, (∃ ta : Tr, (∃ tb : Tr, ((Wf S'1 (i :: i1 :: hs3)) ∧ (Rep S'1 ta i) ∧ (Rep S'1 tb i1) ∧ (ta.Bal) ∧ (tb.Bal) ∧ (ta.size + tb.size ≤ 900000) ∧ ((↑(jB ta.size tb.size) : Int) ≤ S'1.free) ∧ (hs3.length ≤ 700000000) ∧
    (S'1.reads + 5 * (↑(jB ta.size tb.size) : Int) ≤ 1800000000000000000) ∧ (∀ S'2 : Arn, (∀ i2 : Int, ((TrR S'1 hs3 (ta.list ++ (k, w) :: tb.list) (jB ta.size tb.size) (4 * jB ta.size tb.size) S'2 i2) → (((((↑ta.size : Int) + 1 ≤ 3 * ((↑tb.size : Int) + 1)) ∧ ((↑tb.size : Int) + 1 ≤ 3 * ((↑ta.size : Int) + 1))) → ((((S'2.nd i2).left) = (i)) ∧ (((S'2.nd i2).right) = (i1)) ∧ ((S'2.nu) = (S'1.nu + 1)))) → (K (SV.one (TV.at (At.val (Value.int IntKind.u32 (i2))))) [(Chunk.box [(At.ptr 1 0), (At.slc 2), (At.slc 3), (At.val (Value.int IntKind.u64 (S'2.reads)))]), (Chunk.box [(At.slc 4), (At.slc 5), (At.slc 6), (At.val (Value.int IntKind.u32 (S'2.fresh)))]), (Chunk.row true (EC.node) (S'2.nodes)), (Chunk.row true (EC.int) (S'2.counts)), (Chunk.row true (EC.bool) (S'2.used)), (Chunk.row true (EC.u32) (S'2.gen)), (Chunk.row true (EC.u32) (S'2.rel))] [0, 1, 2, 3, 4, 5, 6]))))))))))))))))))) ∧ (∃ hs2 : List Int, (∃ tx1 : Tr, (∃ ty2 : Tr, (∃ N2 : Nat, ((1 ≤ p) ∧ (p ≤ 5) ∧ (StM S' hs2 tx1 ty2 xr yr N2) ∧ (tx1.size < n) ∧ (∀ S'1 : Arn, (∀ i1 : Int, (∀ L1 : List Ent, ((SetR (fUni p) tx1.list ty2.list L1) → ((TrR S' hs2 L1 65537 (rdW N2 tx1.size) S'1 i1) → (∃ hs3 : List Int, (∃ ta : Tr, (∃ tb : Tr, ((Wf S'1 (i :: i1 :: hs3)) ∧ (Rep S'1 ta i) ∧ (Rep S'1 tb i1) ∧ (ta.Bal) ∧ (tb.Bal) ∧ (ta.size + tb.size ≤ 900000) ∧ ((↑(jB ta.size tb.size) : Int) ≤ S'1.free) ∧ (hs3.length ≤ 700000000) ∧ (S'1.reads + 5 * (↑(jB ta.size tb.size) : Int) ≤ 1800000000000000000) ∧ (∀ S'2 : Arn, (∀ i2 : Int,
    ((TrR S'1 hs3 (ta.list ++ (k, w) :: tb.list) (jB ta.size tb.size) (4 * jB ta.size tb.size) S'2 i2) → (((((↑ta.size : Int) + 1 ≤ 3 * ((↑tb.size : Int) + 1)) ∧ ((↑tb.size : Int) + 1 ≤ 3 * ((↑ta.size : Int) + 1))) → ((((S'2.nd i2).left) = (i)) ∧ (((S'2.nd i2).right) = (i1)) ∧ ((S'2.nu) = (S'1.nu + 1)))) → (K (SV.one (TV.at (At.val (Value.int IntKind.u32 (i2))))) [(Chunk.box [(At.ptr 1 0), (At.slc 2), (At.slc 3), (At.val (Value.int IntKind.u64 (S'2.reads)))]), (Chunk.box [(At.slc 4), (At.slc 5), (At.slc 6), (At.val (Value.int IntKind.u32 (S'2.fresh)))]), (Chunk.row true (EC.node) (S'2.nodes)), (Chunk.row true (EC.int) (S'2.counts)), (Chunk.row true (EC.bool) (S'2.used)), (Chunk.row true (EC.u32) (S'2.gen)), (Chunk.row true (EC.u32) (S'2.rel))] [0, 1, 2, 3, 4, 5, 6])))))))))))))))))))) ∧ ((∃ hs2 : List Int, (∃ tx1 : Tr, (∃ ty2 : Tr, (∃ N2 : Nat, ((1 ≤ p) ∧ (p ≤ 5) ∧ (StM S' hs2 tx1 ty2 xr yr N2) ∧ (tx1.size < n) ∧ (∀ S'1 : Arn, (∀ i1 : Int, (∀ L1 : List Ent, ((SetR (fUni p) tx1.list ty2.list L1) → ((TrR S' hs2 L1 65537 (rdW N2 tx1.size) S'1 i1) → (∃ hs3 : List Int, (∃ ta : Tr, (∃ tb : Tr, ((Wf S'1 (i :: i1 :: hs3)) ∧ (Rep S'1 ta i) ∧ (Rep S'1 tb i1) ∧ (ta.Bal) ∧ (tb.Bal) ∧ (ta.size + tb.size ≤ 900000) ∧ ((↑(jB ta.size tb.size) : Int) ≤ S'1.free) ∧ (hs3.length ≤ 700000000) ∧ (S'1.reads + 5 * (↑(jB ta.size tb.size) : Int) ≤ 1800000000000000000) ∧ (∀ S'2 : Arn, (∀ i2 : Int, ((TrR S'1 hs3 (ta.list ++ (k, w) :: tb.list) (jB ta.size tb.size) (4 * jB ta.size tb.size) S'2 i2) →
    (((((↑ta.size : Int) + 1 ≤ 3 * ((↑tb.size : Int) + 1)) ∧ ((↑tb.size : Int) + 1 ≤ 3 * ((↑ta.size : Int) + 1))) → ((((S'2.nd i2).left) = (i)) ∧ (((S'2.nd i2).right) = (i1)) ∧ ((S'2.nu) = (S'1.nu + 1)))) → (K (SV.one (TV.at (At.val (Value.int IntKind.u32 (i2))))) [(Chunk.box [(At.ptr 1 0), (At.slc 2), (At.slc 3), (At.val (Value.int IntKind.u64 (S'2.reads)))]), (Chunk.box [(At.slc 4), (At.slc 5), (At.slc 6), (At.val (Value.int IntKind.u32 (S'2.fresh)))]), (Chunk.row true (EC.node) (S'2.nodes)), (Chunk.row true (EC.int) (S'2.counts)), (Chunk.row true (EC.bool) (S'2.used)), (Chunk.row true (EC.u32) (S'2.gen)), (Chunk.row true (EC.u32) (S'2.rel))] [0, 1, 2, 3, 4, 5, 6]))))))))))))))))))) ∧ (∃ hs2 : List Int, (∃ tx1 : Tr, (∃ ty2 : Tr, (∃ N2 : Nat, ((1 ≤ p) ∧ (p ≤ 5) ∧ (StM S' hs2 tx1 ty2 xr yr N2) ∧ (tx1.size < n) ∧ (∀ S'1 : Arn, (∀ i1 : Int, (∀ L1 : List Ent, ((SetR (fUni p) tx1.list ty2.list L1) → ((TrR S' hs2 L1 65537 (rdW N2 tx1.size) S'1 i1) → (∃ hs3 : List Int, (∃ ta : Tr, (∃ tb : Tr, ((Wf S'1 (i :: i1 :: hs3)) ∧ (Rep S'1 ta i) ∧ (Rep S'1 tb i1) ∧ (ta.Bal) ∧ (tb.Bal) ∧ (ta.size + tb.size ≤ 900000) ∧ ((↑(jB ta.size tb.size) : Int) ≤ S'1.free) ∧ (hs3.length ≤ 700000000) ∧ (S'1.reads + 5 * (↑(jB ta.size tb.size) : Int) ≤ 1800000000000000000) ∧ (∀ S'2 : Arn, (∀ i2 : Int, ((TrR S'1 hs3 (ta.list ++ (k, w) :: tb.list) (jB ta.size tb.size) (4 * jB ta.size tb.size) S'2 i2) → (((((↑ta.size : Int) + 1 ≤ 3 * ((↑tb.size : Int) + 1)) ∧ ((↑tb.size : Int) + 1 ≤ 3 * ((↑ta.size : Int) + 1))) →
    ((((S'2.nd i2).left) = (i)) ∧ (((S'2.nd i2).right) = (i1)) ∧ ((S'2.nu) = (S'1.nu + 1)))) → (K (SV.one (TV.at (At.val (Value.int IntKind.u32 (i2))))) [(Chunk.box [(At.ptr 1 0), (At.slc 2), (At.slc 3), (At.val (Value.int IntKind.u64 (S'2.reads)))]), (Chunk.box [(At.slc 4), (At.slc 5), (At.slc 6), (At.val (Value.int IntKind.u32 (S'2.fresh)))]), (Chunk.row true (EC.node) (S'2.nodes)), (Chunk.row true (EC.int) (S'2.counts)), (Chunk.row true (EC.bool) (S'2.used)), (Chunk.row true (EC.u32) (S'2.gen)), (Chunk.row true (EC.u32) (S'2.rel))] [0, 1, 2, 3, 4, 5, 6]))))))))))))))))))) ∧ (∃ hs2 : List Int, (∃ tx1 : Tr, (∃ ty2 : Tr, (∃ N2 : Nat, ((1 ≤ p) ∧ (p ≤ 5) ∧ (StM S' hs2 tx1 ty2 xr yr N2) ∧ (tx1.size < n) ∧ (∀ S'1 : Arn, (∀ i1 : Int, (∀ L1 : List Ent, ((SetR (fUni p) tx1.list ty2.list L1) → ((TrR S' hs2 L1 65537 (rdW N2 tx1.size) S'1 i1) → (∃ hs3 : List Int, (∃ ta : Tr, (∃ tb : Tr, ((Wf S'1 (i :: i1 :: hs3)) ∧ (Rep S'1 ta i) ∧ (Rep S'1 tb i1) ∧ (ta.Bal) ∧ (tb.Bal) ∧ (ta.size + tb.size ≤ 900000) ∧ ((↑(jB ta.size tb.size) : Int) ≤ S'1.free) ∧ (hs3.length ≤ 700000000) ∧ (S'1.reads + 5 * (↑(jB ta.size tb.size) : Int) ≤ 1800000000000000000) ∧ (∀ S'2 : Arn, (∀ i2 : Int, ((TrR S'1 hs3 (ta.list ++ (k, w) :: tb.list) (jB ta.size tb.size) (4 * jB ta.size tb.size) S'2 i2) → (((((↑ta.size : Int) + 1 ≤ 3 * ((↑tb.size : Int) + 1)) ∧ ((↑tb.size : Int) + 1 ≤ 3 * ((↑ta.size : Int) + 1))) → ((((S'2.nd i2).left) = (i)) ∧ (((S'2.nd i2).right) = (i1)) ∧ ((S'2.nu) = (S'1.nu + 1)))) →
    (K (SV.one (TV.at (At.val (Value.int IntKind.u32 (i2))))) [(Chunk.box [(At.ptr 1 0), (At.slc 2), (At.slc 3), (At.val (Value.int IntKind.u64 (S'2.reads)))]), (Chunk.box [(At.slc 4), (At.slc 5), (At.slc 6), (At.val (Value.int IntKind.u32 (S'2.fresh)))]), (Chunk.row true (EC.node) (S'2.nodes)), (Chunk.row true (EC.int) (S'2.counts)), (Chunk.row true (EC.bool) (S'2.used)), (Chunk.row true (EC.u32) (S'2.gen)), (Chunk.row true (EC.u32) (S'2.rel))] [0, 1, 2, 3, 4, 5, 6])))))))))))))))))))) ∧ ((∃ hs2 : List Int, (∃ tx1 : Tr, (∃ ty2 : Tr, (∃ N2 : Nat, ((1 ≤ p) ∧ (p ≤ 5) ∧ (StM S' hs2 tx1 ty2 xr yr N2) ∧ (tx1.size < n) ∧ (∀ S'1 : Arn, (∀ i1 : Int, (∀ L1 : List Ent, ((SetR (fUni p) tx1.list ty2.list L1) → ((TrR S' hs2 L1 65537 (rdW N2 tx1.size) S'1 i1) → (∃ hs3 : List Int, (∃ ta : Tr, (∃ tb : Tr, ((Wf S'1 (i :: i1 :: hs3)) ∧ (Rep S'1 ta i) ∧ (Rep S'1 tb i1) ∧ (ta.Bal) ∧ (tb.Bal) ∧ (ta.size + tb.size ≤ 900000) ∧ ((↑(jB ta.size tb.size) : Int) ≤ S'1.free) ∧ (hs3.length ≤ 700000000) ∧ (S'1.reads + 5 * (↑(jB ta.size tb.size) : Int) ≤ 1800000000000000000) ∧ (∀ S'2 : Arn, (∀ i2 : Int, ((TrR S'1 hs3 (ta.list ++ (k, w) :: tb.list) (jB ta.size tb.size) (4 * jB ta.size tb.size) S'2 i2) → (((((↑ta.size : Int) + 1 ≤ 3 * ((↑tb.size : Int) + 1)) ∧ ((↑tb.size : Int) + 1 ≤ 3 * ((↑ta.size : Int) + 1))) → ((((S'2.nd i2).left) = (i)) ∧ (((S'2.nd i2).right) = (i1)) ∧ ((S'2.nu) = (S'1.nu + 1)))) →
    (K (SV.one (TV.at (At.val (Value.int IntKind.u32 (i2))))) [(Chunk.box [(At.ptr 1 0), (At.slc 2), (At.slc 3), (At.val (Value.int IntKind.u64 (S'2.reads)))]), (Chunk.box [(At.slc 4), (At.slc 5), (At.slc 6), (At.val (Value.int IntKind.u32 (S'2.fresh)))]), (Chunk.row true (EC.node) (S'2.nodes)), (Chunk.row true (EC.int) (S'2.counts)), (Chunk.row true (EC.bool) (S'2.used)), (Chunk.row true (EC.u32) (S'2.gen)), (Chunk.row true (EC.u32) (S'2.rel))] [0, 1, 2, 3, 4, 5, 6]))))))))))))))))))) ∧ (∃ hs2 : List Int, (∃ tx1 : Tr, (∃ ty2 : Tr, (∃ N2 : Nat, ((1 ≤ p) ∧ (p ≤ 5) ∧ (StM S' hs2 tx1 ty2 xr yr N2) ∧ (tx1.size < n) ∧ (∀ S'1 : Arn, (∀ i1 : Int, (∀ L1 : List Ent, ((SetR (fUni p) tx1.list ty2.list L1) → ((TrR S' hs2 L1 65537 (rdW N2 tx1.size) S'1 i1) → (∃ hs3 : List Int, (∃ ta : Tr, (∃ tb : Tr, ((Wf S'1 (i :: i1 :: hs3)) ∧ (Rep S'1 ta i) ∧ (Rep S'1 tb i1) ∧ (ta.Bal) ∧ (tb.Bal) ∧ (ta.size + tb.size ≤ 900000) ∧ ((↑(jB ta.size tb.size) : Int) ≤ S'1.free) ∧ (hs3.length ≤ 700000000) ∧ (S'1.reads + 5 * (↑(jB ta.size tb.size) : Int) ≤ 1800000000000000000) ∧ (∀ S'2 : Arn, (∀ i2 : Int, ((TrR S'1 hs3 (ta.list ++ (k, w) :: tb.list) (jB ta.size tb.size) (4 * jB ta.size tb.size) S'2 i2) → (((((↑ta.size : Int) + 1 ≤ 3 * ((↑tb.size : Int) + 1)) ∧ ((↑tb.size : Int) + 1 ≤ 3 * ((↑ta.size : Int) + 1))) → ((((S'2.nd i2).left) = (i)) ∧ (((S'2.nd i2).right) = (i1)) ∧ ((S'2.nu) = (S'1.nu + 1)))) →
    (K (SV.one (TV.at (At.val (Value.int IntKind.u32 (i2))))) [(Chunk.box [(At.ptr 1 0), (At.slc 2), (At.slc 3), (At.val (Value.int IntKind.u64 (S'2.reads)))]), (Chunk.box [(At.slc 4), (At.slc 5), (At.slc 6), (At.val (Value.int IntKind.u32 (S'2.fresh)))]), (Chunk.row true (EC.node) (S'2.nodes)), (Chunk.row true (EC.int) (S'2.counts)), (Chunk.row true (EC.bool) (S'2.used)), (Chunk.row true (EC.u32) (S'2.gen)), (Chunk.row true (EC.u32) (S'2.rel))] [0, 1, 2, 3, 4, 5, 6])))))))))))))))))))) ∧ ((∃ hs2 : List Int, (∃ tx1 : Tr, (∃ ty2 : Tr, (∃ N2 : Nat, ((1 ≤ p) ∧ (p ≤ 5) ∧ (StM S' hs2 tx1 ty2 xr yr N2) ∧ (tx1.size < n) ∧ (∀ S'1 : Arn, (∀ i1 : Int, (∀ L1 : List Ent, ((SetR (fUni p) tx1.list ty2.list L1) → ((TrR S' hs2 L1 65537 (rdW N2 tx1.size) S'1 i1) → (∃ hs3 : List Int, (∃ ta : Tr, (∃ tb : Tr, ((Wf S'1 (i :: i1 :: hs3)) ∧ (Rep S'1 ta i) ∧ (Rep S'1 tb i1) ∧ (ta.Bal) ∧ (tb.Bal) ∧ (ta.size + tb.size ≤ 900000) ∧ ((↑(jB ta.size tb.size) : Int) ≤ S'1.free) ∧ (hs3.length ≤ 700000000) ∧ (S'1.reads + 5 * (↑(jB ta.size tb.size) : Int) ≤ 1800000000000000000) ∧ (∀ S'2 : Arn, (∀ i2 : Int, ((TrR S'1 hs3 (ta.list ++ (k, w) :: tb.list) (jB ta.size tb.size) (4 * jB ta.size tb.size) S'2 i2) → (((((↑ta.size : Int) + 1 ≤ 3 * ((↑tb.size : Int) + 1)) ∧ ((↑tb.size : Int) + 1 ≤ 3 * ((↑ta.size : Int) + 1))) → ((((S'2.nd i2).left) = (i)) ∧ (((S'2.nd i2).right) = (i1)) ∧ ((S'2.nu) = (S'1.nu + 1)))) →
    (K (SV.one (TV.at (At.val (Value.int IntKind.u32 (i2))))) [(Chunk.box [(At.ptr 1 0), (At.slc 2), (At.slc 3), (At.val (Value.int IntKind.u64 (S'2.reads)))]), (Chunk.box [(At.slc 4), (At.slc 5), (At.slc 6), (At.val (Value.int IntKind.u32 (S'2.fresh)))]), (Chunk.row true (EC.node) (S'2.nodes)), (Chunk.row true (EC.int) (S'2.counts)), (Chunk.row true (EC.bool) (S'2.used)), (Chunk.row true (EC.u32) (S'2.gen)), (Chunk.row true (EC.u32) (S'2.rel))] [0, 1, 2, 3, 4, 5, 6]))))))))))))))))))) ∧ (∃ hs2 : List Int, (∃ tx1 : Tr, (∃ ty2 : Tr, (∃ N2 : Nat, ((1 ≤ p) ∧ (p ≤ 5) ∧ (StM S' hs2 tx1 ty2 xr yr N2) ∧ (tx1.size < n) ∧ (∀ S'1 : Arn, (∀ i1 : Int, (∀ L1 : List Ent, ((SetR (fUni p) tx1.list ty2.list L1) → ((TrR S' hs2 L1 65537 (rdW N2 tx1.size) S'1 i1) → (∃ hs3 : List Int, (∃ ta : Tr, (∃ tb : Tr, ((Wf S'1 (i :: i1 :: hs3)) ∧ (Rep S'1 ta i) ∧ (Rep S'1 tb i1) ∧ (ta.Bal) ∧ (tb.Bal) ∧ (ta.size + tb.size ≤ 900000) ∧ ((↑(jB ta.size tb.size) : Int) ≤ S'1.free) ∧ (hs3.length ≤ 700000000) ∧ (S'1.reads + 5 * (↑(jB ta.size tb.size) : Int) ≤ 1800000000000000000) ∧ (∀ S'2 : Arn, (∀ i2 : Int, ((TrR S'1 hs3 (ta.list ++ (k, w) :: tb.list) (jB ta.size tb.size) (4 * jB ta.size tb.size) S'2 i2) → (((((↑ta.size : Int) + 1 ≤ 3 * ((↑tb.size : Int) + 1)) ∧ ((↑tb.size : Int) + 1 ≤ 3 * ((↑ta.size : Int) + 1))) → ((((S'2.nd i2).left) = (i)) ∧ (((S'2.nd i2).right) = (i1)) ∧ ((S'2.nu) = (S'1.nu + 1)))) →
    (K (SV.one (TV.at (At.val (Value.int IntKind.u32 (i2))))) [(Chunk.box [(At.ptr 1 0), (At.slc 2), (At.slc 3), (At.val (Value.int IntKind.u64 (S'2.reads)))]), (Chunk.box [(At.slc 4), (At.slc 5), (At.slc 6), (At.val (Value.int IntKind.u32 (S'2.fresh)))]), (Chunk.row true (EC.node) (S'2.nodes)), (Chunk.row true (EC.int) (S'2.counts)), (Chunk.row true (EC.bool) (S'2.used)), (Chunk.row true (EC.u32) (S'2.gen)), (Chunk.row true (EC.u32) (S'2.rel))] [0, 1, 2, 3, 4, 5, 6])))))))))))))))))))) ∧ (∃ hs2 : List Int, (∃ tx1 : Tr, (∃ ty2 : Tr, (∃ N2 : Nat, ((1 ≤ p) ∧ (p ≤ 5) ∧ (StM S' hs2 tx1 ty2 xr yr N2) ∧ (tx1.size < n) ∧ (∀ S'1 : Arn, (∀ i1 : Int, (∀ L1 : List Ent, ((SetR (fUni p) tx1.list ty2.list L1) → ((TrR S' hs2 L1 65537 (rdW N2 tx1.size) S'1 i1) → ((∃ hs3 : List Int, (∃ ta : Tr, (∃ tb : Tr, ((Wf S'1 (i :: i1 :: hs3)) ∧ (Rep S'1 ta i) ∧ (Rep S'1 tb i1) ∧ (ta.Bal) ∧ (tb.Bal) ∧ (ta.size + tb.size ≤ 900000) ∧ ((↑(jB ta.size tb.size) : Int) ≤ S'1.free) ∧ (hs3.length ≤ 700000000) ∧ (S'1.reads + 5 * (↑(jB ta.size tb.size) : Int) ≤ 1800000000000000000) ∧ (∀ S'2 : Arn, (∀ i2 : Int, ((TrR S'1 hs3 (ta.list ++ (k, w) :: tb.list) (jB ta.size tb.size) (4 * jB ta.size tb.size) S'2 i2) → (((((↑ta.size : Int) + 1 ≤ 3 * ((↑tb.size : Int) + 1)) ∧ ((↑tb.size : Int) + 1 ≤ 3 * ((↑ta.size : Int) + 1))) → ((((S'2.nd i2).left) = (i)) ∧ (((S'2.nd i2).right) = (i1)) ∧ ((S'2.nu) = (S'1.nu + 1)))) →
    (K (SV.one (TV.at (At.val (Value.int IntKind.u32 (i2))))) [(Chunk.box [(At.ptr 1 0), (At.slc 2), (At.slc 3), (At.val (Value.int IntKind.u64 (S'2.reads)))]), (Chunk.box [(At.slc 4), (At.slc 5), (At.slc 6), (At.val (Value.int IntKind.u32 (S'2.fresh)))]), (Chunk.row true (EC.node) (S'2.nodes)), (Chunk.row true (EC.int) (S'2.counts)), (Chunk.row true (EC.bool) (S'2.used)), (Chunk.row true (EC.u32) (S'2.gen)), (Chunk.row true (EC.u32) (S'2.rel))] [0, 1, 2, 3, 4, 5, 6]))))))))) ∧ (∃ hs3 : List Int, (∃ ta : Tr, (∃ tb : Tr, ((Wf S'1 (i :: i1 :: hs3)) ∧ (Rep S'1 ta i) ∧ (Rep S'1 tb i1) ∧ (ta.Bal) ∧ (tb.Bal) ∧ (ta.size + tb.size ≤ 900000) ∧ ((↑(jB ta.size tb.size) : Int) ≤ S'1.free) ∧ (hs3.length ≤ 700000000) ∧ (S'1.reads + 5 * (↑(jB ta.size tb.size) : Int) ≤ 1800000000000000000) ∧ (∀ S'2 : Arn, (∀ i2 : Int, ((TrR S'1 hs3 (ta.list ++ (k, w) :: tb.list) (jB ta.size tb.size) (4 * jB ta.size tb.size) S'2 i2) → (((((↑ta.size : Int) + 1 ≤ 3 * ((↑tb.size : Int) + 1)) ∧ ((↑tb.size : Int) + 1 ≤ 3 * ((↑ta.size : Int) + 1))) → ((((S'2.nd i2).left) = (i)) ∧ (((S'2.nd i2).right) = (i1)) ∧ ((S'2.nu) = (S'1.nu + 1)))) →
    (K (SV.one (TV.at (At.val (Value.int IntKind.u32 (i2))))) [(Chunk.box [(At.ptr 1 0), (At.slc 2), (At.slc 3), (At.val (Value.int IntKind.u64 (S'2.reads)))]), (Chunk.box [(At.slc 4), (At.slc 5), (At.slc 6), (At.val (Value.int IntKind.u32 (S'2.fresh)))]), (Chunk.row true (EC.node) (S'2.nodes)), (Chunk.row true (EC.int) (S'2.counts)), (Chunk.row true (EC.bool) (S'2.used)), (Chunk.row true (EC.u32) (S'2.gen)), (Chunk.row true (EC.u32) (S'2.rel))] [0, 1, 2, 3, 4, 5, 6]))))))))))))))))))))))))))))))))))))))))))))))))))))))) = _ by kernel_rfl) ?_
  refine brS_of (fun d => ?_) fun d => brS_of (fun e => ?_) fun e => ?_
  · have d : x = 0 := by simpa using d
    subst d
    have e := st.rx.zero st.wf
    subst e
    exact h S y ty.list (SetR.right st.ay (fUni_r p)) (tr_self st.wf.of_zero st.ry st.bY)
  · have e : y = 0 := by simpa using e
    subst e
    have e := st.ry.zero st.wf
    subst e
    exact h S x tx.list (SetR.left st.ax (fUni_l p)) (tr_self (st.wf.perm (List.Perm.swap _ _ _)).of_zero st.rx st.bx)
  have d : x ≠ 0 := by simpa using d
  refine brS_of (fun c => brS_of (fun c2 => ?_) fun _ => ?_) fun _ => ?_
  · have c : x = y := by simpa using c
    subst c
    have et := st.rx.inj (st.wf.us0 (Int.le_refl 0)) st.ry
    subst et
    have c2 : p ≠ 3 := by simpa using c2
    exact ⟨x :: hs, st.wf, fun S' w' k => h S' x tx.list (SetR.same st.ax (fUni_s c2)) (rel_tr (N := 0) st.wf w' k st.rx st.bx)⟩
  all_goals
    have d : x ≠ 0 := by assumption
    obtain ⟨a, k, v, b, et⟩ := rep_ne st.rx d
    subst et
    have zz : (Tr.node a k v b).size = a.size + b.size + 1 := by simp [Tr.size]; omega
    refine ⟨hs, a, k, v, b, ty, N, p1, p2, st, fun S1 xl yl xr yr o w eo ew c => ?_⟩
    obtain ⟨tl, tr, m⟩ := st.mid c
    refine ⟨xr :: yr :: hs, a, tl, N, p1, p2, m.first, by omega, fun S2 i L hL t => ?_⟩
    obtain ⟨h2, g2⟩ := m.second hL t
    (repeat' apply And.intro)
    all_goals
      refine ⟨i :: hs, b, tr, N, p1, p2, h2, by omega, fun S3 j R hR t' => ?_⟩
      obtain ⟨u, w', w3, ru, rw', bu, bw, eu, ew', sz, fj, fc, hl3, rd3, j5, c5, g3⟩ := m.third hL t hR t'
      have jj : ∀ w2 S4 q, fUni p (some v) (getE ty.list k) = some w2 → TrR S3 hs (u.list ++ (k, w2) :: w'.list) (jB u.size w'.size) (4 * jB u.size w'.size) S4 q → K (.one (.at (vU q))) (chS S4) W7 := fun w2 S4 q e tj =>
        h S4 q _ (m.stepJ rfl hL hR e) (Mid.fin g3 (by rw [← eu, ← ew']; exact tj) (by omega))
      have cc : ∀ S4 q, fUni p (some v) (getE ty.list k) = none → TrR S3 hs (u.list ++ w'.list) (cB u.size w'.size) (5 * cB u.size w'.size) S4 q → K (.one (.at (vU q))) (chS S4) W7 := fun S4 q e tj =>
        h S4 q _ (m.stepC rfl hL hR e) (Mid.fin g3 (by rw [← eu, ← ew']; exact tj) (by omega))
      (repeat' apply And.intro)
      all_goals
        refine ⟨hs, u, w', w3, ru, rw', bu, bw, by omega, fj, by omega, by omega, fun S4 q tj _ => jj w S4 q ?_ tj⟩
        rw [← eo, ew]; cases o <;> rfl
theorem s_wUni : ∀ n, SoundT C0 73 (tWk fUni n) := by
  intro n
  induction n with
  | zero =>
    refine .of Try.func73 (by decide) rfl fun args H K h hB => ?_
    exfalso
    unfold tWk at h
    split at h <;> try exact h.elim
    unfold arM at h
    split at h <;> try exact h.elim
    obtain ⟨_, _, _, _, _, _, _, h1, _⟩ := h
    omega
  | succ n ih =>
    refine .ofW W7 Try.func73 (by decide) rfl fun args H K h hB => ?_
    unfold tWk at h
    split at h <;> try exact h.elim
    unfold arM at h
    split at h <;> try exact h.elim
    rename_i p x y _ rd fr nd ct us gn rl
    obtain ⟨hs, tx, ty, N, h1, h2, h3, h4, h5⟩ := h
    exact ⟨aWk 73 fUni n, ⟨frame C0.ok s_oneW _, frame C0.ok s_noneW _, frame C0.ok s_cutW _, frame C0.ok ih _, frame C0.ok s_join _, frame C0.ok s_cat _, trivial⟩, vc_wUni n ⟨us, gn, rl, fr, nd, ct, rd⟩ p x y K hs tx ty N h1 h2 h3 h4 h5⟩
theorem vc_wInt (n : Nat) (S : Arn) (p x y : Int) (K : KT) (hs : List Int) (tx ty : Tr) (N : Nat) (p1 : 1 ≤ p) (p2 : p ≤ 5) (st : StM S hs tx ty x y N) (hf : tx.size < n + 1)
    (h : ∀ S' i L, SetR (fInt p) tx.list ty.list L → TrR S hs L 65537 (rdW N tx.size) S' i → K (.one (.at (vU i))) (chS S') W7) :
    vc C0 (aWk 86 fInt n) Try.f86 [.agg [.ptr 0 0, vI p], .at (vU x), .at (vU y)] (chS S) (normK 7 (wideK W7 K)) := by
  refine Eq.mp (show (brS (x == 0) ((∃ hs : List Int, ((Wf S (x :: y :: hs)) ∧ (∀ S' : Arn, ((Wf S' hs) → ((Kept S S') → (K (SV.one (TV.at (At.val (Value.int IntKind.u32 0)))) [(Chunk.box [(At.ptr 1 0), (At.slc 2), (At.slc 3), (At.val (Value.int IntKind.u64 (S'.reads)))]), (Chunk.box [(At.slc 4), (At.slc 5), (At.slc 6), (At.val (Value.int IntKind.u32 (S'.fresh)))]), (Chunk.row true (EC.node) (S'.nodes)), (Chunk.row true (EC.int) (S'.counts)), (Chunk.row true (EC.bool) (S'.used)), (Chunk.row true (EC.u32) (S'.gen)), (Chunk.row true (EC.u32) (S'.rel))] [0, 1, 2, 3, 4, 5, 6]))))))) ((brS (y == 0) ((∃ hs : List Int, ((Wf S (x :: y :: hs)) ∧ (∀ S' : Arn, ((Wf S' hs) → ((Kept S S') → (K (SV.one (TV.at (At.val (Value.int IntKind.u32 0)))) [(Chunk.box [(At.ptr 1 0), (At.slc 2), (At.slc 3), (At.val (Value.int IntKind.u64 (S'.reads)))]), (Chunk.box [(At.slc 4), (At.slc 5), (At.slc 6), (At.val (Value.int IntKind.u32 (S'.fresh)))]), (Chunk.row true (EC.node) (S'.nodes)), (Chunk.row true (EC.int) (S'.counts)), (Chunk.row true (EC.bool) (S'.used)), (Chunk.row true (EC.u32) (S'.gen)), (Chunk.row true (EC.u32) (S'.rel))] [0, 1, 2, 3, 4, 5, 6]))))))) ((brS (x == y) ((brS (p != 3) ((∃ hs : List Int, ((Wf S (x :: hs)) ∧ (∀ S' : Arn, ((Wf S' hs) → ((Kept S S') →
    (K (SV.one (TV.at (At.val (Value.int IntKind.u32 (x))))) [(Chunk.box [(At.ptr 1 0), (At.slc 2), (At.slc 3), (At.val (Value.int IntKind.u64 (S'.reads)))]), (Chunk.box [(At.slc 4), (At.slc 5), (At.slc 6), (At.val (Value.int IntKind.u32 (S'.fresh)))]), (Chunk.row true (EC.node) (S'.nodes)), (Chunk.row true (EC.int) (S'.counts)), (Chunk.row true (EC.bool) (S'.used)), (Chunk.row true (EC.u32) (S'.gen)), (Chunk.row true (EC.u32) (S'.rel))] [0, 1, 2, 3, 4, 5, 6]))))))) ((∃ hs : List Int, (∃ a : Tr, (∃ k : Int, (∃ v : Int, (∃ b : Tr, (∃ ty : Tr, (∃ N : Nat, ((1 ≤ p) ∧ (p ≤ 5) ∧ (StM S hs (a.node k v b) ty x y N) ∧ (∀ S1 : Arn, (∀ xl : Int, (∀ yl : Int, (∀ xr : Int, (∀ yr : Int, (∀ o : Option Int, (∀ w : Int, (((o) = (getE ty.list k)) → (((w) = (cutV p v o)) → ((CutR S hs a k b ty S1 xl yl xr yr) → (∃ hs1 : List Int, (∃ tx : Tr, (∃ ty1 : Tr, (∃ N1 : Nat, ((1 ≤ p) ∧ (p ≤ 5) ∧ (StM S1 hs1 tx ty1 xl yl N1) ∧ (tx.size < n) ∧ (∀ S' : Arn, (∀ i : Int, (∀ L : List Ent, ((SetR (fInt p) tx.list ty1.list L) → ((TrR S1 hs1 L 65537 (rdW N1 tx.size) S' i) → (∃ hs2 : List Int, (∃ tx1 : Tr, (∃ ty2 : Tr, (∃ N2 : Nat, ((1 ≤ p) ∧ (p ≤ 5) ∧ (StM S' hs2 tx1 ty2 xr yr N2) ∧ (tx1.size < n) ∧ (∀ S'1 : Arn, (∀ i1 : Int, (∀ L1 : List Ent, ((SetR (fInt p) tx1.list ty2.list L1) → ((TrR S' hs2 L1 65537 (rdW N2 tx1.size) S'1 i1) → (brS (o.isSome) ((∃ hs3 : List Int, (∃ ta : Tr, (∃ tb : Tr, ((Wf S'1 (i :: i1 :: hs3)) ∧ (Rep S'1 ta i) ∧ (Rep S'1 tb i1) ∧ (ta.Bal) ∧ (tb.Bal) ∧ (ta.size + tb.size ≤ 900000) ∧
    ((↑(jB ta.size tb.size) : Int) ≤ S'1.free) ∧ (hs3.length ≤ 700000000) ∧ (S'1.reads + 5 * (↑(jB ta.size tb.size) : Int) ≤ 1800000000000000000) ∧ (∀ S'2 : Arn, (∀ i2 : Int, ((TrR S'1 hs3 (ta.list ++ (k, w) :: tb.list) (jB ta.size tb.size) (4 * jB ta.size tb.size) S'2 i2) → (((((↑ta.size : Int) + 1 ≤ 3 * ((↑tb.size : Int) + 1)) ∧ ((↑tb.size : Int) + 1 ≤ 3 * ((↑ta.size : Int) + 1))) → ((((S'2.nd i2).left) = (i)) ∧ (((S'2.nd i2).right) = (i1)) ∧ ((S'2.nu) = (S'1.nu + 1)))) → (K (SV.one (TV.at (At.val (Value.int IntKind.u32 (i2))))) [(Chunk.box [(At.ptr 1 0), (At.slc 2), (At.slc 3), (At.val (Value.int IntKind.u64 (S'2.reads)))]), (Chunk.box [(At.slc 4), (At.slc 5), (At.slc 6), (At.val (Value.int IntKind.u32 (S'2.fresh)))]), (Chunk.row true (EC.node) (S'2.nodes)), (Chunk.row true (EC.int) (S'2.counts)), (Chunk.row true (EC.bool) (S'2.used)), (Chunk.row true (EC.u32) (S'2.gen)), (Chunk.row true (EC.u32) (S'2.rel))] [0, 1, 2, 3, 4, 5, 6])))))))))) ((∃ hs3 : List Int, (∃ ta : Tr, (∃ tb : Tr, ((Wf S'1 (i :: i1 :: hs3)) ∧ (Rep S'1 ta i) ∧ (Rep S'1 tb i1) ∧ (ta.Bal) ∧ (tb.Bal) ∧ (ta.size + tb.size ≤ 800000) ∧ ((↑(cB ta.size tb.size) : Int) ≤ S'1.free) ∧ (hs3.length ≤ 400000000) ∧ (S'1.reads + 5 * (↑(cB ta.size tb.size) : Int) ≤ 1600000000000000000) ∧ (∀ S'2 : Arn, (∀ i2 : Int, ((TrR S'1 hs3 (ta.list ++ tb.list) (cB ta.size tb.size) (5 * cB ta.size tb.size) S'2 i2) →
    (K (SV.one (TV.at (At.val (Value.int IntKind.u32 (i2))))) [(Chunk.box [(At.ptr 1 0), (At.slc 2), (At.slc 3), (At.val (Value.int IntKind.u64 (S'2.reads)))]), (Chunk.box [(At.slc 4), (At.slc 5), (At.slc 6), (At.val (Value.int IntKind.u32 (S'2.fresh)))]), (Chunk.row true (EC.node) (S'2.nodes)), (Chunk.row true (EC.int) (S'2.counts)), (Chunk.row true (EC.bool) (S'2.used)), (Chunk.row true (EC.u32) (S'2.gen)), (Chunk.row true (EC.u32) (S'2.rel))] [0, 1, 2, 3, 4, 5, 6]))))))))))))))))))))))))))))))))))))))))))))))))))) ((∃ hs : List Int, (∃ a : Tr, (∃ k : Int, (∃ v : Int, (∃ b : Tr, (∃ ty : Tr, (∃ N : Nat, ((1 ≤ p) ∧ (p ≤ 5) ∧ (StM S hs (a.node k v b) ty x y N) ∧ (∀ S1 : Arn, (∀ xl : Int, (∀ yl : Int, (∀ xr : Int, (∀ yr : Int, (∀ o : Option Int, (∀ w : Int, (((o) = (getE ty.list k)) → (((w) = (cutV p v o)) → ((CutR S hs a k b ty S1 xl yl xr yr) → (∃ hs1 : List Int, (∃ tx : Tr, (∃ ty1 : Tr, (∃ N1 : Nat, ((1 ≤ p) ∧ (p ≤ 5) ∧ (StM S1 hs1 tx ty1 xl yl N1) ∧ (tx.size < n) ∧ (∀ S' : Arn, (∀ i : Int, (∀ L : List Ent, ((SetR (fInt p) tx.list ty1.list L) → ((TrR S1 hs1 L 65537 (rdW N1 tx.size) S' i) → (∃ hs2 : List Int, (∃ tx1 : Tr, (∃ ty2 : Tr, (∃ N2 : Nat, ((1 ≤ p) ∧ (p ≤ 5) ∧ (StM S' hs2 tx1 ty2 xr yr N2) ∧ (tx1.size < n) ∧ (∀ S'1 : Arn, (∀ i1 : Int, (∀ L1 : List Ent, ((SetR (fInt p) tx1.list ty2.list L1) → ((TrR S' hs2 L1 65537 (rdW N2 tx1.size) S'1 i1) → (brS (o.isSome) ((∃ hs3 : List Int, (∃ ta : Tr, (∃ tb : Tr, ((Wf S'1 (i :: i1 :: hs3)) ∧ (Rep S'1 ta i) ∧ (Rep S'1 tb i1) ∧ (ta.Bal) ∧
    (tb.Bal) ∧ (ta.size + tb.size ≤ 900000) ∧ ((↑(jB ta.size tb.size) : Int) ≤ S'1.free) ∧ (hs3.length ≤ 700000000) ∧ (S'1.reads + 5 * (↑(jB ta.size tb.size) : Int) ≤ 1800000000000000000) ∧ (∀ S'2 : Arn, (∀ i2 : Int, ((TrR S'1 hs3 (ta.list ++ (k, w) :: tb.list) (jB ta.size tb.size) (4 * jB ta.size tb.size) S'2 i2) → (((((↑ta.size : Int) + 1 ≤ 3 * ((↑tb.size : Int) + 1)) ∧ ((↑tb.size : Int) + 1 ≤ 3 * ((↑ta.size : Int) + 1))) → ((((S'2.nd i2).left) = (i)) ∧ (((S'2.nd i2).right) = (i1)) ∧ ((S'2.nu) = (S'1.nu + 1)))) → (K (SV.one (TV.at (At.val (Value.int IntKind.u32 (i2))))) [(Chunk.box [(At.ptr 1 0), (At.slc 2), (At.slc 3), (At.val (Value.int IntKind.u64 (S'2.reads)))]), (Chunk.box [(At.slc 4), (At.slc 5), (At.slc 6), (At.val (Value.int IntKind.u32 (S'2.fresh)))]), (Chunk.row true (EC.node) (S'2.nodes)), (Chunk.row true (EC.int) (S'2.counts)), (Chunk.row true (EC.bool) (S'2.used)), (Chunk.row true (EC.u32) (S'2.gen)), (Chunk.row true (EC.u32) (S'2.rel))] [0, 1, 2, 3, 4, 5, 6])))))))))) ((∃ hs3 : List Int, (∃ ta : Tr, (∃ tb : Tr, ((Wf S'1 (i :: i1 :: hs3)) ∧ (Rep S'1 ta i) ∧ (Rep S'1 tb i1) ∧ (ta.Bal) ∧ (tb.Bal) ∧ (ta.size + tb.size ≤ 800000) ∧ ((↑(cB ta.size tb.size) : Int) ≤ S'1.free) ∧ (hs3.length ≤ 400000000) ∧ (S'1.reads + 5 * (↑(cB ta.size tb.size) : Int) ≤ 1600000000000000000) ∧ (∀ S'2 : Arn, (∀ i2 : Int, ((TrR S'1 hs3 (ta.list ++ tb.list) (cB ta.size tb.size) (5 * cB ta.size tb.size) S'2 i2) →
    (K (SV.one (TV.at (At.val (Value.int IntKind.u32 (i2))))) [(Chunk.box [(At.ptr 1 0), (At.slc 2), (At.slc 3), (At.val (Value.int IntKind.u64 (S'2.reads)))]), (Chunk.box [(At.slc 4), (At.slc 5), (At.slc 6), (At.val (Value.int IntKind.u32 (S'2.fresh)))]), (Chunk.row true (EC.node) (S'2.nodes)), (Chunk.row true (EC.int) (S'2.counts)), (Chunk.row true (EC.bool) (S'2.used)), (Chunk.row true (EC.u32) (S'2.gen)), (Chunk.row true (EC.u32) (S'2.rel))] [0, 1, 2, 3, 4, 5, 6])))))))))))))))))))))))))))))))))))))))))))))))))))))) = _ by kernel_rfl) ?_
  refine brS_of (fun d => ?_) fun d => brS_of (fun e => ?_) fun e => ?_
  · have d : x = 0 := by simpa using d
    subst d
    have e := st.rx.zero st.wf
    subst e
    exact ⟨hs, st.wf, fun S' w' k => h S' 0 [] (SetR.none fun q => by rw [getE_nil]; rfl) (none_tr st.wf w' k (by have := st.hl; omega))⟩
  · have e : y = 0 := by simpa using e
    subst e
    have e := st.ry.zero st.wf
    subst e
    exact ⟨hs, st.wf, fun S' w' k => h S' 0 [] (SetR.none fun q => by rw [getE_nil]; cases getE tx.list q <;> rfl) (none_tr st.wf w' k (by have := st.hl; omega))⟩
  have d : x ≠ 0 := by simpa using d
  refine brS_of (fun c => brS_of (fun c2 => ?_) fun _ => ?_) fun _ => ?_
  · have c : x = y := by simpa using c
    subst c
    have et := st.rx.inj (st.wf.us0 (Int.le_refl 0)) st.ry
    subst et
    have c2 : p ≠ 3 := by simpa using c2
    exact ⟨x :: hs, st.wf, fun S' w' k => h S' x tx.list (SetR.same st.ax (fInt_s c2)) (rel_tr (N := 0) st.wf w' k st.rx st.bx)⟩
  all_goals
    have d : x ≠ 0 := by assumption
    obtain ⟨a, k, v, b, et⟩ := rep_ne st.rx d
    subst et
    have zz : (Tr.node a k v b).size = a.size + b.size + 1 := by simp [Tr.size]; omega
    refine ⟨hs, a, k, v, b, ty, N, p1, p2, st, fun S1 xl yl xr yr o w eo ew c => ?_⟩
    obtain ⟨tl, tr, m⟩ := st.mid c
    refine ⟨xr :: yr :: hs, a, tl, N, p1, p2, m.first, by omega, fun S2 i L hL t => ?_⟩
    obtain ⟨h2, g2⟩ := m.second hL t
    refine ⟨i :: hs, b, tr, N, p1, p2, h2, by omega, fun S3 j R hR t' => ?_⟩
    obtain ⟨u, w', w3, ru, rw', bu, bw, eu, ew', sz, fj, fc, hl3, rd3, j5, c5, g3⟩ := m.third hL t hR t'
    have jj : ∀ w2 S4 q, fInt p (some v) (getE ty.list k) = some w2 → TrR S3 hs (u.list ++ (k, w2) :: w'.list) (jB u.size w'.size) (4 * jB u.size w'.size) S4 q → K (.one (.at (vU q))) (chS S4) W7 := fun w2 S4 q e tj =>
      h S4 q _ (m.stepJ rfl hL hR e) (Mid.fin g3 (by rw [← eu, ← ew']; exact tj) (by omega))
    have cc : ∀ S4 q, fInt p (some v) (getE ty.list k) = none → TrR S3 hs (u.list ++ w'.list) (cB u.size w'.size) (5 * cB u.size w'.size) S4 q → K (.one (.at (vU q))) (chS S4) W7 := fun S4 q e tj =>
      h S4 q _ (m.stepC rfl hL hR e) (Mid.fin g3 (by rw [← eu, ← ew']; exact tj) (by omega))
    refine brS_of (fun q1 => ⟨hs, u, w', w3, ru, rw', bu, bw, by omega, fj, by omega, by omega, fun S4 q tj _ => jj w S4 q ?_ tj⟩) fun q1 => ⟨hs, u, w', w3, ru, rw', bu, bw, by omega, fc, by omega, by omega, fun S4 q tj => cc S4 q ?_ tj⟩
    · rw [← eo, ew]; cases o with
      | none => cases q1
      | some u => rfl
    · rw [← eo]; cases o with
      | none => rfl
      | some u => cases q1
theorem s_wInt : ∀ n, SoundT C0 86 (tWk fInt n) := by
  intro n
  induction n with
  | zero =>
    refine .of Try.func86 (by decide) rfl fun args H K h hB => ?_
    exfalso
    unfold tWk at h
    split at h <;> try exact h.elim
    unfold arM at h
    split at h <;> try exact h.elim
    obtain ⟨_, _, _, _, _, _, _, h1, _⟩ := h
    omega
  | succ n ih =>
    refine .ofW W7 Try.func86 (by decide) rfl fun args H K h hB => ?_
    unfold tWk at h
    split at h <;> try exact h.elim
    unfold arM at h
    split at h <;> try exact h.elim
    rename_i p x y _ rd fr nd ct us gn rl
    obtain ⟨hs, tx, ty, N, h1, h2, h3, h4, h5⟩ := h
    exact ⟨aWk 86 fInt n, ⟨frame C0.ok s_oneW _, frame C0.ok s_noneW _, frame C0.ok s_cutW _, frame C0.ok ih _, frame C0.ok s_join _, frame C0.ok s_cat _, trivial⟩, vc_wInt n ⟨us, gn, rl, fr, nd, ct, rd⟩ p x y K hs tx ty N h1 h2 h3 h4 h5⟩
end Go.Proofs.Ytbonbaccmlomhaa.Sx
end
section
/- The greatest height of a balanced tree, and few reads. -/
namespace Go.Proofs.Ytbonbaccmlomhaa.Sx
open Go

/-KEEP Wf exW inU wtsL-/
noncomputable def aWts : Ann C0 := { Γ := [], rounds := fun n => if n = 4 then 82 else 0 }
def tWts : Tfm C0 := fun args H K => match args, H with
  | [], [] => K (.one (.agg (wtsL.map fun n => vI n))) [] []
  | _, _ => False
def wC : Nat → Int → Prop → Prop
  | 0, _, Q => Q
  | n + 1, h, Q => (0 ≤ IntKind.i64.wrap (h - 1)) ∧ (IntKind.i64.wrap (h - 1) < ((81 : Nat) : Int)) ∧ (0 ≤ IntKind.i64.wrap (h - 1)) ∧ (IntKind.i64.wrap (h - 1) < ((81 : Nat) : Int)) ∧ (0 ≤ h) ∧ (h < ((81 : Nat) : Int)) ∧ wC n (IntKind.i64.wrap (h + 1)) Q
theorem wC_of : ∀ (n : Nat) (h : Int) (Q : Prop), 1 ≤ h → h + n ≤ 81 → Q → wC n h Q
  | 0, _, _, _, _, q => q
  | n + 1, h, Q, h1, h2, q => by
    have e1 := wrap_id (x := h - 1) (by omega) (by omega)
    have e2 := wrap_id (x := h + 1) (by omega) (by omega)
    unfold wC
    rw [e1, e2]
    exact ⟨by omega, by omega, by omega, by omega, by omega, by omega, wC_of n (h + 1) Q (by omega) (by omega) q⟩
theorem s_wts : SoundT C0 143 tWts := by
  refine .of Try.func143 (by decide) rfl fun args H K h hB => ?_
  unfold tWts at h
  split at h <;> try exact h.elim
  refine ⟨aWts, trivial, Eq.mp (show ((0 : Int) ≤ 0 ∧ (0 : Int) < ((81 : Nat) : Int) ∧ wC 80 1 (K (.one (.agg (wtsL.map fun n => vI n))) [] [])) = _ by kernel_rfl) ?_⟩
  exact ⟨by decide, by decide, wC_of 80 1 _ (by decide) (by decide) h⟩
noncomputable def aMh : Ann C0 := { Γ := [(143, frameT [] tWts)], rounds := fun n => if n = 5 then 82 else 0 }
def mhC (k : Int) (Q : Int → Prop) : List Int → Int → Prop
  | [], h => Q h
  | w :: l, h => (0 ≤ IntKind.i64.wrap (h + 1)) ∧ (IntKind.i64.wrap (h + 1) < ((81 : Nat) : Int)) ∧ brS (decide (IntKind.i64.wrap (w - 1) ≤ k)) (mhC k Q l (IntKind.i64.wrap (h + 1))) (Q h)
theorem mhC_of {k : Int} {Q : Int → Prop} : ∀ (l : List Int) (h : Int), 0 ≤ h → h + l.length ≤ 80 → (∀ w ∈ l, 0 ≤ w ∧ w ≤ 1000000000000) → Q (hnC l h k) → mhC k Q l h
  | [], _, _, _, _, q => q
  | w :: l, h, h1, h2, h3, q => by
    have hw := h3 w (by simp)
    have hl : (w :: l).length = l.length + 1 := rfl
    unfold mhC
    rw [wrap_id (x := h + 1) (by omega) (by omega), wrap_id (x := w - 1) (by omega) (by omega)]
    unfold hnC at q
    refine ⟨by omega, by omega, brS_of (fun c => ?_) fun c => ?_⟩
    · rw [if_pos (of_decide_eq_true c)] at q
      exact mhC_of l (h + 1) (by omega) (by omega) (fun x hx => h3 x (by simp [hx])) q
    · rw [if_neg (of_decide_eq_false c)] at q; exact q
def tMh : Tfm C0 := fun args H K => match args, H with
  | [.at (.val (.int .i64 k))], [] => 0 ≤ k ∧ k ≤ 2147483647 ∧ ∀ h, h = Hn k → K (.one (.at (vI h))) [] []
  | _, _ => False
theorem s_mh : SoundT C0 118 tMh := by
  refine .of Try.func118 (by decide) rfl fun args H K h hB => ?_
  unfold tMh at h
  split at h <;> try exact h.elim
  rename_i k
  obtain ⟨h1, h2, h⟩ := h
  refine ⟨aMh, ⟨frame C0.ok s_wts _, trivial⟩, Eq.mp (show (brS (decide (k < 0)) (K (.one (.at (vI (-1)))) [] []) (brS (decide (k > 2147483647)) (K (.one (.at (vI (-1)))) [] []) (mhC k (fun h => K (.one (.at (vI h))) [] []) (wtsL.drop 1) 0))) = _ by kernel_rfl) ?_⟩
  refine brS_of (fun c => by have := of_decide_eq_true c; omega) fun _ => brS_of (fun c => by have := of_decide_eq_true c; omega) fun _ => mhC_of _ 0 (by decide) (by decide) (by decide) (h _ rfl)
noncomputable def aHt : Ann C0 := { Γ := [(118, frameT [] tMh)] }
noncomputable def aWi : Ann C0 := { Γ := [(27, frameT [] tReads)] }
def tWi : Tfm C0 := fun args H K => match args with
  | [.at (.ptr 0 0), .at (.val (.int .u64 r)), .at (.val (.int .i64 m))] => arM H fun S => 0 ≤ r ∧ r ≤ S.reads ∧ S.reads ≤ 4000000000000000000 ∧ S.reads - r ≤ m ∧ m ≤ 4000000000000000000 ∧ K (.one (.at (vB true))) (chS S) []
  | _ => False
theorem s_wi : SoundT C0 78 tWi := by
  refine .of Try.func78 (by decide) rfl fun args H K h hB => ?_
  unfold tWi at h
  split at h <;> try exact h.elim
  rename_i r m
  unfold arM at h
  split at h <;> try exact h.elim
  rename_i rd fr nd ct us gn rl
  have key : ∀ S : Arn, 0 ≤ r → r ≤ S.reads → S.reads ≤ 4000000000000000000 → S.reads - r ≤ m → m ≤ 4000000000000000000 → K (.one (.at (vB true))) (chS S) [] → vc C0 aWi Try.f78 [.at (.ptr 0 0), .at (vU64 r), .at (vI m)] (chS S) (normK 7 K) := fun S h1 h2 h3 h4 h5 h => by
    refine Eq.mp (show (brS (decide (S.reads ≥ r)) ((K (SV.one (TV.at (At.val (Value.bool (decide (IntKind.u64.wrap (S.reads - r) ≤ IntKind.u64.wrap m)))))) [(Chunk.box [(At.ptr 1 0), (At.slc 2), (At.slc 3), (At.val (Value.int IntKind.u64 (S.reads)))]), (Chunk.box [(At.slc 4), (At.slc 5), (At.slc 6), (At.val (Value.int IntKind.u32 (S.fresh)))]), (Chunk.row true (EC.node) (S.nodes)), (Chunk.row true (EC.int) (S.counts)), (Chunk.row true (EC.bool) (S.used)), (Chunk.row true (EC.u32) (S.gen)), (Chunk.row true (EC.u32) (S.rel))] [])) ((K (SV.one (TV.at (At.val (Value.bool false)))) [(Chunk.box [(At.ptr 1 0), (At.slc 2), (At.slc 3), (At.val (Value.int IntKind.u64 (S.reads)))]), (Chunk.box [(At.slc 4), (At.slc 5), (At.slc 6), (At.val (Value.int IntKind.u32 (S.fresh)))]), (Chunk.row true (EC.node) (S.nodes)), (Chunk.row true (EC.int) (S.counts)), (Chunk.row true (EC.bool) (S.used)), (Chunk.row true (EC.u32) (S.gen)), (Chunk.row true (EC.u32) (S.rel))] []))) = _ by kernel_rfl) ?_
    rw [wrap_u64 (x := S.reads - r) (by omega) (by omega), wrap_u64 (x := m) (by omega) (by omega)]
    refine brS_of (fun _ => ?_) fun c => by have := of_decide_eq_false c; omega
    rw [show decide (S.reads - r ≤ m) = true from decide_eq_true h4]
    exact h
  exact ⟨aWi, ⟨frame C0.ok s_rds _, trivial⟩, key ⟨us, gn, rl, fr, nd, ct, rd⟩ h.1 h.2.1 h.2.2.1 h.2.2.2.1 h.2.2.2.2.1 h.2.2.2.2.2⟩
end Go.Proofs.Ytbonbaccmlomhaa.Sx
end
section
/- reserve, ref8: how many slots an operation may need; lookup.Get. -/
namespace Go.Proofs.Ytbonbaccmlomhaa.Sx
open Go

/-KEEP okI Wf exW inU live Rep rdS Tr.size Tr.list getE Asc ht wt Hn-/
theorem htr_size : ∀ t : Tr, ht t ≤ t.size
  | .nil => Nat.le_refl _
  | .node l k v r => by
    have h1 := htr_size l
    have h2 := htr_size r
    rw [ht, Tr.size]
    split <;> omega
structure XGe (S : Arn) (t : Tr) (q : Int) where
  i : Int
  t' : Tr
  m : Nat
  h : Rep S t' i ∧ getE t.list q = getE t'.list q ∧ Asc t'.list ∧ m + ht t' ≤ ht t ∧ t'.size ≤ t.size
noncomputable def aGetT (S : Arn) (t : Tr) (q : Int) : Ann C0 := { Γ := [(63, frameT [] tNode)], inv := fun n => match n with
  | 2 => some { X := XGe S t q, sl := [8], tf := fun x => [vi .u32 x.i], hf := fun x => chS (rdS S x.m), μ := fun x => x.t'.size, wr := [0] }
  | _ => none }
def tGetT : Tfm C0 := fun args H K => match args with
  | [.at (.ptr 0 0), .at (.val (.int .u32 i)), .at (.val (.int .i64 q))] => arM H fun S => ∃ hs t, Wf S hs ∧ Rep S t i ∧ Asc t.list ∧ t.size ≤ 1000000 ∧ S.reads + t.size ≤ 3000000000000000000 ∧
    ∀ S' m o, S' = rdS S m → m ≤ ht t → o = getE t.list q → K (.tup [.at (vI (o.getD 0)), .at (vB o.isSome)]) (chS S') [0]
  | _ => False
structure XMx (n : Int) where
  h : Nat
  p : h ≤ 80 ∧ wt h ≤ n + 1
noncomputable def aMxh (n : Int) : Ann C0 := { Γ := [], inv := fun k => match k with
  | 4 => some { X := XMx n, sl := [3, 4], tf := fun x => [vi .i64 x.h, vi .i64 (wt x.h)], hf := fun _ => [], μ := fun x => 80 - x.h }
  | _ => none }
def tMxh : Tfm C0 := fun args H K => match args, H with
  | [.at (.val (.int .i64 n))], [] => 0 ≤ n ∧ n ≤ 1000000 ∧ ∀ h, h = Hn n → K (.one (.at (vI h))) [] []
  | _, _ => False
def okI (l : List Int) : Prop := ∀ i : Nat, i < l.length → 0 ≤ l.getD i 0 ∧ l.getD i 0 ≤ 65536
structure XVd (l : List Int) where
  i : Nat
  h : i ≤ l.length
noncomputable def aVld (l : List Int) : Ann C0 := { Γ := [], inv := fun k => match k with
  | 2 => some { X := XVd l, sl := [7], tf := fun x => [vi .i64 x.i], hf := fun _ => [.row false EC.int l], μ := fun x => l.length - x.i }
  | _ => none }
def tVld : Tfm C0 := fun args H K => match args, H with
  | [.at (.slc 0)], [.row false .int l] => okI l ∧ l.length ≤ 100 ∧ K (.one (.at (vB true))) [.row false EC.int l] []
  | _, _ => False
noncomputable def aPath : Ann C0 := { Γ := [(150, frameT [] tMxh)] }
def tPath : Tfm C0 := fun args H K => match args, H with
  | [.at (.val (.int .i64 f)), .at (.val (.int .i64 n))], [] => 0 ≤ f ∧ f ≤ 100 ∧ 0 ≤ n ∧ n ≤ 1000000 ∧ ∀ p, p = f * (Hn n + 2) → K (.one (.at (vI p))) [] []
  | _, _ => False
noncomputable def aRes : Ann C0 := { Γ := [(126, frameT [] tVld), (127, frameT [] tPath)] }
def tRes1 (f d : Int) : Tfm C0 := fun args H K => match args, H with
  | [.at (.val (.int .i64 n))], [] => 0 ≤ n ∧ n ≤ 65536 ∧ ∀ p, p = f * (Hn (n + d) + 2) → K (.one (.at (vI p))) [] []
  | _, _ => False
def tRes2 : Tfm C0 := fun args H K => match args, H with
  | [.at (.val (.int .i64 n)), .at (.val (.int .i64 m))], [] => 0 ≤ n ∧ n ≤ 65536 ∧ 0 ≤ m ∧ m ≤ 65536 ∧ ∀ p, p = 4 * (Hn (n + m + 1) + 2) → K (.one (.at (vI p))) [] []
  | _, _ => False
noncomputable def aNeed : Ann C0 := { Γ := [(118, frameT [] tMh)] }
def tNeed : Tfm C0 := fun args H K => match args, H with
  | [.at (.val (.int .i64 a)), .at (.val (.int .i64 b)), .at (.val (.int .i64 c)), .at (.val (.int .i64 m)), .at (.val (.int .i64 e)), .at (.val (.int .i64 f))], [] => 0 ≤ a ∧ a ≤ 65536 ∧ 0 ≤ b ∧ b ≤ 65536 ∧ 0 ≤ c ∧ c ≤ 65536 ∧ 0 ≤ m ∧ m ≤ 10 ∧ 0 ≤ e ∧ e ≤ 200000 ∧ 0 ≤ f ∧ f ≤ 100 ∧ ∀ p, p = e + f * (Hn (a + b + c + m) + 2) → K (.one (.at (vI p))) [] []
  | _, _ => False
noncomputable def aN8 : Ann C0 := { Γ := [(82, frameT [] tNeed)] }
theorem vc_getT (S : Arn) (i q : Int) (K : KT) (hs : List Int) (t : Tr) (hw : Wf S hs) (hr : Rep S t i) (ha : Asc t.list) (_ : t.size ≤ 1000000) (h2 : S.reads + t.size ≤ 3000000000000000000)
    (h : ∀ S' m o, S' = rdS S m → m ≤ ht t → o = getE t.list q → K (.tup [.at (vI (o.getD 0)), .at (vB o.isSome)]) (chS S') [0]) :
    vc C0 (aGetT S t q) Try.f18 [.at (.ptr 0 0), .at (vU i), .at (vI q)] (chS S) (normK 7 (wideK [0] K)) := by
  refine Eq.mp (show ((∃ x : XGe S t q, (True ∧ (True ∧ ((Value.int IntKind.i64 (q)) = (Value.int IntKind.i64 (q))) ∧ ((Value.int IntKind.u32 (i)) = (Value.int IntKind.u32 (x.i))) ∧ True) ∧ (True ∧ True ∧ True ∧ ((Value.int IntKind.u64 (S.reads)) = (Value.int IntKind.u64 ((rdS S x.m).reads))) ∧ True) ∧ (True ∧ True ∧ True ∧ ((Value.int IntKind.u32 (S.fresh)) = (Value.int IntKind.u32 ((rdS S x.m).fresh))) ∧ True) ∧ ((S.nodes) = ((rdS S x.m).nodes)) ∧ ((S.counts) = ((rdS S x.m).counts)) ∧ ((S.used) = ((rdS S x.m).used)) ∧ ((S.gen) = ((rdS S x.m).gen)) ∧ ((S.rel) = ((rdS S x.m).rel)) ∧ True)) ∧
(∀ x : XGe S t q, (True → (brS (x.i != 0) (((inU x.i) ∧ (exW (rdS S x.m)) ∧ ((rdS S x.m).reads < 4000000000000000000) ∧ (∀ S' : Arn, (((S') = (rdS (rdS S x.m) ((rdS S x.m).us x.i).toNat)) → (brS (!(rdS S x.m).us x.i) ((K (SV.tup [(TV.at (At.val (Value.int IntKind.i64 0))), (TV.at (At.val (Value.bool false)))]) [(Chunk.box [(At.ptr 1 0), (At.slc 2), (At.slc 3), (At.val (Value.int IntKind.u64 (S'.reads)))]), (Chunk.box [(At.slc 4), (At.slc 5), (At.slc 6), (At.val (Value.int IntKind.u32 (S'.fresh)))]), (Chunk.row true (EC.node) (S'.nodes)), (Chunk.row true (EC.int) (S'.counts)), (Chunk.row true (EC.bool) (S'.used)), (Chunk.row true (EC.u32) (S'.gen)), (Chunk.row true (EC.u32) (S'.rel))] [0])) ((brS (decide (q < ((rdS S x.m).nd x.i).key)) ((∃ x' : XGe S t q, (True ∧ ((True ∧ ((Value.int IntKind.i64 (q)) = (Value.int IntKind.i64 (q))) ∧
    ((Value.int IntKind.u32 (((rdS S x.m).nd x.i).left)) = (Value.int IntKind.u32 (x'.i))) ∧ True) ∧ (True ∧ True ∧ True ∧ ((Value.int IntKind.u64 (S'.reads)) = (Value.int IntKind.u64 ((rdS S x'.m).reads))) ∧ True) ∧ (True ∧ True ∧ True ∧ ((Value.int IntKind.u32 (S'.fresh)) = (Value.int IntKind.u32 ((rdS S x'.m).fresh))) ∧ True) ∧ ((S'.nodes) = ((rdS S x'.m).nodes)) ∧ ((S'.counts) = ((rdS S x'.m).counts)) ∧ ((S'.used) = ((rdS S x'.m).used)) ∧ ((S'.gen) = ((rdS S x'.m).gen)) ∧ ((S'.rel) = ((rdS S x'.m).rel)) ∧ True) ∧ (x'.t'.size < x.t'.size)))) ((brS (decide (q > ((rdS S x.m).nd x.i).key)) ((∃ x' : XGe S t q, (True ∧ ((True ∧ ((Value.int IntKind.i64 (q)) = (Value.int IntKind.i64 (q))) ∧ ((Value.int IntKind.u32 (((rdS S x.m).nd x.i).right)) = (Value.int IntKind.u32 (x'.i))) ∧ True) ∧ (True ∧ True ∧ True ∧ ((Value.int IntKind.u64 (S'.reads)) = (Value.int IntKind.u64 ((rdS S x'.m).reads))) ∧ True) ∧ (True ∧ True ∧ True ∧ ((Value.int IntKind.u32 (S'.fresh)) = (Value.int IntKind.u32 ((rdS S x'.m).fresh))) ∧ True) ∧ ((S'.nodes) = ((rdS S x'.m).nodes)) ∧ ((S'.counts) = ((rdS S x'.m).counts)) ∧ ((S'.used) = ((rdS S x'.m).used)) ∧ ((S'.gen) = ((rdS S x'.m).gen)) ∧ ((S'.rel) = ((rdS S x'.m).rel)) ∧ True) ∧ (x'.t'.size < x.t'.size))))
    ((K (SV.tup [(TV.at (At.val (Value.int IntKind.i64 (((rdS S x.m).nd x.i).value)))), (TV.at (At.val (Value.bool true)))]) [(Chunk.box [(At.ptr 1 0), (At.slc 2), (At.slc 3), (At.val (Value.int IntKind.u64 (S'.reads)))]), (Chunk.box [(At.slc 4), (At.slc 5), (At.slc 6), (At.val (Value.int IntKind.u32 (S'.fresh)))]), (Chunk.row true (EC.node) (S'.nodes)), (Chunk.row true (EC.int) (S'.counts)), (Chunk.row true (EC.bool) (S'.used)), (Chunk.row true (EC.u32) (S'.gen)), (Chunk.row true (EC.u32) (S'.rel))] [0]))))))))))) ((K (SV.tup [(TV.at (At.val (Value.int IntKind.i64 0))), (TV.at (At.val (Value.bool false)))]) [(Chunk.box [(At.ptr 1 0), (At.slc 2), (At.slc 3), (At.val (Value.int IntKind.u64 ((rdS S x.m).reads)))]), (Chunk.box [(At.slc 4), (At.slc 5), (At.slc 6), (At.val (Value.int IntKind.u32 ((rdS S x.m).fresh)))]), (Chunk.row true (EC.node) ((rdS S x.m).nodes)), (Chunk.row true (EC.int) ((rdS S x.m).counts)), (Chunk.row true (EC.bool) ((rdS S x.m).used)), (Chunk.row true (EC.u32) ((rdS S x.m).gen)), (Chunk.row true (EC.u32) ((rdS S x.m).rel))] [0])))))) = _ by kernel_rfl) ?_
  have hrd := hw.rds
  have hts := htr_size t
  refine ⟨⟨⟨i, t, 0, hr, rfl, ha, by omega, Nat.le_refl _⟩, ?_⟩, fun x _ => ?_⟩
  · (repeat' first | exact trivial | exact rfl | refine And.intro ?_ ?_)
    rw [rdS_zero]
  obtain ⟨xi, xt, xm, h1', h2', h3', h4', h5'⟩ := x
  dsimp only
  have hwx : Wf (rdS S xm) hs := hw.rd (by omega)
  refine brS_of (fun c => ?_) fun c => ?_
  · have c : xi ≠ 0 := by simpa using c
    cases xt with
    | nil => exact absurd h1' c
    | node l k v r =>
      obtain ⟨r1, r2, r3, r4, r5⟩ := h1'
      have q1 := ht_l l r k v
      have q2 := ht_r l r k v
      have hsz : l.size + r.size + 1 = (Tr.node l k v r).size := by simp [Tr.size]; omega
      have asc' : Asc (l.list ++ (k, v) :: r.list) := h3'
      obtain ⟨al, ar, _, _⟩ := asc_parts asc'
      refine ⟨inU_of hw (.inr r1), ⟨_, hwx⟩, by show S.reads + (xm : Int) < _; omega, fun S1 e1 => brS_of (fun d => ?_) fun _ => ?_⟩
      · have d : (!S.us xi) = true := d
        rw [r1] at d; cases d
      have e1 : S1 = rdS S (xm + 1) := by rw [e1, rdS_rdS]; show rdS S (xm + (S.us xi).toNat) = _; rw [r1]; rfl
      subst e1
      have ek : ((rdS S xm).nd xi).key = k := r2
      have ev : ((rdS S xm).nd xi).value = v := r3
      rw [ek]
      refine brS_of (fun d => ?_) fun d => brS_of (fun d2 => ?_) fun d2 => ?_
      · have d : q < k := of_decide_eq_true d
        refine ⟨⟨(S.nd xi).left, l, xm + 1, r4, by rw [h2']; exact getE_left asc' d, al, by omega, by omega⟩, ?_⟩
        (repeat' first | exact trivial | exact rfl | refine And.intro ?_ ?_)
        show l.size < (Tr.node l k v r).size; omega
      · have d2 : k < q := of_decide_eq_true d2
        refine ⟨⟨(S.nd xi).right, r, xm + 1, r5, by rw [h2']; exact getE_right asc' d2, ar, by omega, by omega⟩, ?_⟩
        (repeat' first | exact trivial | exact rfl | refine And.intro ?_ ?_)
        show r.size < (Tr.node l k v r).size; omega
      · have d : ¬ q < k := of_decide_eq_false d
        have d2 : ¬ k < q := of_decide_eq_false d2
        have eq : k = q := by omega
        subst eq
        rw [ev]
        exact h _ (xm + 1) (some v) rfl (by omega) (by rw [h2']; exact (getE_at asc').symm)
  · have c : xi = 0 := by simpa using c
    subst c
    have e := h1'.zero hw
    subst e
    exact h _ xm none rfl (by omega) (by rw [h2']; rfl)
theorem s_getT : SoundT C0 18 tGetT := by
  refine .ofW [0] Try.func18 (by decide) rfl fun args H K h hB => ?_
  unfold tGetT at h
  split at h <;> try exact h.elim
  unfold arM at h
  split at h <;> try exact h.elim
  rename_i i q _ rd fr nd ct us gn rl
  obtain ⟨hs, t, h1, h2, h3, h4, h5, h6⟩ := h
  exact ⟨aGetT ⟨us, gn, rl, fr, nd, ct, rd⟩ t q, ⟨frame C0.ok s_node _, trivial⟩, vc_getT ⟨us, gn, rl, fr, nd, ct, rd⟩ i q K hs t h1 h2 h3 h4 h5 h6⟩
theorem tdiv3 {x : Int} (h : 0 ≤ x) : x.tdiv 3 = x / 3 := Int.tdiv_eq_ediv_of_nonneg h
theorem Hn_top {n : Int} (h : 0 ≤ n) {k : Nat} (h1 : k ≤ 80) (h2 : wt k ≤ n + 1) (h3 : k = 80 ∨ n + 1 < wt (k + 1)) : (k : Int) = Hn n := by
  have e := gN_size n.toNat
  rw [show ((n.toNat : Nat) : Int) = n by omega] at e
  have a := gN_le (w := n.toNat + 1) h1 (by omega)
  have b := gN_wt (w := n.toNat + 1) (by omega)
  have c := gN_rng (n.toNat + 1)
  rcases h3 with h3 | h3
  · omega
  · by_cases d : k + 1 ≤ gN (n.toNat + 1)
    · have := wt_mono d c; omega
    · omega
theorem vc_mxh (n : Int) (K : KT) (h1 : 0 ≤ n) (h2 : n ≤ 1000000) (h : ∀ h, h = Hn n → K (.one (.at (vI h))) [] []) : vc C0 (aMxh n) Try.f150 [.at (vI n)] [] (normK 0 K) := by
  refine Eq.mp (show (brS (decide (n < 0)) ((K (SV.one (TV.at (At.val (Value.int IntKind.i64 (-1))))) [] [])) ((brS (decide (n > 2147483647)) ((K (SV.one (TV.at (At.val (Value.int IntKind.i64 (-1))))) [] [])) (((∃ x : XMx n, (True ∧ (((Value.int IntKind.i64 (n)) = (Value.int IntKind.i64 (n))) ∧ ((Value.int IntKind.i64 0) = (Value.int IntKind.i64 ((↑x.h : Int)))) ∧ ((Value.int IntKind.i64 1) = (Value.int IntKind.i64 (wt x.h))) ∧ True) ∧ True)) ∧ (∀ x : XMx n, (True → (brS (decide ((↑x.h : Int) < 80)) ((brS (decide (IntKind.i64.wrap (IntKind.i64.wrap (wt x.h + IntKind.i64.wrap ((IntKind.i64.wrap (wt x.h + 2)).tdiv 3)) - 1) > n)) ((K (SV.one (TV.at (At.val (Value.int IntKind.i64 ((↑x.h : Int)))))) [] [])) ((∃ x' : XMx n, (True ∧ ((((Value.int IntKind.i64 (n)) = (Value.int IntKind.i64 (n))) ∧ ((Value.int IntKind.i64 (IntKind.i64.wrap ((↑x.h : Int) + 1))) = (Value.int IntKind.i64 ((↑x'.h : Int)))) ∧ ((Value.int IntKind.i64 (IntKind.i64.wrap (wt x.h + IntKind.i64.wrap ((IntKind.i64.wrap (wt x.h + 2)).tdiv 3)))) = (Value.int IntKind.i64 (wt x'.h))) ∧ True) ∧ True) ∧ (80 - x'.h < 80 - x.h)))))) ((K (SV.one (TV.at (At.val (Value.int IntKind.i64 ((↑x.h : Int)))))) [] [])))))))))) = _ by kernel_rfl) ?_
  refine brS_of (fun c => by have := of_decide_eq_true c; omega) fun _ => brS_of (fun c => by have : n > 2147483647 := of_decide_eq_true c; omega) fun _ => ⟨⟨⟨0, by decide, by rw [w0]; omega⟩, ?_⟩, fun x _ => brS_of (fun c => ?_) fun c => ?_⟩
  · (repeat' first | exact trivial | exact rfl | refine And.intro ?_ ?_)
  · obtain ⟨k, p1, p2⟩ := x
    have c : (k : Int) < 80 := of_decide_eq_true c
    have c : k < 80 := by omega
    have st := wt_step k c
    have lo : 1 ≤ wt k := by have := wt_mono (Nat.zero_le k) p1; rw [w0] at this; exact this
    dsimp only
    rw [wrap_id (x := wt k + 2) (by omega) (by omega), tdiv3 (by omega), wrap_id (x := (wt k + 2) / 3) (by omega) (by omega), wrap_id (x := wt k + (wt k + 2) / 3) (by omega) (by omega), wrap_id (x := wt k + (wt k + 2) / 3 - 1) (by omega) (by omega), ← st]
    refine brS_of (fun d => ?_) fun d => ?_
    · have d : wt (k + 1) - 1 > n := of_decide_eq_true d
      exact h _ (Hn_top h1 p1 p2 (.inr (by omega)))
    · have d : ¬ wt (k + 1) - 1 > n := of_decide_eq_false d
      refine ⟨⟨k + 1, c, by omega⟩, ?_⟩
      (repeat' first | exact trivial | exact rfl | refine And.intro ?_ ?_)
      · rw [wrap_id (x := (k : Int) + 1) (by omega) (by omega)]; congr 1
      · show 80 - (k + 1) < 80 - k; omega
  · obtain ⟨k, p1, p2⟩ := x
    have c : ¬ (k : Int) < 80 := of_decide_eq_false c
    have c : k = 80 := by omega
    exact h _ (Hn_top h1 p1 p2 (.inl c))
theorem s_mxh : SoundT C0 150 tMxh := by
  refine .of Try.func150 (by decide) rfl fun args H K h hB => ?_
  unfold tMxh at h
  split at h <;> try exact h.elim
  rename_i n
  exact ⟨aMxh n, trivial, vc_mxh n K h.1 h.2.1 h.2.2⟩
theorem vc_vld (l : List Int) (K : KT) (h1 : okI l) (h2 : l.length ≤ 100) (h : K (.one (.at (vB true))) [.row false EC.int l] []) : vc C0 (aVld l) Try.f126 [.at (.slc 0)] [.row false EC.int l] (normK 1 K) := by
  refine Eq.mp (show ((∃ x : XVd l, (True ∧ (True ∧ ((Value.int IntKind.i64 ((↑l.length : Int))) = (Value.int IntKind.i64 ((↑l.length : Int)))) ∧ ((Value.int IntKind.i64 0) = (Value.int IntKind.i64 ((↑x.i : Int)))) ∧ True) ∧ ((l) = (l)) ∧ True)) ∧
(∀ x : XVd l, (True → (brS (decide ((↑x.i : Int) < (↑l.length : Int))) (((0 ≤ (↑x.i : Int)) ∧ ((↑x.i : Int) < (↑l.length : Int)) ∧ (brS (decide (l.getD (↑x.i : Int).toNat 0 < 0)) ((K (SV.one (TV.at (At.val (Value.bool false)))) [(Chunk.row false (EC.int) (l))] [])) ((brS (decide (l.getD (↑x.i : Int).toNat 0 > 65536)) ((K (SV.one (TV.at (At.val (Value.bool false)))) [(Chunk.row false (EC.int) (l))] [])) ((∃ x' : XVd l, (True ∧ ((True ∧ ((Value.int IntKind.i64 ((↑l.length : Int))) = (Value.int IntKind.i64 ((↑l.length : Int)))) ∧ ((Value.int IntKind.i64 (IntKind.i64.wrap ((↑x.i : Int) + 1))) = (Value.int IntKind.i64 ((↑x'.i : Int)))) ∧ True) ∧ ((l) = (l)) ∧ True) ∧ (l.length - x'.i < l.length - x.i))))))))) ((K (SV.one (TV.at (At.val (Value.bool true)))) [(Chunk.row false (EC.int) (l))] [])))))) = _ by kernel_rfl) ?_
  refine ⟨⟨⟨0, Nat.zero_le _⟩, ?_⟩, fun x _ => brS_of (fun c => ?_) fun c => h⟩
  · (repeat' first | exact trivial | exact rfl | refine And.intro ?_ ?_)
  · obtain ⟨i, hi⟩ := x
    have c : (i : Int) < l.length := of_decide_eq_true c
    have c : i < l.length := by omega
    obtain ⟨a, b⟩ := h1 i c
    refine ⟨by omega, by omega, brS_of (fun d => ?_) fun _ => brS_of (fun d => ?_) fun _ => ⟨⟨i + 1, c⟩, ?_⟩⟩
    · have d : l.getD i 0 < 0 := of_decide_eq_true d
      omega
    · have d : l.getD i 0 > 65536 := of_decide_eq_true d
      omega
    · (repeat' first | exact trivial | exact rfl | refine And.intro ?_ ?_)
      · rw [wrap_id (x := (i : Int) + 1) (by omega) (by omega)]; congr 1
      · show l.length - (i + 1) < l.length - i; omega
theorem s_vld : SoundT C0 126 tVld := by
  refine .of Try.func126 (by decide) rfl fun args H K h hB => ?_
  unfold tVld at h
  split at h <;> try exact h.elim
  rename_i l
  exact ⟨aVld l, trivial, vc_vld l K h.1 h.2.1 h.2.2⟩
theorem s_path : SoundT C0 127 tPath := by
  refine .of Try.func127 (by decide) rfl fun args H K h hB => ?_
  unfold tPath at h
  split at h <;> try exact h.elim
  rename_i f n
  obtain ⟨h1, h2, h3, h4, h5⟩ := h
  refine ⟨aPath, ⟨frame C0.ok s_mxh _, trivial⟩, Eq.mp (show ((0 ≤ n) ∧
(n ≤ 1000000) ∧
(∀ h : Int, (((h) = (Hn n)) → (K (SV.one (TV.at (At.val (Value.int IntKind.i64 (IntKind.i64.wrap (f * IntKind.i64.wrap (h + 2))))))) [] [])))) = _ by kernel_rfl) ⟨h3, h4, fun p e => ?_⟩⟩
  have r := Hn_rng n
  subst e
  have hb : f * (Hn n + 2) ≤ 100 * 82 := Int.mul_le_mul h2 (by omega) (by omega) (by omega)
  have ha : 0 ≤ f * (Hn n + 2) := Int.mul_nonneg h1 (by omega)
  rw [wrap_id (x := Hn n + 2) (by omega) (by omega), wrap_id (x := f * (Hn n + 2)) (by omega) (by omega)]
  exact h5 _ rfl
theorem okI_one {n : Int} (h1 : 0 ≤ n) (h2 : n ≤ 65536) : okI [n] := by
  intro i hi
  have : i = 0 := by simpa using hi
  subst this
  exact ⟨h1, h2⟩
theorem okI_two {n m : Int} (h1 : 0 ≤ n) (h2 : n ≤ 65536) (h3 : 0 ≤ m) (h4 : m ≤ 65536) : okI [n, m] := by
  intro i hi
  match i, hi with
  | 0, _ => exact ⟨h1, h2⟩
  | 1, _ => exact ⟨h3, h4⟩
  | i + 2, hi => simp at hi; omega
theorem s_rIns : SoundT C0 104 (tRes1 4 1) := by
  refine .of Try.func104 (by decide) rfl fun args H K h hB => ?_
  unfold tRes1 at h
  split at h <;> try exact h.elim
  rename_i n
  obtain ⟨h1, h2, h3⟩ := h
  refine ⟨aRes, ⟨frame C0.ok s_vld _, frame C0.ok s_path _, trivial⟩, Eq.mp (show ((okI [n]) ∧
([n].length ≤ 100) ∧
((0 : Int) ≤ 4) ∧
((4 : Int) ≤ 100) ∧
(0 ≤ IntKind.i64.wrap (n + 1)) ∧
(IntKind.i64.wrap (n + 1) ≤ 1000000) ∧
(∀ p : Int, (((p) = (4 * (Hn (IntKind.i64.wrap (n + 1)) + 2))) → (K (SV.one (TV.at (At.val (Value.int IntKind.i64 (p))))) [] [])))) = _ by kernel_rfl) ?_⟩
  rw [wrap_id (x := n + 1) (by omega) (by omega)]
  exact ⟨okI_one h1 h2, by simp, by decide, by decide, by omega, by omega, h3⟩
theorem s_rDel : SoundT C0 101 (tRes1 4 0) := by
  refine .of Try.func101 (by decide) rfl fun args H K h hB => ?_
  unfold tRes1 at h
  split at h <;> try exact h.elim
  rename_i n
  obtain ⟨h1, h2, h3⟩ := h
  refine ⟨aRes, ⟨frame C0.ok s_vld _, frame C0.ok s_path _, trivial⟩, Eq.mp (show ((okI [n]) ∧
([n].length ≤ 100) ∧
((0 : Int) ≤ 4) ∧
((4 : Int) ≤ 100) ∧
(0 ≤ n) ∧
(n ≤ 1000000) ∧
(∀ p : Int, (((p) = (4 * (Hn n + 2))) → (K (SV.one (TV.at (At.val (Value.int IntKind.i64 (p))))) [] [])))) = _ by kernel_rfl) ?_⟩
  exact ⟨okI_one h1 h2, by simp, by decide, by decide, by omega, by omega, fun p e => h3 p (by rw [e, Int.add_zero])⟩
theorem s_need : SoundT C0 82 tNeed := by
  refine .of Try.func82 (by decide) rfl fun args H K h hB => ?_
  unfold tNeed at h
  split at h <;> try exact h.elim
  rename_i a b c m e f
  obtain ⟨a1, a2, b1, b2, c1, c2, m1, m2, e1, e2, f1, f2, h⟩ := h
  refine ⟨aNeed, ⟨frame C0.ok s_mh _, trivial⟩, Eq.mp (show (brS (decide (a < 0)) ((K (SV.one (TV.at (At.val (Value.int IntKind.i64 (-1))))) [] [])) ((brS (decide (a > 65536)) ((K (SV.one (TV.at (At.val (Value.int IntKind.i64 (-1))))) [] [])) ((brS (decide (b < 0)) ((K (SV.one (TV.at (At.val (Value.int IntKind.i64 (-1))))) [] [])) ((brS (decide (b > 65536)) ((K (SV.one (TV.at (At.val (Value.int IntKind.i64 (-1))))) [] [])) ((brS (decide (c < 0)) ((K (SV.one (TV.at (At.val (Value.int IntKind.i64 (-1))))) [] [])) ((brS (decide (c > 65536)) ((K (SV.one (TV.at (At.val (Value.int IntKind.i64 (-1))))) [] [])) (((0 ≤ IntKind.i64.wrap (IntKind.i64.wrap (IntKind.i64.wrap (a + b) + c) + m)) ∧ (IntKind.i64.wrap (IntKind.i64.wrap (IntKind.i64.wrap (a + b) + c) + m) ≤ 2147483647) ∧ (∀ h : Int, (((h) = (Hn (IntKind.i64.wrap (IntKind.i64.wrap (IntKind.i64.wrap (a + b) + c) + m)))) → (K (SV.one (TV.at (At.val (Value.int IntKind.i64 (IntKind.i64.wrap (e + IntKind.i64.wrap (f * IntKind.i64.wrap (h + 2)))))))) [] [])))))))))))))))) = _ by kernel_rfl) ?_⟩
  rw [wrap_id (x := a + b) (by omega) (by omega), wrap_id (x := a + b + c) (by omega) (by omega), wrap_id (x := a + b + c + m) (by omega) (by omega)]
  refine brS_of (fun q => by have := of_decide_eq_true q; omega) fun _ => brS_of (fun q => by have : a > 65536 := of_decide_eq_true q; omega) fun _ => brS_of (fun q => by have := of_decide_eq_true q; omega) fun _ => brS_of (fun q => by have : b > 65536 := of_decide_eq_true q; omega) fun _ =>
    brS_of (fun q => by have := of_decide_eq_true q; omega) fun _ => brS_of (fun q => by have : c > 65536 := of_decide_eq_true q; omega) fun _ => ⟨by omega, by omega, fun p ep => ?_⟩
  have r := Hn_rng (a + b + c + m)
  subst ep
  have hb : f * (Hn (a + b + c + m) + 2) ≤ 100 * 82 := Int.mul_le_mul f2 (by omega) (by omega) (by omega)
  have ha : 0 ≤ f * (Hn (a + b + c + m) + 2) := Int.mul_nonneg f1 (by omega)
  rw [wrap_id (x := Hn (a + b + c + m) + 2) (by omega) (by omega), wrap_id (x := f * (Hn (a + b + c + m) + 2)) (by omega) (by omega), wrap_id (by omega) (by omega)]
  exact h _ rfl
theorem s_nIns : SoundT C0 55 (tRes1 4 1) := by
  refine .of Try.func55 (by decide) rfl fun args H K h hB => ?_
  unfold tRes1 at h
  split at h <;> try exact h.elim
  rename_i n
  obtain ⟨h1, h2, h3⟩ := h
  refine ⟨aN8, ⟨frame C0.ok s_need _, trivial⟩, Eq.mp (show ((0 ≤ n) ∧
(n ≤ 65536) ∧
((0 : Int) ≤ 0) ∧
((0 : Int) ≤ 65536) ∧
((0 : Int) ≤ 0) ∧
((0 : Int) ≤ 65536) ∧
((0 : Int) ≤ 1) ∧
((1 : Int) ≤ 10) ∧
((0 : Int) ≤ 0) ∧
((0 : Int) ≤ 200000) ∧
((0 : Int) ≤ 4) ∧
((4 : Int) ≤ 100) ∧
(∀ p : Int, (((p) = (0 + 4 * (Hn (n + 0 + 0 + 1) + 2))) → (K (SV.one (TV.at (At.val (Value.int IntKind.i64 (p))))) [] [])))) = _ by kernel_rfl) ?_⟩
  exact ⟨h1, h2, by decide, by decide, by decide, by decide, by decide, by decide, by decide, by decide, by decide, by decide, fun p e => h3 p (by rw [e]; simp)⟩
end Go.Proofs.Ytbonbaccmlomhaa.Sx
end
section
/- setops: Union, Intersect, Subtract, Exclusive. -/
namespace Go.Proofs.Ytbonbaccmlomhaa.Sx
open Go

/-KEEP Wf exW inU live Arn.cap Arn.free Rep Kept rdS retL Tr.size Tr.list Tr.Bal TrR Got flt getE Asc SetR StM rdW dW chooseP fUni fInt gSub gExc Hn-/
def tValidS : Tfm C0 := fun args H K => match args, H with
  | [.at (.val (.int .i64 p))], [] => ∀ b, b = decide (1 ≤ p ∧ p ≤ 5) → K (.one (.at (vB b))) [] []
  | _, _ => False
def tResS : Tfm C0 := fun args H K => match args, H with
  | [.at (.val (.int .i64 n)), .at (.val (.int .i64 m))], [] => 0 ≤ n ∧ n ≤ 65536 ∧ 0 ≤ m ∧ m ≤ 65536 ∧ ∀ p, p = n + m + 12 * (Hn (n + m) + 2) → K (.one (.at (vI p))) [] []
  | _, _ => False
structure OpM (S : Arn) (hs : List Int) (tx ty : Tr) (x y : Int) : Prop where
  wf : Wf S hs
  rx : Rep S tx x
  ry : Rep S ty y
  bx : tx.Bal
  bY : ty.Bal
  ax : Asc tx.list
  ay : Asc ty.list
  sx : tx.size ≤ 65536
  sy : ty.size ≤ 65536
  hl : hs.length ≤ 900000
  rd : S.reads ≤ 900000000000000000
def needS (tx ty : Tr) : Int := (tx.size : Int) + ty.size + 12 * (Hn ((tx.size : Int) + ty.size) + 2)
def tRoomS : Tfm C0 := fun args H K => match args with
  | [.at (.ptr 0 0), .at (.val (.int .u32 x)), .at (.val (.int .u32 y))] => arM H fun S => ∃ hs tx ty, OpM S hs tx ty x y ∧ ∀ S' m b, S' = rdS S m → m ≤ 2 → b = decide (needS tx ty ≤ S.free) → K (.one (.at (vB b))) (chS S') [0]
  | _ => False
noncomputable def aRoomS : Ann C0 := { Γ := [(49, frameT [] tSize), (111, frameT [] tResS), (95, frameT [] tRoom)] }
/-- What an operation answers: f at every key; whole tells that nothing is to do, res is the answer then. -/
def SoR (f : Int → Option Int → Option Int → Option Int) (whole : Int → Int → Int → Prop) (res : Int → Int → Int) (S : Arn) (hs : List Int) (tx ty : Tr) (x y p : Int) (S' : Arn) (i e : Int) : Prop :=
  (whole x y p ∧ e = 0 ∧ i = res x y ∧ S' = retL S (res x y)) ∨
  (¬ whole x y p ∧ S.free < needS tx ty ∧ e = 2 ∧ i = 0 ∧ ∃ m, m ≤ 2 ∧ S' = rdS S m) ∨
  (¬ whole x y p ∧ needS tx ty ≤ S.free ∧ e = 0 ∧ ∃ L, SetR (f p) tx.list ty.list L ∧ TrR S hs L 65537 2000000000 S' i)
def whU (x y p : Int) : Prop := x = 0 ∨ y = 0 ∨ (x = y ∧ p ≠ 3)
def reU (x y : Int) : Int := if y = 0 then x else if x = y then x else y
def reI (x y : Int) : Int := if x = 0 ∨ y = 0 then 0 else x
def whS (x y _ : Int) : Prop := x = 0 ∨ y = 0 ∨ x = y
def reS (x y : Int) : Int := if x = 0 ∨ x = y then 0 else x
def reE (x y : Int) : Int := if x = y then 0 else if x = 0 then y else x
noncomputable def aSo (g : FuncId) (f : Int → Option Int → Option Int → Option Int) : Ann C0 := { Γ := [(70, frameT [] tValidS), (71, frameT [] tHold), (72, frameT [] tRoomS), (g, frameT [] (tWk f 1000000))] }
/-- With a policy. -/
def tSoP (f : Int → Option Int → Option Int → Option Int) (whole : Int → Int → Int → Prop) (res : Int → Int → Int) : Tfm C0 := fun args H K => match args with
  | [.at (.ptr 0 0), .at (.val (.int .u32 x)), .at (.val (.int .u32 y)), .at (.val (.int .i64 p))] => arM H fun S => ∃ hs tx ty, OpM S hs tx ty x y ∧
    (¬ (1 ≤ p ∧ p ≤ 5) → K (.tup [.at (vU 0), .at (vI 1)]) (chS S) W7) ∧ (1 ≤ p → p ≤ 5 → ∀ S' i e, SoR f whole res S hs tx ty x y p S' i e → K (.tup [.at (vU i), .at (vI e)]) (chS S') W7)
  | _ => False
/-- Without one. -/
def tSoN (f : Int → Option Int → Option Int → Option Int) (whole : Int → Int → Int → Prop) (res : Int → Int → Int) : Tfm C0 := fun args H K => match args with
  | [.at (.ptr 0 0), .at (.val (.int .u32 x)), .at (.val (.int .u32 y))] => arM H fun S => ∃ hs tx ty, OpM S hs tx ty x y ∧ ∀ S' i e, SoR f whole res S hs tx ty x y 1 S' i e → K (.tup [.at (vU i), .at (vI e)]) (chS S') W7
  | _ => False
theorem s_validS : SoundT C0 70 tValidS := by
  refine .of Try.func70 (by decide) rfl fun args H K h hB => ⟨A0, trivial, ?_⟩
  unfold tValidS at h
  split at h <;> try exact h.elim
  rename_i p
  refine Eq.mp (show (brS (decide (p ≥ 1)) ((K (SV.one (TV.at (At.val (Value.bool (decide (p ≤ 5)))))) [] [])) ((K (SV.one (TV.at (At.val (Value.bool false)))) [] []))) = _ by kernel_rfl) ?_
  refine brS_of (fun c => h _ ?_) fun c => h _ ?_
  · have c : p ≥ 1 := of_decide_eq_true c
    have c : 1 ≤ p := c
    simp [c]
  · have c : ¬ p ≥ 1 := of_decide_eq_false c
    have c : ¬ 1 ≤ p := c
    simp [c]
theorem s_rSet : SoundT C0 111 tResS := by
  refine .of Try.func111 (by decide) rfl fun args H K h hB => ?_
  unfold tResS at h
  split at h <;> try exact h.elim
  rename_i n m
  obtain ⟨h1, h2, h3, h4, h5⟩ := h
  refine ⟨aRes, ⟨frame C0.ok s_vld _, frame C0.ok s_path _, trivial⟩, Eq.mp (show ((∀ i : Nat, ((i < [n, m].length) → ((0 ≤ [n, m].getD i 0) ∧ ([n, m].getD i 0 ≤ 65536)))) ∧
([n, m].length ≤ 100) ∧
((0 : Int) ≤ 12) ∧
((12 : Int) ≤ 100) ∧
(0 ≤ IntKind.i64.wrap (n + m)) ∧
(IntKind.i64.wrap (n + m) ≤ 1000000) ∧
(∀ p : Int, (((p) = (12 * (Hn (IntKind.i64.wrap (n + m)) + 2))) → (K (SV.one (TV.at (At.val (Value.int IntKind.i64 (IntKind.i64.wrap (IntKind.i64.wrap (n + m) + p)))))) [] [])))) = _ by kernel_rfl) ?_⟩
  rw [wrap_id (x := n + m) (by omega) (by omega)]
  refine ⟨okI_two h1 h2 h3 h4, by simp, by decide, by decide, by omega, by omega, fun p e => ?_⟩
  have r := Hn_rng (n + m)
  subst e
  rw [wrap_id (by omega) (by omega)]
  exact h5 _ rfl
theorem s_nSet : SoundT C0 30 tResS := by
  refine .of Try.func30 (by decide) rfl fun args H K h hB => ?_
  unfold tResS at h
  split at h <;> try exact h.elim
  rename_i n m
  obtain ⟨h1, h2, h3, h4, h5⟩ := h
  refine ⟨aN8, ⟨frame C0.ok s_need _, trivial⟩, Eq.mp (show ((0 ≤ n) ∧
(n ≤ 65536) ∧
(0 ≤ m) ∧
(m ≤ 65536) ∧
((0 : Int) ≤ 0) ∧
((0 : Int) ≤ 65536) ∧
((0 : Int) ≤ 0) ∧
((0 : Int) ≤ 10) ∧
((0 : Int) ≤ 0) ∧
((0 : Int) ≤ 200000) ∧
((0 : Int) ≤ 0) ∧
((0 : Int) ≤ 100) ∧
(∀ p : Int, (((p) = (0 + 0 * (Hn (n + m + 0 + 0) + 2))) → (brS (decide (p < 0)) ((K (SV.one (TV.at (At.val (Value.int IntKind.i64 (-1))))) [] [])) (((0 ≤ n) ∧ (n ≤ 65536) ∧ (0 ≤ m) ∧ (m ≤ 65536) ∧ ((0 : Int) ≤ 0) ∧ ((0 : Int) ≤ 65536) ∧ ((0 : Int) ≤ 0) ∧ ((0 : Int) ≤ 10) ∧ (0 ≤ IntKind.i64.wrap (n + m)) ∧ (IntKind.i64.wrap (n + m) ≤ 200000) ∧ ((0 : Int) ≤ 12) ∧ ((12 : Int) ≤ 100) ∧ (∀ p1 : Int, (((p1) = (IntKind.i64.wrap (n + m) + 12 * (Hn (n + m + 0 + 0) + 2))) → (K (SV.one (TV.at (At.val (Value.int IntKind.i64 (p1))))) [] []))))))))) = _ by kernel_rfl) ?_⟩
  rw [wrap_id (x := n + m) (by omega) (by omega)]
  refine ⟨h1, h2, h3, h4, by decide, by decide, by decide, by decide, by decide, by decide, by decide, by decide, fun p e => brS_of (fun c => ?_) fun _ => ⟨h1, h2, h3, h4, by decide, by decide, by decide, by decide, by omega, by omega, by decide, by decide, fun p1 e1 => h5 p1 (by rw [e1]; simp)⟩⟩
  have c : p < 0 := of_decide_eq_true c
  rw [Int.zero_mul] at e
  omega
theorem us_on1 (b : Bool) : b.toNat ≤ 1 := by cases b <;> decide
theorem vc_roomS (S : Arn) (x y : Int) (K : KT) (hs : List Int) (tx ty : Tr) (o : OpM S hs tx ty x y) (h : ∀ S' m b, S' = rdS S m → m ≤ 2 → b = decide (needS tx ty ≤ S.free) → K (.one (.at (vB b))) (chS S') [0]) :
    vc C0 aRoomS Try.f72 [.at (.ptr 0 0), .at (vU x), .at (vU y)] (chS S) (normK 7 (wideK [0] K)) := by
  refine Eq.mp (show ((inU x) ∧
(exW S) ∧
(S.reads < 4000000000000000000) ∧
(∀ S' : Arn, (((S') = (rdS S (S.us x).toNat)) → ((inU y) ∧ (exW S') ∧ (S'.reads < 4000000000000000000) ∧ (∀ S'1 : Arn, (((S'1) = (rdS S' (S'.us y).toNat)) → ((0 ≤ (S.nd x).size) ∧ ((S.nd x).size ≤ 65536) ∧ (0 ≤ (S'.nd y).size) ∧ ((S'.nd y).size ≤ 65536) ∧ (∀ p : Int, (((p) = ((S.nd x).size + (S'.nd y).size + 12 * (Hn ((S.nd x).size + (S'.nd y).size) + 2))) → ((exW S'1) ∧ (∀ b : Bool, (((b) = (decide (0 ≤ p) && decide (p ≤ S'1.free))) → (K (SV.one (TV.at (At.val (Value.bool (b))))) [(Chunk.box [(At.ptr 1 0), (At.slc 2), (At.slc 3), (At.val (Value.int IntKind.u64 (S'1.reads)))]), (Chunk.box [(At.slc 4), (At.slc 5), (At.slc 6), (At.val (Value.int IntKind.u32 (S'1.fresh)))]), (Chunk.row true (EC.node) (S'1.nodes)), (Chunk.row true (EC.int) (S'1.counts)), (Chunk.row true (EC.bool) (S'1.used)), (Chunk.row true (EC.u32) (S'1.gen)), (Chunk.row true (EC.u32) (S'1.rel))] [0]))))))))))))) = _ by kernel_rfl) ?_
  have hr := o.rd
  have u1 := us_on1 (S.us x)
  have w1 : Wf (rdS S (S.us x).toNat) hs := o.wf.rd (by omega)
  have zx := o.rx.size o.wf
  have zy : ((rdS S (S.us x).toNat).nd y).size = ty.size := (o.ry.rdn (n := (S.us x).toNat)).size w1
  have sx := o.sx
  have sy := o.sy
  have r1 : (rdS S (S.us x).toNat).reads = S.reads + (S.us x).toNat := rfl
  refine ⟨inU_of o.wf o.rx.us, ⟨_, o.wf⟩, by omega, fun S1 e1 => ?_⟩
  subst e1
  have u2 := us_on1 ((rdS S (S.us x).toNat).us y)
  refine ⟨inU_of w1 (o.ry.rdn (n := (S.us x).toNat)).us, ⟨_, w1⟩, by omega, fun S2 e2 => ?_⟩
  subst e2
  rw [zx, zy]
  have w2 : Wf (rdS (rdS S (S.us x).toNat) ((rdS S (S.us x).toNat).us y).toNat) hs := w1.rd (by omega)
  refine ⟨by omega, by omega, by omega, by omega, fun p ep => ⟨⟨_, w2⟩, fun b eb => h _ _ b (rdS_rdS _ _ _) (by omega) ?_⟩⟩
  have r := Hn_rng ((tx.size : Int) + ty.size)
  have ef : (rdS (rdS S (S.us x).toNat) ((rdS S (S.us x).toNat).us y).toNat).free = S.free := rfl
  have ep : p = needS tx ty := ep
  have p0 : 0 ≤ p := by rw [ep]; unfold needS; omega
  rw [eb, ef, ep, decide_eq_true (by rw [← ep]; exact p0)]
  rfl
theorem s_roomS : SoundT C0 72 tRoomS := by
  refine .ofW [0] Try.func72 (by decide) rfl fun args H K h hB => ?_
  unfold tRoomS at h
  split at h <;> try exact h.elim
  unfold arM at h
  split at h <;> try exact h.elim
  rename_i x y _ rd fr nd ct us gn rl
  obtain ⟨hs, tx, ty, h1, h2⟩ := h
  exact ⟨aRoomS, ⟨frame C0.ok s_size _, frame C0.ok s_rSet _, frame C0.ok s_room _, trivial⟩, vc_roomS ⟨us, gn, rl, fr, nd, ct, rd⟩ x y K hs tx ty h1 h2⟩
theorem so_go {S : Arn} {hs : List Int} {tx ty : Tr} {x y : Int} {m : Nat} (o : OpM S hs tx ty x y) (hm : m ≤ 2) (c : needS tx ty ≤ S.free) :
    live (rdS S m) x ∧ Wf (rdS S m) hs ∧ live (retL (rdS S m) x) y ∧ Wf (retL (rdS S m) x) (x :: hs) ∧ StM (retL (retL (rdS S m) x) y) hs tx ty x y (tx.size + ty.size) ∧ Got (rdS S m) hs 0 0 (retL (retL (rdS S m) x) y) (x :: y :: hs) := by
  have hr := o.rd
  have sx := o.sx
  have sy := o.sy
  have hl := o.hl
  have w1 : Wf (rdS S m) hs := o.wf.rd (by omega)
  have ef : (rdS S m).free = S.free := rfl
  have er : (rdS S m).reads = S.reads + m := rfl
  unfold needS at c
  have st := StM.start w1 o.rx.rdn o.ry.rdn o.bx o.bY o.ax o.ay (by omega) (by omega) (by omega) (by rw [show ((tx.size + ty.size : Nat) : Int) = (tx.size : Int) + ty.size by omega]; omega)
  exact ⟨(o.rx.rdn (n := m)).us, w1, (o.ry.rdn (n := m)).retL.us, retL_wf w1 (o.rx.rdn (n := m)).us (by omega), st.1, st.2⟩
theorem so_tr {S S3 : Arn} {hs : List Int} {tx ty : Tr} {x y i : Int} {m : Nat} {L : List Ent} (o : OpM S hs tx ty x y) (hm : m ≤ 2) (g : Got (rdS S m) hs 0 0 (retL (retL (rdS S m) x) y) (x :: y :: hs))
    (t : TrR (retL (retL (rdS S m) x) y) hs L 65537 (rdW (tx.size + ty.size) tx.size) S3 i) : TrR S hs L 65537 2000000000 S3 i := by
  have hr := o.rd
  have sx := o.sx
  have g8 := gN_rng (tx.size + ty.size + 1)
  have lt : rdW (tx.size + ty.size) tx.size ≤ 4840 * 65536 := by
    unfold rdW
    exact Nat.mul_le_mul (by omega) sx
  have g0 : Got S hs 0 m (rdS S m) hs := Got.rds o.wf (by omega)
  exact ⟨(((g0.seq g (h := hs) (fun _ h => h) (fun _ h => h)).seq t.got (fun _ h => h) (fun _ h => h)).mono (m' := 0 + 0 + 65537) (Nat.le_refl _) (by omega)).loose, t.tree⟩
theorem vc_soU (S : Arn) (x y p : Int) (K : KT) (hs : List Int) (tx ty : Tr) (o : OpM S hs tx ty x y) (h0 : ¬ (1 ≤ p ∧ p ≤ 5) → K (.tup [.at (vU 0), .at (vI 1)]) (chS S) W7)
    (h1 : 1 ≤ p → p ≤ 5 → ∀ S' i e, SoR fUni whU reU S hs tx ty x y p S' i e → K (.tup [.at (vU i), .at (vI e)]) (chS S') W7) :
    vc C0 (aSo 73 fUni) Try.f22 [.at (.ptr 0 0), .at (vU x), .at (vU y), .at (vI p)] (chS S) (normK 7 (wideK W7 K)) := by
  refine Eq.mp (show (∀ b : Bool, (((b) = (decide (1 ≤ p ∧ p ≤ 5))) → (brS (!b) ((K (SV.tup [(TV.at (At.val (Value.int IntKind.u32 0))), (TV.at (At.val (Value.int IntKind.i64 1)))]) [(Chunk.box [(At.ptr 1 0), (At.slc 2), (At.slc 3), (At.val (Value.int IntKind.u64 (S.reads)))]), (Chunk.box [(At.slc 4), (At.slc 5), (At.slc 6), (At.val (Value.int IntKind.u32 (S.fresh)))]), (Chunk.row true (EC.node) (S.nodes)), (Chunk.row true (EC.int) (S.counts)), (Chunk.row true (EC.bool) (S.used)), (Chunk.row true (EC.u32) (S.gen)), (Chunk.row true (EC.u32) (S.rel))] [0, 1, 2, 3, 4, 5, 6])) ((brS (y == 0) (((live S x) ∧ (exW S) ∧ (∀ S' : Arn, (((S') = (retL S x)) → (K (SV.tup [(TV.at (At.val (Value.int IntKind.u32 (x)))), (TV.at (At.val (Value.int IntKind.i64 0)))]) [(Chunk.box [(At.ptr 1 0), (At.slc 2), (At.slc 3), (At.val (Value.int IntKind.u64 (S'.reads)))]), (Chunk.box [(At.slc 4), (At.slc 5), (At.slc 6), (At.val (Value.int IntKind.u32 (S'.fresh)))]), (Chunk.row true (EC.node) (S'.nodes)), (Chunk.row true (EC.int) (S'.counts)), (Chunk.row true (EC.bool) (S'.used)), (Chunk.row true (EC.u32) (S'.gen)), (Chunk.row true (EC.u32) (S'.rel))] [0, 1, 2, 3, 4, 5, 6]))))) ((brS (x == y) ((brS (p != 3) (((live S x) ∧ (exW S) ∧ (∀ S' : Arn, (((S') = (retL S x)) →
    (K (SV.tup [(TV.at (At.val (Value.int IntKind.u32 (x)))), (TV.at (At.val (Value.int IntKind.i64 0)))]) [(Chunk.box [(At.ptr 1 0), (At.slc 2), (At.slc 3), (At.val (Value.int IntKind.u64 (S'.reads)))]), (Chunk.box [(At.slc 4), (At.slc 5), (At.slc 6), (At.val (Value.int IntKind.u32 (S'.fresh)))]), (Chunk.row true (EC.node) (S'.nodes)), (Chunk.row true (EC.int) (S'.counts)), (Chunk.row true (EC.bool) (S'.used)), (Chunk.row true (EC.u32) (S'.gen)), (Chunk.row true (EC.u32) (S'.rel))] [0, 1, 2, 3, 4, 5, 6]))))) ((brS (x == 0) (((live S y) ∧ (exW S) ∧ (∀ S' : Arn, (((S') = (retL S y)) → (K (SV.tup [(TV.at (At.val (Value.int IntKind.u32 (y)))), (TV.at (At.val (Value.int IntKind.i64 0)))]) [(Chunk.box [(At.ptr 1 0), (At.slc 2), (At.slc 3), (At.val (Value.int IntKind.u64 (S'.reads)))]), (Chunk.box [(At.slc 4), (At.slc 5), (At.slc 6), (At.val (Value.int IntKind.u32 (S'.fresh)))]), (Chunk.row true (EC.node) (S'.nodes)), (Chunk.row true (EC.int) (S'.counts)), (Chunk.row true (EC.bool) (S'.used)), (Chunk.row true (EC.u32) (S'.gen)), (Chunk.row true (EC.u32) (S'.rel))] [0, 1, 2, 3, 4, 5, 6]))))) ((∃ hs : List Int, (∃ tx : Tr, (∃ ty : Tr, ((OpM S hs tx ty x y) ∧ (∀ S' : Arn, (∀ m : Nat, (∀ b1 : Bool, (((S') = (rdS S m)) → ((m ≤ 2) → (((b1) = (decide (needS tx ty ≤ S.free))) → (brS (!b1)
    ((K (SV.tup [(TV.at (At.val (Value.int IntKind.u32 0))), (TV.at (At.val (Value.int IntKind.i64 2)))]) [(Chunk.box [(At.ptr 1 0), (At.slc 2), (At.slc 3), (At.val (Value.int IntKind.u64 (S'.reads)))]), (Chunk.box [(At.slc 4), (At.slc 5), (At.slc 6), (At.val (Value.int IntKind.u32 (S'.fresh)))]), (Chunk.row true (EC.node) (S'.nodes)), (Chunk.row true (EC.int) (S'.counts)), (Chunk.row true (EC.bool) (S'.used)), (Chunk.row true (EC.u32) (S'.gen)), (Chunk.row true (EC.u32) (S'.rel))] [0, 1, 2, 3, 4, 5, 6])) (((live S' x) ∧ (exW S') ∧ (∀ S'1 : Arn, (((S'1) = (retL S' x)) → ((live S'1 y) ∧ (exW S'1) ∧ (∀ S'2 : Arn, (((S'2) = (retL S'1 y)) → (∃ hs1 : List Int, (∃ tx1 : Tr, (∃ ty1 : Tr, (∃ N : Nat, ((1 ≤ p) ∧ (p ≤ 5) ∧ (StM S'2 hs1 tx1 ty1 x y N) ∧ (tx1.size < 1000000) ∧ (∀ S'3 : Arn, (∀ i : Int, (∀ L : List Ent, ((SetR (fUni p) tx1.list ty1.list L) → ((TrR S'2 hs1 L 65537 (rdW N tx1.size) S'3 i) → (K (SV.tup [(TV.at (At.val (Value.int IntKind.u32 (i)))), (TV.at (At.val (Value.int IntKind.i64 0)))]) [(Chunk.box [(At.ptr 1 0), (At.slc 2), (At.slc 3), (At.val (Value.int IntKind.u64 (S'3.reads)))]), (Chunk.box [(At.slc 4), (At.slc 5), (At.slc 6), (At.val (Value.int IntKind.u32 (S'3.fresh)))]), (Chunk.row true (EC.node) (S'3.nodes)), (Chunk.row true (EC.int) (S'3.counts)), (Chunk.row true (EC.bool) (S'3.used)), (Chunk.row true (EC.u32) (S'3.gen)), (Chunk.row true (EC.u32) (S'3.rel))] [0, 1, 2, 3, 4, 5, 6])))))))))))))))))))))))))))))))))) ((brS (x == 0) (((live S y) ∧ (exW S) ∧ (∀ S' : Arn,
    (((S') = (retL S y)) → (K (SV.tup [(TV.at (At.val (Value.int IntKind.u32 (y)))), (TV.at (At.val (Value.int IntKind.i64 0)))]) [(Chunk.box [(At.ptr 1 0), (At.slc 2), (At.slc 3), (At.val (Value.int IntKind.u64 (S'.reads)))]), (Chunk.box [(At.slc 4), (At.slc 5), (At.slc 6), (At.val (Value.int IntKind.u32 (S'.fresh)))]), (Chunk.row true (EC.node) (S'.nodes)), (Chunk.row true (EC.int) (S'.counts)), (Chunk.row true (EC.bool) (S'.used)), (Chunk.row true (EC.u32) (S'.gen)), (Chunk.row true (EC.u32) (S'.rel))] [0, 1, 2, 3, 4, 5, 6]))))) ((∃ hs : List Int, (∃ tx : Tr, (∃ ty : Tr, ((OpM S hs tx ty x y) ∧ (∀ S' : Arn, (∀ m : Nat, (∀ b1 : Bool, (((S') = (rdS S m)) → ((m ≤ 2) → (((b1) = (decide (needS tx ty ≤ S.free))) → (brS (!b1) ((K (SV.tup [(TV.at (At.val (Value.int IntKind.u32 0))), (TV.at (At.val (Value.int IntKind.i64 2)))]) [(Chunk.box [(At.ptr 1 0), (At.slc 2), (At.slc 3), (At.val (Value.int IntKind.u64 (S'.reads)))]), (Chunk.box [(At.slc 4), (At.slc 5), (At.slc 6), (At.val (Value.int IntKind.u32 (S'.fresh)))]), (Chunk.row true (EC.node) (S'.nodes)), (Chunk.row true (EC.int) (S'.counts)), (Chunk.row true (EC.bool) (S'.used)), (Chunk.row true (EC.u32) (S'.gen)), (Chunk.row true (EC.u32) (S'.rel))] [0, 1, 2, 3, 4, 5, 6])) (((live S' x) ∧ (exW S') ∧ (∀ S'1 : Arn, (((S'1) = (retL S' x)) → ((live S'1 y) ∧ (exW S'1) ∧ (∀ S'2 : Arn, (((S'2) = (retL S'1 y)) → (∃ hs1 : List Int, (∃ tx1 : Tr, (∃ ty1 : Tr, (∃ N : Nat, ((1 ≤ p) ∧ (p ≤ 5) ∧ (StM S'2 hs1 tx1 ty1 x y N) ∧ (tx1.size < 1000000) ∧
    (∀ S'3 : Arn, (∀ i : Int, (∀ L : List Ent, ((SetR (fUni p) tx1.list ty1.list L) → ((TrR S'2 hs1 L 65537 (rdW N tx1.size) S'3 i) → (K (SV.tup [(TV.at (At.val (Value.int IntKind.u32 (i)))), (TV.at (At.val (Value.int IntKind.i64 0)))]) [(Chunk.box [(At.ptr 1 0), (At.slc 2), (At.slc 3), (At.val (Value.int IntKind.u64 (S'3.reads)))]), (Chunk.box [(At.slc 4), (At.slc 5), (At.slc 6), (At.val (Value.int IntKind.u32 (S'3.fresh)))]), (Chunk.row true (EC.node) (S'3.nodes)), (Chunk.row true (EC.int) (S'3.counts)), (Chunk.row true (EC.bool) (S'3.used)), (Chunk.row true (EC.u32) (S'3.gen)), (Chunk.row true (EC.u32) (S'3.rel))] [0, 1, 2, 3, 4, 5, 6]))))))))))))))))))))))))))))))))))))))) = _ by kernel_rfl) ?_
  refine fun b eb => brS_of (fun c => ?_) fun c => ?_
  · have c : ¬ (1 ≤ p ∧ p ≤ 5) := fun q => by rw [eb, decide_eq_true q] at c; cases c
    exact h0 c
  have c : 1 ≤ p ∧ p ≤ 5 := by rw [eb] at c; simpa using c
  obtain ⟨p1, p2⟩ := c
  have h := h1 p1 p2
  refine brS_of (fun d => ?_) fun d => ?_
  · have d : y = 0 := by simpa using d
    exact ⟨o.rx.us, ⟨_, o.wf⟩, fun S' e => h S' x 0 (.inl ⟨.inr (.inl d), rfl, by unfold reU; rw [if_pos d], by unfold reU; rw [if_pos d]; exact e⟩)⟩
  have d : y ≠ 0 := by simpa using d
  have hx : x = 0 → ∀ S', S' = retL S y → K (.tup [.at (vU y), .at (vI 0)]) (chS S') W7 := fun f S' e => by
    have er : reU x y = y := by unfold reU; rw [if_neg d, if_neg (by omega)]
    exact h S' y 0 (.inl ⟨.inl f, rfl, er.symm, by rw [er]; exact e⟩)
  refine brS_of (fun e => brS_of (fun f => ?_) fun f => ?_) fun e => ?_
  · have e : x = y := by simpa using e
    have f : p ≠ 3 := by simpa using f
    have er : reU x y = x := by unfold reU; rw [if_neg d, if_pos e]
    exact ⟨o.rx.us, ⟨_, o.wf⟩, fun S' q => h S' x 0 (.inl ⟨.inr (.inr ⟨e, f⟩), rfl, er.symm, by rw [er]; exact q⟩)⟩
  · have f : p = 3 := by simpa using f
    refine brS_of (fun g => ⟨o.ry.us, ⟨_, o.wf⟩, hx (by simpa using g)⟩) fun g => ?_
    have g : x ≠ 0 := by simpa using g
    have nw : ¬ whU x y p := by rintro (q | q | q); exact g q; exact d q; exact q.2 f
    refine ⟨hs, tx, ty, o, fun S1 m b e1 hm eb => brS_of (fun c => ?_) fun c => ?_⟩
    · subst e1
      have c : ¬ needS tx ty ≤ S.free := by rw [eb] at c; simpa using c
      exact h _ 0 2 (.inr (.inl ⟨nw, by omega, rfl, rfl, m, hm, rfl⟩))
    · have c : needS tx ty ≤ S.free := by rw [eb] at c; simpa using c
      subst e1
      obtain ⟨l1, w1, l2, w2, st, g⟩ := so_go o hm c
      exact ⟨l1, ⟨_, w1⟩, fun S2 e2 => by
        subst e2
        exact ⟨l2, ⟨_, w2⟩, fun S3 e3 => by
          subst e3
          exact ⟨hs, tx, ty, _, p1, p2, st, by have := o.sx; omega, fun S4 i L hL t => h S4 i 0 (.inr (.inr ⟨nw, c, rfl, L, hL, so_tr o hm g t⟩))⟩⟩⟩
  · have e : x ≠ y := by simpa using e
    refine brS_of (fun g => ⟨o.ry.us, ⟨_, o.wf⟩, hx (by simpa using g)⟩) fun g => ?_
    have g : x ≠ 0 := by simpa using g
    have nw : ¬ whU x y p := by rintro (q | q | q); exact g q; exact d q; exact e q.1
    refine ⟨hs, tx, ty, o, fun S1 m b e1 hm eb => brS_of (fun c => ?_) fun c => ?_⟩
    · subst e1
      have c : ¬ needS tx ty ≤ S.free := by rw [eb] at c; simpa using c
      exact h _ 0 2 (.inr (.inl ⟨nw, by omega, rfl, rfl, m, hm, rfl⟩))
    · have c : needS tx ty ≤ S.free := by rw [eb] at c; simpa using c
      subst e1
      obtain ⟨l1, w1, l2, w2, st, g⟩ := so_go o hm c
      exact ⟨l1, ⟨_, w1⟩, fun S2 e2 => by
        subst e2
        exact ⟨l2, ⟨_, w2⟩, fun S3 e3 => by
          subst e3
          exact ⟨hs, tx, ty, _, p1, p2, st, by have := o.sx; omega, fun S4 i L hL t => h S4 i 0 (.inr (.inr ⟨nw, c, rfl, L, hL, so_tr o hm g t⟩))⟩⟩⟩
theorem s_soU : SoundT C0 22 (tSoP fUni whU reU) := by
  refine .ofW W7 Try.func22 (by decide) rfl fun args H K h hB => ?_
  unfold tSoP at h
  split at h <;> try exact h.elim
  unfold arM at h
  split at h <;> try exact h.elim
  rename_i x y p _ rd fr nd ct us gn rl
  obtain ⟨hs, tx, ty, h1, h2, h3⟩ := h
  exact ⟨aSo 73 fUni, ⟨frame C0.ok s_validS _, frame C0.ok s_hold _, frame C0.ok s_roomS _, frame C0.ok (s_wUni 1000000) _, trivial⟩, vc_soU ⟨us, gn, rl, fr, nd, ct, rd⟩ x y p K hs tx ty h1 h2 h3⟩
theorem retL_0 (S : Arn) : retL S 0 = S := if_pos rfl
theorem vc_soI (S : Arn) (x y p : Int) (K : KT) (hs : List Int) (tx ty : Tr) (o : OpM S hs tx ty x y) (h0 : ¬ (1 ≤ p ∧ p ≤ 5) → K (.tup [.at (vU 0), .at (vI 1)]) (chS S) W7)
    (h1 : 1 ≤ p → p ≤ 5 → ∀ S' i e, SoR fInt whU reI S hs tx ty x y p S' i e → K (.tup [.at (vU i), .at (vI e)]) (chS S') W7) :
    vc C0 (aSo 86 fInt) Try.f32 [.at (.ptr 0 0), .at (vU x), .at (vU y), .at (vI p)] (chS S) (normK 7 (wideK W7 K)) := by
  refine Eq.mp (show (∀ b : Bool, (((b) = (decide (1 ≤ p ∧ p ≤ 5))) → (brS (!b) ((K (SV.tup [(TV.at (At.val (Value.int IntKind.u32 0))), (TV.at (At.val (Value.int IntKind.i64 1)))]) [(Chunk.box [(At.ptr 1 0), (At.slc 2), (At.slc 3), (At.val (Value.int IntKind.u64 (S.reads)))]), (Chunk.box [(At.slc 4), (At.slc 5), (At.slc 6), (At.val (Value.int IntKind.u32 (S.fresh)))]), (Chunk.row true (EC.node) (S.nodes)), (Chunk.row true (EC.int) (S.counts)), (Chunk.row true (EC.bool) (S.used)), (Chunk.row true (EC.u32) (S.gen)), (Chunk.row true (EC.u32) (S.rel))] [0, 1, 2, 3, 4, 5, 6])) ((brS (x == 0) ((K (SV.tup [(TV.at (At.val (Value.int IntKind.u32 0))), (TV.at (At.val (Value.int IntKind.i64 0)))]) [(Chunk.box [(At.ptr 1 0), (At.slc 2), (At.slc 3), (At.val (Value.int IntKind.u64 (S.reads)))]), (Chunk.box [(At.slc 4), (At.slc 5), (At.slc 6), (At.val (Value.int IntKind.u32 (S.fresh)))]), (Chunk.row true (EC.node) (S.nodes)), (Chunk.row true (EC.int) (S.counts)), (Chunk.row true (EC.bool) (S.used)), (Chunk.row true (EC.u32) (S.gen)), (Chunk.row true (EC.u32) (S.rel))] [0, 1, 2, 3, 4, 5, 6])) ((brS (y == 0)
    ((K (SV.tup [(TV.at (At.val (Value.int IntKind.u32 0))), (TV.at (At.val (Value.int IntKind.i64 0)))]) [(Chunk.box [(At.ptr 1 0), (At.slc 2), (At.slc 3), (At.val (Value.int IntKind.u64 (S.reads)))]), (Chunk.box [(At.slc 4), (At.slc 5), (At.slc 6), (At.val (Value.int IntKind.u32 (S.fresh)))]), (Chunk.row true (EC.node) (S.nodes)), (Chunk.row true (EC.int) (S.counts)), (Chunk.row true (EC.bool) (S.used)), (Chunk.row true (EC.u32) (S.gen)), (Chunk.row true (EC.u32) (S.rel))] [0, 1, 2, 3, 4, 5, 6])) ((brS (x == y) ((brS (p != 3) (((live S x) ∧ (exW S) ∧ (∀ S' : Arn, (((S') = (retL S x)) → (K (SV.tup [(TV.at (At.val (Value.int IntKind.u32 (x)))), (TV.at (At.val (Value.int IntKind.i64 0)))]) [(Chunk.box [(At.ptr 1 0), (At.slc 2), (At.slc 3), (At.val (Value.int IntKind.u64 (S'.reads)))]), (Chunk.box [(At.slc 4), (At.slc 5), (At.slc 6), (At.val (Value.int IntKind.u32 (S'.fresh)))]), (Chunk.row true (EC.node) (S'.nodes)), (Chunk.row true (EC.int) (S'.counts)), (Chunk.row true (EC.bool) (S'.used)), (Chunk.row true (EC.u32) (S'.gen)), (Chunk.row true (EC.u32) (S'.rel))] [0, 1, 2, 3, 4, 5, 6]))))) ((∃ hs : List Int, (∃ tx : Tr, (∃ ty : Tr, ((OpM S hs tx ty x y) ∧ (∀ S' : Arn, (∀ m : Nat, (∀ b1 : Bool, (((S') = (rdS S m)) → ((m ≤ 2) → (((b1) = (decide (needS tx ty ≤ S.free))) → (brS (!b1)
    ((K (SV.tup [(TV.at (At.val (Value.int IntKind.u32 0))), (TV.at (At.val (Value.int IntKind.i64 2)))]) [(Chunk.box [(At.ptr 1 0), (At.slc 2), (At.slc 3), (At.val (Value.int IntKind.u64 (S'.reads)))]), (Chunk.box [(At.slc 4), (At.slc 5), (At.slc 6), (At.val (Value.int IntKind.u32 (S'.fresh)))]), (Chunk.row true (EC.node) (S'.nodes)), (Chunk.row true (EC.int) (S'.counts)), (Chunk.row true (EC.bool) (S'.used)), (Chunk.row true (EC.u32) (S'.gen)), (Chunk.row true (EC.u32) (S'.rel))] [0, 1, 2, 3, 4, 5, 6])) (((live S' x) ∧ (exW S') ∧ (∀ S'1 : Arn, (((S'1) = (retL S' x)) → ((live S'1 y) ∧ (exW S'1) ∧ (∀ S'2 : Arn, (((S'2) = (retL S'1 y)) → (∃ hs1 : List Int, (∃ tx1 : Tr, (∃ ty1 : Tr, (∃ N : Nat, ((1 ≤ p) ∧ (p ≤ 5) ∧ (StM S'2 hs1 tx1 ty1 x y N) ∧ (tx1.size < 1000000) ∧ (∀ S'3 : Arn, (∀ i : Int, (∀ L : List Ent, ((SetR (fInt p) tx1.list ty1.list L) → ((TrR S'2 hs1 L 65537 (rdW N tx1.size) S'3 i) → (K (SV.tup [(TV.at (At.val (Value.int IntKind.u32 (i)))), (TV.at (At.val (Value.int IntKind.i64 0)))]) [(Chunk.box [(At.ptr 1 0), (At.slc 2), (At.slc 3), (At.val (Value.int IntKind.u64 (S'3.reads)))]), (Chunk.box [(At.slc 4), (At.slc 5), (At.slc 6), (At.val (Value.int IntKind.u32 (S'3.fresh)))]), (Chunk.row true (EC.node) (S'3.nodes)), (Chunk.row true (EC.int) (S'3.counts)), (Chunk.row true (EC.bool) (S'3.used)), (Chunk.row true (EC.u32) (S'3.gen)), (Chunk.row true (EC.u32) (S'3.rel))] [0, 1, 2, 3, 4, 5, 6])))))))))))))))))))))))))))))))) ((∃ hs : List Int, (∃ tx : Tr, (∃ ty : Tr,
    ((OpM S hs tx ty x y) ∧ (∀ S' : Arn, (∀ m : Nat, (∀ b1 : Bool, (((S') = (rdS S m)) → ((m ≤ 2) → (((b1) = (decide (needS tx ty ≤ S.free))) → (brS (!b1) ((K (SV.tup [(TV.at (At.val (Value.int IntKind.u32 0))), (TV.at (At.val (Value.int IntKind.i64 2)))]) [(Chunk.box [(At.ptr 1 0), (At.slc 2), (At.slc 3), (At.val (Value.int IntKind.u64 (S'.reads)))]), (Chunk.box [(At.slc 4), (At.slc 5), (At.slc 6), (At.val (Value.int IntKind.u32 (S'.fresh)))]), (Chunk.row true (EC.node) (S'.nodes)), (Chunk.row true (EC.int) (S'.counts)), (Chunk.row true (EC.bool) (S'.used)), (Chunk.row true (EC.u32) (S'.gen)), (Chunk.row true (EC.u32) (S'.rel))] [0, 1, 2, 3, 4, 5, 6])) (((live S' x) ∧ (exW S') ∧ (∀ S'1 : Arn, (((S'1) = (retL S' x)) → ((live S'1 y) ∧ (exW S'1) ∧ (∀ S'2 : Arn, (((S'2) = (retL S'1 y)) → (∃ hs1 : List Int, (∃ tx1 : Tr, (∃ ty1 : Tr, (∃ N : Nat, ((1 ≤ p) ∧ (p ≤ 5) ∧ (StM S'2 hs1 tx1 ty1 x y N) ∧ (tx1.size < 1000000) ∧ (∀ S'3 : Arn, (∀ i : Int, (∀ L : List Ent, ((SetR (fInt p) tx1.list ty1.list L) → ((TrR S'2 hs1 L 65537 (rdW N tx1.size) S'3 i) →
    (K (SV.tup [(TV.at (At.val (Value.int IntKind.u32 (i)))), (TV.at (At.val (Value.int IntKind.i64 0)))]) [(Chunk.box [(At.ptr 1 0), (At.slc 2), (At.slc 3), (At.val (Value.int IntKind.u64 (S'3.reads)))]), (Chunk.box [(At.slc 4), (At.slc 5), (At.slc 6), (At.val (Value.int IntKind.u32 (S'3.fresh)))]), (Chunk.row true (EC.node) (S'3.nodes)), (Chunk.row true (EC.int) (S'3.counts)), (Chunk.row true (EC.bool) (S'3.used)), (Chunk.row true (EC.u32) (S'3.gen)), (Chunk.row true (EC.u32) (S'3.rel))] [0, 1, 2, 3, 4, 5, 6]))))))))))))))))))))))))))))))))))))))) = _ by kernel_rfl) ?_
  refine fun b eb => brS_of (fun c => ?_) fun c => ?_
  · have c : ¬ (1 ≤ p ∧ p ≤ 5) := fun q => by rw [eb, decide_eq_true q] at c; cases c
    exact h0 c
  have c : 1 ≤ p ∧ p ≤ 5 := by rw [eb] at c; simpa using c
  obtain ⟨p1, p2⟩ := c
  have h := h1 p1 p2
  refine brS_of (fun d => ?_) fun d => brS_of (fun e => ?_) fun e => ?_
  · have d : x = 0 := by simpa using d
    have er : reI x y = 0 := if_pos (.inl d)
    exact h S 0 0 (.inl ⟨.inl d, rfl, er.symm, by rw [er, retL_0]⟩)
  · have e : y = 0 := by simpa using e
    have er : reI x y = 0 := if_pos (.inr e)
    exact h S 0 0 (.inl ⟨.inr (.inl e), rfl, er.symm, by rw [er, retL_0]⟩)
  have d : x ≠ 0 := by simpa using d
  have e : y ≠ 0 := by simpa using e
  have er : reI x y = x := if_neg fun q => q.elim d e
  refine brS_of (fun g => brS_of (fun f => ?_) fun f => ?_) fun g => ?_
  · have g : x = y := by simpa using g
    have f : p ≠ 3 := by simpa using f
    exact ⟨o.rx.us, ⟨_, o.wf⟩, fun S' q => h S' x 0 (.inl ⟨.inr (.inr ⟨g, f⟩), rfl, er.symm, by rw [er]; exact q⟩)⟩
  · have f : p = 3 := by simpa using f
    have nw : ¬ whU x y p := by rintro (q | q | q); exact d q; exact e q; exact q.2 f
    refine ⟨hs, tx, ty, o, fun S1 m b e1 hm eb => brS_of (fun c => ?_) fun c => ?_⟩
    · subst e1
      have c : ¬ needS tx ty ≤ S.free := by rw [eb] at c; simpa using c
      exact h _ 0 2 (.inr (.inl ⟨nw, by omega, rfl, rfl, m, hm, rfl⟩))
    · have c : needS tx ty ≤ S.free := by rw [eb] at c; simpa using c
      subst e1
      obtain ⟨l1, w1, l2, w2, st, g⟩ := so_go o hm c
      exact ⟨l1, ⟨_, w1⟩, fun S2 e2 => by
        subst e2
        exact ⟨l2, ⟨_, w2⟩, fun S3 e3 => by
          subst e3
          exact ⟨hs, tx, ty, _, p1, p2, st, by have := o.sx; omega, fun S4 i L hL t => h S4 i 0 (.inr (.inr ⟨nw, c, rfl, L, hL, so_tr o hm g t⟩))⟩⟩⟩
  · have g : x ≠ y := by simpa using g
    have nw : ¬ whU x y p := by rintro (q | q | q); exact d q; exact e q; exact g q.1
    refine ⟨hs, tx, ty, o, fun S1 m b e1 hm eb => brS_of (fun c => ?_) fun c => ?_⟩
    · subst e1
      have c : ¬ needS tx ty ≤ S.free := by rw [eb] at c; simpa using c
      exact h _ 0 2 (.inr (.inl ⟨nw, by omega, rfl, rfl, m, hm, rfl⟩))
    · have c : needS tx ty ≤ S.free := by rw [eb] at c; simpa using c
      subst e1
      obtain ⟨l1, w1, l2, w2, st, g⟩ := so_go o hm c
      exact ⟨l1, ⟨_, w1⟩, fun S2 e2 => by
        subst e2
        exact ⟨l2, ⟨_, w2⟩, fun S3 e3 => by
          subst e3
          exact ⟨hs, tx, ty, _, p1, p2, st, by have := o.sx; omega, fun S4 i L hL t => h S4 i 0 (.inr (.inr ⟨nw, c, rfl, L, hL, so_tr o hm g t⟩))⟩⟩⟩
theorem s_soI : SoundT C0 32 (tSoP fInt whU reI) := by
  refine .ofW W7 Try.func32 (by decide) rfl fun args H K h hB => ?_
  unfold tSoP at h
  split at h <;> try exact h.elim
  unfold arM at h
  split at h <;> try exact h.elim
  rename_i x y p _ rd fr nd ct us gn rl
  obtain ⟨hs, tx, ty, h1, h2, h3⟩ := h
  exact ⟨aSo 86 fInt, ⟨frame C0.ok s_validS _, frame C0.ok s_hold _, frame C0.ok s_roomS _, frame C0.ok (s_wInt 1000000) _, trivial⟩, vc_soI ⟨us, gn, rl, fr, nd, ct, rd⟩ x y p K hs tx ty h1 h2 h3⟩
end Go.Proofs.Ytbonbaccmlomhaa.Sx
end
