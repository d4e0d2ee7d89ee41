/- A part of the proof. -/
import Derived.Test.YtbonbaccmlomhaaG8
import Derived.Test.YtbonbaccmlomhaaG5
import Derived.Test.YtbonbaccmlomhaaG1
import Derived.Test.YtbonbaccmlomhaaG7
section
/- setops: Union, Intersect, Subtract, Exclusive. -/
namespace Go.Proofs.Ytbonbaccmlomhaa.Sx
open Go

/-KEEP Wf exW inU live Arn.cap Arn.free Rep Kept rdS retL Tr.size Tr.list Tr.Bal TrR Got flt getE Asc SetR StM rdW dW chooseP fUni fInt gSub gExc Hn-/
def tValidS : Tfm C0 := fun args H K => match args, H with
  | [.at (.val (.int .i64 p))], [] => ∀ b, b = decide (1 ≤ p ∧ p ≤ 5) → K (.one (.at (vB b))) [] []
  | _, _ => False
def tResS : Tfm C0 := fun args H K => match args, H with
  | [.at (.val (.int .i64 n)), .at (.val (.int .i64 m))], [] => 0 ≤ n ∧ n ≤ 65536 ∧ 0 ≤ m ∧ m ≤ 65536 ∧ ∀ p, p = n + m + 12 * (Hn (n + m) + 2) → K (.one (.at (vI p))) [] []
  | _, _ => False
structure OpM (S : Arn) (hs : List Int) (tx ty : Tr) (x y : Int) : Prop where
  wf : Wf S hs
  rx : Rep S tx x
  ry : Rep S ty y
  bx : tx.Bal
  bY : ty.Bal
  ax : Asc tx.list
  ay : Asc ty.list
  sx : tx.size ≤ 65536
  sy : ty.size ≤ 65536
  hl : hs.length ≤ 900000
  rd : S.reads ≤ 900000000000000000
def needS (tx ty : Tr) : Int := (tx.size : Int) + ty.size + 12 * (Hn ((tx.size : Int) + ty.size) + 2)
def tRoomS : Tfm C0 := fun args H K => match args with
  | [.at (.ptr 0 0), .at (.val (.int .u32 x)), .at (.val (.int .u32 y))] => arM H fun S => ∃ hs tx ty, OpM S hs tx ty x y ∧ ∀ S' m b, S' = rdS S m → m ≤ 2 → b = decide (needS tx ty ≤ S.free) → K (.one (.at (vB b))) (chS S') [0]
  | _ => False
noncomputable def aRoomS : Ann C0 := { Γ := [(49, frameT [] tSize), (111, frameT [] tResS), (95, frameT [] tRoom)] }
/-- What an operation answers: f at every key; whole tells that nothing is to do, res is the answer then. -/
def SoR (f : Int → Option Int → Option Int → Option Int) (whole : Int → Int → Int → Prop) (res : Int → Int → Int) (S : Arn) (hs : List Int) (tx ty : Tr) (x y p : Int) (S' : Arn) (i e : Int) : Prop :=
  (whole x y p ∧ e = 0 ∧ i = res x y ∧ S' = retL S (res x y)) ∨
  (¬ whole x y p ∧ S.free < needS tx ty ∧ e = 2 ∧ i = 0 ∧ ∃ m, m ≤ 2 ∧ S' = rdS S m) ∨
  (¬ whole x y p ∧ needS tx ty ≤ S.free ∧ e = 0 ∧ ∃ L, SetR (f p) tx.list ty.list L ∧ TrR S hs L 65537 2000000000 S' i)
def whU (x y p : Int) : Prop := x = 0 ∨ y = 0 ∨ (x = y ∧ p ≠ 3)
def reU (x y : Int) : Int := if y = 0 then x else if x = y then x else y
def reI (x y : Int) : Int := if x = 0 ∨ y = 0 then 0 else x
def whS (x y _ : Int) : Prop := x = 0 ∨ y = 0 ∨ x = y
def reS (x y : Int) : Int := if x = 0 ∨ x = y then 0 else x
def reE (x y : Int) : Int := if x = y then 0 else if x = 0 then y else x
noncomputable def aSo (g : FuncId) (f : Int → Option Int → Option Int → Option Int) : Ann C0 := { Γ := [(70, frameT [] tValidS), (71, frameT [] tHold), (72, frameT [] tRoomS), (g, frameT [] (tWk f 1000000))] }
/-- With a policy. -/
def tSoP (f : Int → Option Int → Option Int → Option Int) (whole : Int → Int → Int → Prop) (res : Int → Int → Int) : Tfm C0 := fun args H K => match args with
  | [.at (.ptr 0 0), .at (.val (.int .u32 x)), .at (.val (.int .u32 y)), .at (.val (.int .i64 p))] => arM H fun S => ∃ hs tx ty, OpM S hs tx ty x y ∧
    (¬ (1 ≤ p ∧ p ≤ 5) → K (.tup [.at (vU 0), .at (vI 1)]) (chS S) W7) ∧ (1 ≤ p → p ≤ 5 → ∀ S' i e, SoR f whole res S hs tx ty x y p S' i e → K (.tup [.at (vU i), .at (vI e)]) (chS S') W7)
  | _ => False
/-- Without one. -/
def tSoN (f : Int → Option Int → Option Int → Option Int) (whole : Int → Int → Int → Prop) (res : Int → Int → Int) : Tfm C0 := fun args H K => match args with
  | [.at (.ptr 0 0), .at (.val (.int .u32 x)), .at (.val (.int .u32 y))] => arM H fun S => ∃ hs tx ty, OpM S hs tx ty x y ∧ ∀ S' i e, SoR f whole res S hs tx ty x y 1 S' i e → K (.tup [.at (vU i), .at (vI e)]) (chS S') W7
  | _ => False
theorem s_validS : SoundT C0 70 tValidS := by
  refine .of Try.func70 (by decide) rfl fun args H K h hB => ⟨A0, trivial, ?_⟩
  unfold tValidS at h
  split at h <;> try exact h.elim
  rename_i p
  refine Eq.mp (show (brS (decide (p ≥ 1)) ((K (SV.one (TV.at (At.val (Value.bool (decide (p ≤ 5)))))) [] [])) ((K (SV.one (TV.at (At.val (Value.bool false)))) [] []))) = _ by kernel_rfl) ?_
  refine brS_of (fun c => h _ ?_) fun c => h _ ?_
  · have c : p ≥ 1 := of_decide_eq_true c
    have c : 1 ≤ p := c
    simp [c]
  · have c : ¬ p ≥ 1 := of_decide_eq_false c
    have c : ¬ 1 ≤ p := c
    simp [c]
theorem s_rSet : SoundT C0 111 tResS := by
  refine .of Try.func111 (by decide) rfl fun args H K h hB => ?_
  unfold tResS at h
  split at h <;> try exact h.elim
  rename_i n m
  obtain ⟨h1, h2, h3, h4, h5⟩ := h
  refine ⟨aRes, ⟨frame C0.ok s_vld _, frame C0.ok s_path _, trivial⟩, Eq.mp (show ((∀ i : Nat, ((i < [n, m].length) → ((0 ≤ [n, m].getD i 0) ∧ ([n, m].getD i 0 ≤ 65536)))) ∧
([n, m].length ≤ 100) ∧
((0 : Int) ≤ 12) ∧
((12 : Int) ≤ 100) ∧
(0 ≤ IntKind.i64.wrap (n + m)) ∧
(IntKind.i64.wrap (n + m) ≤ 1000000) ∧
(∀ p : Int, (((p) = (12 * (Hn (IntKind.i64.wrap (n + m)) + 2))) → (K (SV.one (TV.at (At.val (Value.int IntKind.i64 (IntKind.i64.wrap (IntKind.i64.wrap (n + m) + p)))))) [] [])))) = _ by kernel_rfl) ?_⟩
  rw [wrap_id (x := n + m) (by omega) (by omega)]
  refine ⟨okI_two h1 h2 h3 h4, by simp, by decide, by decide, by omega, by omega, fun p e => ?_⟩
  have r := Hn_rng (n + m)
  subst e
  rw [wrap_id (by omega) (by omega)]
  exact h5 _ rfl
theorem s_nSet : SoundT C0 30 tResS := by
  refine .of Try.func30 (by decide) rfl fun args H K h hB => ?_
  unfold tResS at h
  split at h <;> try exact h.elim
  rename_i n m
  obtain ⟨h1, h2, h3, h4, h5⟩ := h
  refine ⟨aN8, ⟨frame C0.ok s_need _, trivial⟩, Eq.mp (show ((0 ≤ n) ∧
(n ≤ 65536) ∧
(0 ≤ m) ∧
(m ≤ 65536) ∧
((0 : Int) ≤ 0) ∧
((0 : Int) ≤ 65536) ∧
((0 : Int) ≤ 0) ∧
((0 : Int) ≤ 10) ∧
((0 : Int) ≤ 0) ∧
((0 : Int) ≤ 200000) ∧
((0 : Int) ≤ 0) ∧
((0 : Int) ≤ 100) ∧
(∀ p : Int, (((p) = (0 + 0 * (Hn (n + m + 0 + 0) + 2))) → (brS (decide (p < 0)) ((K (SV.one (TV.at (At.val (Value.int IntKind.i64 (-1))))) [] [])) (((0 ≤ n) ∧ (n ≤ 65536) ∧ (0 ≤ m) ∧ (m ≤ 65536) ∧ ((0 : Int) ≤ 0) ∧ ((0 : Int) ≤ 65536) ∧ ((0 : Int) ≤ 0) ∧ ((0 : Int) ≤ 10) ∧ (0 ≤ IntKind.i64.wrap (n + m)) ∧ (IntKind.i64.wrap (n + m) ≤ 200000) ∧ ((0 : Int) ≤ 12) ∧ ((12 : Int) ≤ 100) ∧ (∀ p1 : Int, (((p1) = (IntKind.i64.wrap (n + m) + 12 * (Hn (n + m + 0 + 0) + 2))) → (K (SV.one (TV.at (At.val (Value.int IntKind.i64 (p1))))) [] []))))))))) = _ by kernel_rfl) ?_⟩
  rw [wrap_id (x := n + m) (by omega) (by omega)]
  refine ⟨h1, h2, h3, h4, by decide, by decide, by decide, by decide, by decide, by decide, by decide, by decide, fun p e => brS_of (fun c => ?_) fun _ => ⟨h1, h2, h3, h4, by decide, by decide, by decide, by decide, by omega, by omega, by decide, by decide, fun p1 e1 => h5 p1 (by rw [e1]; simp)⟩⟩
  have c : p < 0 := of_decide_eq_true c
  rw [Int.zero_mul] at e
  omega
theorem us_on1 (b : Bool) : b.toNat ≤ 1 := by cases b <;> decide
theorem vc_roomS (S : Arn) (x y : Int) (K : KT) (hs : List Int) (tx ty : Tr) (o : OpM S hs tx ty x y) (h : ∀ S' m b, S' = rdS S m → m ≤ 2 → b = decide (needS tx ty ≤ S.free) → K (.one (.at (vB b))) (chS S') [0]) :
    vc C0 aRoomS Try.f72 [.at (.ptr 0 0), .at (vU x), .at (vU y)] (chS S) (normK 7 (wideK [0] K)) := by
  refine Eq.mp (show ((inU x) ∧
(exW S) ∧
(S.reads < 4000000000000000000) ∧
(∀ S' : Arn, (((S') = (rdS S (S.us x).toNat)) → ((inU y) ∧ (exW S') ∧ (S'.reads < 4000000000000000000) ∧ (∀ S'1 : Arn, (((S'1) = (rdS S' (S'.us y).toNat)) → ((0 ≤ (S.nd x).size) ∧ ((S.nd x).size ≤ 65536) ∧ (0 ≤ (S'.nd y).size) ∧ ((S'.nd y).size ≤ 65536) ∧ (∀ p : Int, (((p) = ((S.nd x).size + (S'.nd y).size + 12 * (Hn ((S.nd x).size + (S'.nd y).size) + 2))) → ((exW S'1) ∧ (∀ b : Bool, (((b) = (decide (0 ≤ p) && decide (p ≤ S'1.free))) → (K (SV.one (TV.at (At.val (Value.bool (b))))) [(Chunk.box [(At.ptr 1 0), (At.slc 2), (At.slc 3), (At.val (Value.int IntKind.u64 (S'1.reads)))]), (Chunk.box [(At.slc 4), (At.slc 5), (At.slc 6), (At.val (Value.int IntKind.u32 (S'1.fresh)))]), (Chunk.row true (EC.node) (S'1.nodes)), (Chunk.row true (EC.int) (S'1.counts)), (Chunk.row true (EC.bool) (S'1.used)), (Chunk.row true (EC.u32) (S'1.gen)), (Chunk.row true (EC.u32) (S'1.rel))] [0]))))))))))))) = _ by kernel_rfl) ?_
  have hr := o.rd
  have u1 := us_on1 (S.us x)
  have w1 : Wf (rdS S (S.us x).toNat) hs := o.wf.rd (by omega)
  have zx := o.rx.size o.wf
  have zy : ((rdS S (S.us x).toNat).nd y).size = ty.size := (o.ry.rdn (n := (S.us x).toNat)).size w1
  have sx := o.sx
  have sy := o.sy
  have r1 : (rdS S (S.us x).toNat).reads = S.reads + (S.us x).toNat := rfl
  refine ⟨inU_of o.wf o.rx.us, ⟨_, o.wf⟩, by omega, fun S1 e1 => ?_⟩
  subst e1
  have u2 := us_on1 ((rdS S (S.us x).toNat).us y)
  refine ⟨inU_of w1 (o.ry.rdn (n := (S.us x).toNat)).us, ⟨_, w1⟩, by omega, fun S2 e2 => ?_⟩
  subst e2
  rw [zx, zy]
  have w2 : Wf (rdS (rdS S (S.us x).toNat) ((rdS S (S.us x).toNat).us y).toNat) hs := w1.rd (by omega)
  refine ⟨by omega, by omega, by omega, by omega, fun p ep => ⟨⟨_, w2⟩, fun b eb => h _ _ b (rdS_rdS _ _ _) (by omega) ?_⟩⟩
  have r := Hn_rng ((tx.size : Int) + ty.size)
  have ef : (rdS (rdS S (S.us x).toNat) ((rdS S (S.us x).toNat).us y).toNat).free = S.free := rfl
  have ep : p = needS tx ty := ep
  have p0 : 0 ≤ p := by rw [ep]; unfold needS; omega
  rw [eb, ef, ep, decide_eq_true (by rw [← ep]; exact p0)]
  rfl
theorem s_roomS : SoundT C0 72 tRoomS := by
  refine .ofW [0] Try.func72 (by decide) rfl fun args H K h hB => ?_
  unfold tRoomS at h
  split at h <;> try exact h.elim
  unfold arM at h
  split at h <;> try exact h.elim
  rename_i x y _ rd fr nd ct us gn rl
  obtain ⟨hs, tx, ty, h1, h2⟩ := h
  exact ⟨aRoomS, ⟨frame C0.ok s_size _, frame C0.ok s_rSet _, frame C0.ok s_room _, trivial⟩, vc_roomS ⟨us, gn, rl, fr, nd, ct, rd⟩ x y K hs tx ty h1 h2⟩
theorem so_go {S : Arn} {hs : List Int} {tx ty : Tr} {x y : Int} {m : Nat} (o : OpM S hs tx ty x y) (hm : m ≤ 2) (c : needS tx ty ≤ S.free) :
    live (rdS S m) x ∧ Wf (rdS S m) hs ∧ live (retL (rdS S m) x) y ∧ Wf (retL (rdS S m) x) (x :: hs) ∧ StM (retL (retL (rdS S m) x) y) hs tx ty x y (tx.size + ty.size) ∧ Got (rdS S m) hs 0 0 (retL (retL (rdS S m) x) y) (x :: y :: hs) := by
  have hr := o.rd
  have sx := o.sx
  have sy := o.sy
  have hl := o.hl
  have w1 : Wf (rdS S m) hs := o.wf.rd (by omega)
  have ef : (rdS S m).free = S.free := rfl
  have er : (rdS S m).reads = S.reads + m := rfl
  unfold needS at c
  have st := StM.start w1 o.rx.rdn o.ry.rdn o.bx o.bY o.ax o.ay (by omega) (by omega) (by omega) (by rw [show ((tx.size + ty.size : Nat) : Int) = (tx.size : Int) + ty.size by omega]; omega)
  exact ⟨(o.rx.rdn (n := m)).us, w1, (o.ry.rdn (n := m)).retL.us, retL_wf w1 (o.rx.rdn (n := m)).us (by omega), st.1, st.2⟩
theorem so_tr {S S3 : Arn} {hs : List Int} {tx ty : Tr} {x y i : Int} {m : Nat} {L : List Ent} (o : OpM S hs tx ty x y) (hm : m ≤ 2) (g : Got (rdS S m) hs 0 0 (retL (retL (rdS S m) x) y) (x :: y :: hs))
    (t : TrR (retL (retL (rdS S m) x) y) hs L 65537 (rdW (tx.size + ty.size) tx.size) S3 i) : TrR S hs L 65537 2000000000 S3 i := by
  have hr := o.rd
  have sx := o.sx
  have g8 := gN_rng (tx.size + ty.size + 1)
  have lt : rdW (tx.size + ty.size) tx.size ≤ 4840 * 65536 := by
    unfold rdW
    exact Nat.mul_le_mul (by omega) sx
  have g0 : Got S hs 0 m (rdS S m) hs := Got.rds o.wf (by omega)
  exact ⟨(((g0.seq g (h := hs) (fun _ h => h) (fun _ h => h)).seq t.got (fun _ h => h) (fun _ h => h)).mono (m' := 0 + 0 + 65537) (Nat.le_refl _) (by omega)).loose, t.tree⟩
theorem vc_soU (S : Arn) (x y p : Int) (K : KT) (hs : List Int) (tx ty : Tr) (o : OpM S hs tx ty x y) (h0 : ¬ (1 ≤ p ∧ p ≤ 5) → K (.tup [.at (vU 0), .at (vI 1)]) (chS S) W7)
    (h1 : 1 ≤ p → p ≤ 5 → ∀ S' i e, SoR fUni whU reU S hs tx ty x y p S' i e → K (.tup [.at (vU i), .at (vI e)]) (chS S') W7) :
    vc C0 (aSo 73 fUni) Try.f22 [.at (.ptr 0 0), .at (vU x), .at (vU y), .at (vI p)] (chS S) (normK 7 (wideK W7 K)) := by
  refine Eq.mp (show (∀ b : Bool, (((b) = (decide (1 ≤ p ∧ p ≤ 5))) → (brS (!b) ((K (SV.tup [(TV.at (At.val (Value.int IntKind.u32 0))), (TV.at (At.val (Value.int IntKind.i64 1)))]) [(Chunk.box [(At.ptr 1 0), (At.slc 2), (At.slc 3), (At.val (Value.int IntKind.u64 (S.reads)))]), (Chunk.box [(At.slc 4), (At.slc 5), (At.slc 6), (At.val (Value.int IntKind.u32 (S.fresh)))]), (Chunk.row true (EC.node) (S.nodes)), (Chunk.row true (EC.int) (S.counts)), (Chunk.row true (EC.bool) (S.used)), (Chunk.row true (EC.u32) (S.gen)), (Chunk.row true (EC.u32) (S.rel))] [0, 1, 2, 3, 4, 5, 6])) ((brS (y == 0) (((live S x) ∧ (exW S) ∧ (∀ S' : Arn, (((S') = (retL S x)) → (K (SV.tup [(TV.at (At.val (Value.int IntKind.u32 (x)))), (TV.at (At.val (Value.int IntKind.i64 0)))]) [(Chunk.box [(At.ptr 1 0), (At.slc 2), (At.slc 3), (At.val (Value.int IntKind.u64 (S'.reads)))]), (Chunk.box [(At.slc 4), (At.slc 5), (At.slc 6), (At.val (Value.int IntKind.u32 (S'.fresh)))]), (Chunk.row true (EC.node) (S'.nodes)), (Chunk.row true (EC.int) (S'.counts)), (Chunk.row true (EC.bool) (S'.used)), (Chunk.row true (EC.u32) (S'.gen)), (Chunk.row true (EC.u32) (S'.rel))] [0, 1, 2, 3, 4, 5, 6]))))) ((brS (x == y) ((brS (p != 3) (((live S x) ∧ (exW S) ∧ (∀ S' : Arn, (((S') = (retL S x)) →
    (K (SV.tup [(TV.at (At.val (Value.int IntKind.u32 (x)))), (TV.at (At.val (Value.int IntKind.i64 0)))]) [(Chunk.box [(At.ptr 1 0), (At.slc 2), (At.slc 3), (At.val (Value.int IntKind.u64 (S'.reads)))]), (Chunk.box [(At.slc 4), (At.slc 5), (At.slc 6), (At.val (Value.int IntKind.u32 (S'.fresh)))]), (Chunk.row true (EC.node) (S'.nodes)), (Chunk.row true (EC.int) (S'.counts)), (Chunk.row true (EC.bool) (S'.used)), (Chunk.row true (EC.u32) (S'.gen)), (Chunk.row true (EC.u32) (S'.rel))] [0, 1, 2, 3, 4, 5, 6]))))) ((brS (x == 0) (((live S y) ∧ (exW S) ∧ (∀ S' : Arn, (((S') = (retL S y)) → (K (SV.tup [(TV.at (At.val (Value.int IntKind.u32 (y)))), (TV.at (At.val (Value.int IntKind.i64 0)))]) [(Chunk.box [(At.ptr 1 0), (At.slc 2), (At.slc 3), (At.val (Value.int IntKind.u64 (S'.reads)))]), (Chunk.box [(At.slc 4), (At.slc 5), (At.slc 6), (At.val (Value.int IntKind.u32 (S'.fresh)))]), (Chunk.row true (EC.node) (S'.nodes)), (Chunk.row true (EC.int) (S'.counts)), (Chunk.row true (EC.bool) (S'.used)), (Chunk.row true (EC.u32) (S'.gen)), (Chunk.row true (EC.u32) (S'.rel))] [0, 1, 2, 3, 4, 5, 6]))))) ((∃ hs : List Int, (∃ tx : Tr, (∃ ty : Tr, ((OpM S hs tx ty x y) ∧ (∀ S' : Arn, (∀ m : Nat, (∀ b1 : Bool, (((S') = (rdS S m)) → ((m ≤ 2) → (((b1) = (decide (needS tx ty ≤ S.free))) → (brS (!b1)
    ((K (SV.tup [(TV.at (At.val (Value.int IntKind.u32 0))), (TV.at (At.val (Value.int IntKind.i64 2)))]) [(Chunk.box [(At.ptr 1 0), (At.slc 2), (At.slc 3), (At.val (Value.int IntKind.u64 (S'.reads)))]), (Chunk.box [(At.slc 4), (At.slc 5), (At.slc 6), (At.val (Value.int IntKind.u32 (S'.fresh)))]), (Chunk.row true (EC.node) (S'.nodes)), (Chunk.row true (EC.int) (S'.counts)), (Chunk.row true (EC.bool) (S'.used)), (Chunk.row true (EC.u32) (S'.gen)), (Chunk.row true (EC.u32) (S'.rel))] [0, 1, 2, 3, 4, 5, 6])) (((live S' x) ∧ (exW S') ∧ (∀ S'1 : Arn, (((S'1) = (retL S' x)) → ((live S'1 y) ∧ (exW S'1) ∧ (∀ S'2 : Arn, (((S'2) = (retL S'1 y)) → (∃ hs1 : List Int, (∃ tx1 : Tr, (∃ ty1 : Tr, (∃ N : Nat, ((1 ≤ p) ∧ (p ≤ 5) ∧ (StM S'2 hs1 tx1 ty1 x y N) ∧ (tx1.size < 1000000) ∧ (∀ S'3 : Arn, (∀ i : Int, (∀ L : List Ent, ((SetR (fUni p) tx1.list ty1.list L) → ((TrR S'2 hs1 L 65537 (rdW N tx1.size) S'3 i) → (K (SV.tup [(TV.at (At.val (Value.int IntKind.u32 (i)))), (TV.at (At.val (Value.int IntKind.i64 0)))]) [(Chunk.box [(At.ptr 1 0), (At.slc 2), (At.slc 3), (At.val (Value.int IntKind.u64 (S'3.reads)))]), (Chunk.box [(At.slc 4), (At.slc 5), (At.slc 6), (At.val (Value.int IntKind.u32 (S'3.fresh)))]), (Chunk.row true (EC.node) (S'3.nodes)), (Chunk.row true (EC.int) (S'3.counts)), (Chunk.row true (EC.bool) (S'3.used)), (Chunk.row true (EC.u32) (S'3.gen)), (Chunk.row true (EC.u32) (S'3.rel))] [0, 1, 2, 3, 4, 5, 6])))))))))))))))))))))))))))))))))) ((brS (x == 0) (((live S y) ∧ (exW S) ∧ (∀ S' : Arn,
    (((S') = (retL S y)) → (K (SV.tup [(TV.at (At.val (Value.int IntKind.u32 (y)))), (TV.at (At.val (Value.int IntKind.i64 0)))]) [(Chunk.box [(At.ptr 1 0), (At.slc 2), (At.slc 3), (At.val (Value.int IntKind.u64 (S'.reads)))]), (Chunk.box [(At.slc 4), (At.slc 5), (At.slc 6), (At.val (Value.int IntKind.u32 (S'.fresh)))]), (Chunk.row true (EC.node) (S'.nodes)), (Chunk.row true (EC.int) (S'.counts)), (Chunk.row true (EC.bool) (S'.used)), (Chunk.row true (EC.u32) (S'.gen)), (Chunk.row true (EC.u32) (S'.rel))] [0, 1, 2, 3, 4, 5, 6]))))) ((∃ hs : List Int, (∃ tx : Tr, (∃ ty : Tr, ((OpM S hs tx ty x y) ∧ (∀ S' : Arn, (∀ m : Nat, (∀ b1 : Bool, (((S') = (rdS S m)) → ((m ≤ 2) → (((b1) = (decide (needS tx ty ≤ S.free))) → (brS (!b1) ((K (SV.tup [(TV.at (At.val (Value.int IntKind.u32 0))), (TV.at (At.val (Value.int IntKind.i64 2)))]) [(Chunk.box [(At.ptr 1 0), (At.slc 2), (At.slc 3), (At.val (Value.int IntKind.u64 (S'.reads)))]), (Chunk.box [(At.slc 4), (At.slc 5), (At.slc 6), (At.val (Value.int IntKind.u32 (S'.fresh)))]), (Chunk.row true (EC.node) (S'.nodes)), (Chunk.row true (EC.int) (S'.counts)), (Chunk.row true (EC.bool) (S'.used)), (Chunk.row true (EC.u32) (S'.gen)), (Chunk.row true (EC.u32) (S'.rel))] [0, 1, 2, 3, 4, 5, 6])) (((live S' x) ∧ (exW S') ∧ (∀ S'1 : Arn, (((S'1) = (retL S' x)) → ((live S'1 y) ∧ (exW S'1) ∧ (∀ S'2 : Arn, (((S'2) = (retL S'1 y)) → (∃ hs1 : List Int, (∃ tx1 : Tr, (∃ ty1 : Tr, (∃ N : Nat, ((1 ≤ p) ∧ (p ≤ 5) ∧ (StM S'2 hs1 tx1 ty1 x y N) ∧ (tx1.size < 1000000) ∧
    (∀ S'3 : Arn, (∀ i : Int, (∀ L : List Ent, ((SetR (fUni p) tx1.list ty1.list L) → ((TrR S'2 hs1 L 65537 (rdW N tx1.size) S'3 i) → (K (SV.tup [(TV.at (At.val (Value.int IntKind.u32 (i)))), (TV.at (At.val (Value.int IntKind.i64 0)))]) [(Chunk.box [(At.ptr 1 0), (At.slc 2), (At.slc 3), (At.val (Value.int IntKind.u64 (S'3.reads)))]), (Chunk.box [(At.slc 4), (At.slc 5), (At.slc 6), (At.val (Value.int IntKind.u32 (S'3.fresh)))]), (Chunk.row true (EC.node) (S'3.nodes)), (Chunk.row true (EC.int) (S'3.counts)), (Chunk.row true (EC.bool) (S'3.used)), (Chunk.row true (EC.u32) (S'3.gen)), (Chunk.row true (EC.u32) (S'3.rel))] [0, 1, 2, 3, 4, 5, 6]))))))))))))))))))))))))))))))))))))))) = _ by kernel_rfl) ?_
  refine fun b eb => brS_of (fun c => ?_) fun c => ?_
  · have c : ¬ (1 ≤ p ∧ p ≤ 5) := fun q => by rw [eb, decide_eq_true q] at c; cases c
    exact h0 c
  have c : 1 ≤ p ∧ p ≤ 5 := by rw [eb] at c; simpa using c
  obtain ⟨p1, p2⟩ := c
  have h := h1 p1 p2
  refine brS_of (fun d => ?_) fun d => ?_
  · have d : y = 0 := by simpa using d
    exact ⟨o.rx.us, ⟨_, o.wf⟩, fun S' e => h S' x 0 (.inl ⟨.inr (.inl d), rfl, by unfold reU; rw [if_pos d], by unfold reU; rw [if_pos d]; exact e⟩)⟩
  have d : y ≠ 0 := by simpa using d
  have hx : x = 0 → ∀ S', S' = retL S y → K (.tup [.at (vU y), .at (vI 0)]) (chS S') W7 := fun f S' e => by
    have er : reU x y = y := by unfold reU; rw [if_neg d, if_neg (by omega)]
    exact h S' y 0 (.inl ⟨.inl f, rfl, er.symm, by rw [er]; exact e⟩)
  refine brS_of (fun e => brS_of (fun f => ?_) fun f => ?_) fun e => ?_
  · have e : x = y := by simpa using e
    have f : p ≠ 3 := by simpa using f
    have er : reU x y = x := by unfold reU; rw [if_neg d, if_pos e]
    exact ⟨o.rx.us, ⟨_, o.wf⟩, fun S' q => h S' x 0 (.inl ⟨.inr (.inr ⟨e, f⟩), rfl, er.symm, by rw [er]; exact q⟩)⟩
  · have f : p = 3 := by simpa using f
    refine brS_of (fun g => ⟨o.ry.us, ⟨_, o.wf⟩, hx (by simpa using g)⟩) fun g => ?_
    have g : x ≠ 0 := by simpa using g
    have nw : ¬ whU x y p := by rintro (q | q | q); exact g q; exact d q; exact q.2 f
    refine ⟨hs, tx, ty, o, fun S1 m b e1 hm eb => brS_of (fun c => ?_) fun c => ?_⟩
    · subst e1
      have c : ¬ needS tx ty ≤ S.free := by rw [eb] at c; simpa using c
      exact h _ 0 2 (.inr (.inl ⟨nw, by omega, rfl, rfl, m, hm, rfl⟩))
    · have c : needS tx ty ≤ S.free := by rw [eb] at c; simpa using c
      subst e1
      obtain ⟨l1, w1, l2, w2, st, g⟩ := so_go o hm c
      exact ⟨l1, ⟨_, w1⟩, fun S2 e2 => by
        subst e2
        exact ⟨l2, ⟨_, w2⟩, fun S3 e3 => by
          subst e3
          exact ⟨hs, tx, ty, _, p1, p2, st, by have := o.sx; omega, fun S4 i L hL t => h S4 i 0 (.inr (.inr ⟨nw, c, rfl, L, hL, so_tr o hm g t⟩))⟩⟩⟩
  · have e : x ≠ y := by simpa using e
    refine brS_of (fun g => ⟨o.ry.us, ⟨_, o.wf⟩, hx (by simpa using g)⟩) fun g => ?_
    have g : x ≠ 0 := by simpa using g
    have nw : ¬ whU x y p := by rintro (q | q | q); exact g q; exact d q; exact e q.1
    refine ⟨hs, tx, ty, o, fun S1 m b e1 hm eb => brS_of (fun c => ?_) fun c => ?_⟩
    · subst e1
      have c : ¬ needS tx ty ≤ S.free := by rw [eb] at c; simpa using c
      exact h _ 0 2 (.inr (.inl ⟨nw, by omega, rfl, rfl, m, hm, rfl⟩))
    · have c : needS tx ty ≤ S.free := by rw [eb] at c; simpa using c
      subst e1
      obtain ⟨l1, w1, l2, w2, st, g⟩ := so_go o hm c
      exact ⟨l1, ⟨_, w1⟩, fun S2 e2 => by
        subst e2
        exact ⟨l2, ⟨_, w2⟩, fun S3 e3 => by
          subst e3
          exact ⟨hs, tx, ty, _, p1, p2, st, by have := o.sx; omega, fun S4 i L hL t => h S4 i 0 (.inr (.inr ⟨nw, c, rfl, L, hL, so_tr o hm g t⟩))⟩⟩⟩
theorem s_soU : SoundT C0 22 (tSoP fUni whU reU) := by
  refine .ofW W7 Try.func22 (by decide) rfl fun args H K h hB => ?_
  unfold tSoP at h
  split at h <;> try exact h.elim
  unfold arM at h
  split at h <;> try exact h.elim
  rename_i x y p _ rd fr nd ct us gn rl
  obtain ⟨hs, tx, ty, h1, h2, h3⟩ := h
  exact ⟨aSo 73 fUni, ⟨frame C0.ok s_validS _, frame C0.ok s_hold _, frame C0.ok s_roomS _, frame C0.ok (s_wUni 1000000) _, trivial⟩, vc_soU ⟨us, gn, rl, fr, nd, ct, rd⟩ x y p K hs tx ty h1 h2 h3⟩
theorem retL_0 (S : Arn) : retL S 0 = S := if_pos rfl
theorem vc_soI (S : Arn) (x y p : Int) (K : KT) (hs : List Int) (tx ty : Tr) (o : OpM S hs tx ty x y) (h0 : ¬ (1 ≤ p ∧ p ≤ 5) → K (.tup [.at (vU 0), .at (vI 1)]) (chS S) W7)
    (h1 : 1 ≤ p → p ≤ 5 → ∀ S' i e, SoR fInt whU reI S hs tx ty x y p S' i e → K (.tup [.at (vU i), .at (vI e)]) (chS S') W7) :
    vc C0 (aSo 86 fInt) Try.f32 [.at (.ptr 0 0), .at (vU x), .at (vU y), .at (vI p)] (chS S) (normK 7 (wideK W7 K)) := by
  refine Eq.mp (show (∀ b : Bool, (((b) = (decide (1 ≤ p ∧ p ≤ 5))) → (brS (!b) ((K (SV.tup [(TV.at (At.val (Value.int IntKind.u32 0))), (TV.at (At.val (Value.int IntKind.i64 1)))]) [(Chunk.box [(At.ptr 1 0), (At.slc 2), (At.slc 3), (At.val (Value.int IntKind.u64 (S.reads)))]), (Chunk.box [(At.slc 4), (At.slc 5), (At.slc 6), (At.val (Value.int IntKind.u32 (S.fresh)))]), (Chunk.row true (EC.node) (S.nodes)), (Chunk.row true (EC.int) (S.counts)), (Chunk.row true (EC.bool) (S.used)), (Chunk.row true (EC.u32) (S.gen)), (Chunk.row true (EC.u32) (S.rel))] [0, 1, 2, 3, 4, 5, 6])) ((brS (x == 0) ((K (SV.tup [(TV.at (At.val (Value.int IntKind.u32 0))), (TV.at (At.val (Value.int IntKind.i64 0)))]) [(Chunk.box [(At.ptr 1 0), (At.slc 2), (At.slc 3), (At.val (Value.int IntKind.u64 (S.reads)))]), (Chunk.box [(At.slc 4), (At.slc 5), (At.slc 6), (At.val (Value.int IntKind.u32 (S.fresh)))]), (Chunk.row true (EC.node) (S.nodes)), (Chunk.row true (EC.int) (S.counts)), (Chunk.row true (EC.bool) (S.used)), (Chunk.row true (EC.u32) (S.gen)), (Chunk.row true (EC.u32) (S.rel))] [0, 1, 2, 3, 4, 5, 6])) ((brS (y == 0)
    ((K (SV.tup [(TV.at (At.val (Value.int IntKind.u32 0))), (TV.at (At.val (Value.int IntKind.i64 0)))]) [(Chunk.box [(At.ptr 1 0), (At.slc 2), (At.slc 3), (At.val (Value.int IntKind.u64 (S.reads)))]), (Chunk.box [(At.slc 4), (At.slc 5), (At.slc 6), (At.val (Value.int IntKind.u32 (S.fresh)))]), (Chunk.row true (EC.node) (S.nodes)), (Chunk.row true (EC.int) (S.counts)), (Chunk.row true (EC.bool) (S.used)), (Chunk.row true (EC.u32) (S.gen)), (Chunk.row true (EC.u32) (S.rel))] [0, 1, 2, 3, 4, 5, 6])) ((brS (x == y) ((brS (p != 3) (((live S x) ∧ (exW S) ∧ (∀ S' : Arn, (((S') = (retL S x)) → (K (SV.tup [(TV.at (At.val (Value.int IntKind.u32 (x)))), (TV.at (At.val (Value.int IntKind.i64 0)))]) [(Chunk.box [(At.ptr 1 0), (At.slc 2), (At.slc 3), (At.val (Value.int IntKind.u64 (S'.reads)))]), (Chunk.box [(At.slc 4), (At.slc 5), (At.slc 6), (At.val (Value.int IntKind.u32 (S'.fresh)))]), (Chunk.row true (EC.node) (S'.nodes)), (Chunk.row true (EC.int) (S'.counts)), (Chunk.row true (EC.bool) (S'.used)), (Chunk.row true (EC.u32) (S'.gen)), (Chunk.row true (EC.u32) (S'.rel))] [0, 1, 2, 3, 4, 5, 6]))))) ((∃ hs : List Int, (∃ tx : Tr, (∃ ty : Tr, ((OpM S hs tx ty x y) ∧ (∀ S' : Arn, (∀ m : Nat, (∀ b1 : Bool, (((S') = (rdS S m)) → ((m ≤ 2) → (((b1) = (decide (needS tx ty ≤ S.free))) → (brS (!b1)
    ((K (SV.tup [(TV.at (At.val (Value.int IntKind.u32 0))), (TV.at (At.val (Value.int IntKind.i64 2)))]) [(Chunk.box [(At.ptr 1 0), (At.slc 2), (At.slc 3), (At.val (Value.int IntKind.u64 (S'.reads)))]), (Chunk.box [(At.slc 4), (At.slc 5), (At.slc 6), (At.val (Value.int IntKind.u32 (S'.fresh)))]), (Chunk.row true (EC.node) (S'.nodes)), (Chunk.row true (EC.int) (S'.counts)), (Chunk.row true (EC.bool) (S'.used)), (Chunk.row true (EC.u32) (S'.gen)), (Chunk.row true (EC.u32) (S'.rel))] [0, 1, 2, 3, 4, 5, 6])) (((live S' x) ∧ (exW S') ∧ (∀ S'1 : Arn, (((S'1) = (retL S' x)) → ((live S'1 y) ∧ (exW S'1) ∧ (∀ S'2 : Arn, (((S'2) = (retL S'1 y)) → (∃ hs1 : List Int, (∃ tx1 : Tr, (∃ ty1 : Tr, (∃ N : Nat, ((1 ≤ p) ∧ (p ≤ 5) ∧ (StM S'2 hs1 tx1 ty1 x y N) ∧ (tx1.size < 1000000) ∧ (∀ S'3 : Arn, (∀ i : Int, (∀ L : List Ent, ((SetR (fInt p) tx1.list ty1.list L) → ((TrR S'2 hs1 L 65537 (rdW N tx1.size) S'3 i) → (K (SV.tup [(TV.at (At.val (Value.int IntKind.u32 (i)))), (TV.at (At.val (Value.int IntKind.i64 0)))]) [(Chunk.box [(At.ptr 1 0), (At.slc 2), (At.slc 3), (At.val (Value.int IntKind.u64 (S'3.reads)))]), (Chunk.box [(At.slc 4), (At.slc 5), (At.slc 6), (At.val (Value.int IntKind.u32 (S'3.fresh)))]), (Chunk.row true (EC.node) (S'3.nodes)), (Chunk.row true (EC.int) (S'3.counts)), (Chunk.row true (EC.bool) (S'3.used)), (Chunk.row true (EC.u32) (S'3.gen)), (Chunk.row true (EC.u32) (S'3.rel))] [0, 1, 2, 3, 4, 5, 6])))))))))))))))))))))))))))))))) ((∃ hs : List Int, (∃ tx : Tr, (∃ ty : Tr,
    ((OpM S hs tx ty x y) ∧ (∀ S' : Arn, (∀ m : Nat, (∀ b1 : Bool, (((S') = (rdS S m)) → ((m ≤ 2) → (((b1) = (decide (needS tx ty ≤ S.free))) → (brS (!b1) ((K (SV.tup [(TV.at (At.val (Value.int IntKind.u32 0))), (TV.at (At.val (Value.int IntKind.i64 2)))]) [(Chunk.box [(At.ptr 1 0), (At.slc 2), (At.slc 3), (At.val (Value.int IntKind.u64 (S'.reads)))]), (Chunk.box [(At.slc 4), (At.slc 5), (At.slc 6), (At.val (Value.int IntKind.u32 (S'.fresh)))]), (Chunk.row true (EC.node) (S'.nodes)), (Chunk.row true (EC.int) (S'.counts)), (Chunk.row true (EC.bool) (S'.used)), (Chunk.row true (EC.u32) (S'.gen)), (Chunk.row true (EC.u32) (S'.rel))] [0, 1, 2, 3, 4, 5, 6])) (((live S' x) ∧ (exW S') ∧ (∀ S'1 : Arn, (((S'1) = (retL S' x)) → ((live S'1 y) ∧ (exW S'1) ∧ (∀ S'2 : Arn, (((S'2) = (retL S'1 y)) → (∃ hs1 : List Int, (∃ tx1 : Tr, (∃ ty1 : Tr, (∃ N : Nat, ((1 ≤ p) ∧ (p ≤ 5) ∧ (StM S'2 hs1 tx1 ty1 x y N) ∧ (tx1.size < 1000000) ∧ (∀ S'3 : Arn, (∀ i : Int, (∀ L : List Ent, ((SetR (fInt p) tx1.list ty1.list L) → ((TrR S'2 hs1 L 65537 (rdW N tx1.size) S'3 i) →
    (K (SV.tup [(TV.at (At.val (Value.int IntKind.u32 (i)))), (TV.at (At.val (Value.int IntKind.i64 0)))]) [(Chunk.box [(At.ptr 1 0), (At.slc 2), (At.slc 3), (At.val (Value.int IntKind.u64 (S'3.reads)))]), (Chunk.box [(At.slc 4), (At.slc 5), (At.slc 6), (At.val (Value.int IntKind.u32 (S'3.fresh)))]), (Chunk.row true (EC.node) (S'3.nodes)), (Chunk.row true (EC.int) (S'3.counts)), (Chunk.row true (EC.bool) (S'3.used)), (Chunk.row true (EC.u32) (S'3.gen)), (Chunk.row true (EC.u32) (S'3.rel))] [0, 1, 2, 3, 4, 5, 6]))))))))))))))))))))))))))))))))))))))) = _ by kernel_rfl) ?_
  refine fun b eb => brS_of (fun c => ?_) fun c => ?_
  · have c : ¬ (1 ≤ p ∧ p ≤ 5) := fun q => by rw [eb, decide_eq_true q] at c; cases c
    exact h0 c
  have c : 1 ≤ p ∧ p ≤ 5 := by rw [eb] at c; simpa using c
  obtain ⟨p1, p2⟩ := c
  have h := h1 p1 p2
  refine brS_of (fun d => ?_) fun d => brS_of (fun e => ?_) fun e => ?_
  · have d : x = 0 := by simpa using d
    have er : reI x y = 0 := if_pos (.inl d)
    exact h S 0 0 (.inl ⟨.inl d, rfl, er.symm, by rw [er, retL_0]⟩)
  · have e : y = 0 := by simpa using e
    have er : reI x y = 0 := if_pos (.inr e)
    exact h S 0 0 (.inl ⟨.inr (.inl e), rfl, er.symm, by rw [er, retL_0]⟩)
  have d : x ≠ 0 := by simpa using d
  have e : y ≠ 0 := by simpa using e
  have er : reI x y = x := if_neg fun q => q.elim d e
  refine brS_of (fun g => brS_of (fun f => ?_) fun f => ?_) fun g => ?_
  · have g : x = y := by simpa using g
    have f : p ≠ 3 := by simpa using f
    exact ⟨o.rx.us, ⟨_, o.wf⟩, fun S' q => h S' x 0 (.inl ⟨.inr (.inr ⟨g, f⟩), rfl, er.symm, by rw [er]; exact q⟩)⟩
  · have f : p = 3 := by simpa using f
    have nw : ¬ whU x y p := by rintro (q | q | q); exact d q; exact e q; exact q.2 f
    refine ⟨hs, tx, ty, o, fun S1 m b e1 hm eb => brS_of (fun c => ?_) fun c => ?_⟩
    · subst e1
      have c : ¬ needS tx ty ≤ S.free := by rw [eb] at c; simpa using c
      exact h _ 0 2 (.inr (.inl ⟨nw, by omega, rfl, rfl, m, hm, rfl⟩))
    · have c : needS tx ty ≤ S.free := by rw [eb] at c; simpa using c
      subst e1
      obtain ⟨l1, w1, l2, w2, st, g⟩ := so_go o hm c
      exact ⟨l1, ⟨_, w1⟩, fun S2 e2 => by
        subst e2
        exact ⟨l2, ⟨_, w2⟩, fun S3 e3 => by
          subst e3
          exact ⟨hs, tx, ty, _, p1, p2, st, by have := o.sx; omega, fun S4 i L hL t => h S4 i 0 (.inr (.inr ⟨nw, c, rfl, L, hL, so_tr o hm g t⟩))⟩⟩⟩
  · have g : x ≠ y := by simpa using g
    have nw : ¬ whU x y p := by rintro (q | q | q); exact d q; exact e q; exact g q.1
    refine ⟨hs, tx, ty, o, fun S1 m b e1 hm eb => brS_of (fun c => ?_) fun c => ?_⟩
    · subst e1
      have c : ¬ needS tx ty ≤ S.free := by rw [eb] at c; simpa using c
      exact h _ 0 2 (.inr (.inl ⟨nw, by omega, rfl, rfl, m, hm, rfl⟩))
    · have c : needS tx ty ≤ S.free := by rw [eb] at c; simpa using c
      subst e1
      obtain ⟨l1, w1, l2, w2, st, g⟩ := so_go o hm c
      exact ⟨l1, ⟨_, w1⟩, fun S2 e2 => by
        subst e2
        exact ⟨l2, ⟨_, w2⟩, fun S3 e3 => by
          subst e3
          exact ⟨hs, tx, ty, _, p1, p2, st, by have := o.sx; omega, fun S4 i L hL t => h S4 i 0 (.inr (.inr ⟨nw, c, rfl, L, hL, so_tr o hm g t⟩))⟩⟩⟩
theorem s_soI : SoundT C0 32 (tSoP fInt whU reI) := by
  refine .ofW W7 Try.func32 (by decide) rfl fun args H K h hB => ?_
  unfold tSoP at h
  split at h <;> try exact h.elim
  unfold arM at h
  split at h <;> try exact h.elim
  rename_i x y p _ rd fr nd ct us gn rl
  obtain ⟨hs, tx, ty, h1, h2, h3⟩ := h
  exact ⟨aSo 86 fInt, ⟨frame C0.ok s_validS _, frame C0.ok s_hold _, frame C0.ok s_roomS _, frame C0.ok (s_wInt 1000000) _, trivial⟩, vc_soI ⟨us, gn, rl, fr, nd, ct, rd⟩ x y p K hs tx ty h1 h2 h3⟩
theorem vc_soS (S : Arn) (x y : Int) (K : KT) (hs : List Int) (tx ty : Tr) (o : OpM S hs tx ty x y) 
    (h : ∀ S' i e, SoR gSub whS reS S hs tx ty x y 1 S' i e → K (.tup [.at (vU i), .at (vI e)]) (chS S') W7) :
    vc C0 (aSo 89 gSub) Try.f37 [.at (.ptr 0 0), .at (vU x), .at (vU y)] (chS S) (normK 7 (wideK W7 K)) := by
  refine Eq.mp (show (brS (x == 0) ((K (SV.tup [(TV.at (At.val (Value.int IntKind.u32 0))), (TV.at (At.val (Value.int IntKind.i64 0)))]) [(Chunk.box [(At.ptr 1 0), (At.slc 2), (At.slc 3), (At.val (Value.int IntKind.u64 (S.reads)))]), (Chunk.box [(At.slc 4), (At.slc 5), (At.slc 6), (At.val (Value.int IntKind.u32 (S.fresh)))]), (Chunk.row true (EC.node) (S.nodes)), (Chunk.row true (EC.int) (S.counts)), (Chunk.row true (EC.bool) (S.used)), (Chunk.row true (EC.u32) (S.gen)), (Chunk.row true (EC.u32) (S.rel))] [0, 1, 2, 3, 4, 5, 6])) ((brS (x == y) ((K (SV.tup [(TV.at (At.val (Value.int IntKind.u32 0))), (TV.at (At.val (Value.int IntKind.i64 0)))]) [(Chunk.box [(At.ptr 1 0), (At.slc 2), (At.slc 3), (At.val (Value.int IntKind.u64 (S.reads)))]), (Chunk.box [(At.slc 4), (At.slc 5), (At.slc 6), (At.val (Value.int IntKind.u32 (S.fresh)))]), (Chunk.row true (EC.node) (S.nodes)), (Chunk.row true (EC.int) (S.counts)), (Chunk.row true (EC.bool) (S.used)), (Chunk.row true (EC.u32) (S.gen)), (Chunk.row true (EC.u32) (S.rel))] [0, 1, 2, 3, 4, 5, 6])) ((brS (y == 0) (((live S x) ∧ (exW S) ∧ (∀ S' : Arn, (((S') = (retL S x)) →
    (K (SV.tup [(TV.at (At.val (Value.int IntKind.u32 (x)))), (TV.at (At.val (Value.int IntKind.i64 0)))]) [(Chunk.box [(At.ptr 1 0), (At.slc 2), (At.slc 3), (At.val (Value.int IntKind.u64 (S'.reads)))]), (Chunk.box [(At.slc 4), (At.slc 5), (At.slc 6), (At.val (Value.int IntKind.u32 (S'.fresh)))]), (Chunk.row true (EC.node) (S'.nodes)), (Chunk.row true (EC.int) (S'.counts)), (Chunk.row true (EC.bool) (S'.used)), (Chunk.row true (EC.u32) (S'.gen)), (Chunk.row true (EC.u32) (S'.rel))] [0, 1, 2, 3, 4, 5, 6]))))) ((∃ hs : List Int, (∃ tx : Tr, (∃ ty : Tr, ((OpM S hs tx ty x y) ∧ (∀ S' : Arn, (∀ m : Nat, (∀ b : Bool, (((S') = (rdS S m)) → ((m ≤ 2) → (((b) = (decide (needS tx ty ≤ S.free))) → (brS (!b) ((K (SV.tup [(TV.at (At.val (Value.int IntKind.u32 0))), (TV.at (At.val (Value.int IntKind.i64 2)))]) [(Chunk.box [(At.ptr 1 0), (At.slc 2), (At.slc 3), (At.val (Value.int IntKind.u64 (S'.reads)))]), (Chunk.box [(At.slc 4), (At.slc 5), (At.slc 6), (At.val (Value.int IntKind.u32 (S'.fresh)))]), (Chunk.row true (EC.node) (S'.nodes)), (Chunk.row true (EC.int) (S'.counts)), (Chunk.row true (EC.bool) (S'.used)), (Chunk.row true (EC.u32) (S'.gen)), (Chunk.row true (EC.u32) (S'.rel))] [0, 1, 2, 3, 4, 5, 6])) (((live S' x) ∧ (exW S') ∧ (∀ S'1 : Arn, (((S'1) = (retL S' x)) → ((live S'1 y) ∧ (exW S'1) ∧ (∀ S'2 : Arn, (((S'2) = (retL S'1 y)) → (∃ hs1 : List Int, (∃ tx1 : Tr, (∃ ty1 : Tr, (∃ N : Nat, (((1 : Int) ≤ 1) ∧ ((1 : Int) ≤ 5) ∧ (StM S'2 hs1 tx1 ty1 x y N) ∧ (tx1.size < 1000000) ∧
    (∀ S'3 : Arn, (∀ i : Int, (∀ L : List Ent, ((SetR (gSub 1) tx1.list ty1.list L) → ((TrR S'2 hs1 L 65537 (rdW N tx1.size) S'3 i) → (K (SV.tup [(TV.at (At.val (Value.int IntKind.u32 (i)))), (TV.at (At.val (Value.int IntKind.i64 0)))]) [(Chunk.box [(At.ptr 1 0), (At.slc 2), (At.slc 3), (At.val (Value.int IntKind.u64 (S'3.reads)))]), (Chunk.box [(At.slc 4), (At.slc 5), (At.slc 6), (At.val (Value.int IntKind.u32 (S'3.fresh)))]), (Chunk.row true (EC.node) (S'3.nodes)), (Chunk.row true (EC.int) (S'3.counts)), (Chunk.row true (EC.bool) (S'3.used)), (Chunk.row true (EC.u32) (S'3.gen)), (Chunk.row true (EC.u32) (S'3.rel))] [0, 1, 2, 3, 4, 5, 6]))))))))))))))))))))))))))))))))))) = _ by kernel_rfl) ?_
  refine brS_of (fun d => ?_) fun d => brS_of (fun g => ?_) fun g => brS_of (fun e => ?_) fun e => ?_
  · have d : x = 0 := by simpa using d
    have er : reS x y = 0 := if_pos (.inl d)
    exact h S 0 0 (.inl ⟨.inl d, rfl, er.symm, by rw [er, retL_0]⟩)
  · have g : x = y := by simpa using g
    have er : reS x y = 0 := if_pos (.inr g)
    exact h S 0 0 (.inl ⟨.inr (.inr g), rfl, er.symm, by rw [er, retL_0]⟩)
  · have d : x ≠ 0 := by simpa using d
    have g : x ≠ y := by simpa using g
    have e : y = 0 := by simpa using e
    have er : reS x y = x := if_neg fun q => q.elim d g
    exact ⟨o.rx.us, ⟨_, o.wf⟩, fun S' q => h S' x 0 (.inl ⟨.inr (.inl e), rfl, er.symm, by rw [er]; exact q⟩)⟩
  · have d : x ≠ 0 := by simpa using d
    have g : x ≠ y := by simpa using g
    have e : y ≠ 0 := by simpa using e
    have nw : ¬ whS x y 1 := by rintro (q | q | q); exact d q; exact e q; exact g q
    refine ⟨hs, tx, ty, o, fun S1 m b e1 hm eb => brS_of (fun c => ?_) fun c => ?_⟩
    · subst e1
      have c : ¬ needS tx ty ≤ S.free := by rw [eb] at c; simpa using c
      exact h _ 0 2 (.inr (.inl ⟨nw, by omega, rfl, rfl, m, hm, rfl⟩))
    · have c : needS tx ty ≤ S.free := by rw [eb] at c; simpa using c
      subst e1
      obtain ⟨l1, w1, l2, w2, st, g⟩ := so_go o hm c
      exact ⟨l1, ⟨_, w1⟩, fun S2 e2 => by
        subst e2
        exact ⟨l2, ⟨_, w2⟩, fun S3 e3 => by
          subst e3
          exact ⟨hs, tx, ty, _, by decide, by decide, st, by have := o.sx; omega, fun S4 i L hL t => h S4 i 0 (.inr (.inr ⟨nw, c, rfl, L, hL, so_tr o hm g t⟩))⟩⟩⟩
theorem s_soS : SoundT C0 37 (tSoN gSub whS reS) := by
  refine .ofW W7 Try.func37 (by decide) rfl fun args H K h hB => ?_
  unfold tSoN at h
  split at h <;> try exact h.elim
  unfold arM at h
  split at h <;> try exact h.elim
  rename_i x y _ rd fr nd ct us gn rl
  obtain ⟨hs, tx, ty, h1, h2⟩ := h
  exact ⟨aSo 89 gSub, ⟨frame C0.ok s_validS _, frame C0.ok s_hold _, frame C0.ok s_roomS _, frame C0.ok (s_wSub 1000000) _, trivial⟩, vc_soS ⟨us, gn, rl, fr, nd, ct, rd⟩ x y K hs tx ty h1 h2⟩
theorem vc_soE (S : Arn) (x y : Int) (K : KT) (hs : List Int) (tx ty : Tr) (o : OpM S hs tx ty x y) 
    (h : ∀ S' i e, SoR gExc whS reE S hs tx ty x y 1 S' i e → K (.tup [.at (vU i), .at (vI e)]) (chS S') W7) :
    vc C0 (aSo 92 gExc) Try.f41 [.at (.ptr 0 0), .at (vU x), .at (vU y)] (chS S) (normK 7 (wideK W7 K)) := by
  refine Eq.mp (show (brS (x == y) ((K (SV.tup [(TV.at (At.val (Value.int IntKind.u32 0))), (TV.at (At.val (Value.int IntKind.i64 0)))]) [(Chunk.box [(At.ptr 1 0), (At.slc 2), (At.slc 3), (At.val (Value.int IntKind.u64 (S.reads)))]), (Chunk.box [(At.slc 4), (At.slc 5), (At.slc 6), (At.val (Value.int IntKind.u32 (S.fresh)))]), (Chunk.row true (EC.node) (S.nodes)), (Chunk.row true (EC.int) (S.counts)), (Chunk.row true (EC.bool) (S.used)), (Chunk.row true (EC.u32) (S.gen)), (Chunk.row true (EC.u32) (S.rel))] [0, 1, 2, 3, 4, 5, 6])) ((brS (x == 0) (((live S y) ∧ (exW S) ∧ (∀ S' : Arn, (((S') = (retL S y)) → (K (SV.tup [(TV.at (At.val (Value.int IntKind.u32 (y)))), (TV.at (At.val (Value.int IntKind.i64 0)))]) [(Chunk.box [(At.ptr 1 0), (At.slc 2), (At.slc 3), (At.val (Value.int IntKind.u64 (S'.reads)))]), (Chunk.box [(At.slc 4), (At.slc 5), (At.slc 6), (At.val (Value.int IntKind.u32 (S'.fresh)))]), (Chunk.row true (EC.node) (S'.nodes)), (Chunk.row true (EC.int) (S'.counts)), (Chunk.row true (EC.bool) (S'.used)), (Chunk.row true (EC.u32) (S'.gen)), (Chunk.row true (EC.u32) (S'.rel))] [0, 1, 2, 3, 4, 5, 6]))))) ((brS (y == 0) (((live S x) ∧ (exW S) ∧ (∀ S' : Arn, (((S') = (retL S x)) →
    (K (SV.tup [(TV.at (At.val (Value.int IntKind.u32 (x)))), (TV.at (At.val (Value.int IntKind.i64 0)))]) [(Chunk.box [(At.ptr 1 0), (At.slc 2), (At.slc 3), (At.val (Value.int IntKind.u64 (S'.reads)))]), (Chunk.box [(At.slc 4), (At.slc 5), (At.slc 6), (At.val (Value.int IntKind.u32 (S'.fresh)))]), (Chunk.row true (EC.node) (S'.nodes)), (Chunk.row true (EC.int) (S'.counts)), (Chunk.row true (EC.bool) (S'.used)), (Chunk.row true (EC.u32) (S'.gen)), (Chunk.row true (EC.u32) (S'.rel))] [0, 1, 2, 3, 4, 5, 6]))))) ((∃ hs : List Int, (∃ tx : Tr, (∃ ty : Tr, ((OpM S hs tx ty x y) ∧ (∀ S' : Arn, (∀ m : Nat, (∀ b : Bool, (((S') = (rdS S m)) → ((m ≤ 2) → (((b) = (decide (needS tx ty ≤ S.free))) → (brS (!b) ((K (SV.tup [(TV.at (At.val (Value.int IntKind.u32 0))), (TV.at (At.val (Value.int IntKind.i64 2)))]) [(Chunk.box [(At.ptr 1 0), (At.slc 2), (At.slc 3), (At.val (Value.int IntKind.u64 (S'.reads)))]), (Chunk.box [(At.slc 4), (At.slc 5), (At.slc 6), (At.val (Value.int IntKind.u32 (S'.fresh)))]), (Chunk.row true (EC.node) (S'.nodes)), (Chunk.row true (EC.int) (S'.counts)), (Chunk.row true (EC.bool) (S'.used)), (Chunk.row true (EC.u32) (S'.gen)), (Chunk.row true (EC.u32) (S'.rel))] [0, 1, 2, 3, 4, 5, 6])) (((live S' x) ∧ (exW S') ∧ (∀ S'1 : Arn, (((S'1) = (retL S' x)) → ((live S'1 y) ∧ (exW S'1) ∧ (∀ S'2 : Arn, (((S'2) = (retL S'1 y)) → (∃ hs1 : List Int, (∃ tx1 : Tr, (∃ ty1 : Tr, (∃ N : Nat, (((1 : Int) ≤ 1) ∧ ((1 : Int) ≤ 5) ∧ (StM S'2 hs1 tx1 ty1 x y N) ∧ (tx1.size < 1000000) ∧
    (∀ S'3 : Arn, (∀ i : Int, (∀ L : List Ent, ((SetR (gExc 1) tx1.list ty1.list L) → ((TrR S'2 hs1 L 65537 (rdW N tx1.size) S'3 i) → (K (SV.tup [(TV.at (At.val (Value.int IntKind.u32 (i)))), (TV.at (At.val (Value.int IntKind.i64 0)))]) [(Chunk.box [(At.ptr 1 0), (At.slc 2), (At.slc 3), (At.val (Value.int IntKind.u64 (S'3.reads)))]), (Chunk.box [(At.slc 4), (At.slc 5), (At.slc 6), (At.val (Value.int IntKind.u32 (S'3.fresh)))]), (Chunk.row true (EC.node) (S'3.nodes)), (Chunk.row true (EC.int) (S'3.counts)), (Chunk.row true (EC.bool) (S'3.used)), (Chunk.row true (EC.u32) (S'3.gen)), (Chunk.row true (EC.u32) (S'3.rel))] [0, 1, 2, 3, 4, 5, 6]))))))))))))))))))))))))))))))))))) = _ by kernel_rfl) ?_
  refine brS_of (fun g => ?_) fun g => brS_of (fun d => ?_) fun d => brS_of (fun e => ?_) fun e => ?_
  · have g : x = y := by simpa using g
    have er : reE x y = 0 := if_pos g
    exact h S 0 0 (.inl ⟨.inr (.inr g), rfl, er.symm, by rw [er, retL_0]⟩)
  · have g : x ≠ y := by simpa using g
    have d : x = 0 := by simpa using d
    have er : reE x y = y := by unfold reE; rw [if_neg g, if_pos d]
    exact ⟨o.ry.us, ⟨_, o.wf⟩, fun S' q => h S' y 0 (.inl ⟨.inl d, rfl, er.symm, by rw [er]; exact q⟩)⟩
  · have d : x ≠ 0 := by simpa using d
    have g : x ≠ y := by simpa using g
    have e : y = 0 := by simpa using e
    have er : reE x y = x := by unfold reE; rw [if_neg g, if_neg d]
    exact ⟨o.rx.us, ⟨_, o.wf⟩, fun S' q => h S' x 0 (.inl ⟨.inr (.inl e), rfl, er.symm, by rw [er]; exact q⟩)⟩
  · have d : x ≠ 0 := by simpa using d
    have g : x ≠ y := by simpa using g
    have e : y ≠ 0 := by simpa using e
    have nw : ¬ whS x y 1 := by rintro (q | q | q); exact d q; exact e q; exact g q
    refine ⟨hs, tx, ty, o, fun S1 m b e1 hm eb => brS_of (fun c => ?_) fun c => ?_⟩
    · subst e1
      have c : ¬ needS tx ty ≤ S.free := by rw [eb] at c; simpa using c
      exact h _ 0 2 (.inr (.inl ⟨nw, by omega, rfl, rfl, m, hm, rfl⟩))
    · have c : needS tx ty ≤ S.free := by rw [eb] at c; simpa using c
      subst e1
      obtain ⟨l1, w1, l2, w2, st, g⟩ := so_go o hm c
      exact ⟨l1, ⟨_, w1⟩, fun S2 e2 => by
        subst e2
        exact ⟨l2, ⟨_, w2⟩, fun S3 e3 => by
          subst e3
          exact ⟨hs, tx, ty, _, by decide, by decide, st, by have := o.sx; omega, fun S4 i L hL t => h S4 i 0 (.inr (.inr ⟨nw, c, rfl, L, hL, so_tr o hm g t⟩))⟩⟩⟩
theorem s_soE : SoundT C0 41 (tSoN gExc whS reE) := by
  refine .ofW W7 Try.func41 (by decide) rfl fun args H K h hB => ?_
  unfold tSoN at h
  split at h <;> try exact h.elim
  unfold arM at h
  split at h <;> try exact h.elim
  rename_i x y _ rd fr nd ct us gn rl
  obtain ⟨hs, tx, ty, h1, h2⟩ := h
  exact ⟨aSo 92 gExc, ⟨frame C0.ok s_validS _, frame C0.ok s_hold _, frame C0.ok s_roomS _, frame C0.ok (s_wExc 1000000) _, trivial⟩, vc_soE ⟨us, gn, rl, fr, nd, ct, rd⟩ x y K hs tx ty h1 h2⟩
end Go.Proofs.Ytbonbaccmlomhaa.Sx
end
section
/- Listing trees. -/
namespace Go.Proofs.Ytbonbaccmlomhaa.Sx
open Go

/-KEEP Wf exW inU live Arn.cap Arn.free maxSize mkNode makeS relA nxt NodeR BuildR Rep lk pl rdS Tr.size-/
abbrev chL (lim : Int) (S : Arn) (out : List Ent) : List (Chunk C0) := [.box [.ptr 1 0, .slc 2, vI lim], .box [.ptr 3 0, .slc 4, .slc 5, vU64 S.reads], .row true EC.ent out, .box [.slc 6, .slc 7, .slc 8, vU S.fresh], .row true EC.node S.nodes, .row true EC.int S.counts, .row true EC.bool S.used, .row true EC.u32 S.gen, .row true EC.u32 S.rel]
def lsM (H : List (Chunk C0)) (k : Int → Arn → List Ent → Prop) : Prop := match H with
  | [.box [.ptr 1 0, .slc 2, .val (.int .i64 lim)], .box [.ptr 3 0, .slc 4, .slc 5, .val (.int .u64 rd)], .row true .ent out, .box [.slc 6, .slc 7, .slc 8, .val (.int .u32 fr)], .row true .node nd, .row true .int ct, .row true .bool us, .row true .u32 gn, .row true .u32 rl] => k lim ⟨us, gn, rl, fr, nd, ct, rd⟩ out
  | _ => False
def tFull : Tfm C0 := fun args H K => match args with
  | [.at (.ptr 0 0)] => lsM H fun lim S out => K (.one (.at (vB (decide (lim ≤ (out.length : Int)))))) (chL lim S out) []
  | _ => False
def room (lim : Int) (out : List Ent) : Nat := (lim - out.length).toNat
def tLk (n : Nat) : Tfm C0 := fun args H K => match args with
  | [.at (.ptr 0 0), .at (.val (.int .u32 i)), .at (.val (.int .i64 lo)), .at (.val (.int .i64 hi))] => lsM H fun lim S out => ∃ hs t, Wf S hs ∧ Rep S t i ∧ t.size < n ∧ t.size ≤ 1000000 ∧ out.length + t.size ≤ 3000000 ∧ S.reads + t.size ≤ 3000000000000000000 ∧
    ∀ S' out', S' = rdS S (lk t lo hi (room lim out)).2 → out' = out ++ (lk t lo hi (room lim out)).1 → K (.tup []) (chL lim S' out') [0, 1, 2]
  | _ => False
structure XSt (P : Arn → List Ent → Prop) where
  S : Arn
  out : List Ent
  h : P S out
noncomputable def aLk (n : Nat) (lim : Int) (nd : NodeT) (P1 P2 : Arn → List Ent → Prop) : Ann C0 := { Γ := [(145, frameT [] tFull), (63, frameT [] tNode), (124, frameT [] (tLk n))], inv := fun k => match k with
  | 1005 => some { X := XSt P1, sl := [8], tf := fun _ => [.one (.at (.ptr 9 0))], hf := fun x => chL lim x.S x.out ++ [bxN nd], wr := [0, 1, 2] }
  | 1007 => some { X := XSt P2, sl := [8], tf := fun _ => [.one (.at (.ptr 9 0))], hf := fun x => chL lim x.S x.out ++ [bxN nd], wr := [0, 1, 2] }
  | _ => none }
def tPl (n : Nat) : Tfm C0 := fun args H K => match args with
  | [.at (.ptr 0 0), .at (.val (.int .u32 i)), .at (.val (.int .i64 x)), .at (.val (.int .i64 y))] => lsM H fun lim S out => ∃ hs t, Wf S hs ∧ Rep S t i ∧ t.size < n ∧ t.size ≤ 1000000 ∧ out.length + t.size ≤ 3000000 ∧ S.reads + 2 * t.size ≤ 3000000000000000000 ∧ 0 ≤ x ∧ y ≤ t.size ∧
    ∀ S' out', S' = rdS S (pl t x y).2 → out' = out ++ (pl t x y).1 → K (.tup []) (chL lim S' out') [0, 1, 2]
  | _ => False
theorem vc_full (lim : Int) (S : Arn) (out : List Ent) (K : KT) (h : K (.one (.at (vB (decide (lim ≤ (out.length : Int)))))) (chL lim S out) []) :
    vc C0 A0 Try.f145 [.at (.ptr 0 0)] (chL lim S out) (normK 9 K) := Eq.mp (show (K (SV.one (TV.at (At.val (Value.bool (decide ((↑out.length : Int) ≥ lim)))))) [(Chunk.box [(At.ptr 1 0), (At.slc 2), (At.val (Value.int IntKind.i64 (lim)))]), (Chunk.box [(At.ptr 3 0), (At.slc 4), (At.slc 5), (At.val (Value.int IntKind.u64 (S.reads)))]), (Chunk.row true (EC.ent) (out)), (Chunk.box [(At.slc 6), (At.slc 7), (At.slc 8), (At.val (Value.int IntKind.u32 (S.fresh)))]), (Chunk.row true (EC.node) (S.nodes)), (Chunk.row true (EC.int) (S.counts)), (Chunk.row true (EC.bool) (S.used)), (Chunk.row true (EC.u32) (S.gen)), (Chunk.row true (EC.u32) (S.rel))] []) = _ by kernel_rfl) h
theorem s_full : SoundT C0 145 tFull := by
  refine .of Try.func145 (by decide) rfl fun args H K h hB => ?_
  unfold tFull at h
  split at h <;> try exact h.elim
  unfold lsM at h
  split at h <;> try exact h.elim
  rename_i lim rd out fr nd ct us gn rl
  exact ⟨A0, trivial, vc_full lim ⟨us, gn, rl, fr, nd, ct, rd⟩ out K h⟩
def lkA (t : Tr) (lo hi : Int) (rm : Nat) : List Ent × Nat := match t with
  | .nil => ([], 0)
  | .node l k _ _ => if lo < k then lk l lo hi rm else ([], 0)
def lkB (t : Tr) (lo hi : Int) (rm : Nat) : List Ent := match t with
  | .nil => []
  | .node _ k v _ => if lo ≤ k ∧ k ≤ hi ∧ (lkA t lo hi rm).1.length < rm then [(k, v)] else []
theorem vc_lk (n : Nat) (lim : Int) (S : Arn) (out : List Ent) (i lo hi : Int) (K : KT) (hs : List Int) (t : Tr) (hw : Wf S hs) (hr : Rep S t i) (h1 : t.size < n + 1) (h2 : t.size ≤ 1000000) (h3 : out.length + t.size ≤ 3000000) (h4 : S.reads + t.size ≤ 3000000000000000000)
    (h : ∀ S' out', S' = rdS S (lk t lo hi (room lim out)).2 → out' = out ++ (lk t lo hi (room lim out)).1 → K (.tup []) (chL lim S' out') [0, 1, 2]) :
    vc C0 (aLk n lim (S.nd i) (fun S1 o1 => S1 = rdS S (1 + (lkA t lo hi (room lim out)).2) ∧ o1 = out ++ (lkA t lo hi (room lim out)).1) (fun S1 o1 => S1 = rdS S (1 + (lkA t lo hi (room lim out)).2) ∧ o1 = out ++ ((lkA t lo hi (room lim out)).1 ++ lkB t lo hi (room lim out))))
      Try.f124 [.at (.ptr 0 0), .at (vU i), .at (vI lo), .at (vI hi)] (chL lim S out) (normK 9 (wideK [0, 1, 2] K)) := by
  generalize hP1 : (fun S1 o1 => S1 = rdS S (1 + (lkA t lo hi (room lim out)).2) ∧ o1 = out ++ (lkA t lo hi (room lim out)).1) = P1
  generalize hP2 : (fun S1 o1 => S1 = rdS S (1 + (lkA t lo hi (room lim out)).2) ∧ o1 = out ++ ((lkA t lo hi (room lim out)).1 ++ lkB t lo hi (room lim out))) = P2
  refine Eq.mp (show (brS (i == 0) ((K (SV.tup []) [(Chunk.box [(At.ptr 1 0), (At.slc 2), (At.val (Value.int IntKind.i64 (lim)))]), (Chunk.box [(At.ptr 3 0), (At.slc 4), (At.slc 5), (At.val (Value.int IntKind.u64 (S.reads)))]), (Chunk.row true (EC.ent) (out)), (Chunk.box [(At.slc 6), (At.slc 7), (At.slc 8), (At.val (Value.int IntKind.u32 (S.fresh)))]), (Chunk.row true (EC.node) (S.nodes)), (Chunk.row true (EC.int) (S.counts)), (Chunk.row true (EC.bool) (S.used)), (Chunk.row true (EC.u32) (S.gen)), (Chunk.row true (EC.u32) (S.rel))] [0, 1, 2])) ((brS (decide (lim ≤ (↑out.length : Int))) ((K (SV.tup []) [(Chunk.box [(At.ptr 1 0), (At.slc 2), (At.val (Value.int IntKind.i64 (lim)))]), (Chunk.box [(At.ptr 3 0), (At.slc 4), (At.slc 5), (At.val (Value.int IntKind.u64 (S.reads)))]), (Chunk.row true (EC.ent) (out)), (Chunk.box [(At.slc 6), (At.slc 7), (At.slc 8), (At.val (Value.int IntKind.u32 (S.fresh)))]), (Chunk.row true (EC.node) (S.nodes)), (Chunk.row true (EC.int) (S.counts)), (Chunk.row true (EC.bool) (S.used)), (Chunk.row true (EC.u32) (S.gen)), (Chunk.row true (EC.u32) (S.rel))] [0, 1, 2])) (((inU i) ∧ (exW S) ∧ (S.reads < 4000000000000000000) ∧ (∀ S' : Arn, (((S') = (rdS S (S.us i).toNat)) → (brS (!S.us i)
    ((K (SV.tup []) [(Chunk.box [(At.ptr 1 0), (At.slc 2), (At.val (Value.int IntKind.i64 (lim)))]), (Chunk.box [(At.ptr 3 0), (At.slc 4), (At.slc 5), (At.val (Value.int IntKind.u64 (S'.reads)))]), (Chunk.row true (EC.ent) (out)), (Chunk.box [(At.slc 6), (At.slc 7), (At.slc 8), (At.val (Value.int IntKind.u32 (S'.fresh)))]), (Chunk.row true (EC.node) (S'.nodes)), (Chunk.row true (EC.int) (S'.counts)), (Chunk.row true (EC.bool) (S'.used)), (Chunk.row true (EC.u32) (S'.gen)), (Chunk.row true (EC.u32) (S'.rel))] [0, 1, 2])) (((brS (decide ((S.nd i).key > lo)) ((∃ hs : List Int, (∃ t : Tr, ((Wf S' hs) ∧ (Rep S' t (S.nd i).left) ∧ (t.size < n) ∧ (t.size ≤ 1000000) ∧ (out.length + t.size ≤ 3000000) ∧ (S'.reads + (↑t.size : Int) ≤ 3000000000000000000) ∧ (∀ S'1 : Arn, (∀ out' : List Ent, (((S'1) = (rdS S' (lk t lo hi (room lim out)).snd)) → (((out') = (out ++ (lk t lo hi (room lim out)).fst)) → (∃ x : XSt P1, (True ∧ (True ∧ ((Value.int IntKind.i64 (lo)) = (Value.int IntKind.i64 (lo))) ∧ ((Value.int IntKind.i64 (hi)) = (Value.int IntKind.i64 (hi))) ∧ True ∧ True) ∧ (True ∧ True ∧ ((Value.int IntKind.i64 (lim)) = (Value.int IntKind.i64 (lim))) ∧ True) ∧ (True ∧ True ∧ True ∧ ((Value.int IntKind.u64 (S'1.reads)) = (Value.int IntKind.u64 (x.S.reads))) ∧ True) ∧ ((out') = (x.out)) ∧ (True ∧ True ∧ True ∧ ((Value.int IntKind.u32 (S'1.fresh)) = (Value.int IntKind.u32 (x.S.fresh))) ∧ True) ∧ ((S'1.nodes) = (x.S.nodes)) ∧ ((S'1.counts) = (x.S.counts)) ∧ ((S'1.used) = (x.S.used)) ∧
    ((S'1.gen) = (x.S.gen)) ∧ ((S'1.rel) = (x.S.rel)) ∧ (((Value.int IntKind.i64 ((S.nd i).key)) = (Value.int IntKind.i64 ((S.nd i).key))) ∧ ((Value.int IntKind.i64 ((S.nd i).value)) = (Value.int IntKind.i64 ((S.nd i).value))) ∧ ((Value.int IntKind.u32 ((S.nd i).left)) = (Value.int IntKind.u32 ((S.nd i).left))) ∧ ((Value.int IntKind.u32 ((S.nd i).right)) = (Value.int IntKind.u32 ((S.nd i).right))) ∧ ((Value.int IntKind.i64 ((S.nd i).size)) = (Value.int IntKind.i64 ((S.nd i).size))) ∧ ((Value.int IntKind.i64 ((S.nd i).sum)) = (Value.int IntKind.i64 ((S.nd i).sum))) ∧ ((Value.int IntKind.i64 ((S.nd i).min)) = (Value.int IntKind.i64 ((S.nd i).min))) ∧ ((Value.int IntKind.i64 ((S.nd i).max)) = (Value.int IntKind.i64 ((S.nd i).max))) ∧ True) ∧ True)))))))))) ((∃ x : XSt P1, (True ∧ (True ∧ ((Value.int IntKind.i64 (lo)) = (Value.int IntKind.i64 (lo))) ∧ ((Value.int IntKind.i64 (hi)) = (Value.int IntKind.i64 (hi))) ∧ True ∧ True) ∧ (True ∧ True ∧ ((Value.int IntKind.i64 (lim)) = (Value.int IntKind.i64 (lim))) ∧ True) ∧ (True ∧ True ∧ True ∧ ((Value.int IntKind.u64 (S'.reads)) = (Value.int IntKind.u64 (x.S.reads))) ∧ True) ∧ ((out) = (x.out)) ∧ (True ∧ True ∧ True ∧ ((Value.int IntKind.u32 (S'.fresh)) = (Value.int IntKind.u32 (x.S.fresh))) ∧ True) ∧ ((S'.nodes) = (x.S.nodes)) ∧ ((S'.counts) = (x.S.counts)) ∧ ((S'.used) = (x.S.used)) ∧ ((S'.gen) = (x.S.gen)) ∧ ((S'.rel) = (x.S.rel)) ∧ (((Value.int IntKind.i64 ((S.nd i).key)) = (Value.int IntKind.i64 ((S.nd i).key))) ∧
    ((Value.int IntKind.i64 ((S.nd i).value)) = (Value.int IntKind.i64 ((S.nd i).value))) ∧ ((Value.int IntKind.u32 ((S.nd i).left)) = (Value.int IntKind.u32 ((S.nd i).left))) ∧ ((Value.int IntKind.u32 ((S.nd i).right)) = (Value.int IntKind.u32 ((S.nd i).right))) ∧ ((Value.int IntKind.i64 ((S.nd i).size)) = (Value.int IntKind.i64 ((S.nd i).size))) ∧ ((Value.int IntKind.i64 ((S.nd i).sum)) = (Value.int IntKind.i64 ((S.nd i).sum))) ∧ ((Value.int IntKind.i64 ((S.nd i).min)) = (Value.int IntKind.i64 ((S.nd i).min))) ∧ ((Value.int IntKind.i64 ((S.nd i).max)) = (Value.int IntKind.i64 ((S.nd i).max))) ∧ True) ∧ True)))) ∧ (∀ x : XSt P1, (True → ((brS (decide ((S.nd i).key ≥ lo)) ((brS (decide ((S.nd i).key ≤ hi)) ((brS (!decide (lim ≤ (↑x.out.length : Int))) (((((x.out.length + [((S.nd i).key, (S.nd i).value)].length) * bytesOf C0 EC.ent ≤ 140737488355328) ∧ (∃ x1 : XSt P2, (True ∧ (True ∧ ((Value.int IntKind.i64 (lo)) = (Value.int IntKind.i64 (lo))) ∧ ((Value.int IntKind.i64 (hi)) = (Value.int IntKind.i64 (hi))) ∧ True ∧ True) ∧ (True ∧ True ∧ ((Value.int IntKind.i64 (lim)) = (Value.int IntKind.i64 (lim))) ∧ True) ∧ (True ∧ True ∧ True ∧ ((Value.int IntKind.u64 (x.S.reads)) = (Value.int IntKind.u64 (x1.S.reads))) ∧ True) ∧ ((x.out ++ [((S.nd i).key, (S.nd i).value)]) = (x1.out)) ∧ (True ∧ True ∧ True ∧ ((Value.int IntKind.u32 (x.S.fresh)) = (Value.int IntKind.u32 (x1.S.fresh))) ∧ True) ∧ ((x.S.nodes) = (x1.S.nodes)) ∧ ((x.S.counts) = (x1.S.counts)) ∧ ((x.S.used) = (x1.S.used)) ∧
    ((x.S.gen) = (x1.S.gen)) ∧ ((x.S.rel) = (x1.S.rel)) ∧ (((Value.int IntKind.i64 ((S.nd i).key)) = (Value.int IntKind.i64 ((S.nd i).key))) ∧ ((Value.int IntKind.i64 ((S.nd i).value)) = (Value.int IntKind.i64 ((S.nd i).value))) ∧ ((Value.int IntKind.u32 ((S.nd i).left)) = (Value.int IntKind.u32 ((S.nd i).left))) ∧ ((Value.int IntKind.u32 ((S.nd i).right)) = (Value.int IntKind.u32 ((S.nd i).right))) ∧ ((Value.int IntKind.i64 ((S.nd i).size)) = (Value.int IntKind.i64 ((S.nd i).size))) ∧ ((Value.int IntKind.i64 ((S.nd i).sum)) = (Value.int IntKind.i64 ((S.nd i).sum))) ∧ ((Value.int IntKind.i64 ((S.nd i).min)) = (Value.int IntKind.i64 ((S.nd i).min))) ∧ ((Value.int IntKind.i64 ((S.nd i).max)) = (Value.int IntKind.i64 ((S.nd i).max))) ∧ True) ∧ True))) ∧ ((x.out.length + [((S.nd i).key, (S.nd i).value)].length) * bytesOf C0 EC.ent ≤ 140737488355328) ∧ (∃ x1 : XSt P2, (True ∧ (True ∧ ((Value.int IntKind.i64 (lo)) = (Value.int IntKind.i64 (lo))) ∧ ((Value.int IntKind.i64 (hi)) = (Value.int IntKind.i64 (hi))) ∧ True ∧ True) ∧ (True ∧ True ∧ ((Value.int IntKind.i64 (lim)) = (Value.int IntKind.i64 (lim))) ∧ True) ∧ (True ∧ True ∧ True ∧ ((Value.int IntKind.u64 (x.S.reads)) = (Value.int IntKind.u64 (x1.S.reads))) ∧ True) ∧ ((x.out ++ [((S.nd i).key, (S.nd i).value)]) = (x1.out)) ∧ (True ∧ True ∧ True ∧ ((Value.int IntKind.u32 (x.S.fresh)) = (Value.int IntKind.u32 (x1.S.fresh))) ∧ True) ∧ ((x.S.nodes) = (x1.S.nodes)) ∧ ((x.S.counts) = (x1.S.counts)) ∧ ((x.S.used) = (x1.S.used)) ∧
    ((x.S.gen) = (x1.S.gen)) ∧ ((x.S.rel) = (x1.S.rel)) ∧ (((Value.int IntKind.i64 ((S.nd i).key)) = (Value.int IntKind.i64 ((S.nd i).key))) ∧ ((Value.int IntKind.i64 ((S.nd i).value)) = (Value.int IntKind.i64 ((S.nd i).value))) ∧ ((Value.int IntKind.u32 ((S.nd i).left)) = (Value.int IntKind.u32 ((S.nd i).left))) ∧ ((Value.int IntKind.u32 ((S.nd i).right)) = (Value.int IntKind.u32 ((S.nd i).right))) ∧ ((Value.int IntKind.i64 ((S.nd i).size)) = (Value.int IntKind.i64 ((S.nd i).size))) ∧ ((Value.int IntKind.i64 ((S.nd i).sum)) = (Value.int IntKind.i64 ((S.nd i).sum))) ∧ ((Value.int IntKind.i64 ((S.nd i).min)) = (Value.int IntKind.i64 ((S.nd i).min))) ∧ ((Value.int IntKind.i64 ((S.nd i).max)) = (Value.int IntKind.i64 ((S.nd i).max))) ∧ True) ∧ True)))) ((∃ x1 : XSt P2, (True ∧ (True ∧ ((Value.int IntKind.i64 (lo)) = (Value.int IntKind.i64 (lo))) ∧ ((Value.int IntKind.i64 (hi)) = (Value.int IntKind.i64 (hi))) ∧ True ∧ True) ∧ (True ∧ True ∧ ((Value.int IntKind.i64 (lim)) = (Value.int IntKind.i64 (lim))) ∧ True) ∧ (True ∧ True ∧ True ∧ ((Value.int IntKind.u64 (x.S.reads)) = (Value.int IntKind.u64 (x1.S.reads))) ∧ True) ∧ ((x.out) = (x1.out)) ∧ (True ∧ True ∧ True ∧ ((Value.int IntKind.u32 (x.S.fresh)) = (Value.int IntKind.u32 (x1.S.fresh))) ∧ True) ∧ ((x.S.nodes) = (x1.S.nodes)) ∧ ((x.S.counts) = (x1.S.counts)) ∧ ((x.S.used) = (x1.S.used)) ∧ ((x.S.gen) = (x1.S.gen)) ∧ ((x.S.rel) = (x1.S.rel)) ∧ (((Value.int IntKind.i64 ((S.nd i).key)) = (Value.int IntKind.i64 ((S.nd i).key))) ∧
    ((Value.int IntKind.i64 ((S.nd i).value)) = (Value.int IntKind.i64 ((S.nd i).value))) ∧ ((Value.int IntKind.u32 ((S.nd i).left)) = (Value.int IntKind.u32 ((S.nd i).left))) ∧ ((Value.int IntKind.u32 ((S.nd i).right)) = (Value.int IntKind.u32 ((S.nd i).right))) ∧ ((Value.int IntKind.i64 ((S.nd i).size)) = (Value.int IntKind.i64 ((S.nd i).size))) ∧ ((Value.int IntKind.i64 ((S.nd i).sum)) = (Value.int IntKind.i64 ((S.nd i).sum))) ∧ ((Value.int IntKind.i64 ((S.nd i).min)) = (Value.int IntKind.i64 ((S.nd i).min))) ∧ ((Value.int IntKind.i64 ((S.nd i).max)) = (Value.int IntKind.i64 ((S.nd i).max))) ∧ True) ∧ True))))) ((∃ x1 : XSt P2, (True ∧ (True ∧ ((Value.int IntKind.i64 (lo)) = (Value.int IntKind.i64 (lo))) ∧ ((Value.int IntKind.i64 (hi)) = (Value.int IntKind.i64 (hi))) ∧ True ∧ True) ∧ (True ∧ True ∧ ((Value.int IntKind.i64 (lim)) = (Value.int IntKind.i64 (lim))) ∧ True) ∧ (True ∧ True ∧ True ∧ ((Value.int IntKind.u64 (x.S.reads)) = (Value.int IntKind.u64 (x1.S.reads))) ∧ True) ∧ ((x.out) = (x1.out)) ∧ (True ∧ True ∧ True ∧ ((Value.int IntKind.u32 (x.S.fresh)) = (Value.int IntKind.u32 (x1.S.fresh))) ∧ True) ∧ ((x.S.nodes) = (x1.S.nodes)) ∧ ((x.S.counts) = (x1.S.counts)) ∧ ((x.S.used) = (x1.S.used)) ∧ ((x.S.gen) = (x1.S.gen)) ∧ ((x.S.rel) = (x1.S.rel)) ∧ (((Value.int IntKind.i64 ((S.nd i).key)) = (Value.int IntKind.i64 ((S.nd i).key))) ∧ ((Value.int IntKind.i64 ((S.nd i).value)) = (Value.int IntKind.i64 ((S.nd i).value))) ∧
    ((Value.int IntKind.u32 ((S.nd i).left)) = (Value.int IntKind.u32 ((S.nd i).left))) ∧ ((Value.int IntKind.u32 ((S.nd i).right)) = (Value.int IntKind.u32 ((S.nd i).right))) ∧ ((Value.int IntKind.i64 ((S.nd i).size)) = (Value.int IntKind.i64 ((S.nd i).size))) ∧ ((Value.int IntKind.i64 ((S.nd i).sum)) = (Value.int IntKind.i64 ((S.nd i).sum))) ∧ ((Value.int IntKind.i64 ((S.nd i).min)) = (Value.int IntKind.i64 ((S.nd i).min))) ∧ ((Value.int IntKind.i64 ((S.nd i).max)) = (Value.int IntKind.i64 ((S.nd i).max))) ∧ True) ∧ True))))) ((∃ x1 : XSt P2, (True ∧ (True ∧ ((Value.int IntKind.i64 (lo)) = (Value.int IntKind.i64 (lo))) ∧ ((Value.int IntKind.i64 (hi)) = (Value.int IntKind.i64 (hi))) ∧ True ∧ True) ∧ (True ∧ True ∧ ((Value.int IntKind.i64 (lim)) = (Value.int IntKind.i64 (lim))) ∧ True) ∧ (True ∧ True ∧ True ∧ ((Value.int IntKind.u64 (x.S.reads)) = (Value.int IntKind.u64 (x1.S.reads))) ∧ True) ∧ ((x.out) = (x1.out)) ∧ (True ∧ True ∧ True ∧ ((Value.int IntKind.u32 (x.S.fresh)) = (Value.int IntKind.u32 (x1.S.fresh))) ∧ True) ∧ ((x.S.nodes) = (x1.S.nodes)) ∧ ((x.S.counts) = (x1.S.counts)) ∧ ((x.S.used) = (x1.S.used)) ∧ ((x.S.gen) = (x1.S.gen)) ∧ ((x.S.rel) = (x1.S.rel)) ∧ (((Value.int IntKind.i64 ((S.nd i).key)) = (Value.int IntKind.i64 ((S.nd i).key))) ∧ ((Value.int IntKind.i64 ((S.nd i).value)) = (Value.int IntKind.i64 ((S.nd i).value))) ∧ ((Value.int IntKind.u32 ((S.nd i).left)) = (Value.int IntKind.u32 ((S.nd i).left))) ∧
    ((Value.int IntKind.u32 ((S.nd i).right)) = (Value.int IntKind.u32 ((S.nd i).right))) ∧ ((Value.int IntKind.i64 ((S.nd i).size)) = (Value.int IntKind.i64 ((S.nd i).size))) ∧ ((Value.int IntKind.i64 ((S.nd i).sum)) = (Value.int IntKind.i64 ((S.nd i).sum))) ∧ ((Value.int IntKind.i64 ((S.nd i).min)) = (Value.int IntKind.i64 ((S.nd i).min))) ∧ ((Value.int IntKind.i64 ((S.nd i).max)) = (Value.int IntKind.i64 ((S.nd i).max))) ∧ True) ∧ True)))) ∧ (∀ x1 : XSt P2, (True → (brS (decide ((S.nd i).key < hi)) ((∃ hs : List Int, (∃ t : Tr, ((Wf x1.S hs) ∧ (Rep x1.S t (S.nd i).right) ∧ (t.size < n) ∧ (t.size ≤ 1000000) ∧ (x1.out.length + t.size ≤ 3000000) ∧ (x1.S.reads + (↑t.size : Int) ≤ 3000000000000000000) ∧ (∀ S'1 : Arn, (∀ out' : List Ent, (((S'1) = (rdS x1.S (lk t lo hi (room lim x1.out)).snd)) → (((out') = (x1.out ++ (lk t lo hi (room lim x1.out)).fst)) → (K (SV.tup []) [(Chunk.box [(At.ptr 1 0), (At.slc 2), (At.val (Value.int IntKind.i64 (lim)))]), (Chunk.box [(At.ptr 3 0), (At.slc 4), (At.slc 5), (At.val (Value.int IntKind.u64 (S'1.reads)))]), (Chunk.row true (EC.ent) (out')), (Chunk.box [(At.slc 6), (At.slc 7), (At.slc 8), (At.val (Value.int IntKind.u32 (S'1.fresh)))]), (Chunk.row true (EC.node) (S'1.nodes)), (Chunk.row true (EC.int) (S'1.counts)), (Chunk.row true (EC.bool) (S'1.used)), (Chunk.row true (EC.u32) (S'1.gen)), (Chunk.row true (EC.u32) (S'1.rel))] [0, 1, 2])))))))))
    ((K (SV.tup []) [(Chunk.box [(At.ptr 1 0), (At.slc 2), (At.val (Value.int IntKind.i64 (lim)))]), (Chunk.box [(At.ptr 3 0), (At.slc 4), (At.slc 5), (At.val (Value.int IntKind.u64 (x1.S.reads)))]), (Chunk.row true (EC.ent) (x1.out)), (Chunk.box [(At.slc 6), (At.slc 7), (At.slc 8), (At.val (Value.int IntKind.u32 (x1.S.fresh)))]), (Chunk.row true (EC.node) (x1.S.nodes)), (Chunk.row true (EC.int) (x1.S.counts)), (Chunk.row true (EC.bool) (x1.S.used)), (Chunk.row true (EC.u32) (x1.S.gen)), (Chunk.row true (EC.u32) (x1.S.rel))] [0, 1, 2])))))))))))))))))) = _ by kernel_rfl) ?_
  subst hP1 hP2
  rw [bytes_ent]
  cases t with
  | nil =>
    have e : i = 0 := hr
    subst e
    exact brS_of (fun _ => h S out (by simp [lk, rdS_zero]) (by simp [lk])) fun c => by simp at c
  | node l k v r =>
    obtain ⟨r1, r2, r3, r4, r5⟩ := hr
    have hp := hw.pos r1
    have hn2 := hw.n2
    have hrd := hw.rds
    have hsz : l.size + r.size + 1 = (Tr.node l k v r).size := by simp [Tr.size]; omega
    refine brS_of (fun c => ?_) fun _ => brS_of (fun c => ?_) fun c => ⟨inU_of hw (.inr r1), ⟨_, hw⟩, by omega, fun S1 e1 => brS_of (fun d => ?_) fun _ => ?_⟩
    · have : i = 0 := by simpa using c
      omega
    · have c : lim ≤ (out.length : Int) := of_decide_eq_true c
      have e : room lim out = 0 := by unfold room; omega
      exact h S out (by rw [e]; simp [lk, rdS_zero]) (by rw [e]; simp [lk])
    · rw [r1] at d; cases d
    · have c : ¬ lim ≤ (out.length : Int) := of_decide_eq_false c
      have hrm : room lim out ≠ 0 := by unfold room; omega
      rw [r1] at e1
      have e1 : S1 = rdS S 1 := e1
      have hw1 : Wf S1 hs := by rw [e1]; exact hw.rd (by omega)
      have hl := lk_len l lo hi (room lim out)
      rw [r2, r3]
      refine ⟨brS_of (fun d => ?_) fun d => ?_, fun x _ => ?_⟩
      · have d : lo < k := of_decide_eq_true d
        refine ⟨hs, l, hw1, by rw [e1]; exact rep_rd r4 1, by omega, by omega, by omega, by rw [e1]; show S.reads + ((1 : Nat) : Int) + _ ≤ _; omega, fun S2 o2 e2 e3 => ⟨⟨S2, o2, ?_⟩, ?_⟩⟩
        · rw [e2, e1, rdS_rdS]
          simp only [lkA, if_pos d]
          exact ⟨trivial, e3⟩
        · (repeat' first | exact trivial | exact rfl | refine And.intro ?_ ?_)
      · have d : ¬ lo < k := of_decide_eq_false d
        refine ⟨⟨S1, out, ?_⟩, ?_⟩
        · simp only [lkA, if_neg d]
          exact ⟨e1, by simp⟩
        · (repeat' first | exact trivial | exact rfl | refine And.intro ?_ ?_)
      · obtain ⟨x1, x2⟩ := x.h
        have la : (lkA (.node l k v r) lo hi (room lim out)).1.length ≤ l.size ∧ (lkA (.node l k v r) lo hi (room lim out)).2 ≤ l.size := by
          simp only [lkA]; split
          · exact ⟨hl.2.1, hl.2.2⟩
          · simp
        have hxl : x.out.length = out.length + (lkA (.node l k v r) lo hi (room lim out)).1.length := by rw [x2, List.length_append]
        have lb : lkB (.node l k v r) lo hi (room lim out) = if lo ≤ k ∧ k ≤ hi ∧ (lkA (.node l k v r) lo hi (room lim out)).1.length < room lim out then [(k, v)] else [] := rfl
        have hroom : (lkA (.node l k v r) lo hi (room lim out)).1.length < room lim out ↔ ¬ lim ≤ (x.out.length : Int) := by
          have e0 : room lim out = (lim - out.length).toNat := rfl
          omega
        refine ⟨brS_of (fun d1 => brS_of (fun d2 => brS_of (fun d3 => ⟨⟨by simp; omega, ⟨x.S, x.out ++ [(k, v)], ?_⟩, ?_⟩, by simp; omega, ⟨x.S, x.out ++ [(k, v)], ?_⟩, ?_⟩) fun d3 => ⟨⟨x.S, x.out, ?_⟩, ?_⟩) fun d2 => ⟨⟨x.S, x.out, ?_⟩, ?_⟩) fun d1 => ⟨⟨x.S, x.out, ?_⟩, ?_⟩, fun y _ => ?fin⟩
        case fin =>
          obtain ⟨y1, y2⟩ := y.h
          have lb1 : (lkB (.node l k v r) lo hi (room lim out)).length ≤ 1 := by rw [lb]; split <;> simp
          have hyl : y.out.length = out.length + ((lkA (.node l k v r) lo hi (room lim out)).1.length + (lkB (.node l k v r) lo hi (room lim out)).length) := by rw [y2]; simp
          have hwy : Wf y.S hs := by rw [y1]; exact hw.rd (by omega)
          have hry : room lim y.out = room lim out - ((lkA (.node l k v r) lo hi (room lim out)).1.length + (lkB (.node l k v r) lo hi (room lim out)).length) := by
            have e0 : room lim out = (lim - out.length).toNat := rfl
            have e1 : room lim y.out = (lim - y.out.length).toNat := rfl
            omega
          have hlk : lk (.node l k v r) lo hi (room lim out) = ((lkA (.node l k v r) lo hi (room lim out)).1 ++ (lkB (.node l k v r) lo hi (room lim out) ++ (if k < hi then lk r lo hi (room lim y.out) else ([], 0)).1), 1 + (lkA (.node l k v r) lo hi (room lim out)).2 + (if k < hi then lk r lo hi (room lim y.out) else ([], 0)).2) := by
            rw [hry]
            simp only [lk, if_neg hrm, lkA, lkB]
            rfl
          rw [hlk] at h
          refine brS_of (fun d => ?_) fun d => ?_
          · have d : k < hi := of_decide_eq_true d
            rw [if_pos d] at h
            refine ⟨hs, r, hwy, by rw [y1]; exact rep_rd r5 _, by omega, by omega, by omega, by rw [y1]; show S.reads + ((1 + (lkA (.node l k v r) lo hi (room lim out)).2 : Nat) : Int) + _ ≤ _; omega, fun S2 o2 e2 e3 => h S2 o2 ?_ ?_⟩
            · rw [e2, y1, rdS_rdS]
            · rw [e3, y2]; simp
          · have d : ¬ k < hi := of_decide_eq_false d
            rw [if_neg d] at h
            exact h y.S y.out (by rw [y1]; rfl) (by rw [y2]; simp)
        all_goals first
          | ((repeat' first | exact trivial | exact rfl | refine And.intro ?_ ?_); done)
          | (refine ⟨x1, ?_⟩
             rw [x2, lb]
             first
               | (rw [if_pos ⟨of_decide_eq_true d1, of_decide_eq_true d2, hroom.2 (by simpa using d3)⟩, List.append_assoc]; done)
               | (rw [if_neg (fun q => absurd (of_decide_eq_false d1) (by simpa using q.1))]; simp; done)
               | (rw [if_neg (fun q => absurd (of_decide_eq_false d2) (by simpa using q.2.1))]; simp; done)
               | (rw [if_neg (fun q => absurd (hroom.1 q.2.2) (by simpa using d3))]; simp; done))
theorem s_lk : ∀ n, SoundT C0 124 (tLk n) := by
  intro n
  induction n with
  | zero =>
    refine .of Try.func124 (by decide) rfl fun args H K h hB => ?_
    exfalso
    unfold tLk at h
    split at h <;> try exact h.elim
    unfold lsM at h
    split at h <;> try exact h.elim
    obtain ⟨_, _, _, _, h1, _⟩ := h
    omega
  | succ n ih =>
    refine .ofW [0, 1, 2] Try.func124 (by decide) rfl fun args H K h hB => ?_
    unfold tLk at h
    split at h <;> try exact h.elim
    unfold lsM at h
    split at h <;> try exact h.elim
    rename_i i lo hi _ lim rd out fr nd ct us gn rl
    obtain ⟨hs, t, h1, h2, h3, h4, h5, h6, h7⟩ := h
    refine ⟨_, ?_, vc_lk n lim ⟨us, gn, rl, fr, nd, ct, rd⟩ out i lo hi K hs t h1 h2 h3 h4 h5 h6 h7⟩
    exact ⟨frame C0.ok s_full _, frame C0.ok s_node _, frame C0.ok ih _, trivial⟩
def plS (t : Tr) : Int := match t with
  | .nil => 0
  | .node l _ _ _ => l.size
def plA (t : Tr) (x y : Int) : List Ent × Nat := match t with
  | .nil => ([], 0)
  | .node l _ _ _ => if x < (l.size : Int) then pl l x (if (l.size : Int) < y then (l.size : Int) else y) else ([], 0)
def plB (t : Tr) (x y : Int) : List Ent := match t with
  | .nil => []
  | .node l k v _ => if x ≤ (l.size : Int) ∧ (l.size : Int) < y then [(k, v)] else []
end Go.Proofs.Ytbonbaccmlomhaa.Sx
end
section
/- Range, Slice and List; Build. -/
namespace Go.Proofs.Ytbonbaccmlomhaa.Sx
open Go

/-KEEP Wf exW inU live Arn.cap Arn.free maxSize mkNode makeS relA nxt NodeR BuildR Rep lk pl rdS Tr.size rangeR sliceR ne0-/
def tLkA : Tfm C0 := fun args H K => match args with
  | [.at (.ptr 0 0), .at (.val (.int .u32 i)), .at (.val (.int .i64 lo)), .at (.val (.int .i64 hi))] => lsM H fun lim S out => ∃ hs t, Wf S hs ∧ Rep S t i ∧ t.size ≤ 1000000 ∧ out.length + t.size ≤ 3000000 ∧ S.reads + t.size ≤ 3000000000000000000 ∧
    ∀ S' out', S' = rdS S (lk t lo hi (room lim out)).2 → out' = out ++ (lk t lo hi (room lim out)).1 → K (.tup []) (chL lim S' out') [0, 1, 2]
  | _ => False
theorem s_lkA : SoundT C0 124 tLkA := (s_lk 1000001).weak fun args H K h => by
  unfold tLkA at h
  unfold tLk
  split at h <;> try exact h.elim
  unfold lsM at h ⊢
  split at h <;> try exact h.elim
  obtain ⟨hs, t, h1, h2, h3, h4⟩ := h
  exact ⟨hs, t, h1, h2, by omega, h3, h4⟩
def tPlA : Tfm C0 := fun args H K => match args with
  | [.at (.ptr 0 0), .at (.val (.int .u32 i)), .at (.val (.int .i64 x)), .at (.val (.int .i64 y))] => lsM H fun lim S out => ∃ hs t, Wf S hs ∧ Rep S t i ∧ t.size ≤ 1000000 ∧ out.length + t.size ≤ 3000000 ∧ S.reads + 2 * t.size ≤ 3000000000000000000 ∧ 0 ≤ x ∧ y ≤ t.size ∧
    ∀ S' out', S' = rdS S (pl t x y).2 → out' = out ++ (pl t x y).1 → K (.tup []) (chL lim S' out') [0, 1, 2]
  | _ => False
def rangeR (t : Tr) (lo hi lim : Int) : List Ent × Nat := if lim ≤ 0 ∨ hi < lo then ([], 0) else lk t lo hi lim.toNat
def sliceR (t : Tr) (x y : Int) : List Ent × Nat := if x < 0 ∨ y < x then ([], 0) else if (t.size : Int) < y then ([], ne0 t) else ((pl t x y).1, ne0 t + (pl t x y).2)
noncomputable def aRange : Ann C0 := { Γ := [(124, frameT [] tLkA)] }
def tRange : Tfm C0 := fun args H K => match args with
  | [.at (.ptr 0 0), .at (.val (.int .u32 i)), .at (.val (.int .i64 lo)), .at (.val (.int .i64 hi)), .at (.val (.int .i64 lim))] => arM H fun S => ∃ hs t, Wf S hs ∧ Rep S t i ∧ t.size ≤ 1000000 ∧ S.reads + t.size ≤ 3000000000000000000 ∧
    ∀ S' (out : List Ent), S' = rdS S (rangeR t lo hi lim).2 → out = (rangeR t lo hi lim).1 → K (.one (.at (.slc 7))) (chS S' ++ [.row true EC.ent out]) [0]
  | _ => False
def tSlice : Tfm C0 := fun args H K => match args with
  | [.at (.ptr 0 0), .at (.val (.int .u32 i)), .at (.val (.int .i64 x)), .at (.val (.int .i64 y))] => arM H fun S => ∃ hs t, Wf S hs ∧ Rep S t i ∧ t.size ≤ 1000000 ∧ S.reads + 2 * t.size ≤ 2000000000000000000 ∧
    ∀ S' (out : List Ent), S' = rdS S (sliceR t x y).2 → out = (sliceR t x y).1 → K (.one (.at (.slc 7))) (chS S' ++ [.row true EC.ent out]) [0]
  | _ => False
noncomputable def aList : Ann C0 := { Γ := [(90, frameT [] tRange)] }
def tList : Tfm C0 := fun args H K => match args with
  | [.at (.ptr 0 0), .at (.val (.int .u32 i))] => arM H fun S => ∃ hs t, Wf S hs ∧ Rep S t i ∧ t.size ≤ 1000000 ∧ S.reads + t.size ≤ 3000000000000000000 ∧
    ∀ S' (out : List Ent), S' = rdS S (rangeR t (-9223372036854775808) 9223372036854775807 2147483647).2 → out = (rangeR t (-9223372036854775808) 9223372036854775807 2147483647).1 → K (.one (.at (.slc 7))) (chS S' ++ [.row true EC.ent out]) [0]
  | _ => False
def tNodeW : Tfm C0 := fun args H K => match args with
  | [.at (.ptr 0 0), .at (.val (.int .u32 l)), .agg [.val (.int .i64 k), .val (.int .i64 v)], .at (.val (.int .u32 r))] => arM H fun S => ∃ hs tl tr, Wf S (l :: r :: hs) ∧ Rep S tl l ∧ Rep S tr r ∧ tl.size + tr.size ≤ 1000000 ∧ 0 < S.free ∧ hs.length ≤ 900000000 ∧
    ∀ S' i, NodeR S hs k v tl tr S' i → K (.one (.at (vU i))) (chS S') W7
  | _ => False
noncomputable def aNodeW : Ann C0 := { Γ := [(100, frameT [] tMakeOk), (25, frameT [] tGive)] }
def tBld (n : Nat) : Tfm C0 := fun args H K => match args with
  | [.at (.ptr 0 0), .at (.slc 7)] => arMr H fun S rest => match rest with
    | [.row false .ent l] => ∃ hs, Wf S hs ∧ l.length < n ∧ l.length ≤ 100000 ∧ (l.length : Int) ≤ S.free ∧ hs.length + l.length ≤ 800000000 ∧ ∀ S' i, BuildR S hs l S' i → K (.one (.at (vU i))) (chS S' ++ [.row false EC.ent l]) W7
    | _ => False
  | _ => False
structure XBld (P : Arn → Int → Prop) where
  S : Arn
  i : Int
  h : P S i
noncomputable def aBld (n : Nat) (l : List Ent) (P : Arn → Int → Prop) : Ann C0 := { Γ := [(88, frameT [] (tBld n)), (123, frameT [] tNodeW)], inv := fun k => match k with
  | 1005 => some { X := XBld P, sl := [6], tf := fun x => [vi .u32 x.i], hf := fun x => chS x.S ++ [.row false EC.ent l], wr := W7 }
  | _ => none }
theorem vc_range (S : Arn) (i lo hi lim : Int) (K : KT) (hs : List Int) (t : Tr) (hw : Wf S hs) (hr : Rep S t i) (h1 : t.size ≤ 1000000) (h2 : S.reads + t.size ≤ 3000000000000000000)
    (h : ∀ S' (out : List Ent), S' = rdS S (rangeR t lo hi lim).2 → out = (rangeR t lo hi lim).1 → K (.one (.at (.slc 7))) (chS S' ++ [.row true EC.ent out]) [0]) :
    vc C0 aRange Try.f90 [.at (.ptr 0 0), .at (vU i), .at (vI lo), .at (vI hi), .at (vI lim)] (chS S) (normK 7 (wideK [0] K)) := by
  refine Eq.mp (show (brS (decide (lim ≤ 0)) ((K (SV.one (TV.at (At.slc 7))) [(Chunk.box [(At.ptr 1 0), (At.slc 2), (At.slc 3), (At.val (Value.int IntKind.u64 (S.reads)))]), (Chunk.box [(At.slc 4), (At.slc 5), (At.slc 6), (At.val (Value.int IntKind.u32 (S.fresh)))]), (Chunk.row true (EC.node) (S.nodes)), (Chunk.row true (EC.int) (S.counts)), (Chunk.row true (EC.bool) (S.used)), (Chunk.row true (EC.u32) (S.gen)), (Chunk.row true (EC.u32) (S.rel)), (Chunk.row true (EC.ent) [])] [0])) ((brS (decide (lo > hi)) ((K (SV.one (TV.at (At.slc 7))) [(Chunk.box [(At.ptr 1 0), (At.slc 2), (At.slc 3), (At.val (Value.int IntKind.u64 (S.reads)))]), (Chunk.box [(At.slc 4), (At.slc 5), (At.slc 6), (At.val (Value.int IntKind.u32 (S.fresh)))]), (Chunk.row true (EC.node) (S.nodes)), (Chunk.row true (EC.int) (S.counts)), (Chunk.row true (EC.bool) (S.used)), (Chunk.row true (EC.u32) (S.gen)), (Chunk.row true (EC.u32) (S.rel)), (Chunk.row true (EC.ent) [])] [0])) ((∃ hs : List Int, (∃ t : Tr, ((Wf S hs) ∧ (Rep S t i) ∧ (t.size ≤ 1000000) ∧ (([] : List Ent).length + t.size ≤ 3000000) ∧ (S.reads + (↑t.size : Int) ≤ 3000000000000000000) ∧ (∀ S' : Arn, (∀ out' : List Ent, (((S') = (rdS S (lk t lo hi (room lim [])).snd)) → (((out') = ([] ++ (lk t lo hi (room lim [])).fst)) →
    (K (SV.one (TV.at (At.slc 7))) [(Chunk.box [(At.ptr 1 0), (At.slc 2), (At.slc 3), (At.val (Value.int IntKind.u64 (S'.reads)))]), (Chunk.box [(At.slc 4), (At.slc 5), (At.slc 6), (At.val (Value.int IntKind.u32 (S'.fresh)))]), (Chunk.row true (EC.node) (S'.nodes)), (Chunk.row true (EC.int) (S'.counts)), (Chunk.row true (EC.bool) (S'.used)), (Chunk.row true (EC.u32) (S'.gen)), (Chunk.row true (EC.u32) (S'.rel)), (Chunk.row true (EC.ent) (out'))] [0])))))))))))) = _ by kernel_rfl) ?_
  refine brS_of (fun c => ?_) fun c => brS_of (fun d => ?_) fun d => ?_
  · have c : lim ≤ 0 := of_decide_eq_true c
    exact h S [] (by rw [rangeR, if_pos (.inl c)]; exact (rdS_zero S).symm) (by rw [rangeR, if_pos (.inl c)])
  · have d : hi < lo := of_decide_eq_true d
    exact h S [] (by rw [rangeR, if_pos (.inr d)]; exact (rdS_zero S).symm) (by rw [rangeR, if_pos (.inr d)])
  · have c : ¬ lim ≤ 0 := of_decide_eq_false c
    have d : ¬ hi < lo := of_decide_eq_false d
    have e : rangeR t lo hi lim = lk t lo hi (room lim []) := by rw [rangeR, if_neg (by omega)]; unfold room; simp
    rw [e] at h
    exact ⟨hs, t, hw, hr, h1, by simp; omega, h2, fun S' out e1 e2 => h S' out e1 (by simpa using e2)⟩
theorem s_range : SoundT C0 90 tRange := by
  refine .ofW [0] Try.func90 (by decide) rfl fun args H K h hB => ?_
  unfold tRange at h
  split at h <;> try exact h.elim
  unfold arM at h
  split at h <;> try exact h.elim
  rename_i i lo hi lim _ rd fr nd ct us gn rl
  obtain ⟨hs, t, h1, h2, h3, h4, h5⟩ := h
  exact ⟨aRange, ⟨frame C0.ok s_lkA _, trivial⟩, vc_range ⟨us, gn, rl, fr, nd, ct, rd⟩ i lo hi lim K hs t h1 h2 h3 h4 h5⟩
theorem s_list : SoundT C0 39 tList := by
  refine .ofW [0] Try.func39 (by decide) rfl fun args H K h hB => ?_
  unfold tList at h
  split at h <;> try exact h.elim
  unfold arM at h
  split at h <;> try exact h.elim
  rename_i i _ rd fr nd ct us gn rl
  generalize hS : (⟨us, gn, rl, fr, nd, ct, rd⟩ : Arn) = S at h
  have e : [Chunk.box [At.ptr 1 0, At.slc 2, At.slc 3, vU64 rd], .box [.slc 4, .slc 5, .slc 6, vU fr], .row true EC.node nd, .row true EC.int ct, .row true EC.bool us, .row true EC.u32 gn, .row true EC.u32 rl] = chS S := by rw [← hS]
  refine ⟨aList, ⟨frame C0.ok s_range _, trivial⟩, ?_⟩
  show vc C0 aList _ _ [Chunk.box [At.ptr 1 0, At.slc 2, At.slc 3, vU64 rd], .box [.slc 4, .slc 5, .slc 6, vU fr], .row true EC.node nd, .row true EC.int ct, .row true EC.bool us, .row true EC.u32 gn, .row true EC.u32 rl] (normK 7 (wideK [0] K))
  rw [e]
  exact Eq.mp (show (∃ hs : List Int, (∃ t : Tr, ((Wf S hs) ∧ (Rep S t i) ∧ (t.size ≤ 1000000) ∧ (S.reads + (↑t.size : Int) ≤ 3000000000000000000) ∧ (∀ S' : Arn, (∀ out : List Ent, (((S') = (rdS S (rangeR t (-9223372036854775808) 9223372036854775807 2147483647).snd)) → (((out) = ((rangeR t (-9223372036854775808) 9223372036854775807 2147483647).fst)) → (K (SV.one (TV.at (At.slc 7))) [(Chunk.box [(At.ptr 1 0), (At.slc 2), (At.slc 3), (At.val (Value.int IntKind.u64 (S'.reads)))]), (Chunk.box [(At.slc 4), (At.slc 5), (At.slc 6), (At.val (Value.int IntKind.u32 (S'.fresh)))]), (Chunk.row true (EC.node) (S'.nodes)), (Chunk.row true (EC.int) (S'.counts)), (Chunk.row true (EC.bool) (S'.used)), (Chunk.row true (EC.u32) (S'.gen)), (Chunk.row true (EC.u32) (S'.rel)), (Chunk.row true (EC.ent) (out))] [0])))))))) = _ by kernel_rfl) h
theorem vc_nodeW (S : Arn) (l k v r : Int) (K : KT) (hs : List Int) (tl tr : Tr) (hw : Wf S (l :: r :: hs)) (h1 : Rep S tl l) (h2 : Rep S tr r) (h3 : tl.size + tr.size ≤ 1000000) (h4 : 0 < S.free) (h5 : hs.length ≤ 900000000)
    (h : ∀ S' i, NodeR S hs k v tl tr S' i → K (.one (.at (vU i))) (chS S') W7) :
    vc C0 aNodeW Try.f123 [.at (.ptr 0 0), .at (vU l), .agg [vI k, vI v], .at (vU r)] (chS S) (normK 7 (wideK W7 K)) := by
  refine Eq.mp (show ((exW S) ∧
(live S l) ∧
(live S r) ∧
((mkNode S k v l r).size ≤ maxSize) ∧
(0 < S.free) ∧
(∀ S' : Arn, (∀ i : Int, (((S') = (makeS S k v l r)) → (((i) = (nxt S)) → (∃ hs : List Int, ((Wf S' (l :: hs)) ∧ (((S'.us l) = true) → (1 ≤ S'.indeg l)) ∧ (∀ S'1 : Arn, (((S'1) = (relA S' l)) → (∃ hs1 : List Int, ((Wf S'1 (r :: hs1)) ∧ (((S'1.us r) = true) → (1 ≤ S'1.indeg r)) ∧ (∀ S'2 : Arn, (((S'2) = (relA S'1 r)) → (K (SV.one (TV.at (At.val (Value.int IntKind.u32 (i))))) [(Chunk.box [(At.ptr 1 0), (At.slc 2), (At.slc 3), (At.val (Value.int IntKind.u64 (S'2.reads)))]), (Chunk.box [(At.slc 4), (At.slc 5), (At.slc 6), (At.val (Value.int IntKind.u32 (S'2.fresh)))]), (Chunk.row true (EC.node) (S'2.nodes)), (Chunk.row true (EC.int) (S'2.counts)), (Chunk.row true (EC.bool) (S'2.used)), (Chunk.row true (EC.u32) (S'2.gen)), (Chunk.row true (EC.u32) (S'2.rel))] [0, 1, 2, 3, 4, 5, 6])))))))))))))) = _ by kernel_rfl) ?_
  have hz : (mkNode S k v l r).size ≤ maxSize := by rw [mk_size hw h1 h2]; unfold maxSize; omega
  obtain ⟨t1, t2, t3, t4⟩ := node_two (k := k) (v := v) hw h4 hz (by omega)
  refine ⟨⟨_, hw⟩, hw.held l (by simp), hw.held r (by simp), hz, h4, fun S1 i e1 e2 => ?_⟩
  subst e1
  refine ⟨_, t1, t2, fun S2 e3 => ?_⟩
  subst e3
  refine ⟨_, t3, t4, fun S3 e4 => h S3 i ?_⟩
  rw [e4, e2]
  exact node_ok hw h4 hz (by omega) h1 h2
theorem s_nodeW : SoundT C0 123 tNodeW := by
  refine .ofW W7 Try.func123 (by decide) rfl fun args H K h hB => ?_
  unfold tNodeW at h
  split at h <;> try exact h.elim
  unfold arM at h
  split at h <;> try exact h.elim
  rename_i l k v r _ rd fr nd ct us gn rl
  obtain ⟨hs, tl, tr, h1, h2, h3, h4, h5, h6, h7⟩ := h
  exact ⟨aNodeW, ⟨frame C0.ok s_makeOk _, frame C0.ok s_give _, trivial⟩, vc_nodeW ⟨us, gn, rl, fr, nd, ct, rd⟩ l k v r K hs tl tr h1 h2 h3 h4 h5 h6 h7⟩
theorem vc_bld (n : Nat) (S : Arn) (l : List Ent) (K : KT) (hs : List Int) (hw : Wf S hs) (h1 : l.length < n + 1) (h2 : l.length ≤ 100000) (h3 : (l.length : Int) ≤ S.free) (h4 : hs.length + l.length ≤ 800000000) (h : ∀ S' i, BuildR S hs l S' i → K (.one (.at (vU i))) (chS S' ++ [.row false EC.ent l]) W7) :
    vc C0 (aBld n l (BuildR S hs (l.take (l.length / 2)))) Try.f88 [.at (.ptr 0 0), .at (.slc 7)] (chS S ++ [.row false EC.ent l]) (normK 8 (wideK W7 K)) := by
  generalize hP : BuildR S hs (l.take (l.length / 2)) = P
  refine Eq.mp (show (brS ((↑l.length : Int) == 0) ((K (SV.one (TV.at (At.val (Value.int IntKind.u32 0)))) [(Chunk.box [(At.ptr 1 0), (At.slc 2), (At.slc 3), (At.val (Value.int IntKind.u64 (S.reads)))]), (Chunk.box [(At.slc 4), (At.slc 5), (At.slc 6), (At.val (Value.int IntKind.u32 (S.fresh)))]), (Chunk.row true (EC.node) (S.nodes)), (Chunk.row true (EC.int) (S.counts)), (Chunk.row true (EC.bool) (S.used)), (Chunk.row true (EC.u32) (S.gen)), (Chunk.row true (EC.u32) (S.rel)), (Chunk.row false (EC.ent) (l))] [0, 1, 2, 3, 4, 5, 6])) (((((0 : Int) ≤ 0) ∧ (0 ≤ IntKind.i64.wrap ((↑l.length : Int).tdiv 2)) ∧ (IntKind.i64.wrap ((↑l.length : Int).tdiv 2) ≤ (↑l.length : Int)) ∧ (∃ hs : List Int, ((Wf S hs) ∧ ((List.drop (Int.toNat 0) (List.take (IntKind.i64.wrap ((↑l.length : Int).tdiv 2)).toNat l)).length < n) ∧ ((List.drop (Int.toNat 0) (List.take (IntKind.i64.wrap ((↑l.length : Int).tdiv 2)).toNat l)).length ≤ 100000) ∧ ((↑(List.drop (Int.toNat 0) (List.take (IntKind.i64.wrap ((↑l.length : Int).tdiv 2)).toNat l)).length : Int) ≤ S.free) ∧ (hs.length + (List.drop (Int.toNat 0) (List.take (IntKind.i64.wrap ((↑l.length : Int).tdiv 2)).toNat l)).length ≤ 800000000) ∧ (∀ S' : Arn, (∀ i : Int, ((BuildR S hs (List.drop (Int.toNat 0) (List.take (IntKind.i64.wrap ((↑l.length : Int).tdiv 2)).toNat l)) S' i) → (∃ x : XBld P, (True ∧ (True ∧ True ∧ ((Value.int IntKind.i64 (IntKind.i64.wrap ((↑l.length : Int).tdiv 2))) = (Value.int IntKind.i64 (IntKind.i64.wrap ((↑l.length : Int).tdiv 2)))) ∧
    ((Value.int IntKind.u32 (i)) = (Value.int IntKind.u32 (x.i))) ∧ True) ∧ (True ∧ True ∧ True ∧ ((Value.int IntKind.u64 (S'.reads)) = (Value.int IntKind.u64 (x.S.reads))) ∧ True) ∧ (True ∧ True ∧ True ∧ ((Value.int IntKind.u32 (S'.fresh)) = (Value.int IntKind.u32 (x.S.fresh))) ∧ True) ∧ ((S'.nodes) = (x.S.nodes)) ∧ ((S'.counts) = (x.S.counts)) ∧ ((S'.used) = (x.S.used)) ∧ ((S'.gen) = (x.S.gen)) ∧ ((S'.rel) = (x.S.rel)) ∧ ((l) = (l)) ∧ True)))))))) ∧ (∀ x : XBld P, (True → ((0 ≤ IntKind.i64.wrap ((↑l.length : Int).tdiv 2)) ∧ (IntKind.i64.wrap ((↑l.length : Int).tdiv 2) < (↑l.length : Int)) ∧ (0 ≤ IntKind.i64.wrap (IntKind.i64.wrap ((↑l.length : Int).tdiv 2) + 1)) ∧ (IntKind.i64.wrap (IntKind.i64.wrap ((↑l.length : Int).tdiv 2) + 1) ≤ (↑l.length : Int)) ∧ ((↑l.length : Int) ≤ (↑l.length : Int)) ∧ (∃ hs : List Int, ((Wf x.S hs) ∧ ((List.drop (IntKind.i64.wrap (IntKind.i64.wrap ((↑l.length : Int).tdiv 2) + 1)).toNat (List.take (↑l.length : Int).toNat l)).length < n) ∧ ((List.drop (IntKind.i64.wrap (IntKind.i64.wrap ((↑l.length : Int).tdiv 2) + 1)).toNat (List.take (↑l.length : Int).toNat l)).length ≤ 100000) ∧ ((↑(List.drop (IntKind.i64.wrap (IntKind.i64.wrap ((↑l.length : Int).tdiv 2) + 1)).toNat (List.take (↑l.length : Int).toNat l)).length : Int) ≤ x.S.free) ∧ (hs.length + (List.drop (IntKind.i64.wrap (IntKind.i64.wrap ((↑l.length : Int).tdiv 2) + 1)).toNat (List.take (↑l.length : Int).toNat l)).length ≤ 800000000) ∧ (∀ S' : Arn, (∀ i : Int,
    ((BuildR x.S hs (List.drop (IntKind.i64.wrap (IntKind.i64.wrap ((↑l.length : Int).tdiv 2) + 1)).toNat (List.take (↑l.length : Int).toNat l)) S' i) → (∃ hs1 : List Int, (∃ tl : Tr, (∃ tr : Tr, ((Wf S' (x.i :: i :: hs1)) ∧ (Rep S' tl x.i) ∧ (Rep S' tr i) ∧ (tl.size + tr.size ≤ 1000000) ∧ (0 < S'.free) ∧ (hs1.length ≤ 900000000) ∧ (∀ S'1 : Arn, (∀ i1 : Int, ((NodeR S' hs1 (l.getD (IntKind.i64.wrap ((↑l.length : Int).tdiv 2)).toNat (0, 0)).fst (l.getD (IntKind.i64.wrap ((↑l.length : Int).tdiv 2)).toNat (0, 0)).snd tl tr S'1 i1) → (K (SV.one (TV.at (At.val (Value.int IntKind.u32 (i1))))) [(Chunk.box [(At.ptr 1 0), (At.slc 2), (At.slc 3), (At.val (Value.int IntKind.u64 (S'1.reads)))]), (Chunk.box [(At.slc 4), (At.slc 5), (At.slc 6), (At.val (Value.int IntKind.u32 (S'1.fresh)))]), (Chunk.row true (EC.node) (S'1.nodes)), (Chunk.row true (EC.int) (S'1.counts)), (Chunk.row true (EC.bool) (S'1.used)), (Chunk.row true (EC.u32) (S'1.gen)), (Chunk.row true (EC.u32) (S'1.rel)), (Chunk.row false (EC.ent) (l))] [0, 1, 2, 3, 4, 5, 6]))))))))))))))))))) = _ by kernel_rfl) ?_
  subst hP
  refine brS_of (fun c => ?_) fun c => ?_
  · have e : l = [] := List.length_eq_zero_iff.1 (by simpa using c)
    have hr : BuildR S hs l S 0 := by rw [e]; exact ⟨hw.zero_cons (by omega), ⟨.nil, rfl, rfl⟩, Stay.refl _ _, rfl, rfl, rfl⟩
    exact h S 0 hr
  have c : ¬ (l.length : Int) = 0 := by simpa using c
  have hm : IntKind.i64.wrap ((l.length : Int).tdiv 2) = ((l.length / 2 : Nat) : Int) := by rw [Int.tdiv_eq_ediv_of_nonneg (by omega), wrap_id (by omega) (by omega)]; omega
  have hm1 : IntKind.i64.wrap (((l.length / 2 : Nat) : Int) + 1) = ((l.length / 2 + 1 : Nat) : Int) := by rw [wrap_id (by omega) (by omega)]; omega
  rw [hm, hm1]
  have ea : List.drop (Int.toNat 0) (List.take ((l.length / 2 : Nat) : Int).toNat l) = l.take (l.length / 2) := rfl
  have eb : List.drop ((l.length / 2 + 1 : Nat) : Int).toNat (List.take ((l.length : Nat) : Int).toNat l) = l.drop (l.length / 2 + 1) := by
    rw [show ((l.length : Nat) : Int).toNat = l.length by omega, List.take_length]; rfl
  rw [ea, eb]
  have la : (l.take (l.length / 2)).length = l.length / 2 := by simp; omega
  have lb : (l.drop (l.length / 2 + 1)).length = l.length - (l.length / 2 + 1) := by simp
  have hf := hw.free_nonneg
  refine ⟨⟨by decide, by omega, by omega, hs, hw, by omega, by omega, by omega, by omega, fun S1 i r1 => ⟨⟨S1, i, r1⟩, ?_⟩⟩, fun x _ => ?_⟩
  · (repeat' first | exact trivial | exact rfl | refine And.intro ?_ ?_)
  · have r1 := x.h
    have hf1 := r1.wf.free_nonneg
    have n1 := r1.nu
    have c1 : x.S.cap = S.cap := by unfold Arn.cap; rw [r1.len]
    refine ⟨by omega, by omega, by omega, by omega, by omega, x.i :: hs, r1.wf, by omega, by omega, by omega, by simp; omega, fun S2 ir r2 => ?_⟩
    have hf2 := r2.wf.free_nonneg
    have n2 := r2.nu
    have c2 : S2.cap = x.S.cap := by unfold Arn.cap; rw [r2.len]
    have hw2 : Wf S2 (x.i :: ir :: hs) := r2.wf.perm (List.Perm.swap _ _ _)
    obtain ⟨tl, q1, q2⟩ := r1.rep
    obtain ⟨tr, q3, q4⟩ := r2.rep
    have q1' : Rep S2 tl x.i := q1.held r1.wf r2.stay (.inr (by simp))
    have s1 : tl.size = l.length / 2 := by rw [← tl.list_len, q2.list, la]
    have s2 : tr.size = l.length - (l.length / 2 + 1) := by rw [← tr.list_len, q4.list, lb]
    refine ⟨hs, tl, tr, hw2, q1', q3, by omega, by omega, by omega, fun S3 i nr => h S3 i ⟨nr.wf, ⟨_, nr.rep, by omega, rfl, q2, q4⟩, ?_, ?_, ?_, ?_⟩⟩
    · exact (r1.stay.trans (r2.stay.mono (by simp_all))).trans nr.stay
    · rw [nr.len, r2.len, r1.len]
    · rw [nr.rds, r2.rds, r1.rds]
    · rw [nr.nu, n2, n1]; omega
theorem s_bld : ∀ n, SoundT C0 88 (tBld n) := by
  intro n
  induction n with
  | zero =>
    refine .of Try.func88 (by decide) rfl fun args H K h hB => ?_
    exfalso
    unfold tBld at h
    split at h <;> try exact h.elim
    unfold arMr at h
    split at h <;> try exact h.elim
    split at h <;> try exact h.elim
    obtain ⟨_, _, h1, _⟩ := h
    omega
  | succ n ih =>
    refine .ofW W7 Try.func88 (by decide) rfl fun args H K h hB => ?_
    unfold tBld at h
    split at h <;> try exact h.elim
    unfold arMr at h
    split at h <;> try exact h.elim
    split at h <;> try exact h.elim
    rename_i _ rd fr nd ct us gn rl _ l
    obtain ⟨hs, h1, h2, h3, h4, h5, h6⟩ := h
    refine ⟨_, ?_, vc_bld n ⟨us, gn, rl, fr, nd, ct, rd⟩ l K hs h1 h2 h3 h4 h5 h6⟩
    exact ⟨frame C0.ok ih _, frame C0.ok s_nodeW _, trivial⟩
end Go.Proofs.Ytbonbaccmlomhaa.Sx
end
section
/- Build, Grow, and the example of the chapter on bulk operations. -/
namespace Go.Proofs.Ytbonbaccmlomhaa.Sx
open Go

/-KEEP Wf exW inU live Arn.cap Arn.free Rep rdS Tr.size BuildR PlantR rangeR newS ascB-/
def tBldA : Tfm C0 := fun args H K => match args with
  | [.at (.ptr 0 0), .at (.slc 7)] => arMr H fun S rest => match rest with
    | [.row false .ent l] => ∃ hs, Wf S hs ∧ l.length ≤ 100000 ∧ (l.length : Int) ≤ S.free ∧ hs.length + l.length ≤ 800000000 ∧ ∀ S' i, BuildR S hs l S' i → K (.one (.at (vU i))) (chS S' ++ [.row false EC.ent l]) W7
    | _ => False
  | _ => False
theorem s_bldA : SoundT C0 88 tBldA := (s_bld 100001).weak fun args H K h => by
  unfold tBldA at h
  unfold tBld
  split at h <;> try exact h.elim
  unfold arMr at h ⊢
  split at h <;> try exact h.elim
  split at h <;> try exact h.elim
  obtain ⟨hs, h1, h2, h3, h4, h5⟩ := h
  exact ⟨hs, h1, by omega, h2, h3, h4, h5⟩
noncomputable def aBuild (S : Arn) (l : List Ent) : Ann C0 := { Γ := [(77, frameT [] tFree), (88, frameT [] tBldA)], inv := fun n => match n with
  | 2 => some { X := XA l, sl := [6], tf := fun x => [vi .i64 x.i], hf := fun _ => chS S ++ [.row false EC.ent l], μ := fun x => l.length - x.i }
  | _ => none }
def tBuild : Tfm C0 := fun args H K => match args with
  | [.at (.ptr 0 0), .at (.slc 7)] => arMr H fun S rest => match rest with
    | [.row false .ent l] => ∃ hs, Wf S hs ∧ l.length ≤ 100000 ∧ hs.length + l.length ≤ 800000000 ∧ (ascB l = false → K (.tup [.at (vU 0), .at (vI 7)]) (chS S ++ [.row false EC.ent l]) W7) ∧
      (ascB l = true → S.free < l.length → K (.tup [.at (vU 0), .at (vI 2)]) (chS S ++ [.row false EC.ent l]) W7) ∧
      (ascB l = true → (l.length : Int) ≤ S.free → ∀ S' i, BuildR S hs l S' i → K (.tup [.at (vU i), .at (vI 0)]) (chS S' ++ [.row false EC.ent l]) W7)
    | _ => False
  | _ => False
abbrev chSk (k : Nat) (S : Arn) : List (Chunk C0) := [.box [.ptr (k + 1) 0, .slc (k + 2), .slc (k + 3), vU64 S.reads], .box [.slc (k + 4), .slc (k + 5), .slc (k + 6), vU S.fresh], .row true EC.node S.nodes, .row true EC.int S.counts, .row true EC.bool S.used, .row true EC.u32 S.gen, .row true EC.u32 S.rel]
noncomputable def aGrow : Ann C0 := { Γ := [(34, frameT [] tNew), (51, frameT [] tPlantA)] }
def tGrow : Tfm C0 := fun args H K => match args, H with
  | [.at (.slc 0), .at (.val (.int .u64 t)), .at (.val (.int .i64 sp))], [.row false .ent l] => 0 ≤ t ∧ 1 ≤ sp ∧ sp ≤ 30000 ∧ l.length ≤ 30000 ∧ ∀ S' i, PlantR (newS ((l.length : Int) + sp).toNat) [] l S' i → K (.tup [.at (.ptr 1 0), .at (vU i), .at (vB true)]) ([.row false EC.ent l] ++ chSk 1 S') []
  | _, _ => False
noncomputable def aAwake15 : Ann C0 := { Γ := [(34, frameT [] tNew), (35, frameT [] tBuild), (63, frameT [] tNode), (39, frameT [] tList)] }
def tAwake15 : Tfm C0 := fun args H K => match args, H with
  | [], [] => K (.one (.at (vB true))) [] []
  | _, _ => False
theorem vc_build (S : Arn) (l : List Ent) (K : KT) (hs : List Int) (hw : Wf S hs) (h1 : l.length ≤ 100000) (h2 : hs.length + l.length ≤ 800000000) (ha : ascB l = false → K (.tup [.at (vU 0), .at (vI 7)]) (chS S ++ [.row false EC.ent l]) W7)
    (hb : ascB l = true → S.free < l.length → K (.tup [.at (vU 0), .at (vI 2)]) (chS S ++ [.row false EC.ent l]) W7) (hc : ascB l = true → (l.length : Int) ≤ S.free → ∀ S' i, BuildR S hs l S' i → K (.tup [.at (vU i), .at (vI 0)]) (chS S' ++ [.row false EC.ent l]) W7) :
    vc C0 (aBuild S l) Try.f35 [.at (.ptr 0 0), .at (.slc 7)] (chS S ++ [.row false EC.ent l]) (normK 8 (wideK W7 K)) := by
  refine Eq.mp (show ((∃ x : XA l, (True ∧ (True ∧ True ∧ ((Value.int IntKind.i64 1) = (Value.int IntKind.i64 ((↑x.i : Int)))) ∧ True) ∧ (True ∧ True ∧ True ∧ ((Value.int IntKind.u64 (S.reads)) = (Value.int IntKind.u64 (S.reads))) ∧ True) ∧ (True ∧ True ∧ True ∧ ((Value.int IntKind.u32 (S.fresh)) = (Value.int IntKind.u32 (S.fresh))) ∧ True) ∧ ((S.nodes) = (S.nodes)) ∧ ((S.counts) = (S.counts)) ∧ ((S.used) = (S.used)) ∧ ((S.gen) = (S.gen)) ∧ ((S.rel) = (S.rel)) ∧ ((l) = (l)) ∧ True)) ∧
(∀ x : XA l, (True → (brS (decide ((↑x.i : Int) < (↑l.length : Int))) (((0 ≤ (↑x.i : Int)) ∧ ((↑x.i : Int) < (↑l.length : Int)) ∧ (0 ≤ IntKind.i64.wrap ((↑x.i : Int) - 1)) ∧ (IntKind.i64.wrap ((↑x.i : Int) - 1) < (↑l.length : Int)) ∧ (brS (decide ((eA l x.i).fst ≤ (l.getD (IntKind.i64.wrap ((↑x.i : Int) - 1)).toNat (0, 0)).fst)) ((K (SV.tup [(TV.at (At.val (Value.int IntKind.u32 0))), (TV.at (At.val (Value.int IntKind.i64 7)))]) [(Chunk.box [(At.ptr 1 0), (At.slc 2), (At.slc 3), (At.val (Value.int IntKind.u64 (S.reads)))]), (Chunk.box [(At.slc 4), (At.slc 5), (At.slc 6), (At.val (Value.int IntKind.u32 (S.fresh)))]), (Chunk.row true (EC.node) (S.nodes)), (Chunk.row true (EC.int) (S.counts)), (Chunk.row true (EC.bool) (S.used)), (Chunk.row true (EC.u32) (S.gen)), (Chunk.row true (EC.u32) (S.rel)), (Chunk.row false (EC.ent) (l))] [0, 1, 2, 3, 4, 5, 6])) ((∃ x' : XA l, (True ∧ ((True ∧ True ∧ ((Value.int IntKind.i64 (IntKind.i64.wrap ((↑x.i : Int) + 1))) = (Value.int IntKind.i64 ((↑x'.i : Int)))) ∧ True) ∧ (True ∧ True ∧
    True ∧ ((Value.int IntKind.u64 (S.reads)) = (Value.int IntKind.u64 (S.reads))) ∧ True) ∧ (True ∧ True ∧ True ∧ ((Value.int IntKind.u32 (S.fresh)) = (Value.int IntKind.u32 (S.fresh))) ∧ True) ∧ ((S.nodes) = (S.nodes)) ∧ ((S.counts) = (S.counts)) ∧ ((S.used) = (S.used)) ∧ ((S.gen) = (S.gen)) ∧ ((S.rel) = (S.rel)) ∧ ((l) = (l)) ∧ True) ∧ (l.length - x'.i < l.length - x.i))))))) (((exW S) ∧ (brS (decide (S.free < (↑l.length : Int))) ((K (SV.tup [(TV.at (At.val (Value.int IntKind.u32 0))), (TV.at (At.val (Value.int IntKind.i64 2)))]) [(Chunk.box [(At.ptr 1 0), (At.slc 2), (At.slc 3), (At.val (Value.int IntKind.u64 (S.reads)))]), (Chunk.box [(At.slc 4), (At.slc 5), (At.slc 6), (At.val (Value.int IntKind.u32 (S.fresh)))]), (Chunk.row true (EC.node) (S.nodes)), (Chunk.row true (EC.int) (S.counts)), (Chunk.row true (EC.bool) (S.used)), (Chunk.row true (EC.u32) (S.gen)), (Chunk.row true (EC.u32) (S.rel)), (Chunk.row false (EC.ent) (l))] [0, 1, 2, 3, 4, 5, 6])) ((∃ hs : List Int, ((Wf S hs) ∧ (l.length ≤ 100000) ∧ ((↑l.length : Int) ≤ S.free) ∧ (hs.length + l.length ≤ 800000000) ∧ (∀ S' : Arn, (∀ i : Int, ((BuildR S hs l S' i) →
    (K (SV.tup [(TV.at (At.val (Value.int IntKind.u32 (i)))), (TV.at (At.val (Value.int IntKind.i64 0)))]) [(Chunk.box [(At.ptr 1 0), (At.slc 2), (At.slc 3), (At.val (Value.int IntKind.u64 (S'.reads)))]), (Chunk.box [(At.slc 4), (At.slc 5), (At.slc 6), (At.val (Value.int IntKind.u32 (S'.fresh)))]), (Chunk.row true (EC.node) (S'.nodes)), (Chunk.row true (EC.int) (S'.counts)), (Chunk.row true (EC.bool) (S'.used)), (Chunk.row true (EC.u32) (S'.gen)), (Chunk.row true (EC.u32) (S'.rel)), (Chunk.row false (EC.ent) (l))] [0, 1, 2, 3, 4, 5, 6])))))))))))))) = _ by kernel_rfl) ?_
  refine ⟨⟨⟨1, by omega, by omega, by simp⟩, ?_⟩, fun x _ => brS_of (fun hi => ?_) fun hi => ?_⟩
  · (repeat' first | exact trivial | exact rfl | refine And.intro ?_ ?_)
  · have hi : x.i < l.length := by have := of_decide_eq_true hi; omega
    have h1' := x.h.1
    have hs' := x.split hi
    have e : ((x.i : Int) - 1).toNat = x.i - 1 := by omega
    rw [wrap_id (x := (x.i : Int) - 1) (by omega) (by omega), e]
    refine ⟨by omega, by omega, by omega, by omega, brS_of (fun hd => ?_) fun hd => ?_⟩
    · refine ha ?_
      rw [Bool.eq_false_iff]
      intro hh
      have := (hs'.1 hh).1
      have hd := of_decide_eq_true hd
      simp [eA] at hd this
      omega
    · refine ⟨⟨x.i + 1, by omega, by omega, ?_⟩, ?_⟩
      · rw [ascB, decide_eq_true_eq] at hs'
        rw [hs', Nat.add_sub_cancel]
        refine ⟨fun h => h.2, fun h => ⟨?_, h⟩⟩
        have hd := of_decide_eq_false hd
        simp [eA] at hd ⊢
        omega
      · (repeat' first | exact trivial | exact rfl | refine And.intro ?_ ?_)
        · rw [wrap_id (by omega) (by omega)]; congr 1
        · show l.length - (x.i + 1) < l.length - x.i
          omega
  · have e := x.fin (by have := of_decide_eq_false hi; omega)
    refine ⟨⟨_, hw⟩, brS_of (fun d => hb e (of_decide_eq_true d)) fun d => ⟨hs, hw, h1, by have := of_decide_eq_false d; omega, h2, fun S' i hr => hc e (by have := of_decide_eq_false d; omega) S' i hr⟩⟩
theorem s_build : SoundT C0 35 tBuild := by
  refine .ofW W7 Try.func35 (by decide) rfl fun args H K h hB => ?_
  unfold tBuild at h
  split at h <;> try exact h.elim
  unfold arMr at h
  split at h <;> try exact h.elim
  split at h <;> try exact h.elim
  rename_i _ rd fr nd ct us gn rl _ l
  obtain ⟨hs, h1, h2, h3, h4, h5, h6⟩ := h
  exact ⟨aBuild ⟨us, gn, rl, fr, nd, ct, rd⟩ l, ⟨frame C0.ok s_free _, frame C0.ok s_bldA _, trivial⟩, vc_build ⟨us, gn, rl, fr, nd, ct, rd⟩ l K hs h1 h2 h3 h4 h5 h6⟩
theorem range_all {t : Tr} (ha : Asc t.list) (hk : ∀ x ∈ t.list, -9223372036854775808 ≤ x.1 ∧ x.1 ≤ 9223372036854775807) (hs : t.size ≤ 1000000) : (rangeR t (-9223372036854775808) 9223372036854775807 2147483647).1 = t.list := by
  rw [rangeR, if_neg (by omega), lk_spec t _ _ _ ha, betE_all hk, List.take_of_length_le (by rw [t.list_len]; show t.size ≤ 2147483647; omega)]
end Go.Proofs.Ytbonbaccmlomhaa.Sx
end
section
/- update.Insert, Delete, Increase. -/
namespace Go.Proofs.Ytbonbaccmlomhaa.Sx
open Go

/-KEEP Wf exW inU live Arn.free Rep rdS retL Tr.size Tr.list Tr.Bal getE Asc ht Hn gN iB dB insE flt neK hasK TrR Got-/
def tIn : Tfm C0 := fun args H K => match args with
  | [.at (.ptr 0 0), .at (.val (.int .u32 i)), .agg [.val (.int .i64 k), .val (.int .i64 v)]] => arM H fun S => ∃ hs t, Wf S (i :: hs) ∧ Rep S t i ∧ t.Bal ∧ Asc t.list ∧ t.size ≤ 700000 ∧ (iB t.size : Int) ≤ S.free ∧ hs.length ≤ 500000000 ∧ S.reads + 5 * iB t.size ≤ 1600000000000000000 ∧
    ∀ S' j, TrR S hs (insE t.list (k, v)) (iB t.size) (5 * iB t.size) S' j → K (.one (.at (vU j))) (chS S') W7
  | _ => False
theorem s_in : SoundT C0 105 tIn := (s_insr 1000000).weak fun args H K h => by
  unfold tIn at h
  unfold tInsT
  split at h <;> try exact h.elim
  unfold arM at h ⊢
  split at h <;> try exact h.elim
  obtain ⟨hs, t, h1, h2, h3, h4, h6, h7, h8, h9, h10⟩ := h
  exact ⟨hs, t, h1, h2, h3, h4, by omega, h6, h7, by omega, h9, h10⟩
def tDe : Tfm C0 := fun args H K => match args with
  | [.at (.ptr 0 0), .at (.val (.int .u32 i)), .at (.val (.int .i64 key))] => arM H fun S => ∃ hs t, Wf S (i :: hs) ∧ Rep S t i ∧ t.Bal ∧ Asc t.list ∧ t.size ≤ 700000 ∧ hasK t.list key ∧ (dB t.size : Int) ≤ S.free ∧ hs.length ≤ 200000000 ∧ S.reads + 5 * dB t.size ≤ 1500000000000000000 ∧
    ∀ S' j, TrR S hs (flt (neK key) t.list) (dB t.size) (5 * dB t.size) S' j → K (.one (.at (vU j))) (chS S') W7
  | _ => False
theorem s_de : SoundT C0 102 tDe := (s_dlt 1000000).weak fun args H K h => by
  unfold tDe at h
  unfold tDlt
  split at h <;> try exact h.elim
  unfold arM at h ⊢
  split at h <;> try exact h.elim
  obtain ⟨hs, t, h1, h2, h3, h4, h6, h7, h8, h9, h10, h11⟩ := h
  exact ⟨hs, t, h1, h2, h3, h4, by omega, h6, h7, h8, by omega, h10, h11⟩
/-- What an update of a held tree starts from. -/
def upM (S : Arn) (hs : List Int) (t : Tr) (root : Int) : Prop := Wf S hs ∧ Rep S t root ∧ t.Bal ∧ Asc t.list ∧ t.size ≤ 60000 ∧ hs.length ≤ 100000000 ∧ S.reads ≤ 1000000000000000000
noncomputable def aUpI : Ann C0 := { Γ := [(18, frameT [] tGetT), (71, frameT [] tHold), (49, frameT [] tSize), (104, frameT [] (tRes1 4 1)), (95, frameT [] tRoom), (105, frameT [] tIn)] }
def tUpI : Tfm C0 := fun args H K => match args with
  | [.at (.ptr 0 0), .at (.val (.int .u32 r)), .agg [.val (.int .i64 k), .val (.int .i64 v)]] => arM H fun S => ∃ hs t, upM S hs t r ∧
    (getE t.list k = some v → ∀ S' m, S' = retL (rdS S m) r → m ≤ ht t → K (.tup [.at (vU r), .at (vI v), .at (vB true), .at (vI 0)]) (chS S') W7) ∧
    (getE t.list k ≠ some v → S.free < 4 * (Hn (t.size + 1) + 2) → ∀ S' m, S' = rdS S m → m ≤ ht t + 1 → K (.tup [.at (vU 0), .at (vI 0), .at (vB false), .at (vI 2)]) (chS S') W7) ∧
    (getE t.list k ≠ some v → 4 * (Hn (t.size + 1) + 2) ≤ S.free → ∀ S' j (o : Option Int), o = getE t.list k → TrR S hs (insE t.list (k, v)) (iB t.size) (5 * iB t.size + ht t + 1) S' j → K (.tup [.at (vU j), .at (vI (o.getD 0)), .at (vB o.isSome), .at (vI 0)]) (chS S') W7)
  | _ => False
noncomputable def aUpD : Ann C0 := { Γ := [(18, frameT [] tGetT), (71, frameT [] tHold), (49, frameT [] tSize), (101, frameT [] (tRes1 4 0)), (95, frameT [] tRoom), (102, frameT [] tDe)] }
def tUpD : Tfm C0 := fun args H K => match args with
  | [.at (.ptr 0 0), .at (.val (.int .u32 r)), .at (.val (.int .i64 k))] => arM H fun S => ∃ hs t, upM S hs t r ∧
    (getE t.list k = none → ∀ S' m, S' = rdS S m → m ≤ ht t → K (.tup [.at (vU 0), .at (vI 0), .at (vI 4)]) (chS S') W7) ∧
    (∀ v, getE t.list k = some v → S.free < 4 * (Hn t.size + 2) → ∀ S' m, S' = rdS S m → m ≤ ht t + 1 → K (.tup [.at (vU 0), .at (vI 0), .at (vI 2)]) (chS S') W7) ∧
    (∀ v, getE t.list k = some v → 4 * (Hn t.size + 2) ≤ S.free → ∀ S' j, TrR S hs (flt (neK k) t.list) (dB t.size) (5 * dB t.size + ht t + 1) S' j → K (.tup [.at (vU j), .at (vI v), .at (vI 0)]) (chS S') W7)
  | _ => False
theorem Hn_mono1 (n : Nat) : Hn n ≤ Hn ((n : Int) + 1) := by
  have a := gN_size n
  have b := gN_size (n + 1)
  have c := gN_mono (v := n + 1) (w := n + 1 + 1) (by omega) (by omega)
  rw [show ((n + 1 : Nat) : Int) = (n : Int) + 1 by omega] at b
  omega
theorem retL_free (S : Arn) (i : Int) : (retL S i).free = S.free := by unfold retL; split <;> rfl
theorem us_one (b : Bool) : b.toNat ≤ 1 := by cases b <;> decide
theorem iB_Hn (n : Nat) : (iB n : Int) = 4 * Hn n + 1 := by have := gN_size n; unfold iB; omega
theorem dB_Hn (n : Nat) : (dB n : Int) ≤ 4 * Hn n + 4 := by have := gN_size n; have := dB_le n; omega
theorem vc_upI (S : Arn) (r k v : Int) (K : KT) (hs : List Int) (t : Tr) (hm : upM S hs t r)
    (h1 : getE t.list k = some v → ∀ S' m, S' = retL (rdS S m) r → m ≤ ht t → K (.tup [.at (vU r), .at (vI v), .at (vB true), .at (vI 0)]) (chS S') W7)
    (h2 : getE t.list k ≠ some v → S.free < 4 * (Hn (t.size + 1) + 2) → ∀ S' m, S' = rdS S m → m ≤ ht t + 1 → K (.tup [.at (vU 0), .at (vI 0), .at (vB false), .at (vI 2)]) (chS S') W7)
    (h3 : getE t.list k ≠ some v → 4 * (Hn (t.size + 1) + 2) ≤ S.free → ∀ S' j (o : Option Int), o = getE t.list k → TrR S hs (insE t.list (k, v)) (iB t.size) (5 * iB t.size + ht t + 1) S' j → K (.tup [.at (vU j), .at (vI (o.getD 0)), .at (vB o.isSome), .at (vI 0)]) (chS S') W7) :
    vc C0 aUpI Try.f59 [.at (.ptr 0 0), .at (vU r), .agg [vI k, vI v]] (chS S) (normK 7 (wideK W7 K)) := by
  refine Eq.mp (show (∃ hs : List Int, (∃ t : Tr, ((Wf S hs) ∧ (Rep S t r) ∧ (Asc t.list) ∧ (t.size ≤ 1000000) ∧ (S.reads + (↑t.size : Int) ≤ 3000000000000000000) ∧ (∀ S' : Arn, (∀ m : Nat, (∀ o : Option Int, (((S') = (rdS S m)) → ((m ≤ ht t) → (((o) = (getE t.list k)) → (brS (o.isSome) ((brS (o.getD 0 == v) (((live S' r) ∧ (exW S') ∧ (∀ S'1 : Arn, (((S'1) = (retL S' r)) → (K (SV.tup [(TV.at (At.val (Value.int IntKind.u32 (r)))), (TV.at (At.val (Value.int IntKind.i64 (o.getD 0)))), (TV.at (At.val (Value.bool true))), (TV.at (At.val (Value.int IntKind.i64 0)))]) [(Chunk.box [(At.ptr 1 0), (At.slc 2), (At.slc 3), (At.val (Value.int IntKind.u64 (S'1.reads)))]), (Chunk.box [(At.slc 4), (At.slc 5), (At.slc 6), (At.val (Value.int IntKind.u32 (S'1.fresh)))]), (Chunk.row true (EC.node) (S'1.nodes)), (Chunk.row true (EC.int) (S'1.counts)), (Chunk.row true (EC.bool) (S'1.used)), (Chunk.row true (EC.u32) (S'1.gen)), (Chunk.row true (EC.u32) (S'1.rel))] [0, 1, 2, 3, 4, 5, 6]))))) (((inU r) ∧ (exW S') ∧ (S'.reads < 4000000000000000000) ∧ (∀ S'1 : Arn, (((S'1) = (rdS S' (S'.us r).toNat)) → ((0 ≤ (S'.nd r).size) ∧ ((S'.nd r).size ≤ 65536) ∧ (∀ p : Int, (((p) = (4 * (Hn ((S'.nd r).size + 1) + 2))) → ((exW S'1) ∧ (∀ b : Bool, (((b) = (decide (0 ≤ p) && decide (p ≤ S'1.free))) → (brS (!b)
    ((K (SV.tup [(TV.at (At.val (Value.int IntKind.u32 0))), (TV.at (At.val (Value.int IntKind.i64 0))), (TV.at (At.val (Value.bool false))), (TV.at (At.val (Value.int IntKind.i64 2)))]) [(Chunk.box [(At.ptr 1 0), (At.slc 2), (At.slc 3), (At.val (Value.int IntKind.u64 (S'1.reads)))]), (Chunk.box [(At.slc 4), (At.slc 5), (At.slc 6), (At.val (Value.int IntKind.u32 (S'1.fresh)))]), (Chunk.row true (EC.node) (S'1.nodes)), (Chunk.row true (EC.int) (S'1.counts)), (Chunk.row true (EC.bool) (S'1.used)), (Chunk.row true (EC.u32) (S'1.gen)), (Chunk.row true (EC.u32) (S'1.rel))] [0, 1, 2, 3, 4, 5, 6])) ((((live S'1 r) ∧ (exW S'1) ∧ (∀ S'2 : Arn, (((S'2) = (retL S'1 r)) → (∃ hs1 : List Int, (∃ t1 : Tr, ((Wf S'2 (r :: hs1)) ∧ (Rep S'2 t1 r) ∧ (t1.Bal) ∧ (Asc t1.list) ∧ (t1.size ≤ 700000) ∧ ((↑(iB t1.size) : Int) ≤ S'2.free) ∧ (hs1.length ≤ 500000000) ∧ (S'2.reads + 5 * (↑(iB t1.size) : Int) ≤ 1600000000000000000) ∧ (∀ S'3 : Arn, (∀ j : Int, ((TrR S'2 hs1 (insE t1.list (k, v)) (iB t1.size) (5 * iB t1.size) S'3 j) →
    (K (SV.tup [(TV.at (At.val (Value.int IntKind.u32 (j)))), (TV.at (At.val (Value.int IntKind.i64 (o.getD 0)))), (TV.at (At.val (Value.bool (o.isSome)))), (TV.at (At.val (Value.int IntKind.i64 0)))]) [(Chunk.box [(At.ptr 1 0), (At.slc 2), (At.slc 3), (At.val (Value.int IntKind.u64 (S'3.reads)))]), (Chunk.box [(At.slc 4), (At.slc 5), (At.slc 6), (At.val (Value.int IntKind.u32 (S'3.fresh)))]), (Chunk.row true (EC.node) (S'3.nodes)), (Chunk.row true (EC.int) (S'3.counts)), (Chunk.row true (EC.bool) (S'3.used)), (Chunk.row true (EC.u32) (S'3.gen)), (Chunk.row true (EC.u32) (S'3.rel))] [0, 1, 2, 3, 4, 5, 6])))))))))) ∧ (live S'1 r) ∧ (exW S'1) ∧ (∀ S'2 : Arn, (((S'2) = (retL S'1 r)) → (∃ hs1 : List Int, (∃ t1 : Tr, ((Wf S'2 (r :: hs1)) ∧ (Rep S'2 t1 r) ∧ (t1.Bal) ∧ (Asc t1.list) ∧ (t1.size ≤ 700000) ∧ ((↑(iB t1.size) : Int) ≤ S'2.free) ∧ (hs1.length ≤ 500000000) ∧ (S'2.reads + 5 * (↑(iB t1.size) : Int) ≤ 1600000000000000000) ∧ (∀ S'3 : Arn, (∀ j : Int, ((TrR S'2 hs1 (insE t1.list (k, v)) (iB t1.size) (5 * iB t1.size) S'3 j) →
    (K (SV.tup [(TV.at (At.val (Value.int IntKind.u32 (j)))), (TV.at (At.val (Value.int IntKind.i64 (o.getD 0)))), (TV.at (At.val (Value.bool (o.isSome)))), (TV.at (At.val (Value.int IntKind.i64 0)))]) [(Chunk.box [(At.ptr 1 0), (At.slc 2), (At.slc 3), (At.val (Value.int IntKind.u64 (S'3.reads)))]), (Chunk.box [(At.slc 4), (At.slc 5), (At.slc 6), (At.val (Value.int IntKind.u32 (S'3.fresh)))]), (Chunk.row true (EC.node) (S'3.nodes)), (Chunk.row true (EC.int) (S'3.counts)), (Chunk.row true (EC.bool) (S'3.used)), (Chunk.row true (EC.u32) (S'3.gen)), (Chunk.row true (EC.u32) (S'3.rel))] [0, 1, 2, 3, 4, 5, 6])))))))))))))))))))))))) (((inU r) ∧ (exW S') ∧ (S'.reads < 4000000000000000000) ∧ (∀ S'1 : Arn, (((S'1) = (rdS S' (S'.us r).toNat)) → ((0 ≤ (S'.nd r).size) ∧ ((S'.nd r).size ≤ 65536) ∧ (∀ p : Int, (((p) = (4 * (Hn ((S'.nd r).size + 1) + 2))) → ((exW S'1) ∧ (∀ b : Bool, (((b) = (decide (0 ≤ p) && decide (p ≤ S'1.free))) → (brS (!b)
    ((K (SV.tup [(TV.at (At.val (Value.int IntKind.u32 0))), (TV.at (At.val (Value.int IntKind.i64 0))), (TV.at (At.val (Value.bool false))), (TV.at (At.val (Value.int IntKind.i64 2)))]) [(Chunk.box [(At.ptr 1 0), (At.slc 2), (At.slc 3), (At.val (Value.int IntKind.u64 (S'1.reads)))]), (Chunk.box [(At.slc 4), (At.slc 5), (At.slc 6), (At.val (Value.int IntKind.u32 (S'1.fresh)))]), (Chunk.row true (EC.node) (S'1.nodes)), (Chunk.row true (EC.int) (S'1.counts)), (Chunk.row true (EC.bool) (S'1.used)), (Chunk.row true (EC.u32) (S'1.gen)), (Chunk.row true (EC.u32) (S'1.rel))] [0, 1, 2, 3, 4, 5, 6])) ((((live S'1 r) ∧ (exW S'1) ∧ (∀ S'2 : Arn, (((S'2) = (retL S'1 r)) → (∃ hs1 : List Int, (∃ t1 : Tr, ((Wf S'2 (r :: hs1)) ∧ (Rep S'2 t1 r) ∧ (t1.Bal) ∧ (Asc t1.list) ∧ (t1.size ≤ 700000) ∧ ((↑(iB t1.size) : Int) ≤ S'2.free) ∧ (hs1.length ≤ 500000000) ∧ (S'2.reads + 5 * (↑(iB t1.size) : Int) ≤ 1600000000000000000) ∧ (∀ S'3 : Arn, (∀ j : Int, ((TrR S'2 hs1 (insE t1.list (k, v)) (iB t1.size) (5 * iB t1.size) S'3 j) →
    (K (SV.tup [(TV.at (At.val (Value.int IntKind.u32 (j)))), (TV.at (At.val (Value.int IntKind.i64 (o.getD 0)))), (TV.at (At.val (Value.bool (o.isSome)))), (TV.at (At.val (Value.int IntKind.i64 0)))]) [(Chunk.box [(At.ptr 1 0), (At.slc 2), (At.slc 3), (At.val (Value.int IntKind.u64 (S'3.reads)))]), (Chunk.box [(At.slc 4), (At.slc 5), (At.slc 6), (At.val (Value.int IntKind.u32 (S'3.fresh)))]), (Chunk.row true (EC.node) (S'3.nodes)), (Chunk.row true (EC.int) (S'3.counts)), (Chunk.row true (EC.bool) (S'3.used)), (Chunk.row true (EC.u32) (S'3.gen)), (Chunk.row true (EC.u32) (S'3.rel))] [0, 1, 2, 3, 4, 5, 6])))))))))) ∧ (live S'1 r) ∧ (exW S'1) ∧ (∀ S'2 : Arn, (((S'2) = (retL S'1 r)) → (∃ hs1 : List Int, (∃ t1 : Tr, ((Wf S'2 (r :: hs1)) ∧ (Rep S'2 t1 r) ∧ (t1.Bal) ∧ (Asc t1.list) ∧ (t1.size ≤ 700000) ∧ ((↑(iB t1.size) : Int) ≤ S'2.free) ∧ (hs1.length ≤ 500000000) ∧ (S'2.reads + 5 * (↑(iB t1.size) : Int) ≤ 1600000000000000000) ∧ (∀ S'3 : Arn, (∀ j : Int, ((TrR S'2 hs1 (insE t1.list (k, v)) (iB t1.size) (5 * iB t1.size) S'3 j) →
    (K (SV.tup [(TV.at (At.val (Value.int IntKind.u32 (j)))), (TV.at (At.val (Value.int IntKind.i64 (o.getD 0)))), (TV.at (At.val (Value.bool (o.isSome)))), (TV.at (At.val (Value.int IntKind.i64 0)))]) [(Chunk.box [(At.ptr 1 0), (At.slc 2), (At.slc 3), (At.val (Value.int IntKind.u64 (S'3.reads)))]), (Chunk.box [(At.slc 4), (At.slc 5), (At.slc 6), (At.val (Value.int IntKind.u32 (S'3.fresh)))]), (Chunk.row true (EC.node) (S'3.nodes)), (Chunk.row true (EC.int) (S'3.counts)), (Chunk.row true (EC.bool) (S'3.used)), (Chunk.row true (EC.u32) (S'3.gen)), (Chunk.row true (EC.u32) (S'3.rel))] [0, 1, 2, 3, 4, 5, 6])))))))))))))))))))))))))))))))) = _ by kernel_rfl) ?_
  obtain ⟨w, rp, bal, asc, sz, hl, rd⟩ := hm
  have hrd := w.rds
  have hb := Bal.height bal (by omega)
  have hH := Hn_rng t.size
  have hH1 := Hn_rng ((t.size : Int) + 1)
  have hmo := Hn_mono1 t.size
  have hi := iB_Hn t.size
  refine ⟨hs, t, w, rp, asc, by omega, by omega, fun S1 m o e1 hm1 eo => ?_⟩
  have wl : Wf S1 hs := by rw [e1]; exact w.rd (by omega)
  have rp1 : Rep S1 t r := by rw [e1]; exact rep_rd rp m
  have lv : live S1 r := rp1.us
  have q1 : S1.reads = S.reads + m := by rw [e1]; rfl
  have f1 : S1.free = S.free := by rw [e1]; rfl
  have z1 : (S1.nd r).size = t.size := rp1.size wl
  refine brS_of (fun c => brS_of (fun d => ?_) fun d => ?_) fun c => ?_
  · have d : o.getD 0 = v := by simpa using d
    obtain ⟨x, ex⟩ := Option.isSome_iff_exists.1 c
    have ev : x = v := by rw [ex] at d; exact d
    have he : getE t.list k = some v := by rw [← eo, ex, ev]
    refine ⟨lv, ⟨hs, wl⟩, fun S2 e2 => ?_⟩
    rw [d]
    exact h1 he S2 m (by rw [e2, e1]) hm1
  all_goals
    have hne : getE t.list k ≠ some v := by
      intro he
      rw [he] at eo
      subst eo
      first
        | (simp at d; done)
        | (simp at c; done)
    refine ⟨inU_of wl lv, ⟨hs, wl⟩, by omega, fun S2 e2 => ?_⟩
    have hu := us_one (S1.us r)
    have wl2 : Wf S2 hs := by rw [e2]; exact wl.rd (by omega)
    have rp2 : Rep S2 t r := by rw [e2]; exact rep_rd rp1 _
    have lv2 : live S2 r := rp2.us
    have f2 : S2.free = S.free := by rw [e2]; exact f1
    have q2 : S2.reads = S.reads + m + (S1.us r).toNat := by rw [e2, ← q1]; rfl
    have gA : Got S hs 0 (ht t + 1) S2 hs := by
      rw [e2, e1, rdS_rdS]
      rw [e1] at hu
      exact (Got.rds w (by omega)).mono (by omega) (by omega)
    rw [z1]
    refine ⟨by omega, by omega, fun p ep => ⟨⟨hs, wl2⟩, fun b eb => brS_of (fun d2 => ?_) fun d2 => ?_⟩⟩
    · have d2 : b = false := by simpa using d2
      rw [d2] at eb
      have hf : ¬ p ≤ S2.free := fun hp => by
        rw [decide_eq_true hp, decide_eq_true (show 0 ≤ p by omega)] at eb; cases eb
      exact h2 hne (by omega) S2 (m + (S1.us r).toNat) (by rw [e2, e1, rdS_rdS]) (by omega)
    · have d2 : b = true := by simpa using d2
      rw [d2] at eb
      have hf : p ≤ S2.free := by
        by_cases hp : p ≤ S2.free
        · exact hp
        · rw [decide_eq_false hp, Bool.and_false] at eb; cases eb
      refine ⟨⟨lv2, ⟨hs, wl2⟩, ?_⟩, lv2, ⟨hs, wl2⟩, ?_⟩
      all_goals
        intro S3 e3
        have g3 := retL_got (hs := hs) wl2 lv2 (by omega)
        rw [← e3] at g3
        have rp3 : Rep S3 t r := by rw [e3]; exact rp2.retL
        have f3 : S3.free = S2.free := by rw [e3]; exact retL_free _ _
        have q3 : S3.reads = S2.reads := by rw [e3]; exact (retL_flds _ _).1
        refine ⟨hs, t, g3.wf, rp3, bal, asc, by omega, by omega, by omega, by omega, fun S4 j tr => h3 hne (by omega) S4 j o eo ⟨?_, tr.tree⟩⟩
        exact ((gA.seq g3 (h := hs) (fun _ h => h) (fun _ h => h)).seq tr.got (fun _ h => h) (fun _ h => h)).mono (by omega) (by omega)
theorem s_upI : SoundT C0 59 tUpI := by
  refine .ofW W7 Try.func59 (by decide) rfl fun args H K h hB => ?_
  unfold tUpI at h
  split at h <;> try exact h.elim
  unfold arM at h
  split at h <;> try exact h.elim
  rename_i r k v _ rd fr nd ct us gn rl
  obtain ⟨hs, t, h1, h2, h3, h4⟩ := h
  exact ⟨aUpI, ⟨frame C0.ok s_getT _, frame C0.ok s_hold _, frame C0.ok s_size _, frame C0.ok s_rIns _, frame C0.ok s_room _, frame C0.ok s_in _, trivial⟩, vc_upI ⟨us, gn, rl, fr, nd, ct, rd⟩ r k v K hs t h1 h2 h3 h4⟩
theorem getE_has {l : List Ent} {k v : Int} (h : getE l k = some v) : hasK l k := by
  induction l with
  | nil => cases h
  | cons x l ih =>
    obtain ⟨a, b⟩ := x
    unfold getE at h
    split at h
    · rename_i e
      exact ⟨b, by rw [← e]; simp⟩
    · obtain ⟨w, hw⟩ := ih h
      exact ⟨w, by simp [hw]⟩
theorem vc_upD (S : Arn) (r k : Int) (K : KT) (hs : List Int) (t : Tr) (hm : upM S hs t r)
    (h1 : getE t.list k = none → ∀ S' m, S' = rdS S m → m ≤ ht t → K (.tup [.at (vU 0), .at (vI 0), .at (vI 4)]) (chS S') W7)
    (h2 : ∀ v, getE t.list k = some v → S.free < 4 * (Hn t.size + 2) → ∀ S' m, S' = rdS S m → m ≤ ht t + 1 → K (.tup [.at (vU 0), .at (vI 0), .at (vI 2)]) (chS S') W7)
    (h3 : ∀ v, getE t.list k = some v → 4 * (Hn t.size + 2) ≤ S.free → ∀ S' j, TrR S hs (flt (neK k) t.list) (dB t.size) (5 * dB t.size + ht t + 1) S' j → K (.tup [.at (vU j), .at (vI v), .at (vI 0)]) (chS S') W7) :
    vc C0 aUpD Try.f57 [.at (.ptr 0 0), .at (vU r), .at (vI k)] (chS S) (normK 7 (wideK W7 K)) := by
  refine Eq.mp (show (∃ hs : List Int, (∃ t : Tr, ((Wf S hs) ∧ (Rep S t r) ∧ (Asc t.list) ∧ (t.size ≤ 1000000) ∧ (S.reads + (↑t.size : Int) ≤ 3000000000000000000) ∧ (∀ S' : Arn, (∀ m : Nat, (∀ o : Option Int, (((S') = (rdS S m)) → ((m ≤ ht t) → (((o) = (getE t.list k)) → (brS (!o.isSome) ((K (SV.tup [(TV.at (At.val (Value.int IntKind.u32 0))), (TV.at (At.val (Value.int IntKind.i64 0))), (TV.at (At.val (Value.int IntKind.i64 4)))]) [(Chunk.box [(At.ptr 1 0), (At.slc 2), (At.slc 3), (At.val (Value.int IntKind.u64 (S'.reads)))]), (Chunk.box [(At.slc 4), (At.slc 5), (At.slc 6), (At.val (Value.int IntKind.u32 (S'.fresh)))]), (Chunk.row true (EC.node) (S'.nodes)), (Chunk.row true (EC.int) (S'.counts)), (Chunk.row true (EC.bool) (S'.used)), (Chunk.row true (EC.u32) (S'.gen)), (Chunk.row true (EC.u32) (S'.rel))] [0, 1, 2, 3, 4, 5, 6])) (((inU r) ∧ (exW S') ∧ (S'.reads < 4000000000000000000) ∧ (∀ S'1 : Arn, (((S'1) = (rdS S' (S'.us r).toNat)) → ((0 ≤ (S'.nd r).size) ∧ ((S'.nd r).size ≤ 65536) ∧ (∀ p : Int, (((p) = (4 * (Hn ((S'.nd r).size + 0) + 2))) → ((exW S'1) ∧ (∀ b : Bool, (((b) = (decide (0 ≤ p) && decide (p ≤ S'1.free))) → (brS (!b)
    ((K (SV.tup [(TV.at (At.val (Value.int IntKind.u32 0))), (TV.at (At.val (Value.int IntKind.i64 0))), (TV.at (At.val (Value.int IntKind.i64 2)))]) [(Chunk.box [(At.ptr 1 0), (At.slc 2), (At.slc 3), (At.val (Value.int IntKind.u64 (S'1.reads)))]), (Chunk.box [(At.slc 4), (At.slc 5), (At.slc 6), (At.val (Value.int IntKind.u32 (S'1.fresh)))]), (Chunk.row true (EC.node) (S'1.nodes)), (Chunk.row true (EC.int) (S'1.counts)), (Chunk.row true (EC.bool) (S'1.used)), (Chunk.row true (EC.u32) (S'1.gen)), (Chunk.row true (EC.u32) (S'1.rel))] [0, 1, 2, 3, 4, 5, 6])) (((live S'1 r) ∧ (exW S'1) ∧ (∀ S'2 : Arn, (((S'2) = (retL S'1 r)) → (∃ hs1 : List Int, (∃ t1 : Tr, ((Wf S'2 (r :: hs1)) ∧ (Rep S'2 t1 r) ∧ (t1.Bal) ∧ (Asc t1.list) ∧ (t1.size ≤ 700000) ∧ (hasK t1.list k) ∧ ((↑(dB t1.size) : Int) ≤ S'2.free) ∧ (hs1.length ≤ 200000000) ∧ (S'2.reads + 5 * (↑(dB t1.size) : Int) ≤ 1500000000000000000) ∧ (∀ S'3 : Arn, (∀ j : Int, ((TrR S'2 hs1 (flt (neK k) t1.list) (dB t1.size) (5 * dB t1.size) S'3 j) →
    (K (SV.tup [(TV.at (At.val (Value.int IntKind.u32 (j)))), (TV.at (At.val (Value.int IntKind.i64 (o.getD 0)))), (TV.at (At.val (Value.int IntKind.i64 0)))]) [(Chunk.box [(At.ptr 1 0), (At.slc 2), (At.slc 3), (At.val (Value.int IntKind.u64 (S'3.reads)))]), (Chunk.box [(At.slc 4), (At.slc 5), (At.slc 6), (At.val (Value.int IntKind.u32 (S'3.fresh)))]), (Chunk.row true (EC.node) (S'3.nodes)), (Chunk.row true (EC.int) (S'3.counts)), (Chunk.row true (EC.bool) (S'3.used)), (Chunk.row true (EC.u32) (S'3.gen)), (Chunk.row true (EC.u32) (S'3.rel))] [0, 1, 2, 3, 4, 5, 6])))))))))))))))))))))))))))))))) = _ by kernel_rfl) ?_
  obtain ⟨w, rp, bal, asc, sz, hl, rd⟩ := hm
  have hrd := w.rds
  have hb := Bal.height bal (by omega)
  have hH := Hn_rng t.size
  have hi := dB_Hn t.size
  refine ⟨hs, t, w, rp, asc, by omega, by omega, fun S1 m o e1 hm1 eo => ?_⟩
  have wl : Wf S1 hs := by rw [e1]; exact w.rd (by omega)
  have rp1 : Rep S1 t r := by rw [e1]; exact rep_rd rp m
  have lv : live S1 r := rp1.us
  have q1 : S1.reads = S.reads + m := by rw [e1]; rfl
  have f1 : S1.free = S.free := by rw [e1]; rfl
  have z1 : (S1.nd r).size = t.size := rp1.size wl
  refine brS_of (fun c => ?_) fun c => ?_
  · have c : o = none := by simpa using c
    exact h1 (by rw [← eo, c]) S1 m e1 hm1
  obtain ⟨v, ev⟩ := Option.isSome_iff_exists.1 (show o.isSome = true by simpa using c)
  subst ev
  have he := eo.symm
  refine ⟨inU_of wl lv, ⟨hs, wl⟩, by omega, fun S2 e2 => ?_⟩
  have hu := us_one (S1.us r)
  have wl2 : Wf S2 hs := by rw [e2]; exact wl.rd (by omega)
  have rp2 : Rep S2 t r := by rw [e2]; exact rep_rd rp1 _
  have lv2 : live S2 r := rp2.us
  have f2 : S2.free = S.free := by rw [e2]; exact f1
  have q2 : S2.reads = S.reads + m + (S1.us r).toNat := by rw [e2, ← q1]; rfl
  have gA : Got S hs 0 (ht t + 1) S2 hs := by
    rw [e2, e1, rdS_rdS]
    rw [e1] at hu
    exact (Got.rds w (by omega)).mono (by omega) (by omega)
  rw [z1, Int.add_zero]
  refine ⟨by omega, by omega, fun p ep => ⟨⟨hs, wl2⟩, fun b eb => brS_of (fun d2 => ?_) fun d2 => ?_⟩⟩
  · have d2 : b = false := by simpa using d2
    rw [d2] at eb
    have hf : ¬ p ≤ S2.free := fun hp => by
      rw [decide_eq_true hp, decide_eq_true (show 0 ≤ p by omega)] at eb; cases eb
    exact h2 v he (by omega) S2 (m + (S1.us r).toNat) (by rw [e2, e1, rdS_rdS]) (by omega)
  · have d2 : b = true := by simpa using d2
    rw [d2] at eb
    have hf : p ≤ S2.free := by
      by_cases hp : p ≤ S2.free
      · exact hp
      · rw [decide_eq_false hp, Bool.and_false] at eb; cases eb
    refine ⟨lv2, ⟨hs, wl2⟩, fun S3 e3 => ?_⟩
    have g3 := retL_got (hs := hs) wl2 lv2 (by omega)
    rw [← e3] at g3
    have rp3 : Rep S3 t r := by rw [e3]; exact rp2.retL
    have f3 : S3.free = S2.free := by rw [e3]; exact retL_free _ _
    have q3 : S3.reads = S2.reads := by rw [e3]; exact (retL_flds _ _).1
    refine ⟨hs, t, g3.wf, rp3, bal, asc, by omega, getE_has he, by omega, by omega, by omega, fun S4 j tr => h3 v he (by omega) S4 j ⟨?_, tr.tree⟩⟩
    exact ((gA.seq g3 (h := hs) (fun _ h => h) (fun _ h => h)).seq tr.got (fun _ h => h) (fun _ h => h)).mono (by omega) (by omega)
theorem s_upD : SoundT C0 57 tUpD := by
  refine .ofW W7 Try.func57 (by decide) rfl fun args H K h hB => ?_
  unfold tUpD at h
  split at h <;> try exact h.elim
  unfold arM at h
  split at h <;> try exact h.elim
  rename_i r k _ rd fr nd ct us gn rl
  obtain ⟨hs, t, h1, h2, h3, h4⟩ := h
  exact ⟨aUpD, ⟨frame C0.ok s_getT _, frame C0.ok s_hold _, frame C0.ok s_size _, frame C0.ok s_rDel _, frame C0.ok s_room _, frame C0.ok s_de _, trivial⟩, vc_upD ⟨us, gn, rl, fr, nd, ct, rd⟩ r k K hs t h1 h2 h3 h4⟩
/-! ### Where there is room -/
theorem insE_same {l : List Ent} {k v : Int} (ha : Asc l) (h : getE l k = some v) : insE l (k, v) = l :=
  Asc.ext (insE_asc _ ha) ha fun q => by
    rw [insE_get _ ha]
    show (if k = q then some v else getE l q) = _
    split
    · rename_i e; rw [← e, h]
    · rfl
def tUpIn : Tfm C0 := fun args H K => match args with
  | [.at (.ptr 0 0), .at (.val (.int .u32 r)), .agg [.val (.int .i64 k), .val (.int .i64 v)]] => arM H fun S => ∃ hs t, upM S hs t r ∧ 4 * (Hn (t.size + 1) + 2) ≤ S.free ∧
    ∀ S' j (o : Option Int), o = getE t.list k → TrR S hs (insE t.list (k, v)) (iB t.size) (5 * iB t.size + ht t + 1) S' j → K (.tup [.at (vU j), .at (vI (o.getD 0)), .at (vB o.isSome), .at (vI 0)]) (chS S') W7
  | _ => False
theorem hold_tr {S S' : Arn} {hs : List Int} {t : Tr} {r : Int} {m a b : Nat} {L : List Ent} (w : Wf S hs) (rp : Rep S t r) (bal : t.Bal) (hl : hs.length ≤ 900000000) (hr : S.reads + m ≤ 4000000000000000000) (e : S' = retL (rdS S m) r) (hb : m ≤ b) (hL : t.list = L) : TrR S hs L a b S' r := by
  have g := Got.rds (hs := hs) w hr
  have rp1 : Rep (rdS S m) t r := rep_rd rp m
  have g2 := retL_got (hs := hs) g.wf rp1.us (by omega)
  rw [← e] at g2
  exact ⟨(g.seq g2 (h := hs) (fun _ h => h) (fun _ h => h)).mono (by omega) (by omega), t, by rw [e]; exact rp1.retL, hL, bal⟩
theorem s_upIn : SoundT C0 59 tUpIn := s_upI.weak fun args H K h => by
  unfold tUpIn at h
  unfold tUpI
  split at h <;> try exact h.elim
  unfold arM at h ⊢
  split at h <;> try exact h.elim
  obtain ⟨hs, t, hm, hf, h⟩ := h
  refine ⟨hs, t, hm, fun he S' m e hm' => ?_, fun _ hf' => absurd hf (by omega), fun _ _ => h⟩
  obtain ⟨w, rp, bal, asc, sz, hl, rd⟩ := hm
  have hb := Bal.height bal (by omega)
  have hH := Hn_rng t.size
  exact h S' _ (some _) he.symm (hold_tr w rp bal (by omega) (by omega) e (by omega) (insE_same asc he).symm)
def tUpDe : Tfm C0 := fun args H K => match args with
  | [.at (.ptr 0 0), .at (.val (.int .u32 r)), .at (.val (.int .i64 k))] => arM H fun S => ∃ hs t v, upM S hs t r ∧ getE t.list k = some v ∧ 4 * (Hn t.size + 2) ≤ S.free ∧
    ∀ S' j, TrR S hs (flt (neK k) t.list) (dB t.size) (5 * dB t.size + ht t + 1) S' j → K (.tup [.at (vU j), .at (vI v), .at (vI 0)]) (chS S') W7
  | _ => False
theorem s_upDe : SoundT C0 57 tUpDe := s_upD.weak fun args H K h => by
  unfold tUpDe at h
  unfold tUpD
  split at h <;> try exact h.elim
  unfold arM at h ⊢
  split at h <;> try exact h.elim
  obtain ⟨hs, t, v, hm, he, hf, h⟩ := h
  refine ⟨hs, t, hm, fun hn => (by rw [he] at hn; cases hn), fun v' _ hf' => absurd hf (by omega), fun v' he' _ S' j tr => ?_⟩
  rw [he] at he'
  obtain rfl := Option.some.inj he'
  exact h S' j tr
end Go.Proofs.Ytbonbaccmlomhaa.Sx
end
