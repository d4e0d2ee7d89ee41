/- A part of the proof. -/
import Derived.Test.YtmjnoiajenoinaaGreatG10
import Derived.Test.YtmjnoiajenoinaaGreatG14
import Derived.Test.YtmjnoiajenoinaaGreatG12
import Derived.Test.YtmjnoiajenoinaaGreatG11
import Derived.Test.YtmjnoiajenoinaaGreatG13
import Derived.Test.YtmjnoiajenoinaaGreatProg
import Derived.Test.YtmjnoiajenoinaaGreatChecked
import Derived.WalkKit
import Derived.ProofKit
import Derived.OpenShut
import Derived.SizedLaws
import Derived.Carry
import Derived.Test.YtmjnoiajenoinaaGreatG5
import Derived.Deep.Slices
import Derived.Lib.SmallJoins
import Derived.Deep.Strs
import Derived.Test.YtmjnoiajenoinaaGreatRows
section
/- merge: fits and Apply; their reservation. -/
namespace Go.Proofs.YtmjnoiajenoinaaGreat.Sx
open Go

/-KEEP Wf exW inU live Arn.cap Arn.free Rep rdS retL Tr.size Tr.list Tr.Bal TrR Got getE Asc Hn fnd Srt perfE PfM Del Fits valB app Val-/
theorem fits_nil (l : List Ent) : Fits l [] := fun _ h => by cases h
theorem fits_snoc {l : List Ent} {p : List Chg} {i : Nat} (h : i < p.length) : Fits l (p.take (i + 1)) ↔ Fits l (p.take i) /\getE l (cA p i).key = (cA p i).before := by
  rw [take_snoc (cA_get h)]
  constructor
  · exact fun f => ⟨fun c hc => f c (List.mem_append.2 (.inl hc)), f _ (List.mem_append.2 (.inr (List.mem_singleton.2 rfl)))⟩
  · rintro ⟨f, g⟩ c hc
    rcases List.mem_append.1 hc with hc | hc
    · exact f c hc
    · rw [List.mem_singleton.1 hc]; exact g
theorem app_perf {l r : List Ent} {p : List Chg} (hl : Asc l) (hp : Val p) (h : app l p = some r) : perfE l p = r := by
  have a := app_some hl hp.1 h
  have b := perf_spec hp.1 hl
  exact Asc.ext b.1 a.1 fun k => by rw [b.2.2, a.2]
theorem fits_app {l : List Ent} {p : List Chg} (hl : Asc l) (hp : Val p) (hf : Fits l p) : app l p = some (perfE l p) := by
  cases h : app l p with
  | none => exact absurd hf ((app_none hl hp.1).1 h)
  | some r => rw [app_perf hl hp h]
theorem fits_del {l : List Ent} {p : List Chg} (hf : Fits l p) : Del l p := fun c hc hk => by
  rw [hasK_get, hf c hc]
  unfold Chg.before
  rw [if_neg (by omega)]
  rfl
structure XFi (S : Arn) (l : List Ent) (p : List Chg) (N : Nat) where
  i : Nat
  m : Nat
  h : i <=p.length /\m <=N * i /\Fits l (p.take i)
noncomputable def aFi (S : Arn) (l : List Ent) (p : List Chg) (N : Nat) : Ann C0 := { Γ := [(19, frameT [] tGetT)], inv := fun n => match n with
  | 2 => some { X := XFi S l p N, sl := [13], wr := [0], tf := fun x => [vi .i64 x.i], hf := fun x => chS (rdS S x.m) ++ [.row false EC.chg p], μ := fun x => p.length - x.i }
  | _ => none }
def tFi : Tfm C0 := fun args H K => match args with
  | [.at (.ptr 0 0), .at (.val (.int .u32 i)), .at (.slc 7)] => arMr H fun S rest => match rest with
    | [.row false .chg p] => ∃ hs t, Wf S hs /\Rep S t i /\Asc t.list /\t.size <=30000 /\p.length <=30000 /\S.reads <=500000000000000000 ∧
      ∀ S' m b, S' = rdS S m ->m <=30000 * p.length ->(b = true ↔ Fits t.list p) ->K (.one (.at (vB b))) (chS S' ++ [.row false EC.chg p]) [0]
    | _ => False
  | _ => False
def tResA : Tfm C0 := fun args H K => match args, H with
  | [.at (.val (.int .i64 a)), .at (.val (.int .i64 b))], [] => 0 <=a /\a <=30000 /\0 <=b /\b <=30000 /\∀ p, p = a + b + 4 * (Hn (a + b) + 2) ->K (.one (.at (vI p))) [] []
  | _, _ => False
def needA (t : Tr) (n : Nat) : Int := (t.size : Int) + n + 4 * (Hn ((t.size : Int) + n) + 2)
structure ApM (S : Arn) (hs : List Int) (t : Tr) (i : Int) (p : List Chg) : Prop where
  wf : Wf S hs
  rep : Rep S t i
  bal : t.Bal
  asc : Asc t.list
  sz : t.size <=30000
  len : p.length <=30000
  hl : hs.length <=900000
  rd : S.reads <=500000000000000000
def ApR (S : Arn) (hs : List Int) (t : Tr) (i : Int) (p : List Chg) (S' : Arn) (j e : Int) : Prop :=
  (valB p = false /\e = 1 /\j = 0 /\S' = S) ∨
  (valB p = true /\¬ Fits t.list p /\e = 9 /\j = 0 /\∃ m, m <=900000000 /\S' = rdS S m) ∨
  (valB p = true /\Fits t.list p /\p.length = 0 /\e = 0 /\j = i /\S' = retL S i) ∨
  (valB p = true /\Fits t.list p /\0 < p.length /\S.free < needA t p.length /\e = 2 /\j = 0 /\∃ m, m <=900000001 /\S' = rdS S m) ∨
  (valB p = true /\Fits t.list p /\0 < p.length /\needA t p.length <=S.free /\e = 0 /\TrR S hs (perfE t.list p) 65537 2000000000 S' j)
noncomputable def aAp : Ann C0 := { Γ := [(42, frameT [] P19.tValid), (43, frameT [] tFi), (44, frameT [] tHold), (20, frameT [] tSize), (46, frameT [] tResA), (45, frameT [] tRoom), (47, frameT [] tPf)] }
def tAp : Tfm C0 := fun args H K => match args with
  | [.at (.ptr 0 0), .at (.val (.int .u32 i)), .at (.slc 7)] => arMr H fun S rest => match rest with
    | [.row false .chg p] => ∃ hs t, ApM S hs t i p /\∀ S' j e, ApR S hs t i p S' j e ->K (.tup [.at (vU j), .at (vI e)]) (chS S' ++ [.row false EC.chg p]) W7
    | _ => False
  | _ => False
theorem s_rAp : SoundT C0 46 tResA := by
  refine .of Tryz.func46 (by decide) rfl fun args H K h hB => ?_
  unfold tResA at h
  split at h <;> try exact h.elim
  rename_i a b
  obtain ⟨h1, h2, h3, h4, h7⟩ := h
  refine ⟨aRes, ⟨frame C0.ok s_vld _, frame C0.ok s_path _, trivial⟩, Eq.mp (show ((∀ i : Nat, ((i < [a, b].length)->((0<=[a, b].getD i 0)/\([a, b].getD i 0<=65536)))) ∧
([a, b].length<=100) ∧
((0 : Int)<=4) ∧
((4 : Int)<=100) ∧
(0<=IntKind.i64.wrap (a + b)) ∧
(IntKind.i64.wrap (a + b)<=1000000) ∧
(∀ p : Int, (((p) = (4 * (Hn (IntKind.i64.wrap (a + b)) + 2)))->(K (SV.one (TV.at (At.val (Value.int .i64 (IntKind.i64.wrap (IntKind.i64.wrap (a + b) + p)))))) [] [])))) = _ by kernel_rfl) ?_⟩
  rw [wrap_id (x := a + b) (by omega) (by omega)]
  refine ⟨okI_two h1 (by omega) h3 (by omega), by simp, by decide, by decide, by omega, by omega, fun p e => ?_⟩
  have r := Hn_rng (a + b)
  subst e
  rw [wrap_id (by omega) (by omega)]
  exact h7 _ rfl
theorem s_nAp : SoundT C0 7 tResA := by
  refine .of Tryz.func7 (by decide) rfl fun args H K h hB => ?_
  unfold tResA at h
  split at h <;> try exact h.elim
  rename_i a b
  obtain ⟨h1, h2, h3, h4, h7⟩ := h
  refine ⟨aN8, ⟨frame C0.ok s_need _, trivial⟩, Eq.mp (show ((0<=a) ∧
(a<=65536) ∧
(0<=b) ∧
(b<=65536) ∧
((0 : Int)<=0) ∧
((0 : Int)<=65536) ∧
((0 : Int)<=0) ∧
((0 : Int)<=10) ∧
((0 : Int)<=0) ∧
((0 : Int)<=200000) ∧
((0 : Int)<=0) ∧
((0 : Int)<=100) ∧
(∀ p : Int, (((p) = (0 + 0 * (Hn (a + b + 0 + 0) + 2)))->(brS (decide (p < 0)) ((K (SV.one (TV.at (At.val (Value.int .i64 (-1))))) [] [])) (((0<=a)/\(a<=65536)/\(0<=b)/\(b<=65536)/\((0 : Int)<=0)/\((0 : Int)<=65536)/\((0 : Int)<=0)/\((0 : Int)<=10)/\(0<=IntKind.i64.wrap (a + b))/\(IntKind.i64.wrap (a + b)<=200000)/\((0 : Int)<=4)/\((4 : Int)<=100)/\(∀ p1 : Int, (((p1) = (IntKind.i64.wrap (a + b) + 4 * (Hn (a + b + 0 + 0) + 2)))->(K (SV.one (TV.at (At.val (Value.int .i64 (p1))))) [] []))))))))) = _ by kernel_rfl) ?_⟩
  rw [wrap_id (x := a + b) (by omega) (by omega)]
  refine ⟨h1, by omega, h3, by omega, by decide, by decide, by decide, by decide, by decide, by decide, by decide, by decide, fun p e => brS_of (fun q => ?_) fun _ => ⟨h1, by omega, h3, by omega, by decide, by decide, by decide, by decide, by omega, by omega, by decide, by decide, fun p1 e1 => h7 p1 (by rw [e1]; simp)⟩⟩
  have q : p < 0 := of_decide_eq_true q
  rw [Int.zero_mul] at e
  omega
theorem us_b1' (b : Bool) : b.toNat <=1 := by cases b <;> decide
theorem vc_fi (S : Arn) (p : List Chg) (i : Int) (K : KT) (hs : List Int) (t : Tr) (w : Wf S hs) (rp : Rep S t i) (asc : Asc t.list) (sz : t.size <=30000) (lp : p.length <=30000) (rd : S.reads <=500000000000000000)
    (h : ∀ S' m b, S' = rdS S m ->m <=30000 * p.length ->(b = true ↔ Fits t.list p) ->K (.one (.at (vB b))) (chS S' ++ [.row false EC.chg p]) [0]) :
    vc C0 (aFi S t.list p 30000) Tryz.f43 [.at (.ptr 0 0), .at (vU i), .at (.slc 7)] (chS S ++ [.row false EC.chg p]) (normK 8 (wideK [0] K)) := by
  generalize hN : 30000 = N
  generalize hl : t.list = l
  refine Eq.mp (show ((∃ x : XFi S l p N, (True/\(True/\((Value.int .u32 (i)) = (Value.int .u32 (i)))/\True/\((Value.int .i64 ((↑p.length : Int))) = (Value.int .i64 ((↑p.length : Int))))/\((Value.int .i64 0) = (Value.int .i64 ((↑x.i : Int))))/\True)/\(True/\True/\True/\((Value.int .u64 (S.reads)) = (Value.int .u64 ((rdS S x.m).reads)))/\True)/\(True/\True/\True/\((Value.int .u32 (S.fresh)) = (Value.int .u32 ((rdS S x.m).fresh)))/\True)/\((S.nodes) = ((rdS S x.m).nodes))/\((S.counts) = ((rdS S x.m).counts))/\((S.used) = ((rdS S x.m).used))/\((S.gen) = ((rdS S x.m).gen))/\((S.rel) = ((rdS S x.m).rel))/\((p) = (p))/\True)) ∧
(∀ x : XFi S l p N, (True->(brS (decide ((↑x.i : Int) < (↑p.length : Int))) (((0<=(↑x.i : Int))/\((↑x.i : Int) < (↑p.length : Int))/\(∃ hs : List Int, (∃ t : Tr, ((Wf (rdS S x.m) hs)/\(Rep (rdS S x.m) t i)/\(Asc t.list)/\(t.size<=1000000)/\((rdS S x.m).reads + (↑t.size : Int)<=3000000000000000000)/\(∀ S' : Arn, (∀ m : Nat, (∀ o : Option Int, (((S') = (rdS (rdS S x.m) m))->((m<=ht t)->(((o) = (getE t.list (cA p x.i).key))->(brS (!o.isSome == ((cA p x.i).kind != 1))
    ((K (SV.one (TV.at (At.val (Value.bool false)))) [(Chunk.box [(At.ptr 1 0), (At.slc 2), (At.slc 3), (At.val (Value.int .u64 (S'.reads)))]), (Chunk.box [(At.slc 4), (At.slc 5), (At.slc 6), (At.val (Value.int .u32 (S'.fresh)))]), (Chunk.row true (EC.node) (S'.nodes)), (Chunk.row true (EC.int) (S'.counts)), (Chunk.row true (EC.bool) (S'.used)), (Chunk.row true (EC.u32) (S'.gen)), (Chunk.row true (EC.u32) (S'.rel)), (Chunk.row false (EC.chg) (p))] [0])) ((brS (o.isSome) ((brS (o.getD 0 != (cA p x.i).old) ((K (SV.one (TV.at (At.val (Value.bool false)))) [(Chunk.box [(At.ptr 1 0), (At.slc 2), (At.slc 3), (At.val (Value.int .u64 (S'.reads)))]), (Chunk.box [(At.slc 4), (At.slc 5), (At.slc 6), (At.val (Value.int .u32 (S'.fresh)))]), (Chunk.row true (EC.node) (S'.nodes)), (Chunk.row true (EC.int) (S'.counts)), (Chunk.row true (EC.bool) (S'.used)), (Chunk.row true (EC.u32) (S'.gen)), (Chunk.row true (EC.u32) (S'.rel)), (Chunk.row false (EC.chg) (p))] [0])) ((∃ x' : XFi S l p N, (True/\((True/\((Value.int .u32 (i)) = (Value.int .u32 (i)))/\True/\((Value.int .i64 ((↑p.length : Int))) = (Value.int .i64 ((↑p.length : Int))))/\((Value.int .i64 (IntKind.i64.wrap ((↑x.i : Int) + 1))) = (Value.int .i64 ((↑x'.i : Int))))/\True)/\(True/\True/\True/\((Value.int .u64 (S'.reads)) = (Value.int .u64 ((rdS S x'.m).reads)))/\True)/\(True/\True/\True ∧
    ((Value.int .u32 (S'.fresh)) = (Value.int .u32 ((rdS S x'.m).fresh)))/\True)/\((S'.nodes) = ((rdS S x'.m).nodes))/\((S'.counts) = ((rdS S x'.m).counts))/\((S'.used) = ((rdS S x'.m).used))/\((S'.gen) = ((rdS S x'.m).gen))/\((S'.rel) = ((rdS S x'.m).rel))/\((p) = (p))/\True)/\(p.length - x'.i < p.length - x.i)))))) ((∃ x' : XFi S l p N, (True/\((True/\((Value.int .u32 (i)) = (Value.int .u32 (i)))/\True/\((Value.int .i64 ((↑p.length : Int))) = (Value.int .i64 ((↑p.length : Int))))/\((Value.int .i64 (IntKind.i64.wrap ((↑x.i : Int) + 1))) = (Value.int .i64 ((↑x'.i : Int))))/\True)/\(True/\True/\True/\((Value.int .u64 (S'.reads)) = (Value.int .u64 ((rdS S x'.m).reads)))/\True)/\(True/\True/\True/\((Value.int .u32 (S'.fresh)) = (Value.int .u32 ((rdS S x'.m).fresh)))/\True)/\((S'.nodes) = ((rdS S x'.m).nodes))/\((S'.counts) = ((rdS S x'.m).counts))/\((S'.used) = ((rdS S x'.m).used))/\((S'.gen) = ((rdS S x'.m).gen))/\((S'.rel) = ((rdS S x'.m).rel))/\((p) = (p))/\True)/\(p.length - x'.i < p.length - x.i))))))))))))))))))
    ((K (SV.one (TV.at (At.val (Value.bool true)))) [(Chunk.box [(At.ptr 1 0), (At.slc 2), (At.slc 3), (At.val (Value.int .u64 ((rdS S x.m).reads)))]), (Chunk.box [(At.slc 4), (At.slc 5), (At.slc 6), (At.val (Value.int .u32 ((rdS S x.m).fresh)))]), (Chunk.row true (EC.node) ((rdS S x.m).nodes)), (Chunk.row true (EC.int) ((rdS S x.m).counts)), (Chunk.row true (EC.bool) ((rdS S x.m).used)), (Chunk.row true (EC.u32) ((rdS S x.m).gen)), (Chunk.row true (EC.u32) ((rdS S x.m).rel)), (Chunk.row false (EC.chg) (p))] [0])))))) = _ by kernel_rfl) ?_
  subst hl hN
  have hts := htr_size t
  refine ⟨⟨⟨0, 0, Nat.zero_le _, Nat.zero_le _, fits_nil _⟩, ?_⟩, fun x _ => ?_⟩
  · rw [rdS_zero]
    (repeat' first | exact trivial | exact rfl | refine And.intro ?_ ?_)
  obtain ⟨k, m, hk, hm, hf⟩ := x
  dsimp only
  have mk : 30000 * k <=30000 * p.length := Nat.mul_le_mul_left _ hk
  have mp : 30000 * p.length <=30000 * 30000 := Nat.mul_le_mul_left _ lp
  have r1 : (rdS S m).reads = S.reads + m := rfl
  refine brS_of (fun c => ?_) fun c => ?_
  · have c : k < p.length := by have := of_decide_eq_true c; omega
    have mk1 : 30000 * (k + 1) <=30000 * p.length := Nat.mul_le_mul_left _ c
    have mx : 30000 * (k + 1) = 30000 * k + 30000 := Nat.mul_succ _ _
    have nx : IntKind.i64.wrap ((k : Int) + 1) = ((k + 1 : Nat) : Int) := wrap_next c (by omega)
    have sn := fits_snoc (l := t.list) c
    refine ⟨by omega, by omega, hs, t, w.rd (by omega), rp.rdn, asc, by omega, by omega, fun S1 m1 o e1 hm1 eo => ?_⟩
    have e1 : S1 = rdS S (m + m1) := by rw [e1, rdS_rdS]
    have bad : ¬ getE t.list (cA p k).key = (cA p k).before ->K (.one (.at (vB false))) (chS S1 ++ [.row false EC.chg p]) [0] := fun g =>
      h S1 (m + m1) false e1 (by omega) ⟨fun e => (by cases e), fun f => absurd (f _ (List.mem_of_getElem? (cA_get c))) g⟩
    have good : getE t.list (cA p k).key = (cA p k).before ->∃ x : XFi S t.list p 30000, (x.i = k + 1 /\x.m = m + m1) := fun g => ⟨⟨k + 1, m + m1, c, by omega, sn.2 ⟨hf, g⟩⟩, rfl, rfl⟩
    rw [← eo] at bad good
    have fin : o = (cA p k).before ->((∃ x' : XFi S t.list p 30000,
                    (True ∧
                    ((True ∧
                    ((Value.int IntKind.u32 (i)) = (Value.int IntKind.u32 (i))) ∧
                    True ∧
                    ((Value.int IntKind.i64 ((↑p.length : Int))) = (Value.int IntKind.i64 ((↑p.length : Int)))) ∧
                    ((Value.int IntKind.i64 (IntKind.i64.wrap ((↑k : Int) + 1))) = (Value.int IntKind.i64 ((↑x'.i : Int)))) ∧
                    True) ∧
                    (True ∧
                    True ∧
                    True ∧
                    ((Value.int IntKind.u64 (S1.reads)) = (Value.int IntKind.u64 ((rdS S x'.m).reads))) ∧
                    True) ∧
                    (True ∧
                    True ∧
                    True ∧
                    ((Value.int IntKind.u32 (S1.fresh)) = (Value.int IntKind.u32 ((rdS S x'.m).fresh))) ∧
                    True) ∧
                    ((S1.nodes) = ((rdS S x'.m).nodes)) ∧
                    ((S1.counts) = ((rdS S x'.m).counts)) ∧
                    ((S1.used) = ((rdS S x'.m).used)) ∧
                    ((S1.gen) = ((rdS S x'.m).gen)) ∧
                    ((S1.rel) = ((rdS S x'.m).rel)) ∧
                    ((p) = (p)) ∧
                    True) ∧
                    (p.length - x'.i < p.length - k)))) := fun g => by
      obtain ⟨x, g1, g2⟩ := good g
      refine ⟨x, trivial, ?_, by rw [g1]; show p.length - (k + 1) < p.length - k; omega⟩
      rw [g1, g2, ← e1]
      (repeat' first | exact trivial | exact rfl | exact congrArg (Value.int .i64) nx | refine And.intro ?_ ?_)
    unfold Chg.before at bad fin
    refine brS_of (fun g => bad ?_) fun g => brS_of (fun q => brS_of (fun d => bad ?_) fun d => fin ?_) fun q => fin ?_
    · cases o with
      | none =>
        have : (cA p k).kind ≠ 1 := by simpa using g
        rw [if_neg this]
        exact fun e => by cases e
      | some v =>
        have : (cA p k).kind = 1 := by simpa using g
        rw [if_pos this]
        exact fun e => by cases e
    · obtain ⟨v, rfl⟩ : ∃ v, o = some v := by cases o with | none => cases q | some v => exact ⟨v, rfl⟩
      have : v ≠ (cA p k).old := by simpa using d
      split
      · exact fun e => by cases e
      · exact fun e => this (Option.some.inj e)
    · obtain ⟨v, rfl⟩ : ∃ v, o = some v := by cases o with | none => cases q | some v => exact ⟨v, rfl⟩
      have e1 : (cA p k).kind ≠ 1 := by simpa using g
      have e2 : v = (cA p k).old := by simpa using d
      rw [if_neg e1, e2]
    · obtain rfl : o = none := by cases o with | none => rfl | some v => cases q
      have e1 : (cA p k).kind = 1 := by simpa using g
      rw [if_pos e1]
  · have e : k = p.length := by have := of_decide_eq_false c; omega
    rw [e, List.take_length] at hf
    exact h _ m true rfl (by omega) ⟨fun _ => hf, fun _ => rfl⟩
theorem s_fi : SoundT C0 43 tFi := by
  refine .ofW [0] Tryz.func43 (by decide) rfl fun args H K h hB => ?_
  unfold tFi at h
  split at h <;> try exact h.elim
  unfold arMr at h
  split at h <;> try exact h.elim
  dsimp only at h
  split at h <;> try exact h.elim
  rename_i i _ rd fr nd ct us gn rl _ p
  obtain ⟨hs, t, h1, h2, h3, h4, h5, h6, h7⟩ := h
  refine ⟨_, ?_, vc_fi ⟨us, gn, rl, fr, nd, ct, rd⟩ p i K hs t h1 h2 h3 h4 h5 h6 h7⟩
  exact ⟨frame C0.ok s_getT _, trivial⟩
theorem vc_ap (S : Arn) (p : List Chg) (i : Int) (K : KT) (hs : List Int) (t : Tr) (hm : ApM S hs t i p) (h : ∀ S' j e, ApR S hs t i p S' j e ->K (.tup [.at (vU j), .at (vI e)]) (chS S' ++ [.row false EC.chg p]) W7) :
    vc C0 aAp Tryz.f11 [.at (.ptr 0 0), .at (vU i), .at (.slc 7)] (chS S ++ [.row false EC.chg p]) (normK 8 (wideK W7 K)) := by
  refine Eq.mp (show (brS (!valB p) ((K (SV.tup [(TV.at (At.val (Value.int .u32 0))), (TV.at (At.val (Value.int .i64 1)))]) [(Chunk.box [(At.ptr 1 0), (At.slc 2), (At.slc 3), (At.val (Value.int .u64 (S.reads)))]), (Chunk.box [(At.slc 4), (At.slc 5), (At.slc 6), (At.val (Value.int .u32 (S.fresh)))]), (Chunk.row true (EC.node) (S.nodes)), (Chunk.row true (EC.int) (S.counts)), (Chunk.row true (EC.bool) (S.used)), (Chunk.row true (EC.u32) (S.gen)), (Chunk.row true (EC.u32) (S.rel)), (Chunk.row false (EC.chg) (p))] [0, 1, 2, 3, 4, 5, 6])) ((∃ hs : List Int, (∃ t : Tr, ((Wf S hs)/\(Rep S t i)/\(Asc t.list)/\(t.size<=30000)/\(p.length<=30000)/\(S.reads<=500000000000000000)/\(∀ S' : Arn, (∀ m : Nat, (∀ b : Bool, (((S') = (rdS S m))->((m<=30000 * p.length)->((b = true ↔ Fits t.list p)->(brS (!b) ((K (SV.tup [(TV.at (At.val (Value.int .u32 0))), (TV.at (At.val (Value.int .i64 9)))]) [(Chunk.box [(At.ptr 1 0), (At.slc 2), (At.slc 3), (At.val (Value.int .u64 (S'.reads)))]), (Chunk.box [(At.slc 4), (At.slc 5), (At.slc 6), (At.val (Value.int .u32 (S'.fresh)))]), (Chunk.row true (EC.node) (S'.nodes)), (Chunk.row true (EC.int) (S'.counts)), (Chunk.row true (EC.bool) (S'.used)), (Chunk.row true (EC.u32) (S'.gen)), (Chunk.row true (EC.u32) (S'.rel)), (Chunk.row false (EC.chg) (p))] [0, 1, 2, 3, 4, 5, 6])) ((brS ((↑p.length : Int) == 0) (((live S' i)/\(exW S')/\(∀ S'1 : Arn, (((S'1) = (retL S' i)) →
    (K (SV.tup [(TV.at (At.val (Value.int .u32 (i)))), (TV.at (At.val (Value.int .i64 0)))]) [(Chunk.box [(At.ptr 1 0), (At.slc 2), (At.slc 3), (At.val (Value.int .u64 (S'1.reads)))]), (Chunk.box [(At.slc 4), (At.slc 5), (At.slc 6), (At.val (Value.int .u32 (S'1.fresh)))]), (Chunk.row true (EC.node) (S'1.nodes)), (Chunk.row true (EC.int) (S'1.counts)), (Chunk.row true (EC.bool) (S'1.used)), (Chunk.row true (EC.u32) (S'1.gen)), (Chunk.row true (EC.u32) (S'1.rel)), (Chunk.row false (EC.chg) (p))] [0, 1, 2, 3, 4, 5, 6]))))) (((inU i)/\(exW S')/\(S'.reads < 4000000000000000000)/\(∀ S'1 : Arn, (((S'1) = (rdS S' (S'.us i).toNat))->((0<=(S'.nd i).size)/\((S'.nd i).size<=30000)/\(0<=(↑p.length : Int))/\((↑p.length : Int)<=30000)/\(∀ p1 : Int, (((p1) = ((S'.nd i).size + (↑p.length : Int) + 4 * (Hn ((S'.nd i).size + (↑p.length : Int)) + 2)))->((exW S'1)/\(∀ b1 : Bool, (((b1) = (decide (0<=p1) && decide (p1<=S'1.free)))->(brS (!b1)
    ((K (SV.tup [(TV.at (At.val (Value.int .u32 0))), (TV.at (At.val (Value.int .i64 2)))]) [(Chunk.box [(At.ptr 1 0), (At.slc 2), (At.slc 3), (At.val (Value.int .u64 (S'1.reads)))]), (Chunk.box [(At.slc 4), (At.slc 5), (At.slc 6), (At.val (Value.int .u32 (S'1.fresh)))]), (Chunk.row true (EC.node) (S'1.nodes)), (Chunk.row true (EC.int) (S'1.counts)), (Chunk.row true (EC.bool) (S'1.used)), (Chunk.row true (EC.u32) (S'1.gen)), (Chunk.row true (EC.u32) (S'1.rel)), (Chunk.row false (EC.chg) (p))] [0, 1, 2, 3, 4, 5, 6])) (((live S'1 i)/\(exW S'1)/\(∀ S'2 : Arn, (((S'2) = (retL S'1 i))->(∃ hs1 : List Int, (∃ l : List Ent, (∃ M : Nat, ((PfM S'2 hs1 i l M)/\(l.length + p.length<=M)/\(Srt Chg.key p)/\(Del l p)/\(S'2.reads<=900000000000000000)/\(∀ S'3 : Arn, (∀ j : Int, ((TrR S'2 hs1 (perfE l p) 65537 (2000 * p.length) S'3 j)->(K (SV.tup [(TV.at (At.val (Value.int .u32 (j)))), (TV.at (At.val (Value.int .i64 0)))]) [(Chunk.box [(At.ptr 1 0), (At.slc 2), (At.slc 3), (At.val (Value.int .u64 (S'3.reads)))]), (Chunk.box [(At.slc 4), (At.slc 5), (At.slc 6), (At.val (Value.int .u32 (S'3.fresh)))]), (Chunk.row true (EC.node) (S'3.nodes)), (Chunk.row true (EC.int) (S'3.counts)), (Chunk.row true (EC.bool) (S'3.used)), (Chunk.row true (EC.u32) (S'3.gen)), (Chunk.row true (EC.u32) (S'3.rel)), (Chunk.row false (EC.chg) (p))] [0, 1, 2, 3, 4, 5, 6]))))))))))))))))))))))))))))))))))))) = _ by kernel_rfl) ?_
  have sz := hm.sz
  have lp := hm.len
  have rd := hm.rd
  have hl := hm.hl
  have w := hm.wf
  refine brS_of (fun c => h S 0 1 (.inl ⟨by simpa using c, rfl, rfl, rfl⟩)) fun c => ?_
  have c : valB p = true := by simpa using c
  have val := valB_iff.1 c
  refine ⟨hs, t, w, hm.rep, hm.asc, sz, lp, rd, fun S1 m b e1 hm1 hb => ?_⟩
  have m9 : m <=900000000 := by have : 30000 * p.length <=30000 * 30000 := Nat.mul_le_mul_left _ lp; omega
  refine brS_of (fun d => h S1 0 9 (.inr (.inl ⟨c, fun f => (by rw [hb.2 f] at d; cases d), rfl, rfl, m, m9, e1⟩))) fun d => ?_
  have fit : Fits t.list p := hb.1 (by simpa using d)
  have w1 : Wf S1 hs := by rw [e1]; exact w.rd (by omega)
  have rp1 : Rep S1 t i := by rw [e1]; exact hm.rep.rdn
  have q1 : S1.reads = S.reads + m := by rw [e1]; rfl
  refine brS_of (fun f => ⟨rp1.us, ⟨_, w1⟩, fun S2 e2 => ?_⟩) fun f => ?_
  · have f : p.length = 0 := by have : (p.length : Int) = 0 := by simpa using f
                                omega
    have m0 : m = 0 := by rw [f] at hm1; omega
    rw [e1, m0, rdS_zero] at e2
    exact h S2 i 0 (.inr (.inr (.inl ⟨c, fit, f, rfl, rfl, e2⟩)))
  have f : 0 < p.length := by
    have : ¬ (p.length : Int) = 0 := by simpa using f
    omega
  refine ⟨inU_of w1 rp1.us, ⟨_, w1⟩, by omega, fun S2 e2 => ?_⟩
  have u1 := us_b1' (S1.us i)
  have e2 : S2 = rdS S (m + (S1.us i).toNat) := by rw [e2, e1, rdS_rdS]
  generalize hk : m + (S1.us i).toNat = k at e2
  have k9 : k <=900000001 := by omega
  have w2 : Wf S2 hs := by rw [e2]; exact w.rd (by omega)
  have rp2 : Rep S2 t i := by rw [e2]; exact hm.rep.rdn
  have q2 : S2.reads = S.reads + k := by rw [e2]; rfl
  have f2 : S2.free = S.free := by rw [e2]; rfl
  rw [rp1.size w1]
  have hr := Hn_rng ((t.size : Int) + p.length)
  refine ⟨by omega, by omega, by omega, by omega, fun n en => ⟨⟨_, w2⟩, fun b2 eb => ?_⟩⟩
  have en : n = needA t p.length := en
  have n0 : 0 <=n := by rw [en]; unfold needA; omega
  have eb : b2 = decide (needA t p.length <=S.free) := by rw [eb, decide_eq_true n0, f2, en]; rfl
  refine brS_of (fun g => h S2 0 2 (.inr (.inr (.inr (.inl ⟨c, fit, f, ?_, rfl, rfl, k, k9, e2⟩))))) fun g => ?_
  · have : ¬ needA t p.length <=S.free := fun e => by rw [eb, decide_eq_true e] at g; cases g
    omega
  have g : needA t p.length <=S.free := by rw [eb] at g; simpa using g
  refine ⟨rp2.us, ⟨_, w2⟩, fun S3 e3 => ?_⟩
  have nd : ((t.size + p.length : Nat) : Int) + 4 * Hn ((t.size + p.length : Nat) : Int) + 4 <=S2.free := by
    rw [show ((t.size + p.length : Nat) : Int) = (t.size : Int) + p.length by omega]
    unfold needA at g
    omega
  obtain ⟨pf, gt⟩ := PfM.start (M := t.size + p.length) w2 rp2 hm.bal hm.asc hl (by omega) nd
  rw [← e3] at pf gt
  have q3 := gt.rd
  refine ⟨hs, _, _, pf, by rw [t.list_len]; exact Nat.le_refl _, val.1, fits_del fit, by omega, fun S4 j tr => ?_⟩
  have g0 : Got S hs 0 k S2 hs := by rw [e2]; exact Got.rds w (by omega)
  exact h S4 j 0 (.inr (.inr (.inr (.inr ⟨c, fit, f, g, rfl, (((g0.seq gt (h := hs) (fun _ h => h) (fun _ h => h)).seq tr.got (fun _ h => h) (fun _ h => h)).loose).mono (Nat.le_refl _) (by omega), tr.tree⟩))))
theorem s_ap : SoundT C0 11 tAp := by
  refine .ofW W7 Tryz.func11 (by decide) rfl fun args H K h hB => ?_
  unfold tAp at h
  split at h <;> try exact h.elim
  unfold arMr at h
  split at h <;> try exact h.elim
  split at h <;> try exact h.elim
  rename_i i _ rd fr nd ct us gn rl _ p
  obtain ⟨hs, t, h1, h2⟩ := h
  exact ⟨aAp, ⟨frame C0.ok P19.s_valid _, frame C0.ok s_fi _, frame C0.ok s_hold _, frame C0.ok s_size _, frame C0.ok s_rAp _, frame C0.ok s_room _, frame C0.ok s_pf _, trivial⟩, vc_ap ⟨us, gn, rl, fr, nd, ct, rd⟩ p i K hs t h1 h2⟩
end Go.Proofs.YtmjnoiajenoinaaGreat.Sx
end
section
/- The law MergeApplies. -/
namespace Go.Proofs.YtmjnoiajenoinaaGreat.Sx
open Go

/-KEEP Wf Kept exW inU live Arn.cap Arn.free Rep rdS retL Tr.size Tr.list Tr.Bal Asc Kin KinD FkR listE TrR Got Hn ht btw ApM ApR SqR P19.app19R slotsOf orderOf keptD RepD List.Perm valB-/
structure XMa (P : Arn ->Int ->Int ->Int ->List Ent ->List Ent ->List Chg ->Int ->Int ->Prop) where
  S : Arn
  b : Int
  o : Int
  t : Int
  lo : List Ent
  lt : List Ent
  q : List Chg
  need : Int
  room : Int
  h : P S b o t lo lt q need room
structure XMb (P : Arn ->Int ->Int ->Int ->List Ent ->List Ent ->List Chg ->Int ->List Int ->List SlotT ->List Int ->List Ent ->Int ->Prop) where
  S : Arn
  b : Int
  o : Int
  t : Int
  lo : List Ent
  lt : List Ent
  q : List Chg
  need : Int
  L : List Int
  d : List SlotT
  od : List Int
  want : List Ent
  w : Int
  h : P S b o t lo lt q need L d od want w
structure XMc (P : Arn ->Int ->Int ->Int ->List Ent ->List Ent ->List Chg ->Int ->List Int ->List SlotT ->List Int ->List Ent ->Int ->Int ->Int ->Prop) where
  S : Arn
  b : Int
  o : Int
  t : Int
  lo : List Ent
  lt : List Ent
  q : List Chg
  need : Int
  L : List Int
  d : List SlotT
  od : List Int
  want : List Ent
  w : Int
  i : Int
  e : Int
  h : P S b o t lo lt q need L d od want w i e
abbrev hdB (raw : List Ent) (e1 : List EdtT) (p : List Chg) (B lo lt : List Ent) (q : List Chg) (S : Arn) (b o t : Int) : List (Chunk C0) := [.row false EC.ent raw, .row false EC.edm e1, .row false EC.chg p] ++ chSk 3 S ++ [.row false EC.ent B, .row false EC.ent lo, .row false EC.ent lt, .box [.ptr 3 0, vU b, vU o, vU t, .slc 10, .slc 11, .slc 12], .row false EC.chg q]
noncomputable def aMw (P1 P2 : Arn ->Int ->Int ->Int ->List Ent ->List Ent ->List Chg ->Int ->Int ->Prop) (P3 P4 P5 : Arn ->Int ->Int ->Int ->List Ent ->List Ent ->List Chg ->Int ->List Int ->List SlotT ->List Int ->List Ent ->Int ->Prop) (P6 P7 : Arn ->Int ->Int ->Int ->List Ent ->List Ent ->List Chg ->Int ->List Int ->List SlotT ->List Int ->List Ent ->Int ->Int ->Int ->Prop) (raw B : List Ent) (e1 : List EdtT) (p : List Chg) : Ann C0 := { quiet := [9999999, 9, 12, 15, 13, 14], Γ := [(5, tFkA), (4, frameT [] tAw20), (6, frameT [] tDif), (7, frameT [] tResA), (8, frameT [] tSq), (9, frameT [] tDump), (10, frameT [] P19.tApp19), (11, frameT [] tAp), (12, frameT [] tSameD), (15, frameT [] tSound), (13, frameT [] tTr7), (14, frameT [] tKept)], inv := fun n => match n with
  | 1008 => some { X := XMa P1, sl := [3, 11], cp := [3], tf := fun x => [.one (.at (.slc 14)), .one (.at (.ptr 13 0))], hf := fun x => hdB raw e1 p B x.lo x.lt x.q x.S x.b x.o x.t }
  | 1012 => some { X := XMa P2, sl := [3, 11, 13, 14], tf := fun x => [.one (.at (.slc 14)), .one (.at (.ptr 13 0)), vi .i64 x.need, vi .i64 x.room], hf := fun x => hdB raw e1 p B x.lo x.lt x.q x.S x.b x.o x.t }
  | 1017 => some { X := XMb P3, sl := [3, 11, 13, 15, 16], tf := fun x => [.one (.at (.slc 14)), .one (.at (.ptr 13 0)), vi .i64 x.need, .one (.at (.slc 15)), .one (.at (.ptr 16 0))], hf := fun x => hdB raw e1 p B x.lo x.lt x.q x.S x.b x.o x.t ++ [.row true EC.u32 x.L, .box [.slc 17, .slc 18], .row true EC.slot x.d, .row true EC.u32 x.od] }
  | 1018 => some { X := XMb P4, sl := [3, 11, 13, 15, 16, 17, 18], cp := [17], tf := fun x => [.one (.at (.slc 14)), .one (.at (.ptr 13 0)), vi .i64 x.need, .one (.at (.slc 15)), .one (.at (.ptr 16 0)), .one (.at (.slc 19)), vi .i64 x.w], hf := fun x => hdB raw e1 p B x.lo x.lt x.q x.S x.b x.o x.t ++ [.row true EC.u32 x.L, .box [.slc 17, .slc 18], .row true EC.slot x.d, .row true EC.u32 x.od, .row false EC.ent x.want] }
  | 1020 => some { X := XMb P5, sl := [3, 11, 13, 15, 16, 17, 18], tf := fun x => [.one (.at (.slc 14)), .one (.at (.ptr 13 0)), vi .i64 x.need, .one (.at (.slc 15)), .one (.at (.ptr 16 0)), .one (.at (.slc 19)), vi .i64 x.w], hf := fun x => hdB raw e1 p B x.lo x.lt x.q x.S x.b x.o x.t ++ [.row true EC.u32 x.L, .box [.slc 17, .slc 18], .row true EC.slot x.d, .row true EC.u32 x.od, .row false EC.ent x.want] }
  | 1022 => some { X := XMc P6, sl := [3, 11, 13, 15, 16, 17, 18, 19, 20, 21], tf := fun x => [.one (.at (.slc 14)), .one (.at (.ptr 13 0)), vi .i64 x.need, .one (.at (.slc 15)), .one (.at (.ptr 16 0)), .one (.at (.slc 19)), vi .i64 x.w, vi .u32 x.i, vi .i64 x.e, .one (.at (.ptr 20 0))], hf := fun x => hdB raw e1 p B x.lo x.lt x.q x.S x.b x.o x.t ++ [.row true EC.u32 x.L, .box [.slc 17, .slc 18], .row true EC.slot x.d, .row true EC.u32 x.od, .row false EC.ent x.want, .box [.slc 21, .slc 22], .row true EC.slot (slotsOf x.S), .row true EC.u32 (orderOf x.S)] }
  | 1026 => some { X := XMc P7, sl := [3, 11, 13, 15, 16, 17, 18, 19, 20, 21], tf := fun x => [.one (.at (.slc 14)), .one (.at (.ptr 13 0)), vi .i64 x.need, .one (.at (.slc 15)), .one (.at (.ptr 16 0)), .one (.at (.slc 19)), vi .i64 x.w, vi .u32 x.i, vi .i64 x.e, .one (.at (.ptr 20 0))], hf := fun x => hdB raw e1 p B x.lo x.lt x.q x.S x.b x.o x.t ++ [.row true EC.u32 x.L, .box [.slc 17, .slc 18], .row true EC.slot x.d, .row true EC.u32 x.od, .row false EC.ent x.want, .box [.slc 21, .slc 22], .row true EC.slot (slotsOf x.S), .row true EC.u32 (orderOf x.S)] }
  | _ => none }
def tMw : Tfm C0 := fun args H K => match args, H with
  | [.at (.slc 0), .at (.val (.int .u64 t)), .at (.slc 1), .at (.slc 2), .at (.val (.int .u16 f))], [.row false .ent raw, .row false .edm e1, .row false .chg p] => 0 <=t /\0 <=f /\f <=65535 /\Kin raw /\KinD e1 /\K (.one (.at (vB true))) [.row false EC.ent raw, .row false EC.edm e1, .row false EC.chg p] []
  | _, _ => False
def nA (B : List Ent) (q : List Chg) : Int := (B.length : Int) + q.length + 4 * (Hn ((B.length : Int) + q.length) + 2)
structure MaC (B : List Ent) (S : Arn) (hs : List Int) (tb : Tr) (b : Int) (q : List Chg) (need : Int) (L : List Int) (d : List SlotT) (od : List Int) : Prop where
  ap : ApM S hs tb b q
  eb : tb.list = B
  pm : L.Perm hs
  len : L.length <=20000
  rd : S.reads <=20000
  ed : d = slotsOf S
  eo : od = orderOf S
  en : need = needA tb q.length
  lB : B.length <=60
  lq : q.length <=200
  aB : Asc B
def PW1 (B : List Ent) : Arn ->Int ->Int ->Int ->List Ent ->List Ent ->List Chg ->Int ->Int ->Prop := fun S b o t lo lt q _ _ => FkR S b o t B lo lt 300 /\q.length <=200
def PW2 (B : List Ent) : Arn ->Int ->Int ->Int ->List Ent ->List Ent ->List Chg ->Int ->Int ->Prop := fun S b o t lo lt q need room => (FkR S b o t B lo lt 300 /\q.length <=200) /\need = nA B q /\0 <=room
def PW3 (B : List Ent) : Arn ->Int ->Int ->Int ->List Ent ->List Ent ->List Chg ->Int ->List Int ->List SlotT ->List Int ->List Ent ->Int ->Prop := fun S b _ _ _ _ q need L d od _ _ => ∃ hs tb, MaC B S hs tb b q need L d od
def PW4 (B : List Ent) : Arn ->Int ->Int ->Int ->List Ent ->List Ent ->List Chg ->Int ->List Int ->List SlotT ->List Int ->List Ent ->Int ->Prop := fun S b _ _ _ _ q need L d od want w => ∃ hs tb, MaC B S hs tb b q need L d od /\(want, w) = P19.appR B q
def wF (w0 : Int) (q : List Chg) (S : Arn) (need : Int) : Int := if w0 = 0 /\0 < q.length /\S.free < need then 2 else w0
def PW5 (B : List Ent) : Arn ->Int ->Int ->Int ->List Ent ->List Ent ->List Chg ->Int ->List Int ->List SlotT ->List Int ->List Ent ->Int ->Prop := fun S b _ _ _ _ q need L d od want w => ∃ hs tb w0, MaC B S hs tb b q need L d od /\(want, w0) = P19.appR B q /\w = wF w0 q S need
def PW6 (B : List Ent) : Arn ->Int ->Int ->Int ->List Ent ->List Ent ->List Chg ->Int ->List Int ->List SlotT ->List Int ->List Ent ->Int ->Int ->Int ->Prop := fun S b _ _ _ _ q need L d od want w i e => ∃ S0 hs tb w0, MaC B S0 hs tb b q need L d od /\(want, w0) = P19.appR B q /\w = wF w0 q S0 need /\ApR S0 hs tb b q S i e
def PW7 (B : List Ent) : Arn ->Int ->Int ->Int ->List Ent ->List Ent ->List Chg ->Int ->List Int ->List SlotT ->List Int ->List Ent ->Int ->Int ->Int ->Prop := fun S b o t lo lt q need L d od want w i e => PW6 B S b o t lo lt q need L d od want w i e /\e = 0
theorem permA {α : Type} (L : List α) (a b c : α) : (L ++ [a, b, c]).Perm (L ++ [c, b, a]) := List.Perm.append_left L (List.reverse_perm [c, b, a])
theorem permE {α : Type} {L hs : List α} (i : α) (h : L.Perm hs) : (L ++ [i]).Perm (i :: hs) := List.perm_append_comm.trans (List.Perm.cons i h)
theorem sq_ap {S S' : Arn} {b o t : Int} {B lo lt : List Ent} {sp : Int} {k : Nat} {L : List Int} {q : List Chg} (fk : FkR S b o t B lo lt sp) (sq : SqR S [t, o, b] k S' L) (hk : k <=10000) (hq : q.length <=200) :
    ∃ tb, ApM S' (L ++ [t, o, b]) tb b q /\tb.list = B /\S'.reads <=20000 /\needA tb q.length = nA B q := by
  have hh := fk.h
  obtain ⟨tb, rb, eb, bb⟩ := hh.rep (b, B) (by simp)
  have eb : tb.list = B := eb
  have zb : tb.size = B.length := by rw [← tb.list_len, eb]
  have r1 := sq.got.rd
  have rd := fk.rd
  have l1 := fk.sb
  have e0 := sq.len
  have st := sq.got.stay
  exact ⟨tb, ⟨sq.wf, rb.held hh.wf st (.inr (by simp)), bb, by rw [eb]; exact hh.asc (b, B) (by simp), by omega, by omega, by rw [List.length_append]; simp; omega, by omega⟩, eb, by omega, by unfold needA nA; rw [zb]⟩
/-- What applying answers is what the reference says. -/
theorem ap_ref {B : List Ent} {S0 S' : Arn} {hs : List Int} {tb : Tr} {b : Int} {q : List Chg} {need : Int} {L : List Int} {d : List SlotT} {od : List Int} {want : List Ent} {w0 i e : Int} (h : MaC B S0 hs tb b q need L d od) (hw : (want, w0) = P19.appR B q) (r : ApR S0 hs tb b q S' i e) :
    e = wF w0 q S0 need /\(e ≠ 0 ->i = 0 /\∃ m, m <=900000001 /\S' = rdS S0 m) /\(e = 0 ->want = perfE B q /\((q.length = 0 /\i = b /\S' = retL S0 i) ∨ (0 < q.length /\TrR S0 hs (perfE B q) 65537 2000000000 S' i))) := by
  have aB := h.aB
  unfold P19.appR at hw
  rw [ascB_of aB] at hw
  have eb := h.eb
  unfold ApR at r
  rw [eb] at r
  have fitA : valB q = true ->Fits B q ->want = perfE B q /\w0 = 0 := fun v f => by
    rw [v, fits_app aB (valB_iff.1 v) f] at hw
    simp only [Bool.and_self, if_true, Prod.mk.injEq] at hw
    exact hw
  unfold wF
  rw [h.en]
  rcases r with ⟨v, r1, r2, r3⟩ | ⟨v, f, r1, r2, m, hm, r3⟩ | ⟨v, f, l0, r1, r2, r3⟩ | ⟨v, f, l0, fr, r1, r2, m, hm, r3⟩ | ⟨v, f, l0, fr, r1, r2⟩
  · rw [v] at hw
    simp only [Bool.and_false, Bool.false_eq_true, if_false, Prod.mk.injEq] at hw
    rw [hw.2]
    refine ⟨r1, fun _ => ⟨r2, 0, by omega, by rw [r3, rdS_zero]⟩, fun z => by omega⟩
  · have an : app B q = none := (app_none aB (valB_iff.1 v).1).2 f
    rw [v, an] at hw
    simp only [Bool.and_self, if_true, Prod.mk.injEq] at hw
    rw [hw.2]
    exact ⟨r1, fun _ => ⟨r2, m, by omega, r3⟩, fun z => by omega⟩
  · obtain ⟨f1, f2⟩ := fitA v f
    rw [f2, if_neg (by omega)]
    exact ⟨r1, fun z => absurd r1 z, fun _ => ⟨f1, .inl ⟨l0, r2, by rw [r2]; exact r3⟩⟩⟩
  · obtain ⟨f1, f2⟩ := fitA v f
    rw [f2, if_pos ⟨rfl, l0, fr⟩]
    exact ⟨r1, fun _ => ⟨r2, m, hm, r3⟩, fun z => by omega⟩
  · obtain ⟨f1, f2⟩ := fitA v f
    rw [f2, if_neg (fun z => absurd z.2.2 (Int.not_lt.2 fr))]
    exact ⟨r1, fun z => absurd r1 z, fun _ => ⟨f1, .inr ⟨l0, r2⟩⟩⟩
theorem vc_mw (raw : List Ent) (e1 : List EdtT) (p : List Chg) (t f : Int) (K : KT) (h0 : 0 <=t) (f0 : 0 <=f) (f1 : f <=65535) (hk : Kin raw) (k1 : KinD e1) (h : K (.one (.at (vB true))) [.row false EC.ent raw, .row false EC.edm e1, .row false EC.chg p] []) :
    vc C0 (aMw (PW1 (listE raw 60)) (PW2 (listE raw 60)) (PW3 (listE raw 60)) (PW4 (listE raw 60)) (PW5 (listE raw 60)) (PW6 (listE raw 60)) (PW7 (listE raw 60)) raw (listE raw 60) e1 p) Tryz.f3 [.at (.slc 0), .at (vU64 t), .at (.slc 1), .at (.slc 2), .at (.val (.int .u16 f))] [.row false EC.ent raw, .row false EC.edm e1, .row false EC.chg p] (normK 3 K) := by
  generalize hP1 : PW1 (listE raw 60) = P1
  generalize hP2 : PW2 (listE raw 60) = P2
  generalize hP3 : PW3 (listE raw 60) = P3
  generalize hP4 : PW4 (listE raw 60) = P4
  generalize hP5 : PW5 (listE raw 60) = P5
  generalize hP6 : PW6 (listE raw 60) = P6
  generalize hP7 : PW7 (listE raw 60) = P7
  refine Eq.mp (show (brS (decide ((↑p.length : Int) > 20)) ((K (SV.one (TV.at (At.val (Value.bool true)))) [(Chunk.row false (EC.ent) (raw)), (Chunk.row false (EC.edm) (e1)), (Chunk.row false (EC.chg) (p))] [])) (((0<=t)/\((0 : Int)<=300)/\((300 : Int)<=20000)/\(Kin raw)/\(KinD e1)/\(∀ S : Arn, (∀ b : Int, (∀ o : Int, (∀ t1 : Int, (∀ lo : List Ent, (∀ lt : List Ent, ((FkR S b o t1 (listE raw 60) lo lt 300)->((brS (f.tmod 3 != 0) ((((listE raw 60).length + lo.length<=1000000)/\(∃ x : XMa P1, (True/\(True/\((Value.int .u16 (f)) = (Value.int .u16 (f)))/\True/\True)/\((raw) = (raw))/\((e1) = (e1))/\((p) = (p))/\(True/\True/\True/\((Value.int .u64 (S.reads)) = (Value.int .u64 (x.S.reads)))/\True)/\(True/\True/\True/\((Value.int .u32 (S.fresh)) = (Value.int .u32 (x.S.fresh)))/\True)/\((S.nodes) = (x.S.nodes))/\((S.counts) = (x.S.counts))/\((S.used) = (x.S.used))/\((S.gen) = (x.S.gen))/\((S.rel) = (x.S.rel))/\((listE raw 60) = (listE raw 60))/\((lo) = (x.lo))/\((lt) = (x.lt))/\(True/\((Value.int .u32 (b)) = (Value.int .u32 (x.b)))/\((Value.int .u32 (o)) = (Value.int .u32 (x.o)))/\((Value.int .u32 (t1)) = (Value.int .u32 (x.t)))/\True/\True/\True/\True)/\((difE (listE raw 60) lo) = (x.q))/\True)))) ((∃ x : XMa P1, (True/\(True/\((Value.int .u16 (f)) = (Value.int .u16 (f)))/\True/\True)/\((raw) = (raw))/\((e1) = (e1))/\((p) = (p))/\(True/\True/\True ∧
    ((Value.int .u64 (S.reads)) = (Value.int .u64 (x.S.reads)))/\True)/\(True/\True/\True/\((Value.int .u32 (S.fresh)) = (Value.int .u32 (x.S.fresh)))/\True)/\((S.nodes) = (x.S.nodes))/\((S.counts) = (x.S.counts))/\((S.used) = (x.S.used))/\((S.gen) = (x.S.gen))/\((S.rel) = (x.S.rel))/\((listE raw 60) = (listE raw 60))/\((lo) = (x.lo))/\((lt) = (x.lt))/\(True/\((Value.int .u32 (b)) = (Value.int .u32 (x.b)))/\((Value.int .u32 (o)) = (Value.int .u32 (x.o)))/\((Value.int .u32 (t1)) = (Value.int .u32 (x.t)))/\True/\True/\True/\True)/\((p) = (x.q))/\True))))/\(∀ x : XMa P1, (True->((0<=(↑(listE raw 60).length : Int))/\((↑(listE raw 60).length : Int)<=30000)/\(0<=(↑x.q.length : Int))/\((↑x.q.length : Int)<=30000)/\(∀ p1 : Int, (((p1) = ((↑(listE raw 60).length : Int) + (↑x.q.length : Int) + 4 * (Hn ((↑(listE raw 60).length : Int) + (↑x.q.length : Int)) + 2)))->((brS (f.tmod 4 == 0) (((IntKind.i64.wrap (p1 + 1) ≠ 0)/\(∃ x1 : XMa P2, (True/\(True/\True/\((Value.int .i64 (p1)) = (Value.int .i64 (x1.need)))/\((Value.int .i64 ((IntKind.i64.wrap f).tmod (IntKind.i64.wrap (p1 + 1)))) = (Value.int .i64 (x1.room)))/\True)/\((raw) = (raw))/\((e1) = (e1))/\((p) = (p))/\(True/\True/\True/\((Value.int .u64 (x.S.reads)) = (Value.int .u64 (x1.S.reads)))/\True)/\(True/\True/\True ∧
    ((Value.int .u32 (x.S.fresh)) = (Value.int .u32 (x1.S.fresh)))/\True)/\((x.S.nodes) = (x1.S.nodes))/\((x.S.counts) = (x1.S.counts))/\((x.S.used) = (x1.S.used))/\((x.S.gen) = (x1.S.gen))/\((x.S.rel) = (x1.S.rel))/\((listE raw 60) = (listE raw 60))/\((x.lo) = (x1.lo))/\((x.lt) = (x1.lt))/\(True/\((Value.int .u32 (x.b)) = (Value.int .u32 (x1.b)))/\((Value.int .u32 (x.o)) = (Value.int .u32 (x1.o)))/\((Value.int .u32 (x.t)) = (Value.int .u32 (x1.t)))/\True/\True/\True/\True)/\((x.q) = (x1.q))/\True)))) ((∃ x1 : XMa P2, (True/\(True/\True/\((Value.int .i64 (p1)) = (Value.int .i64 (x1.need)))/\((Value.int .i64 (IntKind.i64.wrap (p1 + IntKind.i64.wrap (f.tmod 5)))) = (Value.int .i64 (x1.room)))/\True)/\((raw) = (raw))/\((e1) = (e1))/\((p) = (p))/\(True/\True/\True/\((Value.int .u64 (x.S.reads)) = (Value.int .u64 (x1.S.reads)))/\True)/\(True/\True/\True/\((Value.int .u32 (x.S.fresh)) = (Value.int .u32 (x1.S.fresh)))/\True)/\((x.S.nodes) = (x1.S.nodes))/\((x.S.counts) = (x1.S.counts))/\((x.S.used) = (x1.S.used))/\((x.S.gen) = (x1.S.gen))/\((x.S.rel) = (x1.S.rel))/\((listE raw 60) = (listE raw 60))/\((x.lo) = (x1.lo))/\((x.lt) = (x1.lt))/\(True/\((Value.int .u32 (x.b)) = (Value.int .u32 (x1.b)))/\((Value.int .u32 (x.o)) = (Value.int .u32 (x1.o))) ∧
    ((Value.int .u32 (x.t)) = (Value.int .u32 (x1.t)))/\True/\True/\True/\True)/\((x.q) = (x1.q))/\True))))/\(∀ x1 : XMa P2, (True->(∃ hs : List Int, ((Wf x1.S hs)/\(hs.length<=1000)/\(0<=x1.room)/\(∀ S' : Arn, (∀ k : Nat, (∀ L : List Int, ((SqR x1.S hs k S' L)->((k<=10000)->(((L.length + [x1.b, x1.o, x1.t].length) * bytesOf C0 EC.u32<=140737488355328)/\((exW S')/\(∀ d : List SlotT, (∀ o1 : List Int, (((d) = (slotsOf S'))->(((o1) = (orderOf S'))->(∃ x2 : XMb P3, (True/\(True/\True/\((Value.int .i64 (x1.need)) = (Value.int .i64 (x2.need)))/\True/\True/\True)/\((raw) = (raw))/\((e1) = (e1))/\((p) = (p))/\(True/\True/\True/\((Value.int .u64 (S'.reads)) = (Value.int .u64 (x2.S.reads)))/\True)/\(True/\True/\True/\((Value.int .u32 (S'.fresh)) = (Value.int .u32 (x2.S.fresh)))/\True)/\((S'.nodes) = (x2.S.nodes))/\((S'.counts) = (x2.S.counts))/\((S'.used) = (x2.S.used))/\((S'.gen) = (x2.S.gen))/\((S'.rel) = (x2.S.rel))/\((listE raw 60) = (listE raw 60))/\((x1.lo) = (x2.lo))/\((x1.lt) = (x2.lt))/\(True/\((Value.int .u32 (x1.b)) = (Value.int .u32 (x2.b)))/\((Value.int .u32 (x1.o)) = (Value.int .u32 (x2.o)))/\((Value.int .u32 (x1.t)) = (Value.int .u32 (x2.t)))/\True/\True/\True/\True)/\((x1.q) = (x2.q))/\((L ++ [x1.b, x1.o, x1.t]) = (x2.L))/\(True/\True/\True)/\((d) = (x2.d))/\((o1) = (x2.od))/\True)))))))/\(∀ x2 : XMb P3, (True →
    ((((listE raw 60).length + x2.q.length<=1000000)/\(∀ r : List Ent, (∀ e : Int, (((Prod.mk (r) (e)) = (P19.app19R (listE raw 60) x2.q))->(∃ x3 : XMb P4, (True/\(True/\True/\((Value.int .i64 (x2.need)) = (Value.int .i64 (x3.need)))/\True/\True/\True/\((Value.int .i64 (e)) = (Value.int .i64 (x3.w)))/\True)/\((raw) = (raw))/\((e1) = (e1))/\((p) = (p))/\(True/\True/\True/\((Value.int .u64 (x2.S.reads)) = (Value.int .u64 (x3.S.reads)))/\True)/\(True/\True/\True/\((Value.int .u32 (x2.S.fresh)) = (Value.int .u32 (x3.S.fresh)))/\True)/\((x2.S.nodes) = (x3.S.nodes))/\((x2.S.counts) = (x3.S.counts))/\((x2.S.used) = (x3.S.used))/\((x2.S.gen) = (x3.S.gen))/\((x2.S.rel) = (x3.S.rel))/\((listE raw 60) = (listE raw 60))/\((x2.lo) = (x3.lo))/\((x2.lt) = (x3.lt))/\(True/\((Value.int .u32 (x2.b)) = (Value.int .u32 (x3.b)))/\((Value.int .u32 (x2.o)) = (Value.int .u32 (x3.o)))/\((Value.int .u32 (x2.t)) = (Value.int .u32 (x3.t)))/\True/\True/\True/\True)/\((x2.q) = (x3.q))/\((x2.L) = (x3.L))/\(True/\True/\True)/\((x2.d) = (x3.d))/\((x2.od) = (x3.od))/\((r) = (x3.want))/\True)))))/\(((x2.q.length) = 0)->(((ascB (listE raw 60)) = true)->(∃ x3 : XMb P4, (True/\(True/\True/\((Value.int .i64 (x2.need)) = (Value.int .i64 (x3.need)))/\True/\True/\True/\((Value.int .i64 0) = (Value.int .i64 (x3.w)))/\True) ∧
    ((raw) = (raw))/\((e1) = (e1))/\((p) = (p))/\(True/\True/\True/\((Value.int .u64 (x2.S.reads)) = (Value.int .u64 (x3.S.reads)))/\True)/\(True/\True/\True/\((Value.int .u32 (x2.S.fresh)) = (Value.int .u32 (x3.S.fresh)))/\True)/\((x2.S.nodes) = (x3.S.nodes))/\((x2.S.counts) = (x3.S.counts))/\((x2.S.used) = (x3.S.used))/\((x2.S.gen) = (x3.S.gen))/\((x2.S.rel) = (x3.S.rel))/\((listE raw 60) = (listE raw 60))/\((x2.lo) = (x3.lo))/\((x2.lt) = (x3.lt))/\(True/\((Value.int .u32 (x2.b)) = (Value.int .u32 (x3.b)))/\((Value.int .u32 (x2.o)) = (Value.int .u32 (x3.o)))/\((Value.int .u32 (x2.t)) = (Value.int .u32 (x3.t)))/\True/\True/\True/\True)/\((x2.q) = (x3.q))/\((x2.L) = (x3.L))/\(True/\True/\True)/\((x2.d) = (x3.d))/\((x2.od) = (x3.od))/\((listE raw 60) = (x3.want))/\True)))))/\(∀ x3 : XMb P4, (True->((brS (x3.w == 0) ((brS (decide ((↑x3.q.length : Int) > 0)) ((brS (decide ((↑x3.od.length : Int) < x3.need)) ((∃ x4 : XMb P5, (True/\(True/\True/\((Value.int .i64 (x3.need)) = (Value.int .i64 (x4.need)))/\True/\True/\True/\((Value.int .i64 2) = (Value.int .i64 (x4.w)))/\True)/\((raw) = (raw))/\((e1) = (e1))/\((p) = (p))/\(True/\True/\True/\((Value.int .u64 (x3.S.reads)) = (Value.int .u64 (x4.S.reads)))/\True)/\(True/\True/\True/\((Value.int .u32 (x3.S.fresh)) = (Value.int .u32 (x4.S.fresh)))/\True) ∧
    ((x3.S.nodes) = (x4.S.nodes))/\((x3.S.counts) = (x4.S.counts))/\((x3.S.used) = (x4.S.used))/\((x3.S.gen) = (x4.S.gen))/\((x3.S.rel) = (x4.S.rel))/\((listE raw 60) = (listE raw 60))/\((x3.lo) = (x4.lo))/\((x3.lt) = (x4.lt))/\(True/\((Value.int .u32 (x3.b)) = (Value.int .u32 (x4.b)))/\((Value.int .u32 (x3.o)) = (Value.int .u32 (x4.o)))/\((Value.int .u32 (x3.t)) = (Value.int .u32 (x4.t)))/\True/\True/\True/\True)/\((x3.q) = (x4.q))/\((x3.L) = (x4.L))/\(True/\True/\True)/\((x3.d) = (x4.d))/\((x3.od) = (x4.od))/\((x3.want) = (x4.want))/\True))) ((∃ x4 : XMb P5, (True/\(True/\True/\((Value.int .i64 (x3.need)) = (Value.int .i64 (x4.need)))/\True/\True/\True/\((Value.int .i64 (x3.w)) = (Value.int .i64 (x4.w)))/\True)/\((raw) = (raw))/\((e1) = (e1))/\((p) = (p))/\(True/\True/\True/\((Value.int .u64 (x3.S.reads)) = (Value.int .u64 (x4.S.reads)))/\True)/\(True/\True/\True/\((Value.int .u32 (x3.S.fresh)) = (Value.int .u32 (x4.S.fresh)))/\True)/\((x3.S.nodes) = (x4.S.nodes))/\((x3.S.counts) = (x4.S.counts))/\((x3.S.used) = (x4.S.used))/\((x3.S.gen) = (x4.S.gen))/\((x3.S.rel) = (x4.S.rel))/\((listE raw 60) = (listE raw 60))/\((x3.lo) = (x4.lo))/\((x3.lt) = (x4.lt))/\(True/\((Value.int .u32 (x3.b)) = (Value.int .u32 (x4.b)))/\((Value.int .u32 (x3.o)) = (Value.int .u32 (x4.o))) ∧
    ((Value.int .u32 (x3.t)) = (Value.int .u32 (x4.t)))/\True/\True/\True/\True)/\((x3.q) = (x4.q))/\((x3.L) = (x4.L))/\(True/\True/\True)/\((x3.d) = (x4.d))/\((x3.od) = (x4.od))/\((x3.want) = (x4.want))/\True))))) ((∃ x4 : XMb P5, (True/\(True/\True/\((Value.int .i64 (x3.need)) = (Value.int .i64 (x4.need)))/\True/\True/\True/\((Value.int .i64 (x3.w)) = (Value.int .i64 (x4.w)))/\True)/\((raw) = (raw))/\((e1) = (e1))/\((p) = (p))/\(True/\True/\True/\((Value.int .u64 (x3.S.reads)) = (Value.int .u64 (x4.S.reads)))/\True)/\(True/\True/\True/\((Value.int .u32 (x3.S.fresh)) = (Value.int .u32 (x4.S.fresh)))/\True)/\((x3.S.nodes) = (x4.S.nodes))/\((x3.S.counts) = (x4.S.counts))/\((x3.S.used) = (x4.S.used))/\((x3.S.gen) = (x4.S.gen))/\((x3.S.rel) = (x4.S.rel))/\((listE raw 60) = (listE raw 60))/\((x3.lo) = (x4.lo))/\((x3.lt) = (x4.lt))/\(True/\((Value.int .u32 (x3.b)) = (Value.int .u32 (x4.b)))/\((Value.int .u32 (x3.o)) = (Value.int .u32 (x4.o)))/\((Value.int .u32 (x3.t)) = (Value.int .u32 (x4.t)))/\True/\True/\True/\True)/\((x3.q) = (x4.q))/\((x3.L) = (x4.L))/\(True/\True/\True)/\((x3.d) = (x4.d))/\((x3.od) = (x4.od))/\((x3.want) = (x4.want))/\True))))) ((∃ x4 : XMb P5, (True/\(True/\True/\((Value.int .i64 (x3.need)) = (Value.int .i64 (x4.need)))/\True/\True/\True ∧
    ((Value.int .i64 (x3.w)) = (Value.int .i64 (x4.w)))/\True)/\((raw) = (raw))/\((e1) = (e1))/\((p) = (p))/\(True/\True/\True/\((Value.int .u64 (x3.S.reads)) = (Value.int .u64 (x4.S.reads)))/\True)/\(True/\True/\True/\((Value.int .u32 (x3.S.fresh)) = (Value.int .u32 (x4.S.fresh)))/\True)/\((x3.S.nodes) = (x4.S.nodes))/\((x3.S.counts) = (x4.S.counts))/\((x3.S.used) = (x4.S.used))/\((x3.S.gen) = (x4.S.gen))/\((x3.S.rel) = (x4.S.rel))/\((listE raw 60) = (listE raw 60))/\((x3.lo) = (x4.lo))/\((x3.lt) = (x4.lt))/\(True/\((Value.int .u32 (x3.b)) = (Value.int .u32 (x4.b)))/\((Value.int .u32 (x3.o)) = (Value.int .u32 (x4.o)))/\((Value.int .u32 (x3.t)) = (Value.int .u32 (x4.t)))/\True/\True/\True/\True)/\((x3.q) = (x4.q))/\((x3.L) = (x4.L))/\(True/\True/\True)/\((x3.d) = (x4.d))/\((x3.od) = (x4.od))/\((x3.want) = (x4.want))/\True))))/\(∀ x4 : XMb P5, (True->(∃ hs1 : List Int, (∃ t2 : Tr, ((ApM x4.S hs1 t2 x4.b x4.q)/\(∀ S'1 : Arn, (∀ j : Int, (∀ e : Int, ((ApR x4.S hs1 t2 x4.b x4.q S'1 j e)->(((exW S'1)/\(∀ d : List SlotT, (∀ o1 : List Int, (((d) = (slotsOf S'1))->(((o1) = (orderOf S'1))->(∃ x5 : XMc P6, (True/\(True/\True/\((Value.int .i64 (x4.need)) = (Value.int .i64 (x5.need)))/\True/\True/\True/\((Value.int .i64 (x4.w)) = (Value.int .i64 (x5.w)))/\((Value.int .u32 (j)) = (Value.int .u32 (x5.i))) ∧
    ((Value.int .i64 (e)) = (Value.int .i64 (x5.e)))/\True/\True)/\((raw) = (raw))/\((e1) = (e1))/\((p) = (p))/\(True/\True/\True/\((Value.int .u64 (S'1.reads)) = (Value.int .u64 (x5.S.reads)))/\True)/\(True/\True/\True/\((Value.int .u32 (S'1.fresh)) = (Value.int .u32 (x5.S.fresh)))/\True)/\((S'1.nodes) = (x5.S.nodes))/\((S'1.counts) = (x5.S.counts))/\((S'1.used) = (x5.S.used))/\((S'1.gen) = (x5.S.gen))/\((S'1.rel) = (x5.S.rel))/\((listE raw 60) = (listE raw 60))/\((x4.lo) = (x5.lo))/\((x4.lt) = (x5.lt))/\(True/\((Value.int .u32 (x4.b)) = (Value.int .u32 (x5.b)))/\((Value.int .u32 (x4.o)) = (Value.int .u32 (x5.o)))/\((Value.int .u32 (x4.t)) = (Value.int .u32 (x5.t)))/\True/\True/\True/\True)/\((x4.q) = (x5.q))/\((x4.L) = (x5.L))/\(True/\True/\True)/\((x4.d) = (x5.d))/\((x4.od) = (x5.od))/\((x4.want) = (x5.want))/\(True/\True/\True)/\((d) = (slotsOf x5.S))/\((o1) = (orderOf x5.S))/\True)))))))/\(∀ x5 : XMc P6, (True->(brS (x5.e != x5.w) ((K (SV.one (TV.at (At.val (Value.bool false)))) [(Chunk.row false (EC.ent) (raw)), (Chunk.row false (EC.edm) (e1)), (Chunk.row false (EC.chg) (p))] [])) (((brS (x5.e != 0) ((brS (x5.i == 0) ((((slotsOf x5.S) = (x5.d))/\((orderOf x5.S) = (x5.od))/\((slotsOf x5.S).length<=1000000)/\((orderOf x5.S).length<=1000000) ∧
    (K (SV.one (TV.at (At.val (Value.bool true)))) [(Chunk.row false (EC.ent) (raw)), (Chunk.row false (EC.edm) (e1)), (Chunk.row false (EC.chg) (p))] []))) ((K (SV.one (TV.at (At.val (Value.bool false)))) [(Chunk.row false (EC.ent) (raw)), (Chunk.row false (EC.edm) (e1)), (Chunk.row false (EC.chg) (p))] [])))) ((∃ x6 : XMc P7, (True/\(True/\True/\((Value.int .i64 (x5.need)) = (Value.int .i64 (x6.need)))/\True/\True/\True/\((Value.int .i64 (x5.w)) = (Value.int .i64 (x6.w)))/\((Value.int .u32 (x5.i)) = (Value.int .u32 (x6.i)))/\((Value.int .i64 (x5.e)) = (Value.int .i64 (x6.e)))/\True/\True)/\((raw) = (raw))/\((e1) = (e1))/\((p) = (p))/\(True/\True/\True/\((Value.int .u64 (x5.S.reads)) = (Value.int .u64 (x6.S.reads)))/\True)/\(True/\True/\True/\((Value.int .u32 (x5.S.fresh)) = (Value.int .u32 (x6.S.fresh)))/\True)/\((x5.S.nodes) = (x6.S.nodes))/\((x5.S.counts) = (x6.S.counts))/\((x5.S.used) = (x6.S.used))/\((x5.S.gen) = (x6.S.gen))/\((x5.S.rel) = (x6.S.rel))/\((listE raw 60) = (listE raw 60))/\((x5.lo) = (x6.lo))/\((x5.lt) = (x6.lt))/\(True/\((Value.int .u32 (x5.b)) = (Value.int .u32 (x6.b)))/\((Value.int .u32 (x5.o)) = (Value.int .u32 (x6.o)))/\((Value.int .u32 (x5.t)) = (Value.int .u32 (x6.t)))/\True/\True/\True/\True)/\((x5.q) = (x6.q))/\((x5.L) = (x6.L))/\(True/\True/\True)/\((x5.d) = (x6.d)) ∧
    ((x5.od) = (x6.od))/\((x5.want) = (x6.want))/\(True/\True/\True)/\((slotsOf x5.S) = (slotsOf x6.S))/\((orderOf x5.S) = (orderOf x6.S))/\True))))/\(∀ x6 : XMc P7, (True->(brS (decide ((↑x6.q.length : Int) > 0)) ((((slotsOf x6.S).length<=1000000)/\(∃ t3 : Tr, ((RepD (slotsOf x6.S) t3 x6.i)/\(Asc t3.list)/\(t3.Bal)/\(t3.size<=2 * (slotsOf x6.S).length + 2)/\(t3.size<=1000000)/\((t3.list) = (x6.want))))/\(keptD x6.d (slotsOf x6.S))/\(x6.d.length<=1000000)/\((x6.L.length + [x6.i].length) * bytesOf C0 EC.u32<=140737488355328)/\(∃ hs2 : List Int, ((Wf x6.S hs2)/\((x6.L ++ [x6.i]).Perm hs2)/\((x6.L ++ [x6.i]).length<=1000000)/\(K (SV.one (TV.at (At.val (Value.bool true)))) [(Chunk.row false (EC.ent) (raw)), (Chunk.row false (EC.edm) (e1)), (Chunk.row false (EC.chg) (p))] []))))) ((brS (x6.i == x6.b) ((brS ((↑(orderOf x6.S).length : Int) == (↑x6.od.length : Int)) ((((slotsOf x6.S).length<=1000000)/\(∃ t3 : Tr, ((RepD (slotsOf x6.S) t3 x6.i)/\(Asc t3.list)/\(t3.Bal)/\(t3.size<=2 * (slotsOf x6.S).length + 2)/\(t3.size<=1000000)/\((t3.list) = (x6.want))))/\(keptD x6.d (slotsOf x6.S))/\(x6.d.length<=1000000)/\((x6.L.length + [x6.i].length) * bytesOf C0 EC.u32<=140737488355328)/\(∃ hs2 : List Int, ((Wf x6.S hs2)/\((x6.L ++ [x6.i]).Perm hs2)/\((x6.L ++ [x6.i]).length<=1000000)/\(K (SV.one (TV.at (At.val (Value.bool true)))) [(Chunk.row false (EC.ent) (raw)), (Chunk.row false (EC.edm) (e1)), (Chunk.row false (EC.chg) (p))] [])))))
    ((K (SV.one (TV.at (At.val (Value.bool false)))) [(Chunk.row false (EC.ent) (raw)), (Chunk.row false (EC.edm) (e1)), (Chunk.row false (EC.chg) (p))] [])))) ((K (SV.one (TV.at (At.val (Value.bool false)))) [(Chunk.row false (EC.ent) (raw)), (Chunk.row false (EC.edm) (e1)), (Chunk.row false (EC.chg) (p))] []))))))))))))))))))))))))))))))))))))))))))))))))))))))) = _ by kernel_rfl) ?_
  subst hP1 hP2 hP3 hP4 hP5 hP6 hP7
  generalize listE raw 60 = B at *
  refine brS_of (fun _ => h) fun c20 => ⟨h0, by decide, by decide, hk, k1, fun S b o t1 lo lt fk => ⟨brS_of (fun _ => ⟨?_, ?_⟩) fun _ => ?_, fun x _ => ?_⟩⟩
  · have l1 := fk.sb; have l2 := fk.so; omega
  · have l1 := fk.sb
    have l2 := fk.so
    have aB : Asc B := fk.h.asc (b, B) (by simp)
    have aO : Asc lo := fk.h.asc (o, lo) (by simp)
    have bl := btw_len aB aO
    refine ⟨⟨S, b, o, t1, lo, lt, difE B lo, 0, 0, fk, by rw [difE_btw aB aO]; omega⟩, ?_⟩
    (repeat' first | exact trivial | exact rfl | refine And.intro ?_ ?_)
  · have : ¬ (p.length : Int) > 20 := of_decide_eq_false c20
    refine ⟨⟨S, b, o, t1, lo, lt, p, 0, 0, fk, by omega⟩, ?_⟩
    (repeat' first | exact trivial | exact rfl | refine And.intro ?_ ?_)
  obtain ⟨S, b, o, t, lo, lt, q, _, _, fk, lq⟩ := x
  dsimp only
  have l1 := fk.sb
  have hn := Hn_rng ((B.length : Int) + q.length)
  refine ⟨by omega, by omega, by omega, by omega, fun n en => ⟨brS_of (fun _ => ⟨?_, ?_⟩) fun _ => ?_, fun x _ => ?_⟩⟩
  · rw [wrap_id (by omega) (by omega)]; omega
  · have hr : 0 <=(IntKind.i64.wrap f).tmod (IntKind.i64.wrap (n + 1)) := by
      rw [wrap_id (x := f) (by omega) (by omega)]
      exact Int.tmod_nonneg _ f0
    refine ⟨⟨S, b, o, t, lo, lt, q, n, _, ⟨fk, lq⟩, en, hr⟩, ?_⟩
    (repeat' first | exact trivial | exact rfl | refine And.intro ?_ ?_)
  · have a1 : 0 <=f.tmod 5 := Int.tmod_nonneg _ f0
    have a2 : f.tmod 5 < 5 := Int.tmod_lt_of_pos _ (by decide)
    have e2 : IntKind.i64.wrap (f.tmod 5) = f.tmod 5 := wrap_id (by omega) (by omega)
    have hr : 0 <=IntKind.i64.wrap (n + IntKind.i64.wrap (f.tmod 5)) := by
      rw [e2, wrap_id (by omega) (by omega)]
      omega
    refine ⟨⟨S, b, o, t, lo, lt, q, n, _, ⟨fk, lq⟩, en, hr⟩, ?_⟩
    (repeat' first | exact trivial | exact rfl | refine And.intro ?_ ?_)
  clear en hn l1 lq fk
  obtain ⟨S, b, o, t, lo, lt, q, need, room, ⟨fk, lq⟩, en, hr⟩ := x
  dsimp only
  refine ⟨_, fk.h.wf, by simp, hr, fun S1 k L sq hk => ?_⟩
  obtain ⟨tb, hm, eb, rd, ne⟩ := sq_ap (q := q) fk sq hk lq
  have len : (L ++ [b, o, t]).length <=20000 := by rw [List.length_append, sq.len]; simp; omega
  refine ⟨by rw [bytes_u32, sq.len]; simp; omega, ⟨⟨_, hm.wf⟩, fun d od ed eo => ?_⟩, fun x _ => ?_⟩
  · refine ⟨⟨S1, b, o, t, lo, lt, q, need, L ++ [b, o, t], d, od, [], 0, _, tb, hm, eb, permA L b o t, len, rd, ed, eo, by rw [en, ne], fk.sb, lq, fk.h.asc (b, B) (by simp)⟩, ?_⟩
    (repeat' first | exact trivial | exact rfl | refine And.intro ?_ ?_)
  clear len ne rd eb hm tb sq hk L k S1 en hr fk lq
  obtain ⟨S, b, o, t, lo, lt, q, need, L, d, od, _, _, hs, tb, hc⟩ := x
  dsimp only
  have lB := hc.lB
  have lq := hc.lq
  refine ⟨⟨by omega, fun r e er => ?_, fun l0 _ => ?_⟩, fun x _ => ?_⟩
  · rw [P19.app19R_eq] at er
    refine ⟨⟨S, b, o, t, lo, lt, q, need, L, d, od, r, e, hs, tb, hc, er⟩, ?_⟩
    (repeat' first | exact trivial | exact rfl | refine And.intro ?_ ?_)
  · have qn : q = [] := List.eq_nil_of_length_eq_zero l0
    have er : (B, (0 : Int)) = P19.appR B q := by
      unfold P19.appR
      rw [qn, ascB_of hc.aB, fits_app hc.aB (p := []) (valB_iff.1 rfl) (fits_nil _)]
      rfl
    refine ⟨⟨S, b, o, t, lo, lt, q, need, L, d, od, B, 0, hs, tb, hc, er⟩, ?_⟩
    (repeat' first | exact trivial | exact rfl | refine And.intro ?_ ?_)
  clear lB lq hc
  obtain ⟨S, b, o, t, lo, lt, q, need, L, d, od, want, w, hs, tb, hc, er⟩ := x
  dsimp only
  have ol : (od.length : Int) = S.free := by rw [hc.eo]; exact order_free hc.ap.wf
  have stay : (w = 0 ->0 < q.length ->¬ S.free < need) ->PW5 B S b o t lo lt q need L d od want w := fun z => ⟨hs, tb, w, hc, er, by unfold wF; rw [if_neg (fun y => z y.1 y.2.1 y.2.2)]⟩
  refine ⟨brS_of (fun c => brS_of (fun g => brS_of (fun u => ?_) fun u => ?_) fun g => ?_) fun c => ?_, fun x _ => ?_⟩
  · have c : w = 0 := by simpa using c
    have g : 0 < q.length := by have := of_decide_eq_true g; omega
    have u : S.free < need := by have := of_decide_eq_true u; omega
    refine ⟨⟨S, b, o, t, lo, lt, q, need, L, d, od, want, 2, hs, tb, w, hc, er, by unfold wF; rw [if_pos ⟨c, g, u⟩]⟩, ?_⟩
    (repeat' first | exact trivial | exact rfl | refine And.intro ?_ ?_)
  · refine ⟨⟨S, b, o, t, lo, lt, q, need, L, d, od, want, w, stay fun _ _ => by have := of_decide_eq_false u; omega⟩, ?_⟩
    (repeat' first | exact trivial | exact rfl | refine And.intro ?_ ?_)
  · refine ⟨⟨S, b, o, t, lo, lt, q, need, L, d, od, want, w, stay fun _ z => by have := of_decide_eq_false g; omega⟩, ?_⟩
    (repeat' first | exact trivial | exact rfl | refine And.intro ?_ ?_)
  · refine ⟨⟨S, b, o, t, lo, lt, q, need, L, d, od, want, w, stay fun z _ => absurd z (by simpa using c)⟩, ?_⟩
    (repeat' first | exact trivial | exact rfl | refine And.intro ?_ ?_)
  clear stay ol er hc
  obtain ⟨S, b, o, t, lo, lt, q, need, L, d, od, want, w, hs, tb, w0, hc, er, ew⟩ := x
  dsimp only
  refine ⟨hs, tb, hc.ap, fun S1 i e r => ⟨⟨?_, fun d1 o1 e1 e2 => ?_⟩, fun x _ => ?_⟩⟩
  · obtain ⟨_, r1, r2⟩ := ap_ref hc er r
    by_cases z : e = 0
    · rcases (r2 z).2 with ⟨q0, q1, q2⟩ | ⟨_, q2⟩
      · have hl := hc.ap.hl
        rw [q2]
        rw [q1]
        exact ⟨_, retL_wf hc.ap.wf hc.ap.rep.us (by omega)⟩
      · exact ⟨_, q2.got.wf⟩
    · obtain ⟨_, m, hm, q2⟩ := r1 z
      have rd := hc.rd
      rw [q2]; exact ⟨_, hc.ap.wf.rd (by omega)⟩
  · refine ⟨⟨S1, b, o, t, lo, lt, q, need, L, d, od, want, w, i, e, S, hs, tb, w0, hc, er, ew, r⟩, ?_⟩
    (repeat' first | exact trivial | exact rfl | exact e1 | exact e2 | refine And.intro ?_ ?_)
  clear ew er hc
  obtain ⟨S, b, o, t, lo, lt, q, need, L, d, od, want, w, i, e, S0, hs, tb, w0, hc, er, ew, r⟩ := x
  dsimp only
  obtain ⟨r0, r1, r2⟩ := ap_ref hc er r
  have hee : e = w := by rw [r0, ew]
  have w9 := hc.ap.wf
  have sl0 := slots_le w9
  have ol0 := order_len w9
  refine brS_of (fun c => ?_) fun _ => ⟨brS_of (fun c => ?_) fun c => ?_, fun x _ => ?_⟩
  · have c : e ≠ w := by simpa using c
    exact absurd hee c
  · have c : e ≠ 0 := by simpa using c
    obtain ⟨q1, m, hm, q2⟩ := r1 c
    subst q2
    exact bt7 (by rw [q1]; rfl) ⟨hc.ed.symm, hc.eo.symm, by show (slotsOf S0).length <=_; omega, by show (orderOf S0).length <=_; omega, h⟩
  · have c : e = 0 := by simpa using c
    refine ⟨⟨S, b, o, t, lo, lt, q, need, L, d, od, want, w, i, e, ⟨S0, hs, tb, w0, hc, er, ew, r⟩, c⟩, ?_⟩
    (repeat' first | exact trivial | exact rfl | refine And.intro ?_ ?_)
  clear ol0 sl0 w9 hee r2 r1 r0 r ew er hc
  obtain ⟨S, b, o, t, lo, lt, q, need, L, d, od, want, w, i, e, ⟨S0, hs, tb, w0, hc, er, ew, r⟩, e0⟩ := x
  dsimp only
  obtain ⟨_, _, r2⟩ := ap_ref hc er r
  obtain ⟨ewant, r3⟩ := r2 e0
  have w9 := hc.ap.wf
  have sl0 := slots_le w9
  have hl := hc.ap.hl
  have len := hc.len
  have asc : Asc (perfE B q) := by
    rcases r with ⟨v, z, _⟩ | ⟨v, _, z, _⟩ | ⟨v, _⟩ | ⟨v, _⟩ | ⟨v, _⟩
    · omega
    · omega
    all_goals exact (perf_spec (valB_iff.1 v).1 hc.aB).1
  have fin : ∀ {S : Arn}, TrR S0 hs (perfE B q) 65537 2000000000 S i ->(slotsOf S).length <=1000000 /\(∃ t3 : Tr, RepD (slotsOf S) t3 i /\Asc t3.list /\t3.Bal /\t3.size <=2 * (slotsOf S).length + 2 /\t3.size <=1000000 /\t3.list = want) /\keptD d (slotsOf S) /\d.length <=1000000 /\(L.length + [i].length) * bytesOf C0 EC.u32 <=140737488355328 /\∃ hs2 : List Int, Wf S hs2 /\(L ++ [i]).Perm hs2 /\(L ++ [i]).length <=1000000 /\K (.one (.at (vB true))) [.row false EC.ent raw, .row false EC.edm e1, .row false EC.chg p] [] := fun {S} tr => by
    have wS := tr.got.wf
    have sl := slots_le wS
    obtain ⟨u, rp, lu, bu⟩ := tr.tree
    exact ⟨by omega, by rw [ewant]; exact tr_tree wS rp lu bu asc, by rw [hc.ed]; exact kept_of w9 tr.got.stay tr.got.len, by rw [hc.ed]; omega, by rw [bytes_u32]; simp; omega, _, wS, permE i hc.pm, by simp; omega, h⟩
  refine brS_of (fun c => ?_) fun c => ?_
  · have c : 0 < q.length := by have := of_decide_eq_true c; omega
    rcases r3 with ⟨z, _⟩ | ⟨_, tr⟩
    · omega
    · exact fin tr
  · have c : q.length = 0 := by have := of_decide_eq_false c; omega
    rcases r3 with ⟨_, z1, z2⟩ | ⟨z, _⟩
    · have qn : q = [] := List.eq_nil_of_length_eq_zero c
      have rd := hc.ap.rd
      have tr : TrR S0 hs (perfE B q) 65537 2000000000 S i := by
        rw [z1]
        refine hold_tr (m := 0) w9 hc.ap.rep hc.ap.bal (by omega) (by omega) (by rw [rdS_zero, ← z1]; exact z2) (by omega) ?_
        rw [qn, hc.eb]; rfl
      refine bt7 (by rw [z1]; simp) (bt7 (by rw [z2, retL_orders, hc.eo]; simp) (fin tr))
    · omega
theorem s_mw : SoundT C0 3 tMw := by
  refine .of Tryz.func3 (by decide) rfl fun args H K h hB => ?_
  unfold tMw at h
  split at h <;> try exact h.elim
  rename_i t f raw e1 p
  refine ⟨_, ?_, vc_mw raw e1 p t f K h.1 h.2.1 h.2.2.1 h.2.2.2.1 h.2.2.2.2.1 h.2.2.2.2.2⟩
  exact ⟨s_fkA, frame C0.ok s_aw20 _, frame C0.ok s_dif _, frame C0.ok s_nAp _, frame C0.ok s_sq _, frame C0.ok s_dump _, frame C0.ok P19.s_app19 _, frame C0.ok s_ap _, frame C0.ok s_sameD _, frame C0.ok s_sound _, frame C0.ok s_tr7 _, frame C0.ok s_kept _, trivial⟩
end Go.Proofs.YtmjnoiajenoinaaGreat.Sx
end
section
/- What every law's last step leans on. -/
namespace Go.Proofs.YtmjnoiajenoinaaGreat
open Go.ChangeShapes Go.WideShapes Go.ChangeAt Go.RowKit

theorem ownK : ownKnob Tryz.prog.godebug = none := by kernel_rfl
theorem laidO : laidOutB Tryz.prog = true := by kernel_rfl

theorem lit_i64 {a : Int} (h : (Lit.int .i64 a).wf = true) : -9223372036854775808 <=a /\a <=9223372036854775807 := by
  have h1 : IntKind.i64.min = -9223372036854775808 := rfl
  have h2 : IntKind.i64.max = 9223372036854775807 := rfl
  simp only [Lit.wf, Bool.and_eq_true, decide_eq_true_eq] at h
  omega
theorem lit_u64 {a : Int} (h : (Lit.int .u64 a).wf = true) : 0 <=a /\a <=18446744073709551615 := by
  have h1 : IntKind.u64.min = 0 := rfl
  have h2 : IntKind.u64.max = 18446744073709551615 := rfl
  simp only [Lit.wf, Bool.and_eq_true, decide_eq_true_eq] at h
  omega
theorem lit_u16 {a : Int} (h : (Lit.int .u16 a).wf = true) : 0 <=a /\a <=65535 := by
  have h1 : IntKind.u16.min = 0 := rfl
  have h2 : IntKind.u16.max = 65535 := rfl
  simp only [Lit.wf, Bool.and_eq_true, decide_eq_true_eq] at h
  omega
end Go.Proofs.YtmjnoiajenoinaaGreat
end
section
/- From contracts to laws: the arguments as they come, what a law's call leaves. -/
namespace Go.Proofs.YtmjnoiajenoinaaGreat.Sx
open Go Go.Joins Go.ChangeShapes Go.WideShapes Go.ChangeAt Go.RowKit

theorem Sat.imms {C : Ctx} {w : World} (vs : List Value) (H : List (Chunk C)) (h : ∀ (n : Nat) (c : Chunk C), H[n]? = some c ->∃ e l, c = .row false e l /\Imm C w (vs.getD n undef) e l) : Sat C (fun n => vs.getD n undef) (fun _ _ => False) w H where
  holds n c hc := by
    obtain ⟨e, l, rfl, hi⟩ := h n c hc
    exact ⟨hi, fun _ hh => hh⟩
  dis _ _ _ hh := hh.elim
  bd _ _ hh := hh.elim
  imm _ _ _ _ _ _ hh := hh
  out _ _ _ hh := hh
  cl n c hc m hm := by
    obtain ⟨e, l, rfl, _⟩ := h n c hc
    simp [Chunk.names] at hm

theorem lawOf {f : FuncId} {t : Tfm C0} (hs : SoundT C0 f t) {args : List TV} {H : List (Chunk C0)} {vs : List Value} {σ : Nat ->Value} {w : World} (ht : ∀ K : KT, K (.one (.at (vB true))) H [] ->t args H K)
    (hsat : Sat C0 σ (fun _ _ => False) w H) (hr : Rels (TV.rel σ) args vs) (hn : ∀ x ∈ args, ∀ m ∈ x.names, m < H.length) : Calls Tryz.prog f vs.toArray w (fun e w' => e = .returned (.bool true) /\Below w.heap.size w w') := by
  have hc := hs.call args H (fun r _ _ => r = .one (.at (vB true))) (ht _ rfl) σ _ w vs hsat hr hn
  refine Calls.mono hc fun e w' hh => ?_
  cases e with
  | panicked ch => exact hh.elim
  | outgrown => exact hh.elim
  | returned v =>
    obtain ⟨r, H', ts, σ', φ', hout, rfl⟩ := hh
    have hv : v = .bool true := hout.rel
    exact ⟨by rw [hv], hout.adv.os, hout.adv.tape, hout.adv.output, hout.adv.size, fun k hk => hout.adv.fr k hk fun n hh => hh⟩

section
variable {HH : Type} {enc : TypeId × Value ->HH} {P : Program} {w : World} {base b0 : Nat} {spare : Nat ->Bool} {held : Bool} {r : Reach}
theorem openRowQ {α : Type} [Inhabited α] {t e : TypeId} {f : α ->List Value} {Q : α ->Prop} {sz : Nat} {v : Value} {d : DataW HH} {p : List MemPlace} (ht : P.underlying t = some (.slice e)) (hC : P.cellsOf e = sz) (hpos : 0 < sz) (hf : ∀ x, (f x).length = sz)
    (hel : ∀ {n : Nat} {cs : List Value} {x : DataW HH × List MemPlace}, DataW.trod enc P w base spare held n e cs = some x ->∃ a, cs = f a /\Q a) (hv : Value.okWide P w r b0 t v) (h : DataW.Trod enc P w base spare held t v d p) :
    ∃ A n c l, v = .slice A n c /\Rd f sz w A n c l /\∀ x ∈ l, Q x := by
  obtain ⟨A, n, c, rfl⟩ := okWide_slice ht hv
  obtain ⟨fuel, hh⟩ := h
  have hh : DataW.trod enc P w base spare held fuel t [.slice A n c] = some (d, p) := by simpa [Value.cells] using hh
  rcases Go.Deep.open_slice ht hh with ⟨h1, _⟩ | ⟨a, len, cap, m, k, D, Pl, h1, hb, hle, hm, hmm, hx, hall⟩
  · simp only [List.cons.injEq, Value.slice.injEq, and_true] at h1
    obtain ⟨rfl, rfl, rfl⟩ := h1
    exact ⟨none, 0, 0, [], rfl, Rd.nil hf, fun x hx => by simp at hx⟩
  · simp only [List.cons.injEq, Value.slice.injEq, and_true] at h1
    obtain ⟨rfl, rfl, rfl⟩ := h1
    have hlm : n <=m := by rw [hmm]; split <;> omega
    have hel' : ∀ i, i < n ->∃ x : α, w.cells? base (a.add (i * P.cellsOf e)) (P.cellsOf e) = some (f x) /\Q x := fun i hi => by
      obtain ⟨cs', hc1, hc2⟩ := hall i (by omega)
      obtain ⟨x, rfl, hq⟩ := hel hc2
      exact ⟨x, hc1, hq⟩
    obtain ⟨F, hF⟩ := Go.Deep.choose_lt hel'
    have cell : ∀ i, i < n ->∀ j, j < sz ->w.cell? ((a.add (i * sz)).add j) = (f (F i))[j]? := fun i hi j hj => by
      have h2 := (hF i hi).1
      rw [hC] at h2
      unfold World.cells? at h2
      split at h2
      · exact mapM_some_get h2 j j (by simp [hj])
      · cases h2
    refine ⟨some a, n, c, (List.range n).map F, rfl, ⟨by simp, hle, hm, hf, fun h => (by cases h), fun hn => ?_⟩, fun x hx => by obtain ⟨i, hi, rfl⟩ := List.mem_map.1 hx; exact (hF i (List.mem_range.1 hi)).2⟩
    obtain ⟨b, o, sp⟩ := a
    have hsome : ∀ i, i < n ->∀ j, j < sz ->∃ u, w.cell? (((⟨b, o, sp⟩ : Addr).add (i * sz)).add j) = some u := fun i hi j hj => by
      rw [cell i hi j hj]
      exact ⟨_, List.getElem?_eq_getElem (by rw [hf]; exact hj)⟩
    obtain ⟨u0, hu0⟩ := hsome 0 hn 0 hpos
    have hspot : sp = none := by simpa [Addr.add] using World.cell?_spot hu0
    subst hspot
    refine ⟨b, o, rfl, ?_, fun k x hx j u hu => ?_⟩
    · have hu1 : w.cell? ⟨b, o, none⟩ = some u0 := by simpa [Addr.add] using hu0
      unfold World.cell? at hu1
      split at hu1
      · rename_i hb2
        exact (Array.getElem?_eq_some_iff.1 hb2).1
      · cases hu1
    · rw [List.getElem?_map] at hx
      have hk : k < n := by
        rcases Nat.lt_or_ge k n with h2 | h2
        · exact h2
        · rw [List.getElem?_eq_none (by simpa using h2)] at hx; cases hx
      rw [List.getElem?_range hk] at hx
      simp only [Option.map_some, Option.some.injEq] at hx
      subst hx
      have hj : j < sz := by
        have := (List.getElem?_eq_some_iff.1 hu).1
        rwa [hf] at this
      have h3 := cell k hk j hj
      rw [hu] at h3
      rw [← h3]
      congr 1
      rw [Go.WideShapes.add_plain, Go.WideShapes.add_plain]
theorem openRow {α : Type} [Inhabited α] {t e : TypeId} {f : α ->List Value} {sz : Nat} {v : Value} {d : DataW HH} {p : List MemPlace} (ht : P.underlying t = some (.slice e)) (hC : P.cellsOf e = sz) (hpos : 0 < sz) (hf : ∀ x, (f x).length = sz)
    (hel : ∀ {n : Nat} {cs : List Value} {x : DataW HH × List MemPlace}, DataW.trod enc P w base spare held n e cs = some x ->∃ a, cs = f a) (hv : Value.okWide P w r b0 t v) (h : DataW.Trod enc P w base spare held t v d p) :
    ∃ A n c l, v = .slice A n c /\Rd f sz w A n c l := by
  obtain ⟨A, n, c, l, h1, h2, _⟩ := openRowQ (Q := fun _ => True) ht hC hpos hf (fun h => by obtain ⟨a, e⟩ := hel h; exact ⟨a, e, trivial⟩) hv h
  exact ⟨A, n, c, l, h1, h2⟩
end

section
variable {HH : Type} {enc : TypeId × Value ->HH} {w : World} {base b0 : Nat} {spare : Nat ->Bool} {held : Bool} {r : Reach}
set_option maxRecDepth 100000 in
theorem elC {n : Nat} {cs : List Value} {x : DataW HH × List MemPlace} (h : DataW.trod enc Tryz.prog w base spare held n 72 cs = some x) : ∃ a : Chg, cs = EC.enc .chg a := by
  obtain ⟨y0, y1, y2, y3, m, _, hl, h0, h1, h2, h3⟩ := Go.Joins.trod_struct4 Tryz.underlying72 h
  obtain ⟨k, e0, _⟩ := DataW.trod_int Tryz.underlying3 h0
  obtain ⟨v, e1, _⟩ := DataW.trod_int Tryz.underlying2 h1
  obtain ⟨s, e2, _⟩ := DataW.trod_int Tryz.underlying2 h2
  obtain ⟨u, e3, _⟩ := DataW.trod_int Tryz.underlying2 h3
  have hl : cs.length = 4 := hl.trans (by kernel_rfl)
  have c1 : Tryz.prog.cellsOf 2 = 1 := by kernel_rfl
  have c2 : Tryz.prog.cellsOf 3 = 1 := by kernel_rfl
  match cs, hl with
  | [a, b, c, d], _ =>
    simp [c1, c2] at e0 e1 e2 e3
    exact ⟨⟨k, v, s, u⟩, by rw [e0, e1, e2, e3]; rfl⟩
set_option maxRecDepth 100000 in
theorem elEw {n : Nat} {cs : List Value} {x : DataW HH × List MemPlace} (h : DataW.trod enc Tryz.prog w base spare held n 56 cs = some x) :
    ∃ a : Ent, cs = EC.enc .ent a /\((-9223372036854775808 <=a.1 /\a.1 <=9223372036854775807) /\(-9223372036854775808 <=a.2 /\a.2 <=9223372036854775807)) := by
  obtain ⟨y0, y1, m, _, hl, h0, h1⟩ := trod_struct2 Tryz.underlying56 h
  obtain ⟨k, e0, _, w0⟩ := DataW.trod_int Tryz.underlying2 h0
  obtain ⟨v, e1, _, w1⟩ := DataW.trod_int Tryz.underlying2 h1
  have hl : cs.length = 2 := hl.trans (by kernel_rfl)
  have c1 : Tryz.prog.cellsOf 2 = 1 := by kernel_rfl
  match cs, hl with
  | [a, b], _ =>
    simp [c1] at e0 e1
    exact ⟨(k, v), by rw [e0, e1]; rfl, lit_i64 w0, lit_i64 w1⟩
set_option maxRecDepth 100000 in
/-- The same with what the entries' numbers are. -/
theorem openEw {v : Value} {d : DataW HH} {p : List MemPlace} (hv : Value.okWide Tryz.prog w r b0 22 v) (h : DataW.Trod enc Tryz.prog w base spare held 22 v d p) :
    ∃ (l : List Ent), Imm C0 w v EC.ent l /\∀ x ∈ l, (-9223372036854775808 <=x.1 /\x.1 <=9223372036854775807) /\(-9223372036854775808 <=x.2 /\x.2 <=9223372036854775807) := by
  obtain ⟨A, n, c, l, rfl, hr, hq⟩ := openRowQ (α := Ent) (f := fun x => EC.enc .ent x) (sz := 2) Tryz.underlying22 (by kernel_rfl) (by decide) (fun _ => rfl) (fun h => elEw h) hv h
  obtain rfl := hr.len
  exact ⟨l, ⟨A, c, rfl, hr⟩, hq⟩
instance : Inhabited Chg := ⟨⟨0, 0, 0, 0⟩⟩
set_option maxRecDepth 100000 in
theorem openC {v : Value} {d : DataW HH} {p : List MemPlace} (hv : Value.okWide Tryz.prog w r b0 25 v) (h : DataW.Trod enc Tryz.prog w base spare held 25 v d p) :
    ∃ (l : List Chg), Imm C0 w v EC.chg l := by
  obtain ⟨A, n, c, l, rfl, hr⟩ := openRow (α := Chg) (f := fun x => EC.enc .chg x) (sz := 4) Tryz.underlying25 (by kernel_rfl) (by decide) (fun _ => rfl) (fun h => elC h) hv h
  obtain rfl := hr.len
  exact ⟨l, A, c, rfl, hr⟩
end
end Go.Proofs.YtmjnoiajenoinaaGreat.Sx
end
section
/- Opening an argument that is a slice of edits (merge). -/
namespace Go.Proofs.YtmjnoiajenoinaaGreat.Sx
open Go Go.Joins Go.ChangeShapes Go.WideShapes Go.ChangeAt Go.RowKit

section
variable {HH : Type} {enc : TypeId × Value ->HH} {w : World} {base b0 : Nat} {spare : Nat ->Bool} {held : Bool} {r : Reach}
set_option maxRecDepth 100000 in
theorem elF {n : Nat} {cs : List Value} {x : DataW HH × List MemPlace} (h : DataW.trod enc Tryz.prog w base spare held n 120 cs = some x) : ∃ a : EdtT, cs = EC.enc .edm a /\((-9223372036854775808 <=a.ent.1 /\a.ent.1 <=9223372036854775807) /\(-9223372036854775808 <=a.ent.2 /\a.ent.2 <=9223372036854775807)) := by
  obtain ⟨y0, y1, y2, m, _, hl, h0, h1, h2⟩ := Go.Deep.trod_struct3 Tryz.underlying120 h
  obtain ⟨k, e0, _⟩ := DataW.trod_bool Tryz.underlying4 h0
  obtain ⟨v, e1, _⟩ := DataW.trod_int Tryz.underlying3 h1
  obtain ⟨s, e2, q2⟩ := elEw h2
  have hl : cs.length = 4 := hl.trans (by kernel_rfl)
  have c1 : Tryz.prog.cellsOf 4 = 1 := by kernel_rfl
  have c2 : Tryz.prog.cellsOf 3 = 1 := by kernel_rfl
  have c3 : Tryz.prog.cellsOf 56 = 2 := by kernel_rfl
  match cs, hl with
  | [a, b, c, d], _ =>
    simp [c1, c2, c3] at e0 e1 e2
    have e2 : [c, d] = [Value.int .i64 s.1, Value.int .i64 s.2] := e2
    simp only [List.cons.injEq, and_true] at e2
    exact ⟨⟨k, v, s⟩, by rw [e0, e1, e2.1, e2.2]; rfl, q2⟩
instance : Inhabited EdtT := ⟨⟨false, 0, (0, 0)⟩⟩
set_option maxRecDepth 100000 in
theorem openF {v : Value} {d : DataW HH} {p : List MemPlace} (hv : Value.okWide Tryz.prog w r b0 24 v) (h : DataW.Trod enc Tryz.prog w base spare held 24 v d p) :
    ∃ (l : List EdtT), Imm C0 w v EC.edm l /\∀ x ∈ l, (-9223372036854775808 <=x.ent.1 /\x.ent.1 <=9223372036854775807) /\(-9223372036854775808 <=x.ent.2 /\x.ent.2 <=9223372036854775807) := by
  obtain ⟨A, n, c, l, rfl, hr, hq⟩ := openRowQ (α := EdtT) (f := fun x => EC.enc .edm x) (sz := 4) Tryz.underlying24 (by kernel_rfl) (by decide) (fun _ => rfl) (fun h => elF h) hv h
  obtain rfl := hr.len
  exact ⟨l, ⟨A, c, rfl, hr⟩, hq⟩
end
end Go.Proofs.YtmjnoiajenoinaaGreat.Sx
end
section
/- 'MergeApplies': the law returns true for every input, and its arguments read afterwards as they read before. -/
namespace Go.Proofs.YtmjnoiajenoinaaGreat.mergeApplies
open Go.ChangeShapes Go.WideShapes Go.ChangeAt Go.RowKit Sx

set_option maxRecDepth 100000 in
theorem lifted (os : Os) (started : os.Started) (H : Type) (enc : TypeId × Value ->H) :
    ReturnsInHanded {} Tryz.checked os 3 .any (Rows.mergeAppliesSpec.pre6 enc Tryz.prog Tryz.f3 Rows.mergeAppliesRow.domain false) (Rows.mergeAppliesSpec.post enc Tryz.prog Tryz.f3 false true false false) := by
  refine returnsInHanded_of_change (C := Tryz.checked) ownK started (by kernel_rfl) Tryz.func3
    (ChangeSpec.witness6 (enc := enc) (C := Tryz.checked) false ⟨#[], #[.slice none 0 0, .int .u64 0, .slice none 0 0, .slice none 0 0, .int .u16 0], []⟩ 8 (by kernel_rfl) (by kernel_rfl) (by kernel_rfl) (by kernel_rfl)) ?_
  intro W base args ds gs before hval0 hW hcnd _
  have hval : ∀ (j : Nat) t v, Tryz.f3.params[j]? = some t ->args[j]? = some v ->Value.okWide Tryz.prog W .any base t v := hval0
  have hW' := hW
  obtain ⟨p, q, hA0, hV, rfl, hfz, hnd⟩ := hW
  have hA : DataW.TrodAll enc Tryz.prog W 0 (fun _ => true) true Tryz.f3.params.toList args.toList ds p := hA0
  rw [Tryz.params3] at hA hval
  obtain ⟨v0, vs0, d0, ds0, p0, q0, hargs, rfl, rfl, h0, r0⟩ := trodAll_cons hA
  obtain ⟨v1, vs1, d1, ds1, p1, q1, rfl, rfl, rfl, h1, r1⟩ := trodAll_cons r0
  obtain ⟨v2, vs2, d2, ds2, p2, q2, rfl, rfl, rfl, h2, r2⟩ := trodAll_cons r1
  obtain ⟨v3, vs3, d3, ds3, p3, q3, rfl, rfl, rfl, h3, r3⟩ := trodAll_cons r2
  obtain ⟨v4, vs4, d4, ds4, p4, q4, rfl, rfl, rfl, h4, r4⟩ := trodAll_cons r3
  obtain ⟨rfl, rfl, rfl⟩ := trodAll_nil r4
  obtain rfl : args = #[v0, v1, v2, v3, v4] := by cases args; simp_all
  obtain ⟨rfl, rfl⟩ := trodVars_none hV
  have k0 := h0
  have k1 := h1
  have k2 := h2
  have k3 := h3
  have k4 := h4
  clear hA0 hval0
  simp only [List.append_nil] at hW'
  have hlt : ∀ x ∈ p0 ++ (p1 ++ (p2 ++ (p3 ++ (p4)))), x.block < W.heap.size := fun x hx => by simpa using hW'.lt x (by simpa using hx)
  have l0 : ∀ x ∈ p0, x.block < W.heap.size := fun x hx => hlt x (by simp [hx])
  have l1 : ∀ x ∈ p1, x.block < W.heap.size := fun x hx => hlt x (by simp [hx])
  have l2 : ∀ x ∈ p2, x.block < W.heap.size := fun x hx => hlt x (by simp [hx])
  have l3 : ∀ x ∈ p3, x.block < W.heap.size := fun x hx => hlt x (by simp [hx])
  have l4 : ∀ x ∈ p4, x.block < W.heap.size := fun x hx => hlt x (by simp [hx])
  obtain ⟨L0, R0, Q0⟩ := openEw (hval 0 22 v0 rfl rfl) h0
  obtain ⟨a1, rfl, rfl, rfl, w1⟩ := open_int Tryz.underlying23 (hval 1 23 v1 rfl rfl) h1
  have b1 := lit_u64 w1
  obtain ⟨L2, R2, Q2⟩ := openF (hval 2 24 v2 rfl rfl) h2
  obtain ⟨L3, R3⟩ := openC (hval 3 25 v3 rfl rfl) h3
  obtain ⟨a4, rfl, rfl, rfl, w4⟩ := open_int Tryz.underlying26 (hval 4 26 v4 rfl rfl) h4
  have b4 := lit_u16 w4
  refine (lawOf s_mw (args := [.at (.slc 0), .at (.val (.int .u64 a1)), .at (.slc 1), .at (.slc 2), .at (.val (.int .u16 a4))]) (H := [Chunk.row false EC.ent L0, Chunk.row false EC.edm L2, Chunk.row false EC.chg L3]) (vs := [v0, .int .u64 a1, v2, v3, .int .u16 a4]) (σ := fun n => [v0, v2, v3].getD n undef) (w := W) (fun K h => ⟨b1.1, b4.1, b4.2, fun x hx => (Q0 x hx).1, fun x hx => (Q2 x hx).1, h⟩)
    (Sat.imms [v0, v2, v3] _ fun n c hc => by match n, hc with | 0, hc => exact ⟨_, _, (Option.some.inj hc).symm, R0⟩ | 1, hc => exact ⟨_, _, (Option.some.inj hc).symm, R2⟩ | 2, hc => exact ⟨_, _, (Option.some.inj hc).symm, R3⟩ | n + 3, hc => simp at hc) (Rels.cons rfl (Rels.cons rfl (Rels.cons rfl (Rels.cons rfl (Rels.cons rfl Rels.nil))))) (by simp [TV.names, At.names])).mono fun e W' ⟨he, hg⟩ => ?_
  subst he
  exact ⟨_, rfl, _, _, _, [] ++ [], _, [], hW', (trodAll_cons_mk (shut_bool Tryz.underlying4 true) trodAll_mk0), (trodAll_cons_mk (Below.trod laidO (by kernel_rfl) (of_decide_eq_true (by kernel_rfl)) k0 hg l0) (trodAll_cons_mk (Below.trod laidO (by kernel_rfl) (of_decide_eq_true (by kernel_rfl)) k1 hg l1) (trodAll_cons_mk (Below.trod laidO (by kernel_rfl) (of_decide_eq_true (by kernel_rfl)) k2 hg l2) (trodAll_cons_mk (Below.trod laidO (by kernel_rfl) (of_decide_eq_true (by kernel_rfl)) k3 hg l3) (trodAll_cons_mk (Below.trod laidO (by kernel_rfl) (of_decide_eq_true (by kernel_rfl)) k4 hg l4) trodAll_mk0))))), rfl, hg.frame _, fun h => by cases h⟩

theorem over : Rows.mergeAppliesRow.holds Tryz.pinned (OpenSpec.ofChange Rows.mergeAppliesSpec) :=
  OpenClaim.holds_of_wide 3 Tryz.f3 rfl rfl rfl rfl rfl rfl rfl ⟨rfl, rfl, rfl, rfl, rfl⟩ rfl rfl rfl rfl rfl (by kernel_rfl) Tryz.func3 (by kernel_rfl)
    (of_decide_eq_true (by kernel_rfl)) (by unfold Func.isWrapper; first | (rw [if_pos (by decide +kernel)]; kernel_rfl) | (rw [if_neg (by decide +kernel)]; exact ⟨rfl, rfl⟩))
    (fun os started H enc _ => lifted os started H enc)

theorem proved : Rows.MergeAppliesSaid := over
#print axioms proved
end Go.Proofs.YtmjnoiajenoinaaGreat.mergeApplies
end
