/- A part of the proof. -/
import Derived.Test.YtmjnoiajenoinaaGreatG5
import Derived.Test.YtmjnoiajenoinaaGreatG1
import Derived.Test.YtmjnoiajenoinaaGreatG2
section
/- Small facts on states. -/
namespace Go.Proofs.YtmjnoiajenoinaaGreat.Sx
open Go

theorem rdS_zero (S : Arn) : rdS S 0 = S := by simp [rdS]
theorem rdS_rdS (S : Arn) (a b : Nat) : rdS (rdS S a) b = rdS S (a + b) := by simp [rdS]; omega
theorem rep_rd {S : Arn} {t : Tr} {i : Int} (h : Rep S t i) (n : Nat) : Rep (rdS S n) t i := Rep.same (S := S) (S' := rdS S n) (fun _ => rfl) (fun _ => rfl) h
theorem inU_of {S : Arn} {hs : List Int} (h : Wf S hs) {i : Int} (hi : live S i) : inU i := by
  have h2 := h.n2
  rcases hi with rfl | hi
  · exact ⟨by decide, by decide⟩
  · have := h.pos hi; exact ⟨by omega, by omega⟩
end Go.Proofs.YtmjnoiajenoinaaGreat.Sx
end
section
/- reserve, ref8: how many slots an operation may need; lookup.Get. -/
namespace Go.Proofs.YtmjnoiajenoinaaGreat.Sx
open Go

/-KEEP okI Wf exW inU live Rep rdS Tr.size Tr.list getE Asc ht wt Hn-/
theorem htr_size : ∀ t : Tr, ht t <=t.size
  | .nil => Nat.le_refl _
  | .node l k v r => by
    have h1 := htr_size l
    have h2 := htr_size r
    rw [ht, Tr.size]
    split <;> omega
structure XGe (S : Arn) (t : Tr) (q : Int) where
  i : Int
  t' : Tr
  m : Nat
  h : Rep S t' i /\getE t.list q = getE t'.list q /\Asc t'.list /\m + ht t' <=ht t /\t'.size <=t.size
noncomputable def aGetT (S : Arn) (t : Tr) (q : Int) : Ann C0 := { Γ := [(60, frameT [] tNode)], inv := fun n => match n with
  | 2 => some { X := XGe S t q, sl := [8], tf := fun x => [vi .u32 x.i], hf := fun x => chS (rdS S x.m), μ := fun x => x.t'.size, wr := [0] }
  | _ => none }
def tGetT : Tfm C0 := fun args H K => match args with
  | [.at (.ptr 0 0), .at (.val (.int .u32 i)), .at (.val (.int .i64 q))] => arM H fun S => ∃ hs t, Wf S hs /\Rep S t i /\Asc t.list /\t.size <=1000000 /\S.reads + t.size <=3000000000000000000 ∧
    ∀ S' m o, S' = rdS S m ->m <=ht t ->o = getE t.list q ->K (.tup [.at (vI (o.getD 0)), .at (vB o.isSome)]) (chS S') [0]
  | _ => False
structure XMx (n : Int) where
  h : Nat
  p : h <=80 /\wt h <=n + 1
noncomputable def aMxh (n : Int) : Ann C0 := { Γ := [], inv := fun k => match k with
  | 4 => some { X := XMx n, sl := [3, 4], tf := fun x => [vi .i64 x.h, vi .i64 (wt x.h)], hf := fun _ => [], μ := fun x => 80 - x.h }
  | _ => none }
def tMxh : Tfm C0 := fun args H K => match args, H with
  | [.at (.val (.int .i64 n))], [] => 0 <=n /\n <=1000000 /\∀ h, h = Hn n ->K (.one (.at (vI h))) [] []
  | _, _ => False
def okI (l : List Int) : Prop := ∀ i : Nat, i < l.length ->0 <=l.getD i 0 /\l.getD i 0 <=65536
structure XVd (l : List Int) where
  i : Nat
  h : i <=l.length
noncomputable def aVld (l : List Int) : Ann C0 := { Γ := [], inv := fun k => match k with
  | 2 => some { X := XVd l, sl := [7], tf := fun x => [vi .i64 x.i], hf := fun _ => [.row false EC.int l], μ := fun x => l.length - x.i }
  | _ => none }
def tVld : Tfm C0 := fun args H K => match args, H with
  | [.at (.slc 0)], [.row false .int l] => okI l /\l.length <=100 /\K (.one (.at (vB true))) [.row false EC.int l] []
  | _, _ => False
noncomputable def aPath : Ann C0 := { Γ := [(93, frameT [] tMxh)] }
def tPath : Tfm C0 := fun args H K => match args, H with
  | [.at (.val (.int .i64 f)), .at (.val (.int .i64 n))], [] => 0 <=f /\f <=100 /\0 <=n /\n <=1000000 /\∀ p, p = f * (Hn n + 2) ->K (.one (.at (vI p))) [] []
  | _, _ => False
noncomputable def aRes : Ann C0 := { Γ := [(77, frameT [] tVld), (78, frameT [] tPath)] }
def tRes1 (f d : Int) : Tfm C0 := fun args H K => match args, H with
  | [.at (.val (.int .i64 n))], [] => 0 <=n /\n <=65536 /\∀ p, p = f * (Hn (n + d) + 2) ->K (.one (.at (vI p))) [] []
  | _, _ => False
noncomputable def aNeed : Ann C0 := { Γ := [(67, frameT [] tMh)] }
def tNeed : Tfm C0 := fun args H K => match args, H with
  | [.at (.val (.int .i64 a)), .at (.val (.int .i64 b)), .at (.val (.int .i64 c)), .at (.val (.int .i64 m)), .at (.val (.int .i64 e)), .at (.val (.int .i64 f))], [] => 0 <=a /\a <=65536 /\0 <=b /\b <=65536 /\0 <=c /\c <=65536 /\0 <=m /\m <=10 /\0 <=e /\e <=200000 /\0 <=f /\f <=100 /\∀ p, p = e + f * (Hn (a + b + c + m) + 2) ->K (.one (.at (vI p))) [] []
  | _, _ => False
noncomputable def aN8 : Ann C0 := { Γ := [(27, frameT [] tNeed)] }
theorem vc_getT (S : Arn) (i q : Int) (K : KT) (hs : List Int) (t : Tr) (hw : Wf S hs) (hr : Rep S t i) (ha : Asc t.list) (_ : t.size <=1000000) (h2 : S.reads + t.size <=3000000000000000000)
    (h : ∀ S' m o, S' = rdS S m ->m <=ht t ->o = getE t.list q ->K (.tup [.at (vI (o.getD 0)), .at (vB o.isSome)]) (chS S') [0]) :
    vc C0 (aGetT S t q) Tryz.f19 [.at (.ptr 0 0), .at (vU i), .at (vI q)] (chS S) (normK 7 (wideK [0] K)) := by
  refine Eq.mp (show ((∃ x : XGe S t q, (True/\(True/\((Value.int .i64 (q)) = (Value.int .i64 (q)))/\((Value.int .u32 (i)) = (Value.int .u32 (x.i)))/\True)/\(True/\True/\True/\((Value.int .u64 (S.reads)) = (Value.int .u64 ((rdS S x.m).reads)))/\True)/\(True/\True/\True/\((Value.int .u32 (S.fresh)) = (Value.int .u32 ((rdS S x.m).fresh)))/\True)/\((S.nodes) = ((rdS S x.m).nodes))/\((S.counts) = ((rdS S x.m).counts))/\((S.used) = ((rdS S x.m).used))/\((S.gen) = ((rdS S x.m).gen))/\((S.rel) = ((rdS S x.m).rel))/\True)) ∧
(∀ x : XGe S t q, (True->(brS (x.i != 0) (((inU x.i)/\(exW (rdS S x.m))/\((rdS S x.m).reads < 4000000000000000000)/\(∀ S' : Arn, (((S') = (rdS (rdS S x.m) ((rdS S x.m).us x.i).toNat))->(brS (!(rdS S x.m).us x.i) ((K (SV.tup [(TV.at (At.val (Value.int .i64 0))), (TV.at (At.val (Value.bool false)))]) [(Chunk.box [(At.ptr 1 0), (At.slc 2), (At.slc 3), (At.val (Value.int .u64 (S'.reads)))]), (Chunk.box [(At.slc 4), (At.slc 5), (At.slc 6), (At.val (Value.int .u32 (S'.fresh)))]), (Chunk.row true (EC.node) (S'.nodes)), (Chunk.row true (EC.int) (S'.counts)), (Chunk.row true (EC.bool) (S'.used)), (Chunk.row true (EC.u32) (S'.gen)), (Chunk.row true (EC.u32) (S'.rel))] [0])) ((brS (decide (q < ((rdS S x.m).nd x.i).key)) ((∃ x' : XGe S t q, (True/\((True/\((Value.int .i64 (q)) = (Value.int .i64 (q))) ∧
    ((Value.int .u32 (((rdS S x.m).nd x.i).left)) = (Value.int .u32 (x'.i)))/\True)/\(True/\True/\True/\((Value.int .u64 (S'.reads)) = (Value.int .u64 ((rdS S x'.m).reads)))/\True)/\(True/\True/\True/\((Value.int .u32 (S'.fresh)) = (Value.int .u32 ((rdS S x'.m).fresh)))/\True)/\((S'.nodes) = ((rdS S x'.m).nodes))/\((S'.counts) = ((rdS S x'.m).counts))/\((S'.used) = ((rdS S x'.m).used))/\((S'.gen) = ((rdS S x'.m).gen))/\((S'.rel) = ((rdS S x'.m).rel))/\True)/\(x'.t'.size < x.t'.size)))) ((brS (decide (q > ((rdS S x.m).nd x.i).key)) ((∃ x' : XGe S t q, (True/\((True/\((Value.int .i64 (q)) = (Value.int .i64 (q)))/\((Value.int .u32 (((rdS S x.m).nd x.i).right)) = (Value.int .u32 (x'.i)))/\True)/\(True/\True/\True/\((Value.int .u64 (S'.reads)) = (Value.int .u64 ((rdS S x'.m).reads)))/\True)/\(True/\True/\True/\((Value.int .u32 (S'.fresh)) = (Value.int .u32 ((rdS S x'.m).fresh)))/\True)/\((S'.nodes) = ((rdS S x'.m).nodes))/\((S'.counts) = ((rdS S x'.m).counts))/\((S'.used) = ((rdS S x'.m).used))/\((S'.gen) = ((rdS S x'.m).gen))/\((S'.rel) = ((rdS S x'.m).rel))/\True)/\(x'.t'.size < x.t'.size))))
    ((K (SV.tup [(TV.at (At.val (Value.int .i64 (((rdS S x.m).nd x.i).value)))), (TV.at (At.val (Value.bool true)))]) [(Chunk.box [(At.ptr 1 0), (At.slc 2), (At.slc 3), (At.val (Value.int .u64 (S'.reads)))]), (Chunk.box [(At.slc 4), (At.slc 5), (At.slc 6), (At.val (Value.int .u32 (S'.fresh)))]), (Chunk.row true (EC.node) (S'.nodes)), (Chunk.row true (EC.int) (S'.counts)), (Chunk.row true (EC.bool) (S'.used)), (Chunk.row true (EC.u32) (S'.gen)), (Chunk.row true (EC.u32) (S'.rel))] [0]))))))))))) ((K (SV.tup [(TV.at (At.val (Value.int .i64 0))), (TV.at (At.val (Value.bool false)))]) [(Chunk.box [(At.ptr 1 0), (At.slc 2), (At.slc 3), (At.val (Value.int .u64 ((rdS S x.m).reads)))]), (Chunk.box [(At.slc 4), (At.slc 5), (At.slc 6), (At.val (Value.int .u32 ((rdS S x.m).fresh)))]), (Chunk.row true (EC.node) ((rdS S x.m).nodes)), (Chunk.row true (EC.int) ((rdS S x.m).counts)), (Chunk.row true (EC.bool) ((rdS S x.m).used)), (Chunk.row true (EC.u32) ((rdS S x.m).gen)), (Chunk.row true (EC.u32) ((rdS S x.m).rel))] [0])))))) = _ by kernel_rfl) ?_
  have hrd := hw.rds
  have hts := htr_size t
  refine ⟨⟨⟨i, t, 0, hr, rfl, ha, by omega, Nat.le_refl _⟩, ?_⟩, fun x _ => ?_⟩
  · (repeat' first | exact trivial | exact rfl | refine And.intro ?_ ?_)
    rw [rdS_zero]
  obtain ⟨xi, xt, xm, h1', h2', h3', h4', h5'⟩ := x
  dsimp only
  have hwx : Wf (rdS S xm) hs := hw.rd (by omega)
  refine brS_of (fun c => ?_) fun c => ?_
  · have c : xi ≠ 0 := by simpa using c
    cases xt with
    | nil => exact absurd h1' c
    | node l k v r =>
      obtain ⟨r1, r2, r3, r4, r5⟩ := h1'
      have q1 := ht_l l r k v
      have q2 := ht_r l r k v
      have hsz : l.size + r.size + 1 = (Tr.node l k v r).size := by simp [Tr.size]; omega
      have asc' : Asc (l.list ++ (k, v) :: r.list) := h3'
      obtain ⟨al, ar, _, _⟩ := asc_parts asc'
      refine ⟨inU_of hw (.inr r1), ⟨_, hwx⟩, by show S.reads + (xm : Int) < _; omega, fun S1 e1 => brS_of (fun d => ?_) fun _ => ?_⟩
      · have d : (!S.us xi) = true := d
        rw [r1] at d; cases d
      have e1 : S1 = rdS S (xm + 1) := by rw [e1, rdS_rdS]; show rdS S (xm + (S.us xi).toNat) = _; rw [r1]; rfl
      subst e1
      have ek : ((rdS S xm).nd xi).key = k := r2
      have ev : ((rdS S xm).nd xi).value = v := r3
      rw [ek]
      refine brS_of (fun d => ?_) fun d => brS_of (fun d2 => ?_) fun d2 => ?_
      · have d : q < k := of_decide_eq_true d
        refine ⟨⟨(S.nd xi).left, l, xm + 1, r4, by rw [h2']; exact getE_left asc' d, al, by omega, by omega⟩, ?_⟩
        (repeat' first | exact trivial | exact rfl | refine And.intro ?_ ?_)
        show l.size < (Tr.node l k v r).size; omega
      · have d2 : k < q := of_decide_eq_true d2
        refine ⟨⟨(S.nd xi).right, r, xm + 1, r5, by rw [h2']; exact getE_right asc' d2, ar, by omega, by omega⟩, ?_⟩
        (repeat' first | exact trivial | exact rfl | refine And.intro ?_ ?_)
        show r.size < (Tr.node l k v r).size; omega
      · have d : ¬ q < k := of_decide_eq_false d
        have d2 : ¬ k < q := of_decide_eq_false d2
        have eq : k = q := by omega
        subst eq
        rw [ev]
        exact h _ (xm + 1) (some v) rfl (by omega) (by rw [h2']; exact (getE_at asc').symm)
  · have c : xi = 0 := by simpa using c
    subst c
    have e := h1'.zero hw
    subst e
    exact h _ xm none rfl (by omega) (by rw [h2']; rfl)
theorem s_getT : SoundT C0 19 tGetT := by
  refine .ofW [0] Tryz.func19 (by decide) rfl fun args H K h hB => ?_
  unfold tGetT at h
  split at h <;> try exact h.elim
  unfold arM at h
  split at h <;> try exact h.elim
  rename_i i q _ rd fr nd ct us gn rl
  obtain ⟨hs, t, h1, h2, h3, h4, h5, h6⟩ := h
  exact ⟨aGetT ⟨us, gn, rl, fr, nd, ct, rd⟩ t q, ⟨frame C0.ok s_node _, trivial⟩, vc_getT ⟨us, gn, rl, fr, nd, ct, rd⟩ i q K hs t h1 h2 h3 h4 h5 h6⟩
theorem tdiv3 {x : Int} (h : 0 <=x) : x.tdiv 3 = x / 3 := Int.tdiv_eq_ediv_of_nonneg h
theorem Hn_top {n : Int} (h : 0 <=n) {k : Nat} (h1 : k <=80) (h2 : wt k <=n + 1) (h3 : k = 80 ∨ n + 1 < wt (k + 1)) : (k : Int) = Hn n := by
  have e := gN_size n.toNat
  rw [show ((n.toNat : Nat) : Int) = n by omega] at e
  have a := gN_le (w := n.toNat + 1) h1 (by omega)
  have b := gN_wt (w := n.toNat + 1) (by omega)
  have c := gN_rng (n.toNat + 1)
  rcases h3 with h3 | h3
  · omega
  · by_cases d : k + 1 <=gN (n.toNat + 1)
    · have := wt_mono d c; omega
    · omega
theorem vc_mxh (n : Int) (K : KT) (h1 : 0 <=n) (h2 : n <=1000000) (h : ∀ h, h = Hn n ->K (.one (.at (vI h))) [] []) : vc C0 (aMxh n) Tryz.f93 [.at (vI n)] [] (normK 0 K) := by
  refine Eq.mp (show (brS (decide (n < 0)) ((K (SV.one (TV.at (At.val (Value.int .i64 (-1))))) [] [])) ((brS (decide (n > 2147483647)) ((K (SV.one (TV.at (At.val (Value.int .i64 (-1))))) [] [])) (((∃ x : XMx n, (True/\(((Value.int .i64 (n)) = (Value.int .i64 (n)))/\((Value.int .i64 0) = (Value.int .i64 ((↑x.h : Int))))/\((Value.int .i64 1) = (Value.int .i64 (wt x.h)))/\True)/\True))/\(∀ x : XMx n, (True->(brS (decide ((↑x.h : Int) < 80)) ((brS (decide (IntKind.i64.wrap (IntKind.i64.wrap (wt x.h + IntKind.i64.wrap ((IntKind.i64.wrap (wt x.h + 2)).tdiv 3)) - 1) > n)) ((K (SV.one (TV.at (At.val (Value.int .i64 ((↑x.h : Int)))))) [] [])) ((∃ x' : XMx n, (True/\((((Value.int .i64 (n)) = (Value.int .i64 (n)))/\((Value.int .i64 (IntKind.i64.wrap ((↑x.h : Int) + 1))) = (Value.int .i64 ((↑x'.h : Int))))/\((Value.int .i64 (IntKind.i64.wrap (wt x.h + IntKind.i64.wrap ((IntKind.i64.wrap (wt x.h + 2)).tdiv 3)))) = (Value.int .i64 (wt x'.h)))/\True)/\True)/\(80 - x'.h < 80 - x.h)))))) ((K (SV.one (TV.at (At.val (Value.int .i64 ((↑x.h : Int)))))) [] [])))))))))) = _ by kernel_rfl) ?_
  refine brS_of (fun c => by have := of_decide_eq_true c; omega) fun _ => brS_of (fun c => by have : n > 2147483647 := of_decide_eq_true c; omega) fun _ => ⟨⟨⟨0, by decide, by rw [w0]; omega⟩, ?_⟩, fun x _ => brS_of (fun c => ?_) fun c => ?_⟩
  · (repeat' first | exact trivial | exact rfl | refine And.intro ?_ ?_)
  · obtain ⟨k, p1, p2⟩ := x
    have c : (k : Int) < 80 := of_decide_eq_true c
    have c : k < 80 := by omega
    have st := wt_step k c
    have lo : 1 <=wt k := by have := wt_mono (Nat.zero_le k) p1; rw [w0] at this; exact this
    dsimp only
    rw [wrap_id (x := wt k + 2) (by omega) (by omega), tdiv3 (by omega), wrap_id (x := (wt k + 2) / 3) (by omega) (by omega), wrap_id (x := wt k + (wt k + 2) / 3) (by omega) (by omega), wrap_id (x := wt k + (wt k + 2) / 3 - 1) (by omega) (by omega), ← st]
    refine brS_of (fun d => ?_) fun d => ?_
    · have d : wt (k + 1) - 1 > n := of_decide_eq_true d
      exact h _ (Hn_top h1 p1 p2 (.inr (by omega)))
    · have d : ¬ wt (k + 1) - 1 > n := of_decide_eq_false d
      refine ⟨⟨k + 1, c, by omega⟩, ?_⟩
      (repeat' first | exact trivial | exact rfl | refine And.intro ?_ ?_)
      · rw [wrap_id (x := (k : Int) + 1) (by omega) (by omega)]; congr 1
      · show 80 - (k + 1) < 80 - k; omega
  · obtain ⟨k, p1, p2⟩ := x
    have c : ¬ (k : Int) < 80 := of_decide_eq_false c
    have c : k = 80 := by omega
    exact h _ (Hn_top h1 p1 p2 (.inl c))
theorem s_mxh : SoundT C0 93 tMxh := by
  refine .of Tryz.func93 (by decide) rfl fun args H K h hB => ?_
  unfold tMxh at h
  split at h <;> try exact h.elim
  rename_i n
  exact ⟨aMxh n, trivial, vc_mxh n K h.1 h.2.1 h.2.2⟩
theorem vc_vld (l : List Int) (K : KT) (h1 : okI l) (h2 : l.length <=100) (h : K (.one (.at (vB true))) [.row false EC.int l] []) : vc C0 (aVld l) Tryz.f77 [.at (.slc 0)] [.row false EC.int l] (normK 1 K) := by
  refine Eq.mp (show ((∃ x : XVd l, (True/\(True/\((Value.int .i64 ((↑l.length : Int))) = (Value.int .i64 ((↑l.length : Int))))/\((Value.int .i64 0) = (Value.int .i64 ((↑x.i : Int))))/\True)/\((l) = (l))/\True)) ∧
(∀ x : XVd l, (True->(brS (decide ((↑x.i : Int) < (↑l.length : Int))) (((0<=(↑x.i : Int))/\((↑x.i : Int) < (↑l.length : Int))/\(brS (decide (l.getD (↑x.i : Int).toNat 0 < 0)) ((K (SV.one (TV.at (At.val (Value.bool false)))) [(Chunk.row false (EC.int) (l))] [])) ((brS (decide (l.getD (↑x.i : Int).toNat 0 > 65536)) ((K (SV.one (TV.at (At.val (Value.bool false)))) [(Chunk.row false (EC.int) (l))] [])) ((∃ x' : XVd l, (True/\((True/\((Value.int .i64 ((↑l.length : Int))) = (Value.int .i64 ((↑l.length : Int))))/\((Value.int .i64 (IntKind.i64.wrap ((↑x.i : Int) + 1))) = (Value.int .i64 ((↑x'.i : Int))))/\True)/\((l) = (l))/\True)/\(l.length - x'.i < l.length - x.i))))))))) ((K (SV.one (TV.at (At.val (Value.bool true)))) [(Chunk.row false (EC.int) (l))] [])))))) = _ by kernel_rfl) ?_
  refine ⟨⟨⟨0, Nat.zero_le _⟩, ?_⟩, fun x _ => brS_of (fun c => ?_) fun c => h⟩
  · (repeat' first | exact trivial | exact rfl | refine And.intro ?_ ?_)
  · obtain ⟨i, hi⟩ := x
    have c : (i : Int) < l.length := of_decide_eq_true c
    have c : i < l.length := by omega
    obtain ⟨a, b⟩ := h1 i c
    refine ⟨by omega, by omega, brS_of (fun d => ?_) fun _ => brS_of (fun d => ?_) fun _ => ⟨⟨i + 1, c⟩, ?_⟩⟩
    · have d : l.getD i 0 < 0 := of_decide_eq_true d
      omega
    · have d : l.getD i 0 > 65536 := of_decide_eq_true d
      omega
    · (repeat' first | exact trivial | exact rfl | refine And.intro ?_ ?_)
      · rw [wrap_id (x := (i : Int) + 1) (by omega) (by omega)]; congr 1
      · show l.length - (i + 1) < l.length - i; omega
theorem s_vld : SoundT C0 77 tVld := by
  refine .of Tryz.func77 (by decide) rfl fun args H K h hB => ?_
  unfold tVld at h
  split at h <;> try exact h.elim
  rename_i l
  exact ⟨aVld l, trivial, vc_vld l K h.1 h.2.1 h.2.2⟩
theorem s_path : SoundT C0 78 tPath := by
  refine .of Tryz.func78 (by decide) rfl fun args H K h hB => ?_
  unfold tPath at h
  split at h <;> try exact h.elim
  rename_i f n
  obtain ⟨h1, h2, h3, h4, h5⟩ := h
  refine ⟨aPath, ⟨frame C0.ok s_mxh _, trivial⟩, Eq.mp (show ((0<=n) ∧
(n<=1000000) ∧
(∀ h : Int, (((h) = (Hn n))->(K (SV.one (TV.at (At.val (Value.int .i64 (IntKind.i64.wrap (f * IntKind.i64.wrap (h + 2))))))) [] [])))) = _ by kernel_rfl) ⟨h3, h4, fun p e => ?_⟩⟩
  have r := Hn_rng n
  subst e
  have hb : f * (Hn n + 2) <=100 * 82 := Int.mul_le_mul h2 (by omega) (by omega) (by omega)
  have ha : 0 <=f * (Hn n + 2) := Int.mul_nonneg h1 (by omega)
  rw [wrap_id (x := Hn n + 2) (by omega) (by omega), wrap_id (x := f * (Hn n + 2)) (by omega) (by omega)]
  exact h5 _ rfl
theorem okI_one {n : Int} (h1 : 0 <=n) (h2 : n <=65536) : okI [n] := by
  intro i hi
  have : i = 0 := by simpa using hi
  subst this
  exact ⟨h1, h2⟩
theorem okI_two {n m : Int} (h1 : 0 <=n) (h2 : n <=65536) (h3 : 0 <=m) (h4 : m <=65536) : okI [n, m] := by
  intro i hi
  match i, hi with
  | 0, _ => exact ⟨h1, h2⟩
  | 1, _ => exact ⟨h3, h4⟩
  | i + 2, hi => simp at hi; omega
theorem s_rIns : SoundT C0 90 (tRes1 4 1) := by
  refine .of Tryz.func90 (by decide) rfl fun args H K h hB => ?_
  unfold tRes1 at h
  split at h <;> try exact h.elim
  rename_i n
  obtain ⟨h1, h2, h3⟩ := h
  refine ⟨aRes, ⟨frame C0.ok s_vld _, frame C0.ok s_path _, trivial⟩, Eq.mp (show ((okI [n]) ∧
([n].length<=100) ∧
((0 : Int)<=4) ∧
((4 : Int)<=100) ∧
(0<=IntKind.i64.wrap (n + 1)) ∧
(IntKind.i64.wrap (n + 1)<=1000000) ∧
(∀ p : Int, (((p) = (4 * (Hn (IntKind.i64.wrap (n + 1)) + 2)))->(K (SV.one (TV.at (At.val (Value.int .i64 (p))))) [] [])))) = _ by kernel_rfl) ?_⟩
  rw [wrap_id (x := n + 1) (by omega) (by omega)]
  exact ⟨okI_one h1 h2, by simp, by decide, by decide, by omega, by omega, h3⟩
theorem s_rDel : SoundT C0 89 (tRes1 4 0) := by
  refine .of Tryz.func89 (by decide) rfl fun args H K h hB => ?_
  unfold tRes1 at h
  split at h <;> try exact h.elim
  rename_i n
  obtain ⟨h1, h2, h3⟩ := h
  refine ⟨aRes, ⟨frame C0.ok s_vld _, frame C0.ok s_path _, trivial⟩, Eq.mp (show ((okI [n]) ∧
([n].length<=100) ∧
((0 : Int)<=4) ∧
((4 : Int)<=100) ∧
(0<=n) ∧
(n<=1000000) ∧
(∀ p : Int, (((p) = (4 * (Hn n + 2)))->(K (SV.one (TV.at (At.val (Value.int .i64 (p))))) [] [])))) = _ by kernel_rfl) ?_⟩
  exact ⟨okI_one h1 h2, by simp, by decide, by decide, by omega, by omega, fun p e => h3 p (by rw [e, Int.add_zero])⟩
theorem s_need : SoundT C0 27 tNeed := by
  refine .of Tryz.func27 (by decide) rfl fun args H K h hB => ?_
  unfold tNeed at h
  split at h <;> try exact h.elim
  rename_i a b c m e f
  obtain ⟨a1, a2, b1, b2, c1, c2, m1, m2, e1, e2, f1, f2, h⟩ := h
  refine ⟨aNeed, ⟨frame C0.ok s_mh _, trivial⟩, Eq.mp (show (brS (decide (a < 0)) ((K (SV.one (TV.at (At.val (Value.int .i64 (-1))))) [] [])) ((brS (decide (a > 65536)) ((K (SV.one (TV.at (At.val (Value.int .i64 (-1))))) [] [])) ((brS (decide (b < 0)) ((K (SV.one (TV.at (At.val (Value.int .i64 (-1))))) [] [])) ((brS (decide (b > 65536)) ((K (SV.one (TV.at (At.val (Value.int .i64 (-1))))) [] [])) ((brS (decide (c < 0)) ((K (SV.one (TV.at (At.val (Value.int .i64 (-1))))) [] [])) ((brS (decide (c > 65536)) ((K (SV.one (TV.at (At.val (Value.int .i64 (-1))))) [] [])) (((0<=IntKind.i64.wrap (IntKind.i64.wrap (IntKind.i64.wrap (a + b) + c) + m))/\(IntKind.i64.wrap (IntKind.i64.wrap (IntKind.i64.wrap (a + b) + c) + m)<=2147483647)/\(∀ h : Int, (((h) = (Hn (IntKind.i64.wrap (IntKind.i64.wrap (IntKind.i64.wrap (a + b) + c) + m))))->(K (SV.one (TV.at (At.val (Value.int .i64 (IntKind.i64.wrap (e + IntKind.i64.wrap (f * IntKind.i64.wrap (h + 2)))))))) [] [])))))))))))))))) = _ by kernel_rfl) ?_⟩
  rw [wrap_id (x := a + b) (by omega) (by omega), wrap_id (x := a + b + c) (by omega) (by omega), wrap_id (x := a + b + c + m) (by omega) (by omega)]
  refine brS_of (fun q => by have := of_decide_eq_true q; omega) fun _ => brS_of (fun q => by have : a > 65536 := of_decide_eq_true q; omega) fun _ => brS_of (fun q => by have := of_decide_eq_true q; omega) fun _ => brS_of (fun q => by have : b > 65536 := of_decide_eq_true q; omega) fun _ =>
    brS_of (fun q => by have := of_decide_eq_true q; omega) fun _ => brS_of (fun q => by have : c > 65536 := of_decide_eq_true q; omega) fun _ => ⟨by omega, by omega, fun p ep => ?_⟩
  have r := Hn_rng (a + b + c + m)
  subst ep
  have hb : f * (Hn (a + b + c + m) + 2) <=100 * 82 := Int.mul_le_mul f2 (by omega) (by omega) (by omega)
  have ha : 0 <=f * (Hn (a + b + c + m) + 2) := Int.mul_nonneg f1 (by omega)
  rw [wrap_id (x := Hn (a + b + c + m) + 2) (by omega) (by omega), wrap_id (x := f * (Hn (a + b + c + m) + 2)) (by omega) (by omega), wrap_id (by omega) (by omega)]
  exact h _ rfl
theorem s_nIns : SoundT C0 23 (tRes1 4 1) := by
  refine .of Tryz.func23 (by decide) rfl fun args H K h hB => ?_
  unfold tRes1 at h
  split at h <;> try exact h.elim
  rename_i n
  obtain ⟨h1, h2, h3⟩ := h
  refine ⟨aN8, ⟨frame C0.ok s_need _, trivial⟩, Eq.mp (show ((0<=n) ∧
(n<=65536) ∧
((0 : Int)<=0) ∧
((0 : Int)<=65536) ∧
((0 : Int)<=0) ∧
((0 : Int)<=65536) ∧
((0 : Int)<=1) ∧
((1 : Int)<=10) ∧
((0 : Int)<=0) ∧
((0 : Int)<=200000) ∧
((0 : Int)<=4) ∧
((4 : Int)<=100) ∧
(∀ p : Int, (((p) = (0 + 4 * (Hn (n + 0 + 0 + 1) + 2)))->(K (SV.one (TV.at (At.val (Value.int .i64 (p))))) [] [])))) = _ by kernel_rfl) ?_⟩
  exact ⟨h1, h2, by decide, by decide, by decide, by decide, by decide, by decide, by decide, by decide, by decide, by decide, fun p e => h3 p (by rw [e]; simp)⟩
end Go.Proofs.YtmjnoiajenoinaaGreat.Sx
end
section
/- The reference's lists: what their functions answer. -/
namespace Go.Proofs.YtmjnoiajenoinaaGreat.Sx
open Go

theorem wrap_in {x : Int} (h0 : -9223372036854775808 <=x) (h1 : x <=9223372036854775807) : IntKind.i64.wrap x = x := by
  rw [IntKind.wrap_i64]; omega
def iA (p : List Int) (n : Nat) : Int := p.getD n 0
theorem iA_get {p : List Int} {n : Nat} (h : n < p.length) : p[n]? = some (iA p n) := by simp [iA, List.getD_eq_getElem?_getD, List.getElem?_eq_getElem h]
theorem drop_eq_iff {α : Type} {l m : List α} {k : Nat} {x y : α} (hl : l[k]? = some x) (hm : m[k]? = some y) : (l.drop k = m.drop k) ↔ x = y /\l.drop (k + 1) = m.drop (k + 1) := by
  rw [drop_cons hl, drop_cons hm, List.cons.injEq]
def sameB {α : Type} [DecidableEq α] (l m : List α) : Bool := decide (l = m)
structure XS {α : Type} [DecidableEq α] (l m : List α) where
  i : Nat
  h : i <=l.length /\l.length = m.length /\sameB l m = decide (l.drop i = m.drop i)
theorem XS.stop {α : Type} [DecidableEq α] {l m : List α} (z : XS l m) {x y : α} (hx : l[z.i]? = some x) (hy : m[z.i]? = some y) (hne : x ≠ y) : sameB l m = false := by
  rw [z.h.2.2]; apply decide_eq_false; rw [drop_eq_iff hx hy]; exact fun h => hne h.1
theorem XS.next {α : Type} [DecidableEq α] {l m : List α} (z : XS l m) {x y : α} (hx : l[z.i]? = some x) (hy : m[z.i]? = some y) (he : x = y) : ∃ z' : XS l m, z'.i = z.i + 1 := by
  have h1 := (List.getElem?_eq_some_iff.1 hx).1
  refine ⟨⟨z.i + 1, by omega, z.h.2.1, ?_⟩, rfl⟩
  rw [z.h.2.2]
  apply decide_eq_decide.2
  rw [drop_eq_iff hx hy]
  exact ⟨fun h => h.2, fun h => ⟨he, h⟩⟩
theorem XS.fin {α : Type} [DecidableEq α] {l m : List α} (z : XS l m) (h : z.i = l.length) : sameB l m = true := by
  rw [z.h.2.2, h, List.drop_length, z.h.2.1, List.drop_length]; rfl
theorem asc_step {l : List Ent} {k : Nat} {x y : Ent} (hx : l[k]? = some x) (hy : l[k + 1]? = some y) : Asc (l.drop k) ↔ x.1 < y.1 /\Asc (l.drop (k + 1)) := by
  rw [drop_cons hx, drop_cons hy]
  constructor
  · intro h; exact ⟨h.head _ (by simp), h.tail⟩
  · rintro ⟨h1, h2⟩
    refine h2.cons fun z hz => ?_
    rcases List.mem_cons.1 hz with rfl | hz
    · exact h1
    · have := h2.head z hz; omega
structure XA (l : List Ent) where
  i : Nat
  h : 1 <=i /\(i <=l.length ∨ i = 1) /\(Asc l ↔ Asc (l.drop (i - 1)))
theorem XA.split {l : List Ent} (z : XA l) (hi : z.i < l.length) : (ascB l = true ↔ (eA l (z.i - 1)).1 < (eA l z.i).1 /\Asc (l.drop z.i)) := by
  obtain ⟨k, hk⟩ : ∃ k, z.i = k + 1 := ⟨z.i - 1, by have := z.h.1; omega⟩
  have h1 := eA_get (p := l) (n := k) (by omega)
  have h2 := eA_get (p := l) (n := k + 1) (by omega)
  have h3 := asc_step h1 h2
  have h4 := z.h.2.2
  rw [hk] at h4 ⊢
  simp only [Nat.add_sub_cancel] at h4 ⊢
  rw [ascB, decide_eq_true_eq, h4, h3]
theorem XA.fin {l : List Ent} (z : XA l) (hi : l.length <=z.i) : ascB l = true := by
  rw [ascB, decide_eq_true_eq, z.h.2.2]
  have : (l.drop (z.i - 1)).length <=1 := by simp; omega
  match l.drop (z.i - 1), this with
  | [], _ => exact Srt.nil
  | [x], _ => exact Srt.nil.cons (by simp)
def tAsc : Tfm C0 := fun args H K => match args, H with
  | [.at (.slc 0)], [.row false .ent l] => K (.one (.at (vB (ascB l)))) [.row false EC.ent l] []
  | _, _ => False
noncomputable def aAsc (l : List Ent) : Ann C0 := { Γ := [], inv := fun n => match n with
  | 2 => some { X := XA l, sl := [3], tf := fun x => [vi .i64 x.i], hf := fun _ => [.row false EC.ent l], μ := fun x => l.length - x.i }
  | _ => none }
theorem vc_asc9 (l : List Ent) (K : KT) (hmax : l.length <=9223372036854775807) (h : K (.one (.at (vB (ascB l)))) [.row false EC.ent l] []) :
    vc C0 (aAsc l) Tryz.f35 [.at (.slc 0)] [.row false EC.ent l] (normK 1 K) := by
  refine Eq.mp (show ((∃ x : XA l, (True/\(True/\((Value.int .i64 1) = (Value.int .i64 ((↑x.i : Int))))/\True)/\((l) = (l))/\True)) ∧
(∀ x : XA l, (True->(brS (decide ((↑x.i : Int) < (↑l.length : Int))) (((0<=(↑x.i : Int))/\((↑x.i : Int) < (↑l.length : Int))/\(0<=IntKind.i64.wrap ((↑x.i : Int) - 1))/\(IntKind.i64.wrap ((↑x.i : Int) - 1) < (↑l.length : Int))/\(brS (decide ((eA l x.i).fst<=(l.getD (IntKind.i64.wrap ((↑x.i : Int) - 1)).toNat (0, 0)).fst)) ((K (SV.one (TV.at (At.val (Value.bool false)))) [(Chunk.row false (EC.ent) (l))] [])) ((∃ x' : XA l, (True/\((True/\((Value.int .i64 (IntKind.i64.wrap ((↑x.i : Int) + 1))) = (Value.int .i64 ((↑x'.i : Int))))/\True)/\((l) = (l))/\True)/\(l.length - x'.i < l.length - x.i))))))) ((K (SV.one (TV.at (At.val (Value.bool true)))) [(Chunk.row false (EC.ent) (l))] [])))))) = _ by kernel_rfl) ?_
  refine ⟨⟨⟨1, by omega, by omega, by simp⟩, by simp⟩, fun x _ => brS_of (fun hi => ?_) fun hi => ?_⟩
  · have hi : x.i < l.length := by simpa using hi
    have h1 := x.h.1
    have hs := x.split hi
    have e : ((x.i : Int) - 1).toNat = x.i - 1 := by omega
    rw [wrap_in (x := (x.i : Int) - 1) (by omega) (by omega)]
    simp only [e]
    refine ⟨by omega, by omega, by omega, by omega, brS_of (fun hd => ?_) fun hd => ?_⟩
    · have e : ascB l = false := by
        rw [Bool.eq_false_iff]
        intro hh
        have := (hs.1 hh).1
        simp [eA] at hd this
        omega
      rw [e] at h; exact h
    · refine ⟨⟨x.i + 1, by omega, by omega, ?_⟩, trivial, ?_, ?_⟩
      · rw [ascB, decide_eq_true_eq] at hs
        rw [hs, Nat.add_sub_cancel]
        refine ⟨fun h => h.2, fun h => ⟨?_, h⟩⟩
        simp [eA] at hd ⊢
        omega
      · rw [wrap_in (by omega) (by omega)]; simp
      · show l.length - (x.i + 1) < l.length - x.i
        omega
  · have e := x.fin (by simpa using hi)
    rw [e] at h; exact h
theorem s_asc9 : SoundT C0 35 tAsc := by
  refine .of Tryz.func35 (by decide) rfl fun args H K h hB => ?_
  unfold tAsc at h
  split at h <;> try exact h.elim
  rename_i l
  exact ⟨aAsc l, trivial, vc_asc9 l K (hB 0 _ _ _ rfl) h⟩
theorem getE_drop {l : List Ent} {i : Nat} {x : Ent} (h : l[i]? = some x) (q : Int) : getE (l.drop i) q = if x.1 = q then some x.2 else getE (l.drop (i + 1)) q := by
  rw [drop_cons h]; rfl
structure XGet (l : List Ent) (q : Int) where
  i : Nat
  h : i <=l.length /\getE l q = getE (l.drop i) q
noncomputable def aGet (l : List Ent) (q : Int) : Ann C0 := { Γ := [], inv := fun n => match n with
  | 2 => some { X := XGet l q, sl := [6], tf := fun x => [vi .i64 x.i], hf := fun _ => [.row false EC.ent l], μ := fun x => l.length - x.i }
  | _ => none }
def tGet : Tfm C0 := fun args H K => match args, H with
  | [.at (.slc 0), .at (.val (.int .i64 q))], [.row false .ent l] => ∀ x : Option Int, x = getE l q ->K (.tup [.at (vI (x.getD 0)), .at (vB x.isSome)]) [.row false EC.ent l] []
  | _, _ => False
theorem vc_get (l : List Ent) (q : Int) (K : KT) (hmax : l.length <=9223372036854775807) (h : ∀ x : Option Int, x = getE l q ->K (.tup [.at (vI (x.getD 0)), .at (vB x.isSome)]) [.row false EC.ent l] []) :
    vc C0 (aGet l q) Tryz.f26 [.at (.slc 0), .at (.val (.int .i64 q))] [.row false EC.ent l] (normK 1 K) := by
  refine Eq.mp (show ((∃ x : XGet l q, (True/\(True/\((Value.int .i64 (q)) = (Value.int .i64 (q)))/\((Value.int .i64 0) = (Value.int .i64 ((↑x.i : Int))))/\True)/\((l) = (l))/\True)) ∧
(∀ x : XGet l q, (True->(brS (decide ((↑x.i : Int) < (↑l.length : Int))) (((0<=(↑x.i : Int))/\((↑x.i : Int) < (↑l.length : Int))/\(brS ((eA l x.i).fst == q) (((0<=(↑x.i : Int))/\((↑x.i : Int) < (↑l.length : Int))/\(K (SV.tup [(TV.at (At.val (Value.int .i64 ((eA l x.i).snd)))), (TV.at (At.val (Value.bool true)))]) [(Chunk.row false (EC.ent) (l))] []))) ((∃ x' : XGet l q, (True/\((True/\((Value.int .i64 (q)) = (Value.int .i64 (q)))/\((Value.int .i64 (IntKind.i64.wrap ((↑x.i : Int) + 1))) = (Value.int .i64 ((↑x'.i : Int))))/\True)/\((l) = (l))/\True)/\(l.length - x'.i < l.length - x.i))))))) ((K (SV.tup [(TV.at (At.val (Value.int .i64 0))), (TV.at (At.val (Value.bool false)))]) [(Chunk.row false (EC.ent) (l))] [])))))) = _ by kernel_rfl) ?_
  refine ⟨⟨⟨0, Nat.zero_le _, rfl⟩, by simp⟩, fun x _ => brS_of (fun hi => ?_) fun hi => ?_⟩
  · have hi : x.i < l.length := by simpa using hi
    have hs := getE_drop (eA_get hi) q
    refine ⟨by omega, by omega, brS_of (fun hd => ⟨by omega, by omega, ?_⟩) fun hd => ?_⟩
    · have e : getE l q = some (eA l x.i).2 := by
        rw [x.h.2, hs, if_pos (by simpa using hd)]
      exact h (some _) e.symm
    · refine ⟨⟨x.i + 1, by omega, ?_⟩, trivial, ?_, ?_⟩
      · rw [x.h.2, hs, if_neg (by simpa using hd)]
      · rw [wrap_in (by omega) (by omega)]; simp
      · show l.length - (x.i + 1) < l.length - x.i
        omega
  · have hi : x.i = l.length := by have := x.h.1; simp at hi; omega
    have e : getE l q = none := by rw [x.h.2, hi, List.drop_length]; rfl
    exact h none e.symm
theorem s_get : SoundT C0 26 tGet := by
  refine .of Tryz.func26 (by decide) rfl fun args H K h hB => ?_
  unfold tGet at h
  split at h <;> try exact h.elim
  rename_i q l
  exact ⟨aGet l q, trivial, vc_get l q K (hB 0 _ _ _ rfl) h⟩
def outE (l : List Ent) (lo hi : Int) : List Ent := l.filter fun x => decide (x.1 < lo) || decide (hi < x.1)
structure XOut (l : List Ent) (lo hi : Int) where
  i : Nat
  h : i <=l.length
noncomputable def aOut (l : List Ent) (lo hi : Int) : Ann C0 := { Γ := [], inv := fun n => match n with
  | 3 => some { X := XOut l lo hi, sl := [8, 7], tf := fun x => [vi .i64 x.i, .one (.at (.slc 1))], hf := fun x => [.row false EC.ent l, .row true EC.ent (outE (l.take x.i) lo hi)], μ := fun x => l.length - x.i }
  | _ => none }
def tOut : Tfm C0 := fun args H K => match args, H with
  | [.at (.slc 0), .at (.val (.int .i64 lo)), .at (.val (.int .i64 hi))], [.row false .ent l] => l.length <=1000000 /\K (.one (.at (.slc 1))) [.row false EC.ent l, .row true EC.ent (outE l lo hi)] []
  | _, _ => False
theorem outE_snoc {l : List Ent} {lo hi : Int} {i : Nat} {x : Ent} (h : l[i]? = some x) : outE (l.take (i + 1)) lo hi = outE (l.take i) lo hi ++ (if (decide (x.1 < lo) || decide (hi < x.1)) = true then [x] else []) := by
  rw [take_snoc h]
  unfold outE
  rw [List.filter_append]
  simp only [List.filter_cons, List.filter_nil]
theorem outE_len (l : List Ent) (lo hi : Int) (i : Nat) : (outE (l.take i) lo hi).length <=i := by
  unfold outE
  exact Nat.le_trans (List.length_filter_le _ _) (List.length_take_le _ _)
theorem vc_out (l : List Ent) (lo hi : Int) (K : KT) (hsm : l.length <=1000000) (h : K (.one (.at (.slc 1))) [.row false EC.ent l, .row true EC.ent (outE l lo hi)] []) :
    vc C0 (aOut l lo hi) Tryz.f73 [.at (.slc 0), .at (.val (.int .i64 lo)), .at (.val (.int .i64 hi))] [.row false EC.ent l] (normK 1 K) := by
  refine Eq.mp (show ((∃ x : XOut l lo hi, (True/\(True/\((Value.int .i64 (lo)) = (Value.int .i64 (lo)))/\((Value.int .i64 (hi)) = (Value.int .i64 (hi)))/\True/\((Value.int .i64 0) = (Value.int .i64 ((↑x.i : Int))))/\True)/\((l) = (l))/\([] = (outE (List.take x.i l) lo hi))/\True)) ∧
(∀ x : XOut l lo hi, (True->(brS (decide ((↑x.i : Int) < (↑l.length : Int))) (((0<=(↑x.i : Int))/\((↑x.i : Int) < (↑l.length : Int))/\(brS (decide ((eA l x.i).fst < lo)) (((0<=(↑x.i : Int))/\((↑x.i : Int) < (↑l.length : Int))/\(((outE (List.take x.i l) lo hi).length + [((eA l x.i).fst, (eA l x.i).snd)].length) * bytesOf C0 EC.ent<=140737488355328)/\(∃ x' : XOut l lo hi, (True/\((True/\((Value.int .i64 (lo)) = (Value.int .i64 (lo)))/\((Value.int .i64 (hi)) = (Value.int .i64 (hi)))/\True/\((Value.int .i64 (IntKind.i64.wrap ((↑x.i : Int) + 1))) = (Value.int .i64 ((↑x'.i : Int))))/\True)/\((l) = (l))/\((outE (List.take x.i l) lo hi ++ [((eA l x.i).fst, (eA l x.i).snd)]) = (outE (List.take x'.i l) lo hi))/\True)/\(l.length - x'.i < l.length - x.i))))) (((0<=(↑x.i : Int))/\((↑x.i : Int) < (↑l.length : Int))/\(brS (decide ((eA l x.i).fst > hi)) (((0<=(↑x.i : Int))/\((↑x.i : Int) < (↑l.length : Int))/\(((outE (List.take x.i l) lo hi).length + [((eA l x.i).fst, (eA l x.i).snd)].length) * bytesOf C0 EC.ent<=140737488355328)/\(∃ x' : XOut l lo hi, (True/\((True ∧
    ((Value.int .i64 (lo)) = (Value.int .i64 (lo)))/\((Value.int .i64 (hi)) = (Value.int .i64 (hi)))/\True/\((Value.int .i64 (IntKind.i64.wrap ((↑x.i : Int) + 1))) = (Value.int .i64 ((↑x'.i : Int))))/\True)/\((l) = (l))/\((outE (List.take x.i l) lo hi ++ [((eA l x.i).fst, (eA l x.i).snd)]) = (outE (List.take x'.i l) lo hi))/\True)/\(l.length - x'.i < l.length - x.i))))) ((∃ x' : XOut l lo hi, (True/\((True/\((Value.int .i64 (lo)) = (Value.int .i64 (lo)))/\((Value.int .i64 (hi)) = (Value.int .i64 (hi)))/\True/\((Value.int .i64 (IntKind.i64.wrap ((↑x.i : Int) + 1))) = (Value.int .i64 ((↑x'.i : Int))))/\True)/\((l) = (l))/\((outE (List.take x.i l) lo hi) = (outE (List.take x'.i l) lo hi))/\True)/\(l.length - x'.i < l.length - x.i)))))))))) ((K (SV.one (TV.at (At.slc 1))) [(Chunk.row false (EC.ent) (l)), (Chunk.row true (EC.ent) (outE (List.take x.i l) lo hi))] [])))))) = _ by kernel_rfl) ?_
  refine ⟨⟨⟨0, Nat.zero_le _⟩, by simp [outE]⟩, fun x _ => brS_of (fun hi' => ?_) fun hi' => ?_⟩
  · have hi' : x.i < l.length := by simpa using hi'
    have hx := eA_get hi'
    have hs := outE_snoc (lo := lo) (hi := hi) hx
    have hlen := outE_len l lo hi x.i
    have nx : XOut l lo hi := ⟨x.i + 1, by omega⟩
    have w1 : IntKind.i64.wrap ((x.i : Int) + 1) = ((x.i + 1 : Nat) : Int) := by rw [wrap_in (by omega) (by omega)]; simp
    simp only [w1, bytes_ent]
    refine ⟨by omega, by omega, brS_of (fun h1 => ⟨by omega, by omega, ?_, ⟨⟨x.i + 1, by omega⟩, ?_⟩⟩) fun h1 => ⟨by omega, by omega, brS_of (fun h2 => ⟨by omega, by omega, ?_, ⟨⟨x.i + 1, by omega⟩, ?_⟩⟩) fun h2 => ⟨⟨x.i + 1, by omega⟩, ?_⟩⟩⟩
    · simp; omega
    · rw [if_pos (by simp only [decide_eq_true_eq] at h1; simp [h1])] at hs
      simp [hs]; omega
    · simp; omega
    · rw [if_pos (by simp only [decide_eq_true_eq] at h2; simp; omega)] at hs
      simp [hs]; omega
    · rw [if_neg (by simp only [decide_eq_false_iff_not] at h1 h2; simp; omega)] at hs
      simp [hs]; omega
  · have hi' : x.i = l.length := by have := x.h; simp at hi'; omega
    rw [hi', List.take_length]
    exact h
theorem s_out : SoundT C0 73 tOut := by
  refine .of Tryz.func73 (by decide) rfl fun args H K h hB => ?_
  unfold tOut at h
  split at h <;> try exact h.elim
  rename_i lo hi l
  exact ⟨aOut l lo hi, trivial, vc_out l lo hi K h.1 h.2⟩
structure XIns (l : List Ent) (e : Ent) where
  i : Nat
  acc : List Ent
  put : Bool
  h : i <=l.length /\acc.length <=i + put.toNat /\insE l e = acc ++ insGo e put (l.drop i)
noncomputable def aIns (l : List Ent) (e : Ent) : Ann C0 := { Γ := [], inv := fun n => match n with
  | 4 => some { X := XIns l e, sl := [7, 6, 5, 3], tf := fun x => [vi .i64 x.i, vb x.put, .one (.at (.slc 2)), .one (.at (.ptr 1 0))], hf := fun x => [.row false EC.ent l, .box [vI e.1, vI e.2], .row true EC.ent x.acc], μ := fun x => l.length - x.i }
  | _ => none }
def tIns : Tfm C0 := fun args H K => match args, H with
  | [.at (.slc 0), .agg [.val (.int .i64 k), .val (.int .i64 v)]], [.row false .ent l] => l.length <=1000000 /\K (.one (.at (.slc 1))) [.row false EC.ent l, .row true EC.ent (insE l (k, v))] []
  | _, _ => False
theorem insGo_step {e x : Ent} {put : Bool} {l : List Ent} {i : Nat} (h : l[i]? = some x) : insGo e put (l.drop i) = (if !put && decide (e.1 <=x.1) then [e] else []) ++ ((if x.1 = e.1 then [] else [x]) ++ insGo e (put || decide (e.1 <=x.1)) (l.drop (i + 1))) := by
  rw [drop_cons h, insGo]
theorem XIns.next {l : List Ent} {e : Ent} (z : XIns l e) {x : Ent} (hx : l[z.i]? = some x) {put' : Bool} {acc' : List Ent} (hp : put' = (z.put || decide (e.1 <=x.1)))
    (ha : acc' = z.acc ++ ((if !z.put && decide (e.1 <=x.1) then [e] else []) ++ (if x.1 = e.1 then [] else [x]))) : ∃ z' : XIns l e, z'.i = z.i + 1 /\z'.put = put' /\z'.acc = acc' := by
  have h1 := (List.getElem?_eq_some_iff.1 hx).1
  obtain ⟨hi, hl, he⟩ := z.h
  rw [insGo_step hx] at he
  refine ⟨⟨z.i + 1, acc', put', by omega, ?_, ?_⟩, rfl, rfl, rfl⟩
  · subst hp ha
    have h2 : (if x.1 = e.1 then ([] : List Ent) else [x]).length <=1 := by split <;> simp
    cases hz : z.put <;> rw [hz] at hl <;> by_cases hc : e.1 <=x.1 <;> simp [hc] at hl ⊢ <;> omega
  · subst hp ha
    rw [he]; simp only [List.append_assoc]
theorem XIns.fin {l : List Ent} {e : Ent} (z : XIns l e) (h : z.i = l.length) : insE l e = z.acc ++ (if z.put then [] else [e]) := by
  rw [z.h.2.2, h, List.drop_length]; rfl
theorem vc_ins (l : List Ent) (k v : Int) (K : KT) (hsm : l.length <=1000000) (h : K (.one (.at (.slc 1))) [.row false EC.ent l, .row true EC.ent (insE l (k, v))] []) :
    vc C0 (aIns l (k, v)) Tryz.f40 [.at (.slc 0), .agg [.val (.int .i64 k), .val (.int .i64 v)]] [.row false EC.ent l] (normK 1 K) := by
  refine Eq.mp (show ((∃ x : XIns l (k, v), (True/\(True/\True/\True/\((Value.bool false) = (Value.bool (x.put)))/\((Value.int .i64 0) = (Value.int .i64 ((↑x.i : Int))))/\True)/\((l) = (l))/\(((Value.int .i64 (k)) = (Value.int .i64 (k)))/\((Value.int .i64 (v)) = (Value.int .i64 (v)))/\True)/\([] = (x.acc))/\True)) ∧
(∀ x : XIns l (k, v), (True->(brS (decide ((↑x.i : Int) < (↑l.length : Int))) ((brS (!x.put) (((0<=(↑x.i : Int))/\((↑x.i : Int) < (↑l.length : Int))/\(brS (decide ((eA l x.i).fst ≥ k)) ((((x.acc.length + [(k, v)].length) * bytesOf C0 EC.ent<=140737488355328)/\(0<=(↑x.i : Int))/\((↑x.i : Int) < (↑l.length : Int))/\(brS ((eA l x.i).fst != k) (((0<=(↑x.i : Int))/\((↑x.i : Int) < (↑l.length : Int))/\(((x.acc ++ [(k, v)]).length + [((eA l x.i).fst, (eA l x.i).snd)].length) * bytesOf C0 EC.ent<=140737488355328)/\(∃ x' : XIns l (k, v), (True/\((True/\True/\True/\((Value.bool true) = (Value.bool (x'.put)))/\((Value.int .i64 (IntKind.i64.wrap ((↑x.i : Int) + 1))) = (Value.int .i64 ((↑x'.i : Int))))/\True)/\((l) = (l))/\(((Value.int .i64 (k)) = (Value.int .i64 (k)))/\((Value.int .i64 (v)) = (Value.int .i64 (v)))/\True)/\((x.acc ++ [(k, v)] ++ [((eA l x.i).fst, (eA l x.i).snd)]) = (x'.acc))/\True)/\(l.length - x'.i < l.length - x.i))))) ((∃ x' : XIns l (k, v), (True/\((True/\True/\True/\((Value.bool true) = (Value.bool (x'.put))) ∧
    ((Value.int .i64 (IntKind.i64.wrap ((↑x.i : Int) + 1))) = (Value.int .i64 ((↑x'.i : Int))))/\True)/\((l) = (l))/\(((Value.int .i64 (k)) = (Value.int .i64 (k)))/\((Value.int .i64 (v)) = (Value.int .i64 (v)))/\True)/\((x.acc ++ [(k, v)]) = (x'.acc))/\True)/\(l.length - x'.i < l.length - x.i))))))) (((0<=(↑x.i : Int))/\((↑x.i : Int) < (↑l.length : Int))/\(brS ((eA l x.i).fst != k) (((0<=(↑x.i : Int))/\((↑x.i : Int) < (↑l.length : Int))/\((x.acc.length + [((eA l x.i).fst, (eA l x.i).snd)].length) * bytesOf C0 EC.ent<=140737488355328)/\(∃ x' : XIns l (k, v), (True/\((True/\True/\True/\((Value.bool (x.put)) = (Value.bool (x'.put)))/\((Value.int .i64 (IntKind.i64.wrap ((↑x.i : Int) + 1))) = (Value.int .i64 ((↑x'.i : Int))))/\True)/\((l) = (l))/\(((Value.int .i64 (k)) = (Value.int .i64 (k)))/\((Value.int .i64 (v)) = (Value.int .i64 (v)))/\True)/\((x.acc ++ [((eA l x.i).fst, (eA l x.i).snd)]) = (x'.acc))/\True)/\(l.length - x'.i < l.length - x.i))))) ((∃ x' : XIns l (k, v), (True/\((True/\True/\True/\((Value.bool (x.put)) = (Value.bool (x'.put)))/\((Value.int .i64 (IntKind.i64.wrap ((↑x.i : Int) + 1))) = (Value.int .i64 ((↑x'.i : Int))))/\True)/\((l) = (l))/\(((Value.int .i64 (k)) = (Value.int .i64 (k)))/\((Value.int .i64 (v)) = (Value.int .i64 (v)))/\True)/\((x.acc) = (x'.acc))/\True) ∧
    (l.length - x'.i < l.length - x.i)))))))))) (((0<=(↑x.i : Int))/\((↑x.i : Int) < (↑l.length : Int))/\(brS ((eA l x.i).fst != k) (((0<=(↑x.i : Int))/\((↑x.i : Int) < (↑l.length : Int))/\((x.acc.length + [((eA l x.i).fst, (eA l x.i).snd)].length) * bytesOf C0 EC.ent<=140737488355328)/\(∃ x' : XIns l (k, v), (True/\((True/\True/\True/\((Value.bool (x.put)) = (Value.bool (x'.put)))/\((Value.int .i64 (IntKind.i64.wrap ((↑x.i : Int) + 1))) = (Value.int .i64 ((↑x'.i : Int))))/\True)/\((l) = (l))/\(((Value.int .i64 (k)) = (Value.int .i64 (k)))/\((Value.int .i64 (v)) = (Value.int .i64 (v)))/\True)/\((x.acc ++ [((eA l x.i).fst, (eA l x.i).snd)]) = (x'.acc))/\True)/\(l.length - x'.i < l.length - x.i))))) ((∃ x' : XIns l (k, v), (True/\((True/\True/\True/\((Value.bool (x.put)) = (Value.bool (x'.put)))/\((Value.int .i64 (IntKind.i64.wrap ((↑x.i : Int) + 1))) = (Value.int .i64 ((↑x'.i : Int))))/\True)/\((l) = (l))/\(((Value.int .i64 (k)) = (Value.int .i64 (k)))/\((Value.int .i64 (v)) = (Value.int .i64 (v)))/\True)/\((x.acc) = (x'.acc))/\True)/\(l.length - x'.i < l.length - x.i))))))))) ((brS (!x.put) ((((x.acc.length + [(k, v)].length) * bytesOf C0 EC.ent<=140737488355328)/\(K (SV.one (TV.at (At.slc 1))) [(Chunk.row false (EC.ent) (l)), (Chunk.row true (EC.ent) (x.acc ++ [(k, v)]))] [])))
    ((K (SV.one (TV.at (At.slc 1))) [(Chunk.row false (EC.ent) (l)), (Chunk.row true (EC.ent) (x.acc))] [])))))))) = _ by kernel_rfl) ?_
  refine ⟨⟨⟨0, [], false, Nat.zero_le _, by simp, by simp⟩, by simp⟩, fun x _ => brS_of (fun hi => ?_) fun hi => ?_⟩
  · have hi : x.i < l.length := by simpa using hi
    have hx := eA_get hi
    have hlen := x.h.2.1
    have hpt : x.put.toNat <=1 := by cases x.put <;> decide
    have w1 : IntKind.i64.wrap ((x.i : Int) + 1) = ((x.i + 1 : Nat) : Int) := by rw [wrap_in (by omega) (by omega)]; simp
    simp only [w1, bytes_ent]
    have go : ∀ (put' : Bool) (acc' : List Ent), put' = (x.put || decide (k <=(eA l x.i).1)) ->acc' = x.acc ++ ((if !x.put && decide (k <=(eA l x.i).1) then [(k, v)] else []) ++ (if (eA l x.i).1 = k then [] else [eA l x.i])) →
        ∃ z' : XIns l (k, v), z'.i = x.i + 1 /\z'.put = put' /\z'.acc = acc' := fun put' acc' hp ha => x.next hx hp ha
    refine brS_of (fun hp => ⟨by omega, by omega, brS_of (fun hc => ⟨?_, by omega, by omega, brS_of (fun hn => ⟨by omega, by omega, ?_, ?_⟩) fun hn => ?_⟩) fun hc => ⟨by omega, by omega, brS_of (fun hn => ⟨by omega, by omega, ?_, ?_⟩) fun hn => ?_⟩⟩) fun hp => ⟨by omega, by omega, brS_of (fun hn => ⟨by omega, by omega, ?_, ?_⟩) fun hn => ?_⟩
    all_goals try simp only [decide_eq_true_eq, decide_eq_false_iff_not, bne_iff_ne, ne_eq, Bool.not_eq_true', Bool.not_eq_false', bne_eq_false_iff_eq, ge_iff_le] at *
    all_goals first
      | (simp; omega)
      | (obtain ⟨z', e1, e2, e3⟩ := go _ _ rfl rfl
         refine ⟨z', ?_⟩
         simp [*]
         omega)
  · have hi : x.i = l.length := by have := x.h.1; simp at hi; omega
    have hf := x.fin hi
    have hlen := x.h.2.1
    have hpt : x.put.toNat <=1 := by cases x.put <;> decide
    refine brS_of (fun hp => ⟨?_, ?_⟩) fun hp => ?_
    · simp [bytes_ent]; omega
    · simp at hp; rw [hp] at hf; simp at hf; rw [hf] at h; exact h
    · simp at hp; rw [hp] at hf; simp at hf; rw [hf] at h; exact h
theorem s_ins : SoundT C0 40 tIns := by
  refine .of Tryz.func40 (by decide) rfl fun args H K h hB => ?_
  unfold tIns at h
  split at h <;> try exact h.elim
  rename_i k v l
  exact ⟨aIns l (k, v), trivial, vc_ins l k v K h.1 h.2⟩
noncomputable def aDel : Ann C0 := { Γ := [(73, frameT [] tOut)] }
def tDel : Tfm C0 := fun args H K => match args, H with
  | [.at (.slc 0), .at (.val (.int .i64 q))], [.row false .ent l] => l.length <=1000000 /\K (.one (.at (.slc 1))) [.row false EC.ent l, .row true EC.ent (outE l q q)] []
  | _, _ => False
theorem vc_del (l : List Ent) (q : Int) (K : KT) (h1 : l.length <=1000000) (h2 : K (.one (.at (.slc 1))) [.row false EC.ent l, .row true EC.ent (outE l q q)] []) :
    vc C0 aDel Tryz.f41 [.at (.slc 0), .at (.val (.int .i64 q))] [.row false EC.ent l] (normK 1 K) := by
  have e : ((l.length <=1000000) ∧
(K (SV.one (TV.at (At.slc 1))) [(Chunk.row false (EC.ent) (l)), (Chunk.row true (EC.ent) (outE l q q))] [])) = vc C0 aDel Tryz.f41 [.at (.slc 0), .at (.val (.int .i64 q))] [.row false EC.ent l] (normK 1 K) := by kernel_rfl
  rw [← e]
  exact ⟨h1, h2⟩
theorem s_del : SoundT C0 41 tDel := by
  refine .of Tryz.func41 (by decide) rfl fun args H K h hB => ?_
  unfold tDel at h
  split at h <;> try exact h.elim
  rename_i q l
  have hG : GOK C0 aDel.Γ := ⟨frame C0.ok s_out _, trivial⟩
  exact ⟨aDel, hG, vc_del l q K h.1 h.2⟩
structure XLst (l : List Ent) (most : Int) where
  i : Nat
  h : i <=l.length /\(i : Int) <=most
noncomputable def aLst (l : List Ent) (most : Int) : Ann C0 := { Γ := [(40, frameT [] tIns)], inv := fun n => match n with
  | 3 => some { X := XLst l most, sl := [6, 5], tf := fun x => [vi .i64 x.i, .one (.at (.slc 1))], hf := fun x => [.row false EC.ent l, .row true EC.ent (listE l x.i)], μ := fun x => l.length - x.i }
  | _ => none }
def tLst : Tfm C0 := fun args H K => match args, H with
  | [.at (.slc 0), .at (.val (.int .i64 most))], [.row false .ent l] => 0 <=most /\most <=1000000 /\K (.one (.at (.slc 1))) [.row false EC.ent l, .row true EC.ent (listE l most.toNat)] []
  | _, _ => False
theorem listE_snoc {l : List Ent} {i : Nat} {x : Ent} (h : l[i]? = some x) : listE l (i + 1) = insE (listE l i) x := by
  unfold listE
  rw [take_snoc h]
  simp
theorem listE_full {l : List Ent} {n : Nat} (h : l.length <=n) : listE l n = listE l l.length := by
  unfold listE
  rw [List.take_of_length_le h, List.take_of_length_le (Nat.le_refl _)]
theorem vc_lst (l : List Ent) (most : Int) (K : KT) (hmax : l.length <=9223372036854775807) (h0 : 0 <=most) (h1 : most <=1000000) (h : K (.one (.at (.slc 1))) [.row false EC.ent l, .row true EC.ent (listE l most.toNat)] []) :
    vc C0 (aLst l most) Tryz.f21 [.at (.slc 0), .at (.val (.int .i64 most))] [.row false EC.ent l] (normK 1 K) := by
  refine Eq.mp (show ((∃ x : XLst l most, (True/\(True/\((Value.int .i64 (most)) = (Value.int .i64 (most)))/\True/\((Value.int .i64 0) = (Value.int .i64 ((↑x.i : Int))))/\True)/\((l) = (l))/\([] = (listE l x.i))/\True)) ∧
(∀ x : XLst l most, (True->(brS (decide ((↑x.i : Int) < (↑l.length : Int))) ((brS (decide ((↑x.i : Int) < most)) (((0<=(↑x.i : Int))/\((↑x.i : Int) < (↑l.length : Int))/\((listE l x.i).length<=1000000)/\(∃ x' : XLst l most, (True/\((True/\((Value.int .i64 (most)) = (Value.int .i64 (most)))/\True/\((Value.int .i64 (IntKind.i64.wrap ((↑x.i : Int) + 1))) = (Value.int .i64 ((↑x'.i : Int))))/\True)/\((l) = (l))/\((insE (listE l x.i) ((eA l x.i).fst, (eA l x.i).snd)) = (listE l x'.i))/\True)/\(l.length - x'.i < l.length - x.i))))) ((K (SV.one (TV.at (At.slc 1))) [(Chunk.row false (EC.ent) (l)), (Chunk.row true (EC.ent) (listE l x.i))] [])))) ((K (SV.one (TV.at (At.slc 1))) [(Chunk.row false (EC.ent) (l)), (Chunk.row true (EC.ent) (listE l x.i))] [])))))) = _ by kernel_rfl) ?_
  refine ⟨⟨⟨0, Nat.zero_le _, h0⟩, by simp [listE]⟩, fun x _ => brS_of (fun hi => brS_of (fun hm => ?_) fun hm => ?_) fun hi => ?_⟩
  · have hi : x.i < l.length := by simpa using hi
    have hm : (x.i : Int) < most := by simpa using hm
    have hs := listE_snoc (eA_get hi)
    have hlen := (listE_spec l x.i).2
    have w1 : IntKind.i64.wrap ((x.i : Int) + 1) = ((x.i + 1 : Nat) : Int) := by rw [wrap_in (by omega) (by omega)]; simp
    simp only [w1]
    refine ⟨by omega, by omega, by omega, ⟨x.i + 1, by omega, by omega⟩, ?_⟩
    simp [hs]; omega
  · have e : most.toNat = x.i := by have := x.h.2; simp at hm; omega
    rw [e] at h; exact h
  · have hi : x.i = l.length := by have := x.h.1; simp at hi; omega
    have := x.h.2
    rw [listE_full (n := most.toNat) (by omega), ← hi] at h; exact h
theorem s_lst : SoundT C0 21 tLst := by
  refine .of Tryz.func21 (by decide) rfl fun args H K h hB => ?_
  unfold tLst at h
  split at h <;> try exact h.elim
  rename_i most l
  exact ⟨aLst l most, ⟨frame C0.ok s_ins _, trivial⟩, vc_lst l most K (hB 0 _ _ _ rfl) h.1 h.2.1 h.2.2⟩
def tMod : Tfm C0 := fun args H K => match args, H with
  | [.at (.val (.int .i64 k)), .at (.val (.int .i64 n))], [] => 0 < n /\n <=9223372036854775807 /\∀ x, x = k % n ->K (.one (.at (vI x))) [] []
  | _, _ => False
theorem s_mod : SoundT C0 63 tMod := by
  refine .of Tryz.func63 (by decide) rfl fun args H K h hB => ⟨A0, trivial, ?_⟩
  unfold tMod at h
  split at h <;> try exact h.elim
  rename_i k n
  obtain ⟨h0, h1, h⟩ := h
  have h := h _ rfl
  refine Eq.mp (show ((n ≠ 0) ∧
(brS (decide (k.tmod n < 0)) ((K (SV.one (TV.at (At.val (Value.int .i64 (IntKind.i64.wrap (k.tmod n + n)))))) [] [])) ((K (SV.one (TV.at (At.val (Value.int .i64 (k.tmod n))))) [] [])))) = _ by kernel_rfl) ⟨by omega, brS_of (fun e => ?_) fun e => ?_⟩
  all_goals simp only [decide_eq_true_eq, decide_eq_false_iff_not] at e
  · have e1 : k.tmod n + n = k % n := by
      rw [Int.tmod_eq_emod] at e ⊢
      split at e <;> rename_i hc
      · have := Int.emod_nonneg k (show n ≠ 0 by omega); omega
      · rw [if_neg hc]
        have : (n.natAbs : Int) = n := by omega
        omega
    have h2 := Int.emod_nonneg k (show n ≠ 0 by omega)
    have h3 := Int.emod_lt_of_pos k h0
    rw [e1, wrap_in (by omega) (by omega)]; exact h
  · have e1 : k.tmod n = k % n := by
      rw [Int.tmod_eq_emod] at e ⊢
      split at e <;> rename_i hc
      · rw [if_pos hc]; omega
      · have h3 := Int.emod_lt_of_pos k h0
        have : (n.natAbs : Int) = n := by omega
        omega
    rw [e1]; exact h
structure XN (n : Nat) where
  i : Nat
  h : i <=n
def kF (xs : List Int) (l : List Ent) (i : Nat) : List Ent := keysOf (xs ++ (l.take i).map Prod.fst)
theorem kF_snoc {xs : List Int} {l : List Ent} {i : Nat} {x : Ent} (h : l[i]? = some x) : kF xs l (i + 1) = insE (kF xs l i) (x.1, 0) := by
  unfold kF
  rw [take_snoc h, List.map_append, ← List.append_assoc]
  exact keysOf_snoc _ _
theorem kF_len (xs : List Int) (l : List Ent) (i : Nat) : (kF xs l i).length <=xs.length + l.length := by
  have := (keysOf_spec (xs ++ (l.take i).map Prod.fst)).2.1
  unfold kF
  simp at this ⊢
  omega
theorem kF_zero (xs : List Int) (l : List Ent) : kF xs l 0 = keysOf xs := by simp [kF]
theorem kF_full (xs : List Int) (l : List Ent) : kF xs l l.length = keysOf (xs ++ l.map Prod.fst) := by simp [kF]
noncomputable def aKeys (l m n : List Ent) : Ann C0 := { Γ := [(40, frameT [] tIns)], inv := fun k => match k with
  | 3 => some { X := XN l.length, sl := [8, 7], tf := fun x => [vi .i64 x.i, .one (.at (.slc 3))], hf := fun x => [.row false EC.ent l, .row false EC.ent m, .row false EC.ent n, .row true EC.ent (kF [] l x.i)], μ := fun x => l.length - x.i }
  | 7 => some { X := XN m.length, sl := [9, 7], tf := fun x => [vi .i64 x.i, .one (.at (.slc 3))], hf := fun x => [.row false EC.ent l, .row false EC.ent m, .row false EC.ent n, .row true EC.ent (kF (l.map Prod.fst) m x.i)], μ := fun x => m.length - x.i }
  | 11 => some { X := XN n.length, sl := [10, 7], tf := fun x => [vi .i64 x.i, .one (.at (.slc 3))], hf := fun x => [.row false EC.ent l, .row false EC.ent m, .row false EC.ent n, .row true EC.ent (kF (l.map Prod.fst ++ m.map Prod.fst) n x.i)], μ := fun x => n.length - x.i }
  | 16 => some { X := XN (kF (l.map Prod.fst ++ m.map Prod.fst) n n.length).length, sl := [12, 7, 11], tf := fun x => [vi .i64 x.i, .one (.at (.slc 3)), .one (.at (.slc 4))], hf := fun x => [.row false EC.ent l, .row false EC.ent m, .row false EC.ent n, .row true EC.ent (kF (l.map Prod.fst ++ m.map Prod.fst) n n.length), .row true EC.i64 (((kF (l.map Prod.fst ++ m.map Prod.fst) n n.length).take x.i).map Prod.fst)], μ := fun x => (kF (l.map Prod.fst ++ m.map Prod.fst) n n.length).length - x.i }
  | _ => none }
def tKeys : Tfm C0 := fun args H K => match args, H with
  | [.at (.slc 0), .at (.slc 1), .at (.slc 2)], [.row false .ent l, .row false .ent m, .row false .ent n] => l.length + m.length + n.length <=1000000 /\K (.one (.at (.slc 3))) [.row false EC.ent l, .row false EC.ent m, .row false EC.ent n, .row true EC.i64 (keys3 l m n)] []
  | _, _ => False
theorem keys3_eq (l m n : List Ent) : keys3 l m n = (kF (l.map Prod.fst ++ m.map Prod.fst) n n.length).map Prod.fst := by
  rw [kF_full]; simp [keys3]
set_option maxHeartbeats 1000000 in
theorem vc_keys (l m n : List Ent) (K : KT) (hsm : l.length + m.length + n.length <=1000000) (h : K (.one (.at (.slc 3))) [.row false EC.ent l, .row false EC.ent m, .row false EC.ent n, .row true EC.i64 (keys3 l m n)] []) :
    vc C0 (aKeys l m n) Tryz.f25 [.at (.slc 0), .at (.slc 1), .at (.slc 2)] [.row false EC.ent l, .row false EC.ent m, .row false EC.ent n] (normK 3 K) := by
  refine Eq.mp (show ((∃ x : XN l.length, (True/\(True/\True/\True/\True/\((Value.int .i64 0) = (Value.int .i64 ((↑x.i : Int))))/\True)/\((l) = (l))/\((m) = (m))/\((n) = (n))/\([] = (kF [] l x.i))/\True)) ∧
(∀ x : XN l.length, (True->(brS (decide ((↑x.i : Int) < (↑l.length : Int))) (((0<=(↑x.i : Int))/\((↑x.i : Int) < (↑l.length : Int))/\((kF [] l x.i).length<=1000000)/\(∃ x' : XN l.length, (True/\((True/\True/\True/\True/\((Value.int .i64 (IntKind.i64.wrap ((↑x.i : Int) + 1))) = (Value.int .i64 ((↑x'.i : Int))))/\True)/\((l) = (l))/\((m) = (m))/\((n) = (n))/\((insE (kF [] l x.i) ((eA l x.i).fst, 0)) = (kF [] l x'.i))/\True)/\(l.length - x'.i < l.length - x.i))))) (((∃ x1 : XN m.length, (True/\(True/\True/\True/\((Value.int .i64 0) = (Value.int .i64 ((↑x1.i : Int))))/\True)/\((l) = (l))/\((m) = (m))/\((n) = (n))/\((kF [] l x.i) = (kF (List.map Prod.fst l) m x1.i))/\True))/\(∀ x1 : XN m.length, (True->(brS (decide ((↑x1.i : Int) < (↑m.length : Int))) (((0<=(↑x1.i : Int))/\((↑x1.i : Int) < (↑m.length : Int))/\((kF (List.map Prod.fst l) m x1.i).length<=1000000)/\(∃ x' : XN m.length, (True/\((True/\True/\True/\((Value.int .i64 (IntKind.i64.wrap ((↑x1.i : Int) + 1))) = (Value.int .i64 ((↑x'.i : Int))))/\True)/\((l) = (l))/\((m) = (m))/\((n) = (n))/\((insE (kF (List.map Prod.fst l) m x1.i) ((eA m x1.i).fst, 0)) = (kF (List.map Prod.fst l) m x'.i))/\True) ∧
    (m.length - x'.i < m.length - x1.i))))) (((∃ x2 : XN n.length, (True/\(True/\True/\((Value.int .i64 0) = (Value.int .i64 ((↑x2.i : Int))))/\True)/\((l) = (l))/\((m) = (m))/\((n) = (n))/\((kF (List.map Prod.fst l) m x1.i) = (kF (List.map Prod.fst l ++ List.map Prod.fst m) n x2.i))/\True))/\(∀ x2 : XN n.length, (True->(brS (decide ((↑x2.i : Int) < (↑n.length : Int))) (((0<=(↑x2.i : Int))/\((↑x2.i : Int) < (↑n.length : Int))/\((kF (List.map Prod.fst l ++ List.map Prod.fst m) n x2.i).length<=1000000)/\(∃ x' : XN n.length, (True/\((True/\True/\((Value.int .i64 (IntKind.i64.wrap ((↑x2.i : Int) + 1))) = (Value.int .i64 ((↑x'.i : Int))))/\True)/\((l) = (l))/\((m) = (m))/\((n) = (n))/\((insE (kF (List.map Prod.fst l ++ List.map Prod.fst m) n x2.i) ((eA n x2.i).fst, 0)) = (kF (List.map Prod.fst l ++ List.map Prod.fst m) n x'.i))/\True)/\(n.length - x'.i < n.length - x2.i))))) (((∃ x3 : XN (kF (List.map Prod.fst l ++ List.map Prod.fst m) n n.length).length, (True/\(True/\True/\((Value.int .i64 0) = (Value.int .i64 ((↑x3.i : Int))))/\True)/\((l) = (l))/\((m) = (m))/\((n) = (n))/\((kF (List.map Prod.fst l ++ List.map Prod.fst m) n x2.i) = (kF (List.map Prod.fst l ++ List.map Prod.fst m) n n.length))/\([] = (List.map Prod.fst (List.take x3.i (kF (List.map Prod.fst l ++ List.map Prod.fst m) n n.length))))/\True))/\(∀ x3 : XN (kF (List.map Prod.fst l ++ List.map Prod.fst m) n n.length).length, (True →
    (brS (decide ((↑x3.i : Int) < (↑(kF (List.map Prod.fst l ++ List.map Prod.fst m) n n.length).length : Int))) (((0<=(↑x3.i : Int))/\((↑x3.i : Int) < (↑(kF (List.map Prod.fst l ++ List.map Prod.fst m) n n.length).length : Int))/\(((List.map Prod.fst (List.take x3.i (kF (List.map Prod.fst l ++ List.map Prod.fst m) n n.length))).length + [(eA (kF (List.map Prod.fst l ++ List.map Prod.fst m) n n.length) x3.i).fst].length) * bytesOf C0 EC.i64<=140737488355328)/\(∃ x' : XN (kF (List.map Prod.fst l ++ List.map Prod.fst m) n n.length).length, (True/\((True/\True/\((Value.int .i64 (IntKind.i64.wrap ((↑x3.i : Int) + 1))) = (Value.int .i64 ((↑x'.i : Int))))/\True)/\((l) = (l))/\((m) = (m))/\((n) = (n))/\((kF (List.map Prod.fst l ++ List.map Prod.fst m) n n.length) = (kF (List.map Prod.fst l ++ List.map Prod.fst m) n n.length))/\((List.map Prod.fst (List.take x3.i (kF (List.map Prod.fst l ++ List.map Prod.fst m) n n.length)) ++ [(eA (kF (List.map Prod.fst l ++ List.map Prod.fst m) n n.length) x3.i).fst]) = (List.map Prod.fst (List.take x'.i (kF (List.map Prod.fst l ++ List.map Prod.fst m) n n.length))))/\True)/\((kF (List.map Prod.fst l ++ List.map Prod.fst m) n n.length).length - x'.i < (kF (List.map Prod.fst l ++ List.map Prod.fst m) n n.length).length - x3.i)))))
    ((K (SV.one (TV.at (At.slc 3))) [(Chunk.row false (EC.ent) (l)), (Chunk.row false (EC.ent) (m)), (Chunk.row false (EC.ent) (n)), (Chunk.row true (EC.i64) (List.map Prod.fst (List.take x3.i (kF (List.map Prod.fst l ++ List.map Prod.fst m) n n.length))))] []))))))))))))))))))))) = _ by kernel_rfl) ?_
  have nxt : ∀ {k i : Nat}, i < k ->k <=1000000 ->IntKind.i64.wrap ((i : Int) + 1) = ((i + 1 : Nat) : Int) := fun {k i} h1 h2 => by rw [wrap_in (by omega) (by omega)]; simp
  refine ⟨⟨⟨0, Nat.zero_le _⟩, by simp [kF_zero, keysOf]⟩, fun x _ => brS_of (fun hi => ?_) fun hi => ?_⟩
  · have hi : x.i < l.length := by simpa using hi
    have hs := kF_snoc (xs := []) (eA_get hi)
    have hlen := kF_len [] l x.i
    simp only [nxt hi (by omega)]
    refine ⟨by omega, by omega, by simp at hlen; omega, ⟨x.i + 1, by omega⟩, ?_⟩
    simp [hs]; omega
  have hi : x.i = l.length := by have := x.h; simp at hi; omega
  refine ⟨⟨⟨0, Nat.zero_le _⟩, by simp [kF_zero, hi, kF_full]⟩, fun x _ => brS_of (fun hi => ?_) fun hi => ?_⟩
  · have hi : x.i < m.length := by simpa using hi
    have hs := kF_snoc (xs := l.map Prod.fst) (eA_get hi)
    have hlen := kF_len (l.map Prod.fst) m x.i
    simp only [nxt hi (by omega)]
    refine ⟨by omega, by omega, by simp at hlen; omega, ⟨x.i + 1, by omega⟩, ?_⟩
    simp [hs]; omega
  have hi : x.i = m.length := by have := x.h; simp at hi; omega
  refine ⟨⟨⟨0, Nat.zero_le _⟩, by simp [kF_zero, hi, kF_full]⟩, fun x _ => brS_of (fun hi => ?_) fun hi => ?_⟩
  · have hi : x.i < n.length := by simpa using hi
    have hs := kF_snoc (xs := l.map Prod.fst ++ m.map Prod.fst) (eA_get hi)
    have hlen := kF_len (l.map Prod.fst ++ m.map Prod.fst) n x.i
    simp only [nxt hi (by omega)]
    refine ⟨by omega, by omega, by simp at hlen; omega, ⟨x.i + 1, by omega⟩, ?_⟩
    simp [hs]; omega
  have hi : x.i = n.length := by have := x.h; simp at hi; omega
  have hlen := kF_len (l.map Prod.fst ++ m.map Prod.fst) n n.length
  rw [hi]
  rw [keys3_eq] at h
  generalize kF (l.map Prod.fst ++ m.map Prod.fst) n n.length = all at *
  simp at hlen
  refine ⟨⟨⟨0, Nat.zero_le _⟩, by simp⟩, fun x _ => brS_of (fun hi => ?_) fun hi => ?_⟩
  · have hi : x.i < all.length := by simpa using hi
    have hs := take_snoc (eA_get hi)
    simp only [nxt hi (by omega), bytes_i64]
    refine ⟨by omega, by omega, by simp; omega, ⟨x.i + 1, by omega⟩, ?_⟩
    simp [hs]; omega
  · have hi : x.i = all.length := by have := x.h; simp at hi; omega
    have h2 : ∀ z : List Int, z = all.map Prod.fst ->K (.one (.at (.slc 3))) [.row false EC.ent l, .row false EC.ent m, .row false EC.ent n, .row true EC.i64 z] [] := fun z hz => by subst hz; exact h
    exact h2 _ (by rw [hi]; exact congrArg (List.map Prod.fst) (List.take_length (l := all)))
theorem s_keys : SoundT C0 25 tKeys := by
  refine .of Tryz.func25 (by decide) rfl fun args H K h hB => ?_
  unfold tKeys at h
  split at h <;> try exact h.elim
  rename_i l m n
  exact ⟨aKeys l m n, ⟨frame C0.ok s_ins _, trivial⟩, vc_keys l m n K h.1 h.2⟩
structure XU (l m : List Ent) (p : Int) where
  i : Nat
  h : i <=m.length
def difD (k : Int) (a b : Option Int) : List Chg := match a with
  | none => [⟨1, k, 0, b.getD 0⟩]
  | some v => match b with
    | none => [⟨2, k, v, 0⟩]
    | some w => if v = w then [] else [⟨3, k, v, w⟩]
def dif1 (l m : List Ent) (k : Int) : List Chg := difD k (getE l k) (getE m k)
theorem difD_1 {k : Int} {a b : Option Int} (h : (!a.isSome) = true) : [⟨1, k, 0, b.getD 0⟩] = difD k a b := by cases a <;> simp_all [difD]
theorem difD_2 {k : Int} {a b : Option Int} (h : (!a.isSome) = false) (h2 : (!b.isSome) = true) : [⟨2, k, a.getD 0, 0⟩] = difD k a b := by cases a <;> cases b <;> simp_all [difD]
theorem difD_3 {k : Int} {a b : Option Int} (h : (!a.isSome) = false) (h2 : (!b.isSome) = false) (h3 : (a.getD 0 != b.getD 0) = true) : [⟨3, k, a.getD 0, b.getD 0⟩] = difD k a b := by cases a <;> cases b <;> simp_all [difD]
theorem difD_4 {k : Int} {a b : Option Int} (h : (!a.isSome) = false) (h2 : (!b.isSome) = false) (h3 : (a.getD 0 != b.getD 0) = false) : [] = difD k a b := by cases a <;> cases b <;> simp_all [difD]
def difE (l m : List Ent) : List Chg := (keys3 l m []).flatMap (dif1 l m)
theorem dif1_len (l m : List Ent) (k : Int) : (dif1 l m k).length <=1 := by
  unfold dif1 difD; repeat' split
  all_goals simp
theorem flatMap1_len {α β : Type} {f : α ->List β} (h : ∀ x, (f x).length <=1) (l : List α) : (l.flatMap f).length <=l.length := by
  induction l with
  | nil => simp
  | cons x l ih => have := h x; rw [List.flatMap_cons, List.length_append, List.length_cons]; omega
theorem difE_len (l m : List Ent) : (difE l m).length <=l.length + m.length := by
  have h1 := flatMap1_len (dif1_len l m) (keys3 l m [])
  have h2 := keys3_len l m []
  unfold difE
  rw [List.length_nil] at h2
  omega
theorem dif1_mk {l m : List Ent} {k : Int} (h : (getE l k).isSome = true ∨ (getE m k).isSome = true) : dif1 l m k = (mkChg k (getE l k) (getE m k)).toList := by
  unfold dif1 difD
  cases h1 : getE l k <;> cases h2 : getE m k <;> simp_all [mkChg]
  split <;> simp_all
theorem flatMap_congr' {α β : Type} {f g : α ->List β} {l : List α} (h : ∀ x ∈ l, f x = g x) : l.flatMap f = l.flatMap g := by
  induction l with
  | nil => rfl
  | cons x l ih => rw [List.flatMap_cons, List.flatMap_cons, h x (by simp), ih fun y hy => h y (by simp [hy])]
theorem difE_btw {l m : List Ent} (hl : Asc l) (hm : Asc m) : difE l m = btw l m := by
  have hk := keys3_srt l m []
  have e : difE l m = (keys3 l m []).flatMap fun k => (mkChg k (getE l k) (getE m k)).toList := by
    unfold difE
    refine flatMap_congr' fun k hk => ?_
    rcases (keys3_mem l m [] k).1 hk with h | h | h
    · exact dif1_mk (.inl h)
    · exact dif1_mk (.inr h)
    · simp [getE] at h
  have hf : ∀ (x : Int) (y : Chg), mkChg x (getE l x) (getE m x) = some y ->y.key = id x := fun x y h => (mkChg_some h).1
  refine Srt.ext (key := Chg.key) ?_ (btw_srt hl hm) fun k => ?_
  · rw [e]; exact flatOpt_srt (ka := id) (kb := Chg.key) _ hf hk
  · rw [e, flatOpt_fnd (ka := id) (kb := Chg.key) _ hf hk, btw_fnd hl hm, fnd_id]
    split
    · rfl
    · rename_i hn
      rw [keys3_mem] at hn
      have h1 : getE l k = none := by cases h : getE l k <;> simp_all
      have h2 : getE m k = none := by cases h : getE m k <;> simp_all
      rw [h1, h2]; rfl
structure XDif (l m : List Ent) where
  i : Nat
  h : i <=(keys3 l m []).length
noncomputable def aDif (l m : List Ent) : Ann C0 := { Γ := [(25, frameT [] tKeys), (26, frameT [] tGet)], inv := fun k => match k with
  | 4 => some { X := XDif l m, sl := [7, 6, 5], tf := fun x => [vi .i64 x.i, .one (.at (.slc 2)), .one (.at (.slc 3))], hf := fun x => [.row false EC.ent l, .row false EC.ent m, .row true EC.i64 (keys3 l m []), .row true EC.chg (((keys3 l m []).take x.i).flatMap (dif1 l m))], μ := fun x => (keys3 l m []).length - x.i }
  | _ => none }
def tDif : Tfm C0 := fun args H K => match args, H with
  | [.at (.slc 0), .at (.slc 1)], [.row false .ent l, .row false .ent m] => l.length + m.length <=1000000 /\K (.one (.at (.slc 2))) [.row false EC.ent l, .row false EC.ent m, .row true EC.chg (difE l m)] []
  | _, _ => False
theorem wrap_next {i n : Nat} (h1 : i < n) (h2 : n <=1000000) : IntKind.i64.wrap ((i : Int) + 1) = ((i + 1 : Nat) : Int) := by rw [wrap_in (by omega) (by omega)]; simp
theorem flat_snoc {α β : Type} (f : α ->List β) {l : List α} {i : Nat} {x : α} (h : l[i]? = some x) : (l.take (i + 1)).flatMap f = (l.take i).flatMap f ++ f x := by
  rw [take_snoc h]; simp
theorem flat_len1 {α β : Type} {f : α ->List β} (h : ∀ x, (f x).length <=1) (l : List α) (i : Nat) : ((l.take i).flatMap f).length <=i :=
  Nat.le_trans (flatMap1_len h _) (List.length_take_le _ _)
theorem vc_dif (l m : List Ent) (K : KT) (hsm : l.length + m.length <=1000000) (h : K (.one (.at (.slc 2))) [.row false EC.ent l, .row false EC.ent m, .row true EC.chg (difE l m)] []) :
    vc C0 (aDif l m) Tryz.f6 [.at (.slc 0), .at (.slc 1)] [.row false EC.ent l, .row false EC.ent m] (normK 2 K) := by
  refine Eq.mp (show ((l.length + m.length + ([] : List Ent).length<=1000000) ∧
(∃ x : XDif l m, (True/\(True/\True/\True/\True/\((Value.int .i64 0) = (Value.int .i64 ((↑x.i : Int))))/\True)/\((l) = (l))/\((m) = (m))/\((keys3 l m []) = (keys3 l m []))/\([] = (List.flatMap (dif1 l m) (List.take x.i (keys3 l m []))))/\True)) ∧
(∀ x : XDif l m, (True->(brS (decide ((↑x.i : Int) < (↑(keys3 l m []).length : Int))) (((0<=(↑x.i : Int))/\((↑x.i : Int) < (↑(keys3 l m []).length : Int))/\(∀ x1 : Option Int, (((x1) = (getE l (iA (keys3 l m []) x.i)))->(∀ x2 : Option Int, (((x2) = (getE m (iA (keys3 l m []) x.i)))->(brS (!x1.isSome) (((((List.flatMap (dif1 l m) (List.take x.i (keys3 l m []))).length + [{ kind := 1, key := iA (keys3 l m []) x.i, old := 0, new := x2.getD 0 : Chg }].length) * bytesOf C0 EC.chg<=140737488355328)/\(∃ x' : XDif l m, (True/\((True/\True/\True/\True/\((Value.int .i64 (IntKind.i64.wrap ((↑x.i : Int) + 1))) = (Value.int .i64 ((↑x'.i : Int))))/\True)/\((l) = (l))/\((m) = (m))/\((keys3 l m []) = (keys3 l m []))/\((List.flatMap (dif1 l m) (List.take x.i (keys3 l m [])) ++ [{ kind := 1, key := iA (keys3 l m []) x.i, old := 0, new := x2.getD 0 : Chg }]) = (List.flatMap (dif1 l m) (List.take x'.i (keys3 l m []))))/\True)/\((keys3 l m []).length - x'.i < (keys3 l m []).length - x.i))))) ((brS (!x2.isSome)
    (((((List.flatMap (dif1 l m) (List.take x.i (keys3 l m []))).length + [{ kind := 2, key := iA (keys3 l m []) x.i, old := x1.getD 0, new := 0 : Chg }].length) * bytesOf C0 EC.chg<=140737488355328)/\(∃ x' : XDif l m, (True/\((True/\True/\True/\True/\((Value.int .i64 (IntKind.i64.wrap ((↑x.i : Int) + 1))) = (Value.int .i64 ((↑x'.i : Int))))/\True)/\((l) = (l))/\((m) = (m))/\((keys3 l m []) = (keys3 l m []))/\((List.flatMap (dif1 l m) (List.take x.i (keys3 l m [])) ++ [{ kind := 2, key := iA (keys3 l m []) x.i, old := x1.getD 0, new := 0 : Chg }]) = (List.flatMap (dif1 l m) (List.take x'.i (keys3 l m []))))/\True)/\((keys3 l m []).length - x'.i < (keys3 l m []).length - x.i))))) ((brS (x1.getD 0 != x2.getD 0) (((((List.flatMap (dif1 l m) (List.take x.i (keys3 l m []))).length + [{ kind := 3, key := iA (keys3 l m []) x.i, old := x1.getD 0, new := x2.getD 0 : Chg }].length) * bytesOf C0 EC.chg<=140737488355328)/\(∃ x' : XDif l m, (True/\((True/\True/\True/\True/\((Value.int .i64 (IntKind.i64.wrap ((↑x.i : Int) + 1))) = (Value.int .i64 ((↑x'.i : Int))))/\True)/\((l) = (l))/\((m) = (m))/\((keys3 l m []) = (keys3 l m []))/\((List.flatMap (dif1 l m) (List.take x.i (keys3 l m [])) ++ [{ kind := 3, key := iA (keys3 l m []) x.i, old := x1.getD 0, new := x2.getD 0 : Chg }]) = (List.flatMap (dif1 l m) (List.take x'.i (keys3 l m []))))/\True)/\((keys3 l m []).length - x'.i < (keys3 l m []).length - x.i))))) ((∃ x' : XDif l m, (True ∧
    ((True/\True/\True/\True/\((Value.int .i64 (IntKind.i64.wrap ((↑x.i : Int) + 1))) = (Value.int .i64 ((↑x'.i : Int))))/\True)/\((l) = (l))/\((m) = (m))/\((keys3 l m []) = (keys3 l m []))/\((List.flatMap (dif1 l m) (List.take x.i (keys3 l m []))) = (List.flatMap (dif1 l m) (List.take x'.i (keys3 l m []))))/\True)/\((keys3 l m []).length - x'.i < (keys3 l m []).length - x.i))))))))))))))) ((K (SV.one (TV.at (At.slc 2))) [(Chunk.row false (EC.ent) (l)), (Chunk.row false (EC.ent) (m)), (Chunk.row true (EC.chg) (List.flatMap (dif1 l m) (List.take x.i (keys3 l m []))))] [])))))) = _ by kernel_rfl) ?_
  have hk := keys3_len l m []
  rw [List.length_nil] at hk
  refine ⟨by simpa using hsm, ⟨⟨0, Nat.zero_le _⟩, by simp⟩, fun x _ => brS_of (fun hi => ?_) fun hi => ?_⟩
  · have hi : x.i < (keys3 l m []).length := by simpa using hi
    have hs := flat_snoc (dif1 l m) (iA_get hi)
    have hlen := flat_len1 (dif1_len l m) (keys3 l m []) x.i
    have go : ∀ d, d = dif1 l m (iA (keys3 l m []) x.i) ->(((keys3 l m []).take x.i).flatMap (dif1 l m)) ++ d = ((keys3 l m []).take (x.i + 1)).flatMap (dif1 l m) := fun d hd => by rw [hd, hs]
    simp only [wrap_next hi (by omega), bytes_chg]
    refine ⟨by omega, by omega, fun x1 e1 x2 e2 => brS_of (fun h1 => ⟨?_, ⟨x.i + 1, by omega⟩, ?_⟩) fun h1 => brS_of (fun h2 => ⟨?_, ⟨x.i + 1, by omega⟩, ?_⟩) fun h2 => brS_of (fun h3 => ⟨?_, ⟨x.i + 1, by omega⟩, ?_⟩) fun h3 => ⟨⟨x.i + 1, by omega⟩, ?_⟩⟩
    all_goals try (simp only [List.length_singleton]; omega)
    all_goals refine ⟨trivial, ⟨⟨trivial, trivial, trivial, trivial, rfl, trivial⟩, trivial, trivial, trivial, ?_, trivial⟩, by show _ - (x.i + 1) < _; omega⟩
    · exact go _ (by rw [dif1, ← e1, ← e2]; exact difD_1 h1)
    · exact go _ (by rw [dif1, ← e1, ← e2]; exact difD_2 h1 h2)
    · exact go _ (by rw [dif1, ← e1, ← e2]; exact difD_3 h1 h2 h3)
    · have := go [] (by rw [dif1, ← e1, ← e2]; exact difD_4 h1 h2 h3)
      rw [List.append_nil] at this
      exact this
  · have hi : x.i = (keys3 l m []).length := by have := x.h; simp at hi; omega
    have h2 : ∀ z : List Chg, z = difE l m ->K (.one (.at (.slc 2))) [.row false EC.ent l, .row false EC.ent m, .row true EC.chg z] [] := fun z hz => by subst hz; exact h
    exact h2 _ (by rw [hi]; exact congrArg (List.flatMap (dif1 l m)) (List.take_length (l := keys3 l m [])))
theorem s_dif : SoundT C0 6 tDif := by
  refine .of Tryz.func6 (by decide) rfl fun args H K h hB => ?_
  unfold tDif at h
  split at h <;> try exact h.elim
  rename_i l m
  exact ⟨aDif l m, ⟨frame C0.ok s_keys _, frame C0.ok s_get _, trivial⟩, vc_dif l m K h.1 h.2⟩
end Go.Proofs.YtmjnoiajenoinaaGreat.Sx
end
section
/- Planting trees: the statements' helpers. -/
namespace Go.Proofs.YtmjnoiajenoinaaGreat.Sx
open Go

/-KEEP Wf Kept makeS relA nxt decS NodeR exW inU live Arn.cap Arn.free balN PlantR maxSize mkNode-/
def tLeast : Tfm C0 := fun args H K => match args, H with
  | [.at (.val (.int .i64 n))], [] => 0 <=n /\n <=1000000 /\∀ x, x = n / 4 ->K (.one (.at (vI x))) [] []
  | _, _ => False
def balB (l r : Int) : Bool := decide (balN l r)
def tBal : Tfm C0 := fun args H K => match args, H with
  | [.at (.val (.int .i64 l)), .at (.val (.int .i64 r))], [] => 0 <=l /\l <=1000000 /\0 <=r /\r <=1000000 /\∀ b, b = balB l r ->K (.one (.at (vB b))) [] []
  | _, _ => False
structure XPv (n : Int) where
  lo : Int
  h : 0 <=lo /\lo < n /\balN lo (n - 1 - lo)
noncomputable def aPivot (n : Int) : Ann C0 := { Γ := [(104, frameT [] tLeast), (97, frameT [] tBal)], inv := fun k => match k with
  | 2 => some { X := XPv n, sl := [5], tf := fun x => [vi .i64 x.lo], hf := fun _ => [], μ := fun x => x.lo.toNat }
  | 4 => some { X := XPv n, sl := [5], tf := fun x => [vi .i64 x.lo], hf := fun _ => [], μ := fun x => (n - x.lo).toNat }
  | _ => none }
def tPivot : Tfm C0 := fun args H K => match args, H with
  | [.at (.val (.int .i64 n)), .at (.val (.int .u64 t))], [] => 1 <=n /\n <=100000 /\0 <=t /\∀ p, 0 <=p ->p < n ->balN p (n - 1 - p) ->K (.one (.at (vI p))) [] []
  | _, _ => False
def tPlant (n : Nat) : Tfm C0 := fun args H K => match args with
  | [.at (.ptr 0 0), .at (.slc 7), .at (.val (.int .u64 t))] => arMr H fun S rest => match rest with
    | [.row false .ent l] => ∃ hs, Wf S hs /\l.length < n /\l.length <=100000 /\(l.length : Int) <=S.free /\hs.length + l.length <=900000000 /\0 <=t /\∀ S' i, PlantR S hs l S' i ->K (.tup [.at (vU i), .at (vB true)]) (chS S' ++ [.row false EC.ent l]) W7
    | _ => False
  | _ => False
noncomputable def aPlant (n : Nat) : Ann C0 := { Γ := [(88, frameT [] tPivot), (61, frameT [] (tPlant n)), (29, frameT [] tMakeOk), (66, frameT [] tGive)] }
theorem vc_least (n : Int) (K : KT) (h1 : 0 <=n) (h2 : n <=1000000) (h : ∀ x, x = n / 4 ->K (.one (.at (vI x))) [] []) : vc C0 A0 Tryz.f104 [.at (vI n)] [] (normK 0 K) := by
  refine Eq.mp (show (K (SV.one (TV.at (At.val (Value.int .i64 (IntKind.i64.wrap ((if n > 0 then n else 0).tdiv 4)))))) [] []) = _ by kernel_rfl) ?_
  have e : (if n > 0 then n else 0) = n := by split <;> omega
  rw [e, Int.tdiv_eq_ediv_of_nonneg h1, wrap_id (by omega) (by omega)]
  exact h _ rfl
theorem s_least : SoundT C0 104 tLeast := by
  refine .of Tryz.func104 (by decide) rfl fun args H K h hB => ?_
  unfold tLeast at h
  split at h <;> try exact h.elim
  rename_i n
  exact ⟨A0, trivial, vc_least n K h.1 h.2.1 h.2.2⟩
theorem vc_bal (l r : Int) (K : KT) (h1 : 0 <=l) (h2 : l <=1000000) (h3 : 0 <=r) (h4 : r <=1000000) (h : ∀ b, b = balB l r ->K (.one (.at (vB b))) [] []) : vc C0 A0 Tryz.f97 [.at (vI l), .at (vI r)] [] (normK 0 K) := by
  refine Eq.mp (show (brS (decide (l < 0)) ((K (SV.one (TV.at (At.val (Value.bool false)))) [] [])) ((brS (decide (l > 2147483647)) ((K (SV.one (TV.at (At.val (Value.bool false)))) [] [])) ((brS (decide (r < 0)) ((K (SV.one (TV.at (At.val (Value.bool false)))) [] [])) ((brS (decide (r > 2147483647)) ((K (SV.one (TV.at (At.val (Value.bool false)))) [] [])) ((brS (decide (IntKind.i64.wrap (l + 1)<=IntKind.i64.wrap (3 * IntKind.i64.wrap (r + 1)))) ((K (SV.one (TV.at (At.val (Value.bool (decide (IntKind.i64.wrap (r + 1)<=IntKind.i64.wrap (3 * IntKind.i64.wrap (l + 1)))))))) [] [])) ((K (SV.one (TV.at (At.val (Value.bool false)))) [] []))))))))))) = _ by kernel_rfl) ?_
  rw [wrap_id (x := l + 1) (by omega) (by omega), wrap_id (x := r + 1) (by omega) (by omega), wrap_id (x := 3 * (l + 1)) (by omega) (by omega), wrap_id (x := 3 * (r + 1)) (by omega) (by omega)]
  refine brS_of (fun c => ?_) fun _ => brS_of (fun c => ?_) fun _ => brS_of (fun c => ?_) fun _ => brS_of (fun c => ?_) fun _ => brS_of (fun c => ?_) fun c => ?_
  · have := of_decide_eq_true c; omega
  · have : l > 2147483647 := of_decide_eq_true c; omega
  · have := of_decide_eq_true c; omega
  · have : r > 2147483647 := of_decide_eq_true c; omega
  · have c : l + 1 <=3 * (r + 1) := of_decide_eq_true c
    exact h _ (by unfold balB balN; simp [c])
  · have c : ¬ l + 1 <=3 * (r + 1) := of_decide_eq_false c
    exact h _ (by unfold balB balN; simp [c])
theorem s_bal : SoundT C0 97 tBal := by
  refine .of Tryz.func97 (by decide) rfl fun args H K h hB => ?_
  unfold tBal at h
  split at h <;> try exact h.elim
  rename_i l r
  exact ⟨A0, trivial, vc_bal l r K h.1 h.2.1 h.2.2.1 h.2.2.2.1 h.2.2.2.2⟩
theorem vc_pivot (n t : Int) (K : KT) (h1 : 1 <=n) (h2 : n <=100000) (h3 : 0 <=t) (h : ∀ p, 0 <=p ->p < n ->balN p (n - 1 - p) ->K (.one (.at (vI p))) [] []) :
    vc C0 (aPivot n) Tryz.f88 [.at (vI n), .at (vU64 t)] [] (normK 0 K) := by
  refine Eq.mp (show ((0<=n) ∧
(n<=1000000) ∧
(∀ x : Int, (((x) = (n / 4))->((∃ x1 : XPv n, (True/\(((Value.int .i64 (n)) = (Value.int .i64 (n)))/\((Value.int .u64 (t)) = (Value.int .u64 (t)))/\((Value.int .i64 (x)) = (Value.int .i64 (x1.lo)))/\True)/\True))/\(∀ x1 : XPv n, (True->(brS (decide (x1.lo > 0)) (((0<=IntKind.i64.wrap (x1.lo - 1))/\(IntKind.i64.wrap (x1.lo - 1)<=1000000)/\(0<=IntKind.i64.wrap (n - x1.lo))/\(IntKind.i64.wrap (n - x1.lo)<=1000000)/\(∀ b : Bool, (((b) = (balB (IntKind.i64.wrap (x1.lo - 1)) (IntKind.i64.wrap (n - x1.lo))))->(brS (b) ((∃ x' : XPv n, (True/\((((Value.int .i64 (n)) = (Value.int .i64 (n)))/\((Value.int .u64 (t)) = (Value.int .u64 (t)))/\((Value.int .i64 (IntKind.i64.wrap (x1.lo - 1))) = (Value.int .i64 (x'.lo)))/\True)/\True)/\(x'.lo.toNat < x1.lo.toNat)))) (((∃ x2 : XPv n, (True/\(((Value.int .i64 (n)) = (Value.int .i64 (n)))/\((Value.int .u64 (t)) = (Value.int .u64 (t)))/\((Value.int .i64 (x1.lo)) = (Value.int .i64 (x2.lo)))/\True)/\True))/\(∀ x2 : XPv n, (True->(brS (decide (x2.lo < IntKind.i64.wrap (n - 1))) (((0<=x2.lo)/\(x2.lo<=1000000)/\(0<=IntKind.i64.wrap (IntKind.i64.wrap (n - 1) - x2.lo))/\(IntKind.i64.wrap (IntKind.i64.wrap (n - 1) - x2.lo)<=1000000)/\(∀ b1 : Bool, (((b1) = (balB x2.lo (IntKind.i64.wrap (IntKind.i64.wrap (n - 1) - x2.lo))))->(brS (!b1) ((∃ x' : XPv n, (True ∧
    ((((Value.int .i64 (n)) = (Value.int .i64 (n)))/\((Value.int .u64 (t)) = (Value.int .u64 (t)))/\((Value.int .i64 (IntKind.i64.wrap (x2.lo + 1))) = (Value.int .i64 (x'.lo)))/\True)/\True)/\((n - x'.lo).toNat < (n - x2.lo).toNat)))) ((brS (decide (IntKind.i64.wrap (IntKind.i64.wrap (n - 1) - x2.lo) < x2.lo)) ((K (SV.one (TV.at (At.val (Value.int .i64 (IntKind.i64.wrap (n.tdiv 2)))))) [] [])) (((IntKind.u64.wrap (IntKind.i64.wrap (IntKind.i64.wrap (IntKind.i64.wrap (IntKind.i64.wrap (n - 1) - x2.lo) - x2.lo) + 1)) ≠ 0)/\(K (SV.one (TV.at (At.val (Value.int .i64 (IntKind.i64.wrap (x2.lo + IntKind.i64.wrap (t.tmod (IntKind.u64.wrap (IntKind.i64.wrap (IntKind.i64.wrap (IntKind.i64.wrap (IntKind.i64.wrap (n - 1) - x2.lo) - x2.lo) + 1)))))))))) [] [])))))))))) ((brS (decide (IntKind.i64.wrap (IntKind.i64.wrap (n - 1) - x2.lo) < x2.lo)) ((K (SV.one (TV.at (At.val (Value.int .i64 (IntKind.i64.wrap (n.tdiv 2)))))) [] [])) (((IntKind.u64.wrap (IntKind.i64.wrap (IntKind.i64.wrap (IntKind.i64.wrap (IntKind.i64.wrap (n - 1) - x2.lo) - x2.lo) + 1)) ≠ 0)/\(K (SV.one (TV.at (At.val (Value.int .i64 (IntKind.i64.wrap (x2.lo + IntKind.i64.wrap (t.tmod (IntKind.u64.wrap (IntKind.i64.wrap (IntKind.i64.wrap (IntKind.i64.wrap (IntKind.i64.wrap (n - 1) - x2.lo) - x2.lo) + 1)))))))))) [] []))))))))))))))) (((∃ x2 : XPv n, (True/\(((Value.int .i64 (n)) = (Value.int .i64 (n))) ∧
    ((Value.int .u64 (t)) = (Value.int .u64 (t)))/\((Value.int .i64 (x1.lo)) = (Value.int .i64 (x2.lo)))/\True)/\True))/\(∀ x2 : XPv n, (True->(brS (decide (x2.lo < IntKind.i64.wrap (n - 1))) (((0<=x2.lo)/\(x2.lo<=1000000)/\(0<=IntKind.i64.wrap (IntKind.i64.wrap (n - 1) - x2.lo))/\(IntKind.i64.wrap (IntKind.i64.wrap (n - 1) - x2.lo)<=1000000)/\(∀ b : Bool, (((b) = (balB x2.lo (IntKind.i64.wrap (IntKind.i64.wrap (n - 1) - x2.lo))))->(brS (!b) ((∃ x' : XPv n, (True/\((((Value.int .i64 (n)) = (Value.int .i64 (n)))/\((Value.int .u64 (t)) = (Value.int .u64 (t)))/\((Value.int .i64 (IntKind.i64.wrap (x2.lo + 1))) = (Value.int .i64 (x'.lo)))/\True)/\True)/\((n - x'.lo).toNat < (n - x2.lo).toNat)))) ((brS (decide (IntKind.i64.wrap (IntKind.i64.wrap (n - 1) - x2.lo) < x2.lo)) ((K (SV.one (TV.at (At.val (Value.int .i64 (IntKind.i64.wrap (n.tdiv 2)))))) [] [])) (((IntKind.u64.wrap (IntKind.i64.wrap (IntKind.i64.wrap (IntKind.i64.wrap (IntKind.i64.wrap (n - 1) - x2.lo) - x2.lo) + 1)) ≠ 0)/\(K (SV.one (TV.at (At.val (Value.int .i64 (IntKind.i64.wrap (x2.lo + IntKind.i64.wrap (t.tmod (IntKind.u64.wrap (IntKind.i64.wrap (IntKind.i64.wrap (IntKind.i64.wrap (IntKind.i64.wrap (n - 1) - x2.lo) - x2.lo) + 1)))))))))) [] [])))))))))) ((brS (decide (IntKind.i64.wrap (IntKind.i64.wrap (n - 1) - x2.lo) < x2.lo)) ((K (SV.one (TV.at (At.val (Value.int .i64 (IntKind.i64.wrap (n.tdiv 2)))))) [] []))
    (((IntKind.u64.wrap (IntKind.i64.wrap (IntKind.i64.wrap (IntKind.i64.wrap (IntKind.i64.wrap (n - 1) - x2.lo) - x2.lo) + 1)) ≠ 0)/\(K (SV.one (TV.at (At.val (Value.int .i64 (IntKind.i64.wrap (x2.lo + IntKind.i64.wrap (t.tmod (IntKind.u64.wrap (IntKind.i64.wrap (IntKind.i64.wrap (IntKind.i64.wrap (IntKind.i64.wrap (n - 1) - x2.lo) - x2.lo) + 1)))))))))) [] []))))))))))))))))) = _ by kernel_rfl) ?_
  refine ⟨by omega, by omega, fun x hx => ⟨⟨⟨x, by omega, by omega, ⟨by omega, by omega⟩⟩, trivial, ⟨rfl, rfl, rfl, trivial⟩, trivial⟩, fun x1 _ => ?_⟩⟩
  obtain ⟨k1, k2, k3, k4⟩ := x1.h
  rw [wrap_id (x := x1.lo - 1) (by omega) (by omega), wrap_id (x := n - x1.lo) (by omega) (by omega)]
  refine brS_of (fun c => ?_) fun c => ?_
  · have c : x1.lo > 0 := of_decide_eq_true c
    refine ⟨by omega, by omega, by omega, by omega, fun b hb => brS_of (fun d => ?_) fun d => ?_⟩
    · rw [d] at hb
      have hb : balN (x1.lo - 1) (n - x1.lo) := of_decide_eq_true hb.symm
      refine ⟨⟨x1.lo - 1, by omega, by omega, by rw [show n - 1 - (x1.lo - 1) = n - x1.lo by omega]; exact hb⟩, trivial, ⟨⟨rfl, rfl, rfl, trivial⟩, trivial⟩, ?_⟩
      show (x1.lo - 1).toNat < x1.lo.toNat
      omega
    · skip
      refine ⟨⟨x1, trivial, ⟨rfl, rfl, rfl, trivial⟩, trivial⟩, fun x2 _ => ?_⟩
      obtain ⟨l1, l2, l3, l4⟩ := x2.h
      rw [wrap_id (x := n - 1) (by omega) (by omega), wrap_id (x := n - 1 - x2.lo) (by omega) (by omega)]
      refine brS_of (fun e => ⟨l1, by omega, by omega, by omega, fun b1 hb1 => brS_of (fun f => ?_) fun f => ?_⟩) fun e => ?_
      · have e : b1 = true := by rw [hb1]; exact decide_eq_true ⟨l3, l4⟩
        rw [e] at f; cases f
      · skip
        rw [wrap_id (x := n - 1 - x2.lo - x2.lo) (by omega) (by omega), wrap_id (x := n - 1 - x2.lo - x2.lo + 1) (by omega) (by omega)]
        refine brS_of (fun g => ?_) fun g => ?_
        · have g : n - 1 - x2.lo < x2.lo := of_decide_eq_true g
          rw [Int.tdiv_eq_ediv_of_nonneg (by omega), wrap_id (by omega) (by omega)]
          exact h _ (by omega) (by omega) ⟨by omega, by omega⟩
        · have g : ¬ n - 1 - x2.lo < x2.lo := of_decide_eq_false g
          have hm := Int.emod_nonneg t (show n - 1 - x2.lo - x2.lo + 1 ≠ 0 by omega)
          have hm2 := Int.emod_lt_of_pos t (show 0 < n - 1 - x2.lo - x2.lo + 1 by omega)
          rw [wrap_u64 (by omega) (by omega), Int.tmod_eq_emod_of_nonneg h3, wrap_id (x := t % _) (by omega) (by omega), wrap_id (by omega) (by omega)]
          exact ⟨by omega, h _ (by omega) (by omega) ⟨by omega, by omega⟩⟩
      · skip
        rw [wrap_id (x := n - 1 - x2.lo - x2.lo) (by omega) (by omega), wrap_id (x := n - 1 - x2.lo - x2.lo + 1) (by omega) (by omega)]
        refine brS_of (fun g => ?_) fun g => ?_
        · have g : n - 1 - x2.lo < x2.lo := of_decide_eq_true g
          rw [Int.tdiv_eq_ediv_of_nonneg (by omega), wrap_id (by omega) (by omega)]
          exact h _ (by omega) (by omega) ⟨by omega, by omega⟩
        · have g : ¬ n - 1 - x2.lo < x2.lo := of_decide_eq_false g
          have hm := Int.emod_nonneg t (show n - 1 - x2.lo - x2.lo + 1 ≠ 0 by omega)
          have hm2 := Int.emod_lt_of_pos t (show 0 < n - 1 - x2.lo - x2.lo + 1 by omega)
          rw [wrap_u64 (by omega) (by omega), Int.tmod_eq_emod_of_nonneg h3, wrap_id (x := t % _) (by omega) (by omega), wrap_id (by omega) (by omega)]
          exact ⟨by omega, h _ (by omega) (by omega) ⟨by omega, by omega⟩⟩
  · skip
    refine ⟨⟨x1, trivial, ⟨rfl, rfl, rfl, trivial⟩, trivial⟩, fun x2 _ => ?_⟩
    obtain ⟨l1, l2, l3, l4⟩ := x2.h
    rw [wrap_id (x := n - 1) (by omega) (by omega), wrap_id (x := n - 1 - x2.lo) (by omega) (by omega)]
    refine brS_of (fun e => ⟨l1, by omega, by omega, by omega, fun b1 hb1 => brS_of (fun f => ?_) fun f => ?_⟩) fun e => ?_
    · have e : b1 = true := by rw [hb1]; exact decide_eq_true ⟨l3, l4⟩
      rw [e] at f; cases f
    · skip
      rw [wrap_id (x := n - 1 - x2.lo - x2.lo) (by omega) (by omega), wrap_id (x := n - 1 - x2.lo - x2.lo + 1) (by omega) (by omega)]
      refine brS_of (fun g => ?_) fun g => ?_
      · have g : n - 1 - x2.lo < x2.lo := of_decide_eq_true g
        rw [Int.tdiv_eq_ediv_of_nonneg (by omega), wrap_id (by omega) (by omega)]
        exact h _ (by omega) (by omega) ⟨by omega, by omega⟩
      · have g : ¬ n - 1 - x2.lo < x2.lo := of_decide_eq_false g
        have hm := Int.emod_nonneg t (show n - 1 - x2.lo - x2.lo + 1 ≠ 0 by omega)
        have hm2 := Int.emod_lt_of_pos t (show 0 < n - 1 - x2.lo - x2.lo + 1 by omega)
        rw [wrap_u64 (by omega) (by omega), Int.tmod_eq_emod_of_nonneg h3, wrap_id (x := t % _) (by omega) (by omega), wrap_id (by omega) (by omega)]
        exact ⟨by omega, h _ (by omega) (by omega) ⟨by omega, by omega⟩⟩
    · skip
      rw [wrap_id (x := n - 1 - x2.lo - x2.lo) (by omega) (by omega), wrap_id (x := n - 1 - x2.lo - x2.lo + 1) (by omega) (by omega)]
      refine brS_of (fun g => ?_) fun g => ?_
      · have g : n - 1 - x2.lo < x2.lo := of_decide_eq_true g
        rw [Int.tdiv_eq_ediv_of_nonneg (by omega), wrap_id (by omega) (by omega)]
        exact h _ (by omega) (by omega) ⟨by omega, by omega⟩
      · have g : ¬ n - 1 - x2.lo < x2.lo := of_decide_eq_false g
        have hm := Int.emod_nonneg t (show n - 1 - x2.lo - x2.lo + 1 ≠ 0 by omega)
        have hm2 := Int.emod_lt_of_pos t (show 0 < n - 1 - x2.lo - x2.lo + 1 by omega)
        rw [wrap_u64 (by omega) (by omega), Int.tmod_eq_emod_of_nonneg h3, wrap_id (x := t % _) (by omega) (by omega), wrap_id (by omega) (by omega)]
        exact ⟨by omega, h _ (by omega) (by omega) ⟨by omega, by omega⟩⟩
theorem s_pivot : SoundT C0 88 tPivot := by
  refine .of Tryz.func88 (by decide) rfl fun args H K h hB => ?_
  unfold tPivot at h
  split at h <;> try exact h.elim
  rename_i n t
  exact ⟨aPivot n, ⟨frame C0.ok s_least _, frame C0.ok s_bal _, trivial⟩, vc_pivot n t K h.1 h.2.1 h.2.2.1 h.2.2.2⟩
theorem wrap_u64_nonneg (x : Int) : 0 <=IntKind.u64.wrap x := by
  unfold IntKind.wrap
  simp [IntKind.signed, IntKind.bits]
  omega
theorem split_at {l : List Ent} {p : Nat} (hp : p < l.length) : l.take p ++ l.getD p (0, 0) :: l.drop (p + 1) = l := by
  have h : l[p]? = some (l.getD p (0, 0)) := by simp [List.getD_eq_getElem?_getD, List.getElem?_eq_getElem hp]
  rw [← drop_cons h, List.take_append_drop]
theorem vc_plant (n : Nat) (S : Arn) (l : List Ent) (t : Int) (K : KT) (hs : List Int) (hw : Wf S hs) (h1 : l.length < n + 1) (h2 : l.length <=100000) (h3 : (l.length : Int) <=S.free) (h4 : hs.length + l.length <=900000000) (h5 : 0 <=t)
    (h : ∀ S' i, PlantR S hs l S' i ->K (.tup [.at (vU i), .at (vB true)]) (chS S' ++ [.row false EC.ent l]) W7) :
    vc C0 (aPlant n) Tryz.f61 [.at (.ptr 0 0), .at (.slc 7), .at (vU64 t)] (chS S ++ [.row false EC.ent l]) (normK 8 (wideK W7 K)) := by
  refine Eq.mp (show (brS ((↑l.length : Int) == 0) ((K (SV.tup [(TV.at (At.val (Value.int .u32 0))), (TV.at (At.val (Value.bool true)))]) [(Chunk.box [(At.ptr 1 0), (At.slc 2), (At.slc 3), (At.val (Value.int .u64 (S.reads)))]), (Chunk.box [(At.slc 4), (At.slc 5), (At.slc 6), (At.val (Value.int .u32 (S.fresh)))]), (Chunk.row true (EC.node) (S.nodes)), (Chunk.row true (EC.int) (S.counts)), (Chunk.row true (EC.bool) (S.used)), (Chunk.row true (EC.u32) (S.gen)), (Chunk.row true (EC.u32) (S.rel)), (Chunk.row false (EC.ent) (l))] [0, 1, 2, 3, 4, 5, 6])) (((1<=(↑l.length : Int))/\((↑l.length : Int)<=100000)/\(0<=t)/\(∀ p : Int, ((0<=p)->((p < (↑l.length : Int))->((balN p ((↑l.length : Int) - 1 - p))->(((0 : Int)<=0)/\(0<=p)/\(p<=(↑l.length : Int))/\(∃ hs : List Int, ((Wf S hs)/\((List.drop (Int.toNat 0) (List.take p.toNat l)).length < n)/\((List.drop (Int.toNat 0) (List.take p.toNat l)).length<=100000)/\((↑(List.drop (Int.toNat 0) (List.take p.toNat l)).length : Int)<=S.free)/\(hs.length + (List.drop (Int.toNat 0) (List.take p.toNat l)).length<=900000000)/\(0<=IntKind.u64.wrap (IntKind.u64.wrap (t.tdiv 5) + IntKind.u64.wrap (t * 3)))/\(∀ S' : Arn, (∀ i : Int, ((PlantR S hs (List.drop (Int.toNat 0) (List.take p.toNat l)) S' i)->((0<=IntKind.i64.wrap (p + 1))/\(IntKind.i64.wrap (p + 1)<=(↑l.length : Int))/\((↑l.length : Int)<=(↑l.length : Int))/\(∃ hs1 : List Int, ((Wf S' hs1) ∧
    ((List.drop (IntKind.i64.wrap (p + 1)).toNat (List.take (↑l.length : Int).toNat l)).length < n)/\((List.drop (IntKind.i64.wrap (p + 1)).toNat (List.take (↑l.length : Int).toNat l)).length<=100000)/\((↑(List.drop (IntKind.i64.wrap (p + 1)).toNat (List.take (↑l.length : Int).toNat l)).length : Int)<=S'.free)/\(hs1.length + (List.drop (IntKind.i64.wrap (p + 1)).toNat (List.take (↑l.length : Int).toNat l)).length<=900000000)/\(0<=IntKind.u64.wrap (IntKind.u64.wrap (IntKind.u64.wrap (t.tdiv 7) + IntKind.u64.wrap (t * 5)) + 1))/\(∀ S'1 : Arn, (∀ i1 : Int, ((PlantR S' hs1 (List.drop (IntKind.i64.wrap (p + 1)).toNat (List.take (↑l.length : Int).toNat l)) S'1 i1)->((0<=p)/\(p < (↑l.length : Int))/\(0<=p)/\(p < (↑l.length : Int))/\(exW S'1)/\(live S'1 i)/\(live S'1 i1)/\((mkNode S'1 (l.getD p.toNat (0, 0)).fst (l.getD p.toNat (0, 0)).snd i i1).size<=maxSize)/\(0 < S'1.free)/\(∀ S'2 : Arn, (∀ i2 : Int, (((S'2) = (makeS S'1 (l.getD p.toNat (0, 0)).fst (l.getD p.toNat (0, 0)).snd i i1))->(((i2) = (nxt S'1))->(∃ hs2 : List Int, ((Wf S'2 (i :: hs2))/\(((S'2.us i) = true)->(1<=S'2.indeg i))/\(∀ S'3 : Arn, (((S'3) = (relA S'2 i))->(∃ hs3 : List Int, ((Wf S'3 (i1 :: hs3))/\(((S'3.us i1) = true)->(1<=S'3.indeg i1))/\(∀ S'4 : Arn, (((S'4) = (relA S'3 i1)) →
    (K (SV.tup [(TV.at (At.val (Value.int .u32 (i2)))), (TV.at (At.val (Value.bool (i2 != 0))))]) [(Chunk.box [(At.ptr 1 0), (At.slc 2), (At.slc 3), (At.val (Value.int .u64 (S'4.reads)))]), (Chunk.box [(At.slc 4), (At.slc 5), (At.slc 6), (At.val (Value.int .u32 (S'4.fresh)))]), (Chunk.row true (EC.node) (S'4.nodes)), (Chunk.row true (EC.int) (S'4.counts)), (Chunk.row true (EC.bool) (S'4.used)), (Chunk.row true (EC.u32) (S'4.gen)), (Chunk.row true (EC.u32) (S'4.rel)), (Chunk.row false (EC.ent) (l))] [0, 1, 2, 3, 4, 5, 6]))))))))))))))))))))))))))))))))) = _ by kernel_rfl) ?_
  refine brS_of (fun c => ?_) fun c => ⟨?_, by omega, h5, fun p p0 p1 hb => ?_⟩
  · have e : l = [] := List.length_eq_zero_iff.1 (by simpa using c)
    have hr : PlantR S hs l S 0 := by rw [e]; exact PlantR.nil hw (by omega)
    exact h S 0 hr
  · have c : ¬ (l.length : Int) = 0 := by simpa using c
    omega
  · have hp : p.toNat < l.length := by omega
    have ea : List.drop (Int.toNat 0) (List.take p.toNat l) = l.take p.toNat := rfl
    rw [wrap_id (x := p + 1) (by omega) (by omega), ea, show (l.length : Int).toNat = l.length by omega, List.take_length, show (p + 1).toNat = p.toNat + 1 by omega]
    have la : (l.take p.toNat).length = p.toNat := by simp; omega
    have lb : (l.drop (p.toNat + 1)).length = l.length - (p.toNat + 1) := by simp
    have hf := hw.free_nonneg
    refine ⟨by decide, p0, by omega, hs, hw, by omega, by omega, by omega, by omega, wrap_u64_nonneg _, fun S1 il r1 => ?_⟩
    have hf1 := r1.wf.free_nonneg
    have n1 := r1.nu
    have c1 : S1.cap = S.cap := by unfold Arn.cap; rw [r1.len]
    refine ⟨by omega, by omega, by omega, il :: hs, r1.wf, by omega, by omega, by omega, by simp; omega, wrap_u64_nonneg _, fun S2 ir r2 => ?_⟩
    have hf2 := r2.wf.free_nonneg
    have n2 := r2.nu
    have c2 : S2.cap = S1.cap := by unfold Arn.cap; rw [r2.len]
    have hw2 : Wf S2 (il :: ir :: hs) := r2.wf.perm (List.Perm.swap _ _ _)
    have hfr : 0 < S2.free := by omega
    obtain ⟨tl, q1, q2, _⟩ := r1.rep
    obtain ⟨tr, q3, q4, _⟩ := r2.rep
    have q1' : Rep S2 tl il := q1.held r1.wf r2.stay (.inr (by simp))
    have s1 : tl.size = p.toNat := by rw [← tl.list_len, q2, la]
    have s2 : tr.size = l.length - (p.toNat + 1) := by rw [← tr.list_len, q4, lb]
    have hz : ∀ k v, (mkNode S2 k v il ir).size <=maxSize := fun k v => by rw [mk_size hw2 q1' q3]; unfold maxSize; omega
    refine ⟨p0, p1, p0, p1, ⟨_, hw2⟩, hw2.held il (by simp), hw2.held ir (by simp), hz _ _, hfr, fun S3 i e1 e2 => ?_⟩
    obtain ⟨t1, t2, t3, t4⟩ := node_two (k := (l.getD p.toNat (0, 0)).1) (v := (l.getD p.toNat (0, 0)).2) hw2 hfr (hz _ _) (by omega)
    subst e1
    refine ⟨_, t1, t2, fun S4 e3 => ?_⟩
    subst e3
    refine ⟨_, t3, t4, fun S5 e4 => ?_⟩
    have hx := (hw2.nxt_spec hfr).1
    have hi0 : (i != 0) = true := by rw [e2]; simp; omega
    rw [hi0]
    refine h S5 i ?_
    have hr : PlantR S hs (l.take p.toNat ++ l.getD p.toNat (0, 0) :: l.drop (p.toNat + 1)) S5 i := r1.node r2 (by rw [la, lb]; have e : ((l.length - (p.toNat + 1) : Nat) : Int) = (l.length : Int) - 1 - p := (by omega); rw [e, show (p.toNat : Int) = p by omega]; exact hb) fun tl' tr' x1 x2 => by
      rw [e4, e2]; exact node_ok hw2 hfr (hz _ _) (by omega) x1 x2
    rw [split_at hp] at hr
    exact hr
theorem s_plant : ∀ n, SoundT C0 61 (tPlant n) := by
  intro n
  induction n with
  | zero =>
    refine .of Tryz.func61 (by decide) rfl fun args H K h hB => ?_
    exfalso
    unfold tPlant at h
    split at h <;> try exact h.elim
    unfold arMr at h
    split at h <;> try exact h.elim
    split at h <;> try exact h.elim
    obtain ⟨_, _, h1, _⟩ := h
    omega
  | succ n ih =>
    refine .ofW W7 Tryz.func61 (by decide) rfl fun args H K h hB => ?_
    unfold tPlant at h
    split at h <;> try exact h.elim
    unfold arMr at h
    split at h <;> try exact h.elim
    split at h <;> try exact h.elim
    rename_i t _ rd fr nd ct us gn rl _ l
    obtain ⟨hs, h1, h2, h3, h4, h5, h6, h7⟩ := h
    exact ⟨aPlant n, ⟨frame C0.ok s_pivot _, frame C0.ok ih _, frame C0.ok s_makeOk _, frame C0.ok s_give _, trivial⟩, vc_plant n ⟨us, gn, rl, fr, nd, ct, rd⟩ l t K hs h1 h2 h3 h4 h5 h6 h7⟩
def tPlantA : Tfm C0 := fun args H K => match args with
  | [.at (.ptr 0 0), .at (.slc 7), .at (.val (.int .u64 t))] => arMr H fun S rest => match rest with
    | [.row false .ent l] => ∃ hs, Wf S hs /\l.length <=100000 /\(l.length : Int) <=S.free /\hs.length + l.length <=900000000 /\0 <=t /\∀ S' i, PlantR S hs l S' i ->K (.tup [.at (vU i), .at (vB true)]) (chS S' ++ [.row false EC.ent l]) W7
    | _ => False
  | _ => False
theorem s_plantA : SoundT C0 61 tPlantA := (s_plant 100001).weak fun args H K h => by
  unfold tPlantA at h
  unfold tPlant
  split at h <;> try exact h.elim
  unfold arMr at h ⊢
  split at h <;> try exact h.elim
  split at h <;> try exact h.elim
  obtain ⟨hs, h1, h2, h3, h4, h5, h6⟩ := h
  exact ⟨hs, h1, by omega, h2, h3, h4, h5, h6⟩
end Go.Proofs.YtmjnoiajenoinaaGreat.Sx
end
