/- A part of the proof. -/
import Derived.Test.YtmjnoiajenoinaaG12
import Derived.Test.YtmjnoiajenoinaaG7
import Derived.Test.YtmjnoiajenoinaaG6
import Derived.Test.YtmjnoiajenoinaaG10
section
/- Trees that are held, with their entries: what is free. No program in sight. -/
namespace Go.Proofs.Ytmjnoiajenoinaa.Sx
open Go

variable {S S' : Arn} {hs : List Int}
def sumL (E : List (Int × List Ent)) : Nat := (E.map fun p => p.2.length).sum
structure Hld (S : Arn) (E : List (Int × List Ent)) : Prop where
  wf : Wf S (E.map Prod.fst)
  rep : ∀ p ∈ E, ∃ t, Rep S t p.1 ∧ t.list = p.2 ∧ t.Bal
  asc : ∀ p ∈ E, Asc p.2
  kin : ∀ p ∈ E, Kin p.2
theorem nuR_sum (w : Wf S hs) : ∀ E : List (Int × List Ent), (∀ p ∈ E, ∃ t, Rep S t p.1 ∧ t.list = p.2 ∧ t.Bal) → nuR S (E.map Prod.fst) ≤ nuR S [] + sumL E
  | [], _ => by simp [sumL]
  | p :: E, h => by
    obtain ⟨t, rp, lt, _⟩ := h p (List.mem_cons_self ..)
    have a := nuR_cons (hs := E.map Prod.fst) w rp
    have b := nuR_sum w E fun q hq => h q (List.mem_cons_of_mem _ hq)
    have c : t.size = p.2.length := by rw [← t.list_len, lt]
    rw [List.map_cons]
    unfold sumL at *
    rw [List.map_cons, List.sum_cons]
    omega
open Classical in
theorem nuR_nil (w : Wf S hs) : nuR S [] = 0 := by
  unfold nuR
  refine List.countP_eq_zero.2 fun i _ hi => ?_
  have hr : Rch S [] (i : Int) := of_decide_eq_true hi
  clear hi
  generalize (i : Int) = j at hr
  induction hr with
  | root a _ => cases a
  | left _ _ ih => exact ih
  | right _ _ ih => exact ih
theorem Hld.room {E : List (Int × List Ent)} (h : Hld S E) : S.cap ≤ S.free + sumL E := by
  have a := h.wf.free_nonneg.2.2.2
  have b := h.wf.nuR
  have c := nuR_sum h.wf E h.rep
  have d := nuR_nil h.wf
  omega
theorem Hld.step {E : List (Int × List Ent)} {L : List Ent} {m r : Nat} {j : Int} (e : Hld S E) (tr : TrR S (E.map Prod.fst) L m r S' j) (ha : Asc L) (hk : Kin L) : Hld S' ((j, L) :: E) where
  wf := tr.got.wf
  rep p hp := by
    rcases List.mem_cons.1 hp with rfl | hp
    · exact tr.tree
    · obtain ⟨t, rp, lt, bt⟩ := e.rep p hp
      exact ⟨t, rp.held e.wf tr.got.stay (.inr (List.mem_map.2 ⟨p, hp, rfl⟩)), lt, bt⟩
  asc p hp := by
    rcases List.mem_cons.1 hp with rfl | hp
    · exact ha
    · exact e.asc p hp
  kin p hp := by
    rcases List.mem_cons.1 hp with rfl | hp
    · exact hk
    · exact e.kin p hp
theorem Hld.rd {E : List (Int × List Ent)} {n : Nat} (e : Hld S E) (h : S.reads + n ≤ 4000000000000000000) : Hld (rdS S n) E where
  wf := e.wf.rd h
  rep p hp := by
    obtain ⟨t, rp, lt, bt⟩ := e.rep p hp
    exact ⟨t, rp.rdn, lt, bt⟩
  asc := e.asc
  kin := e.kin
theorem sumL_cons (j : Int) (L : List Ent) (E : List (Int × List Ent)) : sumL ((j, L) :: E) = L.length + sumL E := by
  unfold sumL; rw [List.map_cons, List.sum_cons]
theorem sumL_nil : sumL [] = 0 := rfl
theorem tr_cap {L : List Ent} {m r : Nat} {j : Int} (tr : TrR S hs L m r S' j) : S'.cap = S.cap := cap_len tr.got.len
end Go.Proofs.Ytmjnoiajenoinaa.Sx
end
section
/- Updates where there is room, whether the key is there or not; held trees that are given back. -/
namespace Go.Proofs.Ytmjnoiajenoinaa.Sx
open Go

/-- What deleting comes to where there is room. -/
def UpdR (S : Arn) (hs : List Int) (t : Tr) (k : Int) (S' : Arn) (j f : Int) : Prop :=
  (getE t.list k = none ∧ f = 4 ∧ j = 0 ∧ ∃ m, m ≤ ht t ∧ S' = rdS S m) ∨ (getE t.list k ≠ none ∧ f = 0 ∧ TrR S hs (flt (neK k) t.list) (dB t.size) (5 * dB t.size + ht t + 1) S' j)
def tUpDx : Tfm C0 := fun args H K => match args with
  | [.at (.ptr 0 0), .at (.val (.int .u32 r)), .at (.val (.int .i64 k))] => arM H fun S => ∃ hs t, upM S hs t r ∧ 4 * (Hn t.size + 2) ≤ S.free ∧
    ∀ S' j v f, UpdR S hs t k S' j f → K (.tup [.at (vU j), .at (vI v), .at (vI f)]) (chS S') W7
  | _ => False
theorem s_upDx : SoundT C0 29 tUpDx := s_upD.weak fun args H K h => by
  unfold tUpDx at h
  unfold tUpD
  split at h <;> try exact h.elim
  unfold arM at h ⊢
  split at h <;> try exact h.elim
  obtain ⟨hs, t, hm, hf, h⟩ := h
  exact ⟨hs, t, hm, fun hn S' m e hm' => h S' 0 0 4 (.inl ⟨hn, rfl, rfl, m, hm', e⟩), fun v' _ hf' => absurd hf (by omega), fun v' he' _ S' j tr => h S' j v' 0 (.inr ⟨by rw [he']; simp, rfl, tr⟩)⟩
variable {S S' : Arn} {E : List (Int × List Ent)} {x : Int} {l : List Ent}
theorem Hld.drop (h : Hld S ((x, l) :: E)) (w : Wf S' (E.map Prod.fst)) (kp : Kept S S') : Hld S' E where
  wf := w
  rep p hp := by
    obtain ⟨t, rp, lt, bt⟩ := h.rep p (List.mem_cons_of_mem _ hp)
    have w0 : Wf S (x :: E.map Prod.fst) := h.wf
    have g := rel_got w0 w kp
    exact ⟨t, rp.held w0 g.stay (.inr (List.mem_map.2 ⟨p, hp, rfl⟩)), lt, bt⟩
  asc p hp := h.asc p (List.mem_cons_of_mem _ hp)
  kin p hp := h.kin p (List.mem_cons_of_mem _ hp)
theorem Hld.perm {E' : List (Int × List Ent)} (h : Hld S E) (p : E.Perm E') : Hld S E' where
  wf := h.wf.perm (p.map _)
  rep q hq := h.rep q (p.mem_iff.2 hq)
  asc q hq := h.asc q (p.mem_iff.2 hq)
  kin q hq := h.kin q (p.mem_iff.2 hq)
theorem kept_cap (k : Kept S S') : S'.cap = S.cap := by unfold Arn.cap; rw [k.len]
end Go.Proofs.Ytmjnoiajenoinaa.Sx
end
section
/- Equal dumps, and the count of a slot of a dump. -/
namespace Go.Proofs.Ytmjnoiajenoinaa.Sx
open Go

/-KEEP Wf exW inU alcD slotsOf orderOf-/
noncomputable def aSameS (l m : List SlotT) : Ann C0 := { Γ := [], inv := fun n => match n with
  | 4 => some { X := XIx l.length, sl := [5], tf := fun x => [vi .i64 x.i], hf := fun _ => [.row false EC.slot l, .row false EC.slot m], μ := fun x => l.length - x.i }
  | _ => none }
def tSameS : Tfm C0 := fun args H K => match args, H with
  | [.at (.slc 0), .at (.slc 1)], [.row false .slot l, .row false .slot m] => l = m ∧ l.length ≤ 1000000 ∧ K (.one (.at (vB true))) [.row false EC.slot l, .row false EC.slot m] []
  | _, _ => False
noncomputable def aSameU (l m : List Int) : Ann C0 := { Γ := [], inv := fun n => match n with
  | 4 => some { X := XIx l.length, sl := [5], tf := fun x => [vi .i64 x.i], hf := fun _ => [.row false EC.u32 l, .row false EC.u32 m], μ := fun x => l.length - x.i }
  | _ => none }
def tSameU : Tfm C0 := fun args H K => match args, H with
  | [.at (.slc 0), .at (.slc 1)], [.row false .u32 l, .row false .u32 m] => l = m ∧ l.length ≤ 1000000 ∧ K (.one (.at (vB true))) [.row false EC.u32 l, .row false EC.u32 m] []
  | _, _ => False
noncomputable def aSameD : Ann C0 := { Γ := [(66, frameT [] tSameS), (26, frameT [] tSameU)] }
def tSameD : Tfm C0 := fun args H K => match args, H with
  | [.agg [.slc 0, .slc 1], .agg [.slc 2, .slc 3]], [.row false .slot d, .row false .u32 f, .row false .slot e, .row false .u32 g] => d = e ∧ f = g ∧ d.length ≤ 1000000 ∧ f.length ≤ 1000000 ∧ K (.one (.at (vB true))) [.row false EC.slot d, .row false EC.u32 f, .row false EC.slot e, .row false EC.u32 g] []
  | _, _ => False
def cntD (d : List SlotT) (i : Int) : Int := if alcD d i = true then (sltD d i).count else 0
noncomputable def aCn24 : Ann C0 := { Γ := [(23, frameT [] tAlc)] }
def tCn24 : Tfm C0 := fun args H K => match args, H with
  | [.agg [.slc 0, .slc 1], .at (.val (.int .u32 i))], [.row false .slot d, .row false .u32 fl] => inU i ∧ d.length ≤ 1000000 ∧ ∀ c, c = cntD d i → K (.one (.at (vI c))) [.row false EC.slot d, .row false EC.u32 fl] []
  | _, _ => False
end Go.Proofs.Ytmjnoiajenoinaa.Sx
end
section
/- The reference's trees over a dump: nodes, balance, height, list, order, Check, Tree. -/
namespace Go.Proofs.Ytmjnoiajenoinaa.Sx
open Go

/-KEEP Wf exW inU alcD slotsOf orderOf ndD RepD Asc Tr.Bal Tr.size Tr.list ht balB lastK anyK gtL ShpT-/
def ndD (d : List SlotT) (i : Int) : NodeT := if alcD d i = true then (sltD d i).node else NodeT.zero
def lastK : Tr → Int → Int
  | .nil, x => x
  | .node _ k _ r, _ => lastK r k
def anyK : Tr → Bool → Bool
  | .nil, b => b
  | .node _ _ _ _, _ => true
def gtL (x : Int) (l : List Ent) : Prop := ∀ y ∈ l, x < y.1
/-- An index of a dump stands for a tree. -/
def RepD (d : List SlotT) : Tr → Int → Prop
  | .nil, i => i = 0
  | .node l k v r, i => alcD d i = true ∧ (ndD d i).key = k ∧ (ndD d i).value = v ∧ (ndD d i).size = 1 + l.size + r.size ∧ RepD d l (ndD d i).left ∧ RepD d r (ndD d i).right
noncomputable def aAlcG : Ann C0 := { Γ := [(23, frameT [] tAlc)] }
def tNd : Tfm C0 := fun args H K => match args, H with
  | [.agg [.slc 0, .slc 1], .at (.val (.int .u32 i))], [.row false .slot d, .row false .u32 fl] => inU i ∧ d.length ≤ 1000000 ∧ ∀ n, n = ndD d i → K (.one (nodeA n)) [.row false EC.slot d, .row false EC.u32 fl] []
  | _, _ => False
def tBl7 (n : Nat) : Tfm C0 := fun args H K => match args, H with
  | [.agg [.slc 0, .slc 1], .at (.val (.int .u32 i))], [.row false .slot d, .row false .u32 fl] => d.length ≤ 1000000 ∧ (∃ t, RepD d t i ∧ t.Bal ∧ t.size < n ∧ t.size ≤ 1000000) ∧ K (.one (.at (vB true))) [.row false EC.slot d, .row false EC.u32 fl] []
  | _, _ => False
noncomputable def aBl7 (n : Nat) : Ann C0 := { quiet := [78, 144, 122], Γ := [(78, frameT [] tNd), (144, frameT [] tBal), (122, frameT [] (tBl7 n))] }
def tHt7 (n : Nat) : Tfm C0 := fun args H K => match args, H with
  | [.agg [.slc 0, .slc 1], .at (.val (.int .u32 i))], [.row false .slot d, .row false .u32 fl] => d.length ≤ 1000000 ∧ ∃ t, RepD d t i ∧ t.size < n ∧ t.size ≤ 1000000 ∧ ∀ h, h = (ht t : Int) → K (.one (.at (vI h))) [.row false EC.slot d, .row false EC.u32 fl] []
  | _, _ => False
def tLi7 (n : Nat) : Tfm C0 := fun args H K => match args, H with
  | [.agg [.slc 0, .slc 1], .at (.val (.int .u32 i))], [.row false .slot d, .row false .u32 fl] => d.length ≤ 1000000 ∧ ∃ t, RepD d t i ∧ t.size < n ∧ t.size ≤ 1000000 ∧ ∀ r, r = t.list → K (.one (.at (.slc 2))) [.row false EC.slot d, .row false EC.u32 fl, .row true EC.ent r] []
  | _, _ => False
noncomputable def aLi7 (n : Nat) : Ann C0 := { quiet := [78, 48], Γ := [(78, frameT [] tNd), (48, frameT [] (tLi7 n))] }
def tOr7 (n : Nat) : Tfm C0 := fun args H K => match args, H with
  | [.at (.ptr 0 0), .at (.val (.int .u32 i))], [.box [.slc 1, .slc 2, .val (.int .i64 last), .val (.bool any), .val (.int .i64 most)], .row false .slot d, .row false .u32 fl] => d.length ≤ 1000000 ∧ ∃ t, RepD d t i ∧ Asc t.list ∧ t.size < n ∧ (t.size : Int) ≤ most ∧ most ≤ 10000000 ∧ (any = true → gtL last t.list) ∧
    ∀ la an mo, la = lastK t last → an = anyK t any → mo = most - t.size → K (.one (.at (vB true))) [.box [.slc 1, .slc 2, vI la, vB an, vI mo], .row false EC.slot d, .row false EC.u32 fl] [0]
  | _, _ => False
noncomputable def aOr7 (n : Nat) : Ann C0 := { Γ := [(78, frameT [] tNd), (121, frameT [] (tOr7 n))] }
noncomputable def aCk7 (n : Nat) : Ann C0 := { Γ := [(23, frameT [] tAlc), (121, frameT [] (tOr7 n)), (122, frameT [] (tBl7 n))] }
def tCk7 : Tfm C0 := fun args H K => match args, H with
  | [.agg [.slc 0, .slc 1], .at (.val (.int .u32 i))], [.row false .slot d, .row false .u32 fl] => d.length ≤ 1000000 ∧ (∃ t, RepD d t i ∧ Asc t.list ∧ t.Bal ∧ t.size ≤ 2 * d.length + 2 ∧ t.size ≤ 1000000) ∧ K (.one (.at (vI 0))) [.row false EC.slot d, .row false EC.u32 fl] []
  | _, _ => False
noncomputable def aTr7 (n : Nat) (l : List Ent) (d : List SlotT) (fl : List Int) : Ann C0 := { Γ := [(77, frameT [] tCk7), (78, frameT [] tNd), (48, frameT [] (tLi7 n))], inv := fun k => match k with
  | 7 => some { X := XIx l.length, sl := [8, 3, 7], tf := fun x => [vi .i64 x.i, .one (.at (.ptr 3 0)), .one (.at (.slc 4))], hf := fun _ => [.row false EC.slot d, .row false EC.u32 fl, .row false EC.ent l, .box [.slc 0, .slc 1], .row true EC.ent l], μ := fun x => l.length - x.i }
  | _ => none }
def tTr7 : Tfm C0 := fun args H K => match args, H with
  | [.agg [.slc 0, .slc 1], .at (.val (.int .u32 i)), .at (.slc 2)], [.row false .slot d, .row false .u32 fl, .row false .ent l] => d.length ≤ 1000000 ∧ (∃ t, RepD d t i ∧ Asc t.list ∧ t.Bal ∧ t.size ≤ 2 * d.length + 2 ∧ t.size ≤ 1000000 ∧ t.list = l) ∧ K (.one (.at (vB true))) [.row false EC.slot d, .row false EC.u32 fl, .row false EC.ent l] []
  | _, _ => False
theorem bt7 {b : Bool} {t f : Prop} (h : b = true) (ht : t) : brS b t f := by rw [h]; exact ht
theorem bf7 {b : Bool} {t f : Prop} (h : b = false) (hf : f) : brS b t f := by rw [h]; exact hf
theorem RepD.inU {d : List SlotT} {t : Tr} {i : Int} (h : RepD d t i) (hl : d.length ≤ 1000000) : inU i := by
  cases t with
  | nil => have : i = 0 := h; rw [this]; exact ⟨by omega, by omega⟩
  | node l k v r => have := alcD_rng h.1; exact ⟨by omega, by omega⟩
theorem RepD.sz {d : List SlotT} {t : Tr} {i : Int} (h : RepD d t i) : (ndD d i).size = t.size := by
  cases t with
  | nil =>
    have : i = 0 := h
    unfold ndD
    rw [this, alcD_lo (by omega)]; rfl
  | node l k v r => rw [h.2.2.2.1]; simp [Tr.size]
theorem RepD.ne {d : List SlotT} {l r : Tr} {k v i : Int} (h : RepD d (.node l k v r) i) : i ≠ 0 := by have := alcD_rng h.1; omega
theorem s_nd7 : SoundT C0 78 tNd := by
  refine .of Try.func78 (by decide) rfl fun args H K h hB => ?_
  unfold tNd at h
  split at h <;> try exact h.elim
  rename_i i d fl
  obtain ⟨h1, h2, h⟩ := h
  have key : ∀ d : List SlotT, d.length ≤ 1000000 → (∀ n, n = ndD d i → K (.one (nodeA n)) [.row false EC.slot d, .row false EC.u32 fl] []) → vc C0 aAlcG Try.f78 [.agg [.slc 0, .slc 1], .at (vU i)] [.row false EC.slot d, .row false EC.u32 fl] (normK 2 K) := fun d h2 h => by
    refine Eq.mp (show ((inU i) ∧
(d.length ≤ 1000000) ∧
(brS (!alcD d i) ((K (SV.one (TV.agg [(At.val (Value.int IntKind.i64 0)), (At.val (Value.int IntKind.i64 0)), (At.val (Value.int IntKind.u32 0)), (At.val (Value.int IntKind.u32 0)), (At.val (Value.int IntKind.i64 0)), (At.val (Value.int IntKind.i64 0)), (At.val (Value.int IntKind.i64 0)), (At.val (Value.int IntKind.i64 0))])) [(Chunk.row false (EC.slot) (d)), (Chunk.row false (EC.u32) (fl))] [])) (((0 ≤ IntKind.u32.wrap (i - 1)) ∧ (IntKind.u32.wrap (i - 1) < (↑d.length : Int)) ∧ (K (SV.one (TV.agg [(At.val (Value.int IntKind.i64 ((eS d (IntKind.u32.wrap (i - 1)).toNat).node.key))), (At.val (Value.int IntKind.i64 ((eS d (IntKind.u32.wrap (i - 1)).toNat).node.value))), (At.val (Value.int IntKind.u32 ((eS d (IntKind.u32.wrap (i - 1)).toNat).node.left))), (At.val (Value.int IntKind.u32 ((eS d (IntKind.u32.wrap (i - 1)).toNat).node.right))), (At.val (Value.int IntKind.i64 ((eS d (IntKind.u32.wrap (i - 1)).toNat).node.size))), (At.val (Value.int IntKind.i64 ((eS d (IntKind.u32.wrap (i - 1)).toNat).node.sum))), (At.val (Value.int IntKind.i64 ((eS d (IntKind.u32.wrap (i - 1)).toNat).node.min))), (At.val (Value.int IntKind.i64 ((eS d (IntKind.u32.wrap (i - 1)).toNat).node.max)))])) [(Chunk.row false (EC.slot) (d)), (Chunk.row false (EC.u32) (fl))] []))))) = _ by kernel_rfl) ?_
    refine ⟨h1, h2, brS_of (fun c => ?_) fun c => ?_⟩
    · have c : alcD d i = false := by simpa using c
      exact h NodeT.zero (by unfold ndD; rw [c]; rfl)
    · have c : alcD d i = true := by simpa using c
      obtain ⟨a, b⟩ := alcD_rng c
      obtain ⟨u1, u2⟩ := h1
      rw [wrap_u32 (x := i - 1) (by omega) (by omega)]
      exact ⟨by omega, by omega, h (eS d (i - 1).toNat).node (by unfold ndD; rw [if_pos c]; rfl)⟩
  exact ⟨aAlcG, ⟨frame C0.ok s_alc _, trivial⟩, key d h2 h⟩
theorem vc_bl7 (n : Nat) (d : List SlotT) (fl : List Int) (i : Int) (K : KT) (hl : d.length ≤ 1000000) (t : Tr) (rp : RepD d t i) (bal : t.Bal) (hn : t.size < n + 1) (hs : t.size ≤ 1000000) (h : K (.one (.at (vB true))) [.row false EC.slot d, .row false EC.u32 fl] []) :
    vc C0 (aBl7 n) Try.f122 [.agg [.slc 0, .slc 1], .at (vU i)] [.row false EC.slot d, .row false EC.u32 fl] (normK 2 K) := by
  refine Eq.mp (show (brS (i == 0) ((K (SV.one (TV.at (At.val (Value.bool true)))) [(Chunk.row false (EC.slot) (d)), (Chunk.row false (EC.u32) (fl))] [])) (((inU i) ∧ (d.length ≤ 1000000) ∧ (∀ n1 : NodeT, (((n1) = (ndD d i)) → ((inU n1.left) ∧ (d.length ≤ 1000000) ∧ (∀ n2 : NodeT, (((n2) = (ndD d n1.left)) → ((inU n1.right) ∧ (d.length ≤ 1000000) ∧ (∀ n3 : NodeT, (((n3) = (ndD d n1.right)) → ((0 ≤ n2.size) ∧ (n2.size ≤ 1000000) ∧ (0 ≤ n3.size) ∧ (n3.size ≤ 1000000) ∧ (∀ b : Bool, (((b) = (balB n2.size n3.size)) → (brS (b) (((d.length ≤ 1000000) ∧ (∃ t : Tr, ((RepD d t n1.left) ∧ (t.Bal) ∧ (t.size < n) ∧ (t.size ≤ 1000000))) ∧ (d.length ≤ 1000000) ∧ (∃ t : Tr, ((RepD d t n1.right) ∧ (t.Bal) ∧ (t.size < n) ∧ (t.size ≤ 1000000))) ∧ (K (SV.one (TV.at (At.val (Value.bool true)))) [(Chunk.row false (EC.slot) (d)), (Chunk.row false (EC.u32) (fl))] []))) ((K (SV.one (TV.at (At.val (Value.bool false)))) [(Chunk.row false (EC.slot) (d)), (Chunk.row false (EC.u32) (fl))] []))))))))))))))))) = _ by kernel_rfl) ?_
  cases t with
  | nil => have e : i = 0 := rp; exact bt7 (by rw [e]; rfl) h
  | node l k v r =>
    have hi := rp.inU hl
    have hne := rp.ne
    obtain ⟨h1, h2, h3, h4, h5, h6⟩ := rp
    obtain ⟨b0, bl, br⟩ := bal
    have hz : (Tr.node l k v r).size = 1 + l.size + r.size := rfl
    refine bf7 (by simp [hne]) ⟨hi, hl, fun n1 e1 => ?_⟩
    subst e1
    refine ⟨h5.inU hl, hl, fun n2 e2 => ⟨h6.inU hl, hl, fun n3 e3 => ?_⟩⟩
    have s2 : n2.size = l.size := by rw [e2, h5.sz]
    have s3 : n3.size = r.size := by rw [e3, h6.sz]
    refine ⟨by omega, by omega, by omega, by omega, fun b eb => bt7 (by rw [eb, s2, s3]; exact decide_eq_true b0) ⟨hl, ⟨l, h5, bl, by omega, by omega⟩, hl, ⟨r, h6, br, by omega, by omega⟩, h⟩⟩
theorem s_bl7 : ∀ n : Nat, SoundT C0 122 (tBl7 n)
  | 0 => by
    refine .of Try.func122 (by decide) rfl fun args H K h hB => ?_
    unfold tBl7 at h
    split at h <;> try exact h.elim
    obtain ⟨_, ⟨t, _, _, hn, _⟩, _⟩ := h
    omega
  | n + 1 => by
    refine .of Try.func122 (by decide) rfl fun args H K h hB => ?_
    unfold tBl7 at h
    split at h <;> try exact h.elim
    rename_i i d fl
    obtain ⟨hl, ⟨t, rp, bal, hn, hs⟩, h⟩ := h
    exact ⟨aBl7 n, ⟨frame C0.ok s_nd7 _, frame C0.ok s_bal _, frame C0.ok (s_bl7 n) _, trivial⟩, vc_bl7 n d fl i K hl t rp bal hn hs h⟩
theorem vc_li7 (n : Nat) (d : List SlotT) (fl : List Int) (i : Int) (K : KT) (hl : d.length ≤ 1000000) (t : Tr) (rp : RepD d t i) (hn : t.size < n + 1) (hs : t.size ≤ 1000000) (h : ∀ r, r = t.list → K (.one (.at (.slc 2))) [.row false EC.slot d, .row false EC.u32 fl, .row true EC.ent r] []) :
    vc C0 (aLi7 n) Try.f48 [.agg [.slc 0, .slc 1], .at (vU i)] [.row false EC.slot d, .row false EC.u32 fl] (normK 2 K) := by
  refine Eq.mp (show (brS (i == 0) ((K (SV.one (TV.at (At.slc 2))) [(Chunk.row false (EC.slot) (d)), (Chunk.row false (EC.u32) (fl)), (Chunk.row true (EC.ent) [])] [])) (((inU i) ∧ (d.length ≤ 1000000) ∧ (∀ n1 : NodeT, (((n1) = (ndD d i)) → (((d.length ≤ 1000000) ∧ (∃ t : Tr, ((RepD d t n1.left) ∧ (t.size < n) ∧ (t.size ≤ 1000000) ∧ (∀ r : List Ent, (((r) = (t.list)) → (((r.length + [(n1.key, n1.value)].length) * bytesOf C0 EC.ent ≤ 140737488355328) ∧ (d.length ≤ 1000000) ∧ (∃ t1 : Tr, ((RepD d t1 n1.right) ∧ (t1.size < n) ∧ (t1.size ≤ 1000000) ∧ (∀ r1 : List Ent, (((r1) = (t1.list)) → ((((r ++ [(n1.key, n1.value)]).length + r1.length) * bytesOf C0 EC.ent ≤ 140737488355328) ∧ (K (SV.one (TV.at (At.slc 2))) [(Chunk.row false (EC.slot) (d)), (Chunk.row false (EC.u32) (fl)), (Chunk.row true (EC.ent) (r ++ [(n1.key, n1.value)] ++ r1))] [])))))))))))) ∧ (d.length ≤ 1000000) ∧ (∃ t : Tr, ((RepD d t n1.left) ∧ (t.size < n) ∧ (t.size ≤ 1000000) ∧ (∀ r : List Ent, (((r) = (t.list)) → (((r.length + [(n1.key, n1.value)].length) * bytesOf C0 EC.ent ≤ 140737488355328) ∧ (d.length ≤ 1000000) ∧ (∃ t1 : Tr, ((RepD d t1 n1.right) ∧ (t1.size < n) ∧ (t1.size ≤ 1000000) ∧ (∀ r1 : List Ent, (((r1) = (t1.list)) → ((((r ++ [(n1.key, n1.value)]).length + r1.length) * bytesOf C0 EC.ent ≤ 140737488355328) ∧ (K (SV.one (TV.at (At.slc 2))) [(Chunk.row false (EC.slot) (d)), (Chunk.row false (EC.u32) (fl)), (Chunk.row true (EC.ent) (r ++ [(n1.key, n1.value)] ++ r1))] []))))))))))))))))) = _ by kernel_rfl) ?_
  rw [bytes_ent]
  cases t with
  | nil => have e : i = 0 := rp; exact bt7 (by rw [e]; rfl) (h [] rfl)
  | node l k v r =>
    have hi := rp.inU hl
    have hne := rp.ne
    obtain ⟨h1, h2, h3, h4, h5, h6⟩ := rp
    have hz : (Tr.node l k v r).size = 1 + l.size + r.size := rfl
    refine bf7 (by simp [hne]) ⟨hi, hl, fun n1 e1 => ?_⟩
    subst e1
    have ll := l.list_len
    have lr := r.list_len
    constructor
    all_goals
      refine ⟨hl, l, h5, by omega, by omega, fun a ea => ⟨?_, hl, r, h6, by omega, by omega, fun b eb => ⟨?_, h _ ?_⟩⟩⟩
      · rw [ea, ll]; show (l.size + 1) * 16 ≤ 140737488355328; omega
      · rw [List.length_append, ea, eb, ll, lr]; show (l.size + 1 + r.size) * 16 ≤ 140737488355328; omega
      · rw [ea, eb, h2, h3]; simp [Tr.list]
theorem s_li7 : ∀ n : Nat, SoundT C0 48 (tLi7 n)
  | 0 => by
    refine .of Try.func48 (by decide) rfl fun args H K h hB => ?_
    unfold tLi7 at h
    split at h <;> try exact h.elim
    obtain ⟨_, t, _, hn, _⟩ := h
    omega
  | n + 1 => by
    refine .of Try.func48 (by decide) rfl fun args H K h hB => ?_
    unfold tLi7 at h
    split at h <;> try exact h.elim
    rename_i i d fl
    obtain ⟨hl, t, rp, hn, hs, h⟩ := h
    exact ⟨aLi7 n, ⟨frame C0.ok s_nd7 _, frame C0.ok (s_li7 n) _, trivial⟩, vc_li7 n d fl i K hl t rp hn hs h⟩
theorem lastK_mem : ∀ (t : Tr) (x : Int), lastK t x = x ∨ ∃ y ∈ t.list, y.1 = lastK t x
  | .nil, x => .inl rfl
  | .node l k v r, x => by
    rcases lastK_mem r k with e | ⟨y, hy, e⟩
    · exact .inr ⟨(k, v), by simp [Tr.list], e.symm⟩
    · exact .inr ⟨y, by simp [Tr.list, hy], e⟩
theorem lastK_lt {t : Tr} {any : Bool} {last k : Int} (h1 : any = true → last < k) (h2 : ∀ x ∈ t.list, x.1 < k) (h3 : anyK t any = true) : lastK t last < k := by
  cases t with
  | nil => exact h1 h3
  | node l k' v r =>
    show lastK r k' < k
    rcases lastK_mem r k' with e | ⟨y, hy, e⟩
    · rw [e]; exact h2 (k', v) (by simp [Tr.list])
    · rw [← e]; exact h2 y (by simp [Tr.list, hy])
theorem anyK_true (t : Tr) : anyK t true = true := by cases t <;> rfl
theorem vc_or7 (n : Nat) (d : List SlotT) (fl : List Int) (last most i : Int) (any : Bool) (K : KT) (hl : d.length ≤ 1000000) (t : Tr) (rp : RepD d t i) (hasc : Asc t.list) (hn : t.size < n + 1) (hm : (t.size : Int) ≤ most) (hm2 : most ≤ 10000000) (hg : any = true → gtL last t.list)
    (h : ∀ la an mo, la = lastK t last → an = anyK t any → mo = most - t.size → K (.one (.at (vB true))) [.box [.slc 1, .slc 2, vI la, vB an, vI mo], .row false EC.slot d, .row false EC.u32 fl] [0]) :
    vc C0 (aOr7 n) Try.f121 [.at (.ptr 0 0), .at (vU i)] [.box [.slc 1, .slc 2, vI last, vB any, vI most], .row false EC.slot d, .row false EC.u32 fl] (normK 3 (wideK [0] K)) := by
  refine Eq.mp (show (brS (i == 0) ((K (SV.one (TV.at (At.val (Value.bool true)))) [(Chunk.box [(At.slc 1), (At.slc 2), (At.val (Value.int IntKind.i64 (last))), (At.val (Value.bool (any))), (At.val (Value.int IntKind.i64 (most)))]), (Chunk.row false (EC.slot) (d)), (Chunk.row false (EC.u32) (fl))] [0])) ((brS (most == 0) ((K (SV.one (TV.at (At.val (Value.bool false)))) [(Chunk.box [(At.slc 1), (At.slc 2), (At.val (Value.int IntKind.i64 (last))), (At.val (Value.bool (any))), (At.val (Value.int IntKind.i64 (most)))]), (Chunk.row false (EC.slot) (d)), (Chunk.row false (EC.u32) (fl))] [0])) (((inU i) ∧ (d.length ≤ 1000000) ∧ (∀ n1 : NodeT, (((n1) = (ndD d i)) → ((d.length ≤ 1000000) ∧ (∃ t : Tr, ((RepD d t n1.left) ∧ (Asc t.list) ∧ (t.size < n) ∧ ((↑t.size : Int) ≤ IntKind.i64.wrap (most - 1)) ∧ (IntKind.i64.wrap (most - 1) ≤ 10000000) ∧ (((any) = true) → (gtL last t.list)) ∧ (∀ la : Int, (∀ an : Bool, (∀ mo : Int, (((la) = (lastK t last)) → (((an) = (anyK t any)) → (((mo) = (IntKind.i64.wrap (most - 1) - (↑t.size : Int))) → (brS (an) ((brS (decide (n1.key ≤ la)) ((K (SV.one (TV.at (At.val (Value.bool false)))) [(Chunk.box [(At.slc 1), (At.slc 2), (At.val (Value.int IntKind.i64 (la))), (At.val (Value.bool (an))), (At.val (Value.int IntKind.i64 (mo)))]), (Chunk.row false (EC.slot) (d)), (Chunk.row false (EC.u32) (fl))] [0])) (((d.length ≤ 1000000) ∧ (∃ t1 : Tr, ((RepD d t1 n1.right) ∧ (Asc t1.list) ∧ (t1.size < n) ∧ ((↑t1.size : Int) ≤ mo) ∧ (mo ≤ 10000000) ∧ ((true = true) → (gtL n1.key t1.list)) ∧
    (∀ la1 : Int, (∀ an1 : Bool, (∀ mo1 : Int, (((la1) = (lastK t1 n1.key)) → (((an1) = (anyK t1 true)) → (((mo1) = (mo - (↑t1.size : Int))) → (K (SV.one (TV.at (At.val (Value.bool true)))) [(Chunk.box [(At.slc 1), (At.slc 2), (At.val (Value.int IntKind.i64 (la1))), (At.val (Value.bool (an1))), (At.val (Value.int IntKind.i64 (mo1)))]), (Chunk.row false (EC.slot) (d)), (Chunk.row false (EC.u32) (fl))] [0]))))))))))))) (((d.length ≤ 1000000) ∧ (∃ t1 : Tr, ((RepD d t1 n1.right) ∧ (Asc t1.list) ∧ (t1.size < n) ∧ ((↑t1.size : Int) ≤ mo) ∧ (mo ≤ 10000000) ∧ ((true = true) → (gtL n1.key t1.list)) ∧ (∀ la1 : Int, (∀ an1 : Bool, (∀ mo1 : Int, (((la1) = (lastK t1 n1.key)) → (((an1) = (anyK t1 true)) → (((mo1) = (mo - (↑t1.size : Int))) → (K (SV.one (TV.at (At.val (Value.bool true)))) [(Chunk.box [(At.slc 1), (At.slc 2), (At.val (Value.int IntKind.i64 (la1))), (At.val (Value.bool (an1))), (At.val (Value.int IntKind.i64 (mo1)))]), (Chunk.row false (EC.slot) (d)), (Chunk.row false (EC.u32) (fl))] [0])))))))))))))))))))))))))))) = _ by kernel_rfl) ?_
  cases t with
  | nil => have e : i = 0 := rp; exact bt7 (by rw [e]; rfl) (h last any most rfl rfl (by simp [Tr.size]))
  | node l k v r =>
    have hi := rp.inU hl
    have hne := rp.ne
    obtain ⟨h1, h2, h3, h4, h5, h6⟩ := rp
    have hz : (Tr.node l k v r).size = 1 + l.size + r.size := rfl
    obtain ⟨al, ar, lk, kr⟩ := node_asc hasc
    have mz : most ≠ 0 := by omega
    refine bf7 (by simp [hne]) (bf7 (by simp [mz]) ⟨hi, hl, fun n1 e1 => ?_⟩)
    subst e1
    rw [wrap_id (x := most - 1) (by omega) (by omega)]
    refine ⟨hl, l, h5, al, by omega, by omega, by omega, fun a x hx => hg a x (by simp [Tr.list, hx]), fun la an mo e1 e2 e3 => ?_⟩
    have gr : gtL (ndD d i).key r.list := fun x hx => by rw [h2]; exact kr x hx
    have fin : ∀ la1 an1 mo1, la1 = lastK r (ndD d i).key → an1 = anyK r true → mo1 = mo - r.size → K (.one (.at (vB true))) [.box [.slc 1, .slc 2, vI la1, vB an1, vI mo1], .row false EC.slot d, .row false EC.u32 fl] [0] := fun la1 an1 mo1 f1 f2 f3 => h la1 an1 mo1 (by rw [f1, h2]; rfl) (by rw [f2, anyK_true]; rfl) (by omega)
    refine brS_of (fun ha => bf7 ?_ ⟨hl, r, h6, ar, by omega, by omega, by omega, fun _ => gr, fin⟩) fun _ => ⟨hl, r, h6, ar, by omega, by omega, by omega, fun _ => gr, fin⟩
    have hlt : la < k := by
      rw [e1]
      refine lastK_lt (any := any) (fun a => ?_) lk (by rw [← e2]; exact ha)
      exact hg a (k, v) (by simp [Tr.list])
    rw [h2]
    exact decide_eq_false (by omega)
theorem s_or7 : ∀ n : Nat, SoundT C0 121 (tOr7 n)
  | 0 => by
    refine .ofW [0] Try.func121 (by decide) rfl fun args H K h hB => ?_
    unfold tOr7 at h
    split at h <;> try exact h.elim
    obtain ⟨_, t, _, _, hn, _⟩ := h
    omega
  | n + 1 => by
    refine .ofW [0] Try.func121 (by decide) rfl fun args H K h hB => ?_
    unfold tOr7 at h
    split at h <;> try exact h.elim
    rename_i i last any most d fl
    obtain ⟨hl, t, rp, hasc, hn, hm, hm2, hg, h⟩ := h
    exact ⟨aOr7 n, ⟨frame C0.ok s_nd7 _, frame C0.ok (s_or7 n) _, trivial⟩, vc_or7 n d fl last most i any K hl t rp hasc hn hm hm2 hg h⟩
theorem vc_ck7 (d : List SlotT) (fl : List Int) (i : Int) (K : KT) (hl : d.length ≤ 1000000) (t : Tr) (rp : RepD d t i) (hasc : Asc t.list) (bal : t.Bal) (h2 : t.size ≤ 2 * d.length + 2) (hs : t.size ≤ 1000000) (h : K (.one (.at (vI 0))) [.row false EC.slot d, .row false EC.u32 fl] []) :
    vc C0 (aCk7 1000001) Try.f77 [.agg [.slc 0, .slc 1], .at (vU i)] [.row false EC.slot d, .row false EC.u32 fl] (normK 2 K) := by
  generalize hn : 1000001 = n
  refine Eq.mp (show (brS (i != 0) (((inU i) ∧ (d.length ≤ 1000000) ∧ (brS (!alcD d i) ((K (SV.one (TV.at (At.val (Value.int IntKind.i64 1)))) [(Chunk.row false (EC.slot) (d)), (Chunk.row false (EC.u32) (fl))] [])) (((d.length ≤ 1000000) ∧ (∃ t : Tr, ((RepD d t i) ∧ (Asc t.list) ∧ (t.size < n) ∧ ((↑t.size : Int) ≤ IntKind.i64.wrap (IntKind.i64.wrap (2 * (↑d.length : Int)) + 2)) ∧ (IntKind.i64.wrap (IntKind.i64.wrap (2 * (↑d.length : Int)) + 2) ≤ 10000000) ∧ ((false = true) → (gtL 0 t.list)) ∧ (∀ la : Int, (∀ an : Bool, (∀ mo : Int, (((la) = (lastK t 0)) → (((an) = (anyK t false)) → (((mo) = (IntKind.i64.wrap (IntKind.i64.wrap (2 * (↑d.length : Int)) + 2) - (↑t.size : Int))) → ((d.length ≤ 1000000) ∧ (∃ t1 : Tr, ((RepD d t1 i) ∧ (t1.Bal) ∧ (t1.size < n) ∧ (t1.size ≤ 1000000))) ∧ (K (SV.one (TV.at (At.val (Value.int IntKind.i64 0)))) [(Chunk.row false (EC.slot) (d)), (Chunk.row false (EC.u32) (fl))] []))))))))))))))) (((d.length ≤ 1000000) ∧ (∃ t : Tr, ((RepD d t i) ∧ (Asc t.list) ∧ (t.size < n) ∧ ((↑t.size : Int) ≤ IntKind.i64.wrap (IntKind.i64.wrap (2 * (↑d.length : Int)) + 2)) ∧ (IntKind.i64.wrap (IntKind.i64.wrap (2 * (↑d.length : Int)) + 2) ≤ 10000000) ∧ ((false = true) → (gtL 0 t.list)) ∧ (∀ la : Int, (∀ an : Bool, (∀ mo : Int, (((la) = (lastK t 0)) → (((an) = (anyK t false)) → (((mo) = (IntKind.i64.wrap (IntKind.i64.wrap (2 * (↑d.length : Int)) + 2) - (↑t.size : Int))) → ((d.length ≤ 1000000) ∧ (∃ t1 : Tr, ((RepD d t1 i) ∧ (t1.Bal) ∧ (t1.size < n) ∧ (t1.size ≤ 1000000))) ∧
    (K (SV.one (TV.at (At.val (Value.int IntKind.i64 0)))) [(Chunk.row false (EC.slot) (d)), (Chunk.row false (EC.u32) (fl))] []))))))))))))) = _ by kernel_rfl) ?_
  have hi := rp.inU hl
  rw [wrap_id (x := 2 * (d.length : Int)) (by omega) (by omega), wrap_id (x := 2 * (d.length : Int) + 2) (by omega) (by omega)]
  have hz : i ≠ 0 → alcD d i = true := fun z => by
    cases t with
    | nil => exact absurd rp z
    | node l k v r => exact rp.1
  refine brS_of (fun c => ?_) fun _ => ⟨hl, t, rp, hasc, by omega, by omega, by omega, (fun z => by cases z), fun _ _ _ _ _ _ => ⟨hl, ⟨t, rp, bal, by omega, hs⟩, h⟩⟩
  have c : i ≠ 0 := by simpa using c
  exact ⟨hi, hl, bf7 (by rw [hz c]; rfl) ⟨hl, t, rp, hasc, by omega, by omega, by omega, (fun z => by cases z), fun _ _ _ _ _ _ => ⟨hl, ⟨t, rp, bal, by omega, hs⟩, h⟩⟩⟩
theorem s_ck7 : SoundT C0 77 tCk7 := by
  refine .of Try.func77 (by decide) rfl fun args H K h hB => ?_
  unfold tCk7 at h
  split at h <;> try exact h.elim
  rename_i i d fl
  obtain ⟨hl, ⟨t, rp, hasc, bal, h2, hs⟩, h⟩ := h
  exact ⟨aCk7 1000001, ⟨frame C0.ok s_alc _, frame C0.ok (s_or7 _) _, frame C0.ok (s_bl7 _) _, trivial⟩, vc_ck7 d fl i K hl t rp hasc bal h2 hs h⟩
theorem vc_tr7 (d : List SlotT) (fl : List Int) (i : Int) (l : List Ent) (K : KT) (hl : d.length ≤ 1000000) (t : Tr) (rp : RepD d t i) (hasc : Asc t.list) (bal : t.Bal) (h2 : t.size ≤ 2 * d.length + 2) (hs : t.size ≤ 1000000) (e : t.list = l) (h : K (.one (.at (vB true))) [.row false EC.slot d, .row false EC.u32 fl, .row false EC.ent l] []) :
    vc C0 (aTr7 1000001 l d fl) Try.f34 [.agg [.slc 0, .slc 1], .at (vU i), .at (.slc 2)] [.row false EC.slot d, .row false EC.u32 fl, .row false EC.ent l] (normK 3 K) := by
  generalize hn : 1000001 = n
  refine Eq.mp (show ((d.length ≤ 1000000) ∧
(∃ t : Tr, ((RepD d t i) ∧ (Asc t.list) ∧ (t.Bal) ∧ (t.size ≤ 2 * d.length + 2) ∧ (t.size ≤ 1000000))) ∧
(inU i) ∧
(d.length ≤ 1000000) ∧
(∀ n1 : NodeT, (((n1) = (ndD d i)) → (brS (n1.size != (↑l.length : Int)) ((K (SV.one (TV.at (At.val (Value.bool false)))) [(Chunk.row false (EC.slot) (d)), (Chunk.row false (EC.u32) (fl)), (Chunk.row false (EC.ent) (l))] [])) (((d.length ≤ 1000000) ∧ (∃ t : Tr, ((RepD d t i) ∧ (t.size < n) ∧ (t.size ≤ 1000000) ∧ (∀ r : List Ent, (((r) = (t.list)) → (brS ((↑r.length : Int) != (↑l.length : Int)) ((K (SV.one (TV.at (At.val (Value.bool false)))) [(Chunk.row false (EC.slot) (d)), (Chunk.row false (EC.u32) (fl)), (Chunk.row false (EC.ent) (l))] [])) (((∃ x : XIx l.length, (True ∧ (True ∧ True ∧ True ∧ ((Value.int IntKind.i64 0) = (Value.int IntKind.i64 ((↑x.i : Int)))) ∧ True) ∧ ((d) = (d)) ∧ ((fl) = (fl)) ∧ ((l) = (l)) ∧ (True ∧ True ∧ True) ∧ ((r) = (l)) ∧ True)) ∧ (∀ x : XIx l.length, (True → (brS (decide ((↑x.i : Int) < (↑l.length : Int))) (((0 ≤ (↑x.i : Int)) ∧ ((↑x.i : Int) < (↑l.length : Int)) ∧ (0 ≤ (↑x.i : Int)) ∧ ((↑x.i : Int) < (↑l.length : Int)) ∧ (brS (!((eA l x.i).fst == (eA l x.i).fst && ((eA l x.i).snd == (eA l x.i).snd && true))) ((K (SV.one (TV.at (At.val (Value.bool false)))) [(Chunk.row false (EC.slot) (d)), (Chunk.row false (EC.u32) (fl)), (Chunk.row false (EC.ent) (l))] [])) ((∃ x' : XIx l.length, (True ∧ ((True ∧ True ∧ True ∧
    ((Value.int IntKind.i64 (IntKind.i64.wrap ((↑x.i : Int) + 1))) = (Value.int IntKind.i64 ((↑x'.i : Int)))) ∧ True) ∧ ((d) = (d)) ∧ ((fl) = (fl)) ∧ ((l) = (l)) ∧ (True ∧ True ∧ True) ∧ ((l) = (l)) ∧ True) ∧ (l.length - x'.i < l.length - x.i))))))) ((K (SV.one (TV.at (At.val (Value.bool true)))) [(Chunk.row false (EC.slot) (d)), (Chunk.row false (EC.u32) (fl)), (Chunk.row false (EC.ent) (l))] [])))))))))))))))))) = _ by kernel_rfl) ?_
  have hi := rp.inU hl
  have sz : t.size = l.length := by rw [← e, t.list_len]
  refine ⟨hl, ⟨t, rp, hasc, bal, h2, hs⟩, hi, hl, fun n1 e1 => bf7 (by rw [e1, rp.sz, sz]; simp) ⟨hl, t, rp, by omega, hs, fun r er => bf7 (by rw [er, e]; simp) ⟨⟨⟨0, Nat.zero_le _⟩, ?_⟩, fun x _ => brS_of (fun c => ?_) fun _ => h⟩⟩⟩
  · have er : r = l := er.trans e
    (repeat' first | exact trivial | exact rfl | exact er | refine And.intro ?_ ?_)
  have c : x.i < l.length := by have := of_decide_eq_true c; omega
  refine ⟨by omega, by omega, by omega, by omega, bf7 (by simp) ⟨⟨x.i + 1, c⟩, ?_⟩⟩
  have v : IntKind.i64.wrap ((x.i : Int) + 1) = ((x.i + 1 : Nat) : Int) := by rw [wrap_id (by omega) (by omega)]; rfl
  (repeat' first | exact trivial | exact rfl | exact congrArg (Value.int IntKind.i64) v | refine And.intro ?_ ?_)
  show l.length - (x.i + 1) < l.length - x.i
  omega
theorem s_tr7 : SoundT C0 34 tTr7 := by
  refine .of Try.func34 (by decide) rfl fun args H K h hB => ?_
  unfold tTr7 at h
  split at h <;> try exact h.elim
  rename_i i d fl l
  obtain ⟨hl, ⟨t, rp, hasc, bal, h2, hs, e⟩, h⟩ := h
  exact ⟨aTr7 1000001 l d fl, ⟨frame C0.ok s_ck7 _, frame C0.ok s_nd7 _, frame C0.ok (s_li7 _) _, trivial⟩, vc_tr7 d fl i l K hl t rp hasc bal h2 hs e h⟩

/-! ### From the arena to its dump -/
theorem ndD_slots {S : Arn} {hs : List Int} (w : Wf S hs) (i : Int) : ndD (slotsOf S) i = S.nd i := by
  unfold ndD
  rw [alcD_slots w]
  cases hb : S.us i with
  | false => rw [w.zero i hb]; rfl
  | true => rw [if_pos rfl, sltD_slots w hb]
theorem repD_of {S : Arn} {hs : List Int} (w : Wf S hs) : ∀ {t : Tr} {i : Int}, Rep S t i → RepD (slotsOf S) t i
  | .nil, i, h => h
  | .node l k v r, i, h => by
    have sz := Rep.size w h
    obtain ⟨h1, h2, h3, h4, h5⟩ := h
    refine ⟨by rw [alcD_slots w]; exact h1, ?_⟩
    rw [ndD_slots w]
    exact ⟨h2, h3, by rw [sz]; simp [Tr.size], repD_of w h4, repD_of w h5⟩
theorem len_of_nodup {α : Type} [DecidableEq α] : ∀ (a b : List α), a.Nodup → (∀ x ∈ a, x ∈ b) → a.length ≤ b.length
  | [], _, _, _ => Nat.zero_le _
  | x :: a, b, hn, hs => by
    obtain ⟨h1, h2⟩ := List.pairwise_cons.1 hn
    have hx := hs x (by simp)
    have := len_of_nodup a (b.erase x) h2 fun y hy => (List.mem_erase_of_ne (Ne.symm (h1 y hy))).2 (hs y (by simp [hy]))
    rw [List.length_erase_of_mem hx] at this
    have : 0 < b.length := List.length_pos_of_mem hx
    simp; omega
theorem rep_keys {S : Arn} {hs : List Int} (w : Wf S hs) : ∀ {t : Tr} {i : Int}, Rep S t i → ∀ x ∈ t.list, x.1 ∈ (slotsOf S).map fun s => s.node.key
  | .nil, _, _, x, hx => by simp [Tr.list] at hx
  | .node l k v r, i, h, x, hx => by
    obtain ⟨h1, h2, h3, h4, h5⟩ := h
    simp only [Tr.list, List.mem_append, List.mem_cons] at hx
    rcases hx with hx | rfl | hx
    · exact rep_keys w h4 x hx
    · have hp := w.pos h1
      have hi : (i - 1).toNat < ncap S := by unfold ncap; omega
      refine List.mem_map.2 ⟨slotAt S (i - 1).toNat, ?_, ?_⟩
      · unfold slotsOf; exact List.mem_map.2 ⟨_, List.mem_range.2 hi, rfl⟩
      · show (S.nd (((i - 1).toNat : Int) + 1)).key = k
        rw [show (((i - 1).toNat : Nat) : Int) + 1 = i by omega]; exact h2
    · exact rep_keys w h5 x hx
/-- A tree in order has no more nodes than there are slots. -/
theorem rep_few {S : Arn} {hs : List Int} (w : Wf S hs) {t : Tr} {i : Int} (h : Rep S t i) (hasc : Asc t.list) : t.size ≤ (slotsOf S).length := by
  have := len_of_nodup (t.list.map Prod.fst) ((slotsOf S).map fun s => s.node.key) (List.pairwise_map.2 ((show List.Pairwise (fun (a b : Ent) => a.1 < b.1) t.list from hasc).imp fun c e => by omega)) (fun x hx => by
    obtain ⟨y, hy, rfl⟩ := List.mem_map.1 hx
    exact rep_keys w h y hy)
  rw [List.length_map, List.length_map, t.list_len] at this
  exact this
end Go.Proofs.Ytmjnoiajenoinaa.Sx
end
section
/- What the update laws share: Kept, spare, awake, lengths of dumps. -/
namespace Go.Proofs.Ytmjnoiajenoinaa.Sx
open Go

/-KEEP Wf exW inU live Arn.cap Arn.free Rep rdS Tr.size Tr.list alcD slotsOf orderOf PlantR newS insE flt getE TrR upM Hn-/
/-- Every slot that is allocated in d is so in e, with the same node and generation. -/
def keptD (d e : List SlotT) : Prop := d.length = e.length ∧ ∀ i : Nat, i < d.length → (eS d i).alloc = true → (eS e i).alloc = true ∧ (eS e i).node = (eS d i).node ∧ (eS e i).gen = (eS d i).gen
structure XKp (d : List SlotT) where
  i : Nat
  h : i ≤ d.length
noncomputable def aKp (d e : List SlotT) (fl gl : List Int) : Ann C0 := { Γ := [], inv := fun n => match n with
  | 4 => some { X := XKp d, sl := [5, 2, 3], tf := fun x => [vi .i64 x.i, .one (.at (.ptr 4 0)), .one (.at (.ptr 5 0))], hf := fun _ => [.row false EC.slot d, .row false EC.u32 fl, .row false EC.slot e, .row false EC.u32 gl, .box [.slc 0, .slc 1], .box [.slc 2, .slc 3]], μ := fun x => d.length - x.i }
  | _ => none }
def tKept : Tfm C0 := fun args H K => match args, H with
  | [.agg [.slc 0, .slc 1], .agg [.slc 2, .slc 3]], [.row false .slot d, .row false .u32 fl, .row false .slot e, .row false .u32 gl] => keptD d e ∧ d.length ≤ 1000000 ∧ K (.one (.at (vB true))) [.row false EC.slot d, .row false EC.u32 fl, .row false EC.slot e, .row false EC.u32 gl] []
  | _, _ => False
def tSpare : Tfm C0 := fun args H K => match args, H with
  | [.at (.val (.int .u16 n)), .at (.val (.int .i64 need))], [] => 0 ≤ n ∧ n ≤ 65535 ∧ 0 ≤ need ∧ need ≤ 60000 ∧ ∀ s, 0 ≤ s → s ≤ need + 8 → K (.one (.at (vI s))) [] []
  | _, _ => False
noncomputable def aAw14 : Ann C0 := { Γ := [(11, frameT [] tNew), (32, frameT [] tUpIn), (29, frameT [] tUpDe), (17, frameT [] tSize)] }
def tAw14 : Tfm C0 := fun args H K => match args, H with
  | [], [] => K (.one (.at (vB true))) [] []
  | _, _ => False
theorem slots_le {S : Arn} {hs : List Int} (w : Wf S hs) : (slotsOf S).length ≤ 65537 := by have := w.n2; rw [slotsOf_len]; unfold ncap; omega
theorem tr_tree {S : Arn} {hs : List Int} {t : Tr} {j : Int} {L : List Ent} (w : Wf S hs) (rp : Rep S t j) (hL : t.list = L) (bal : t.Bal) (asc : Asc L) :
    ∃ t, RepD (slotsOf S) t j ∧ Asc t.list ∧ t.Bal ∧ t.size ≤ 2 * (slotsOf S).length + 2 ∧ t.size ≤ 1000000 ∧ t.list = L := by
  have asc' : Asc t.list := by rw [hL]; exact asc
  have few := rep_few w rp asc'
  have := slots_le w
  exact ⟨t, repD_of w rp, asc', bal, by omega, by omega, hL⟩
theorem plant_up {S : Arn} {l : List Ent} {c : Nat} {i : Int} (hp : PlantR (newS c) [] l S i) (asc : Asc l) (hl : l.length ≤ 60000) : ∃ t, upM S [i] t i ∧ t.list = l ∧ t.size = l.length := by
  obtain ⟨t, r1, r2, r3⟩ := hp.rep
  have sz : t.size = l.length := by rw [← t.list_len, r2]
  have rd : S.reads = 0 := by rw [hp.rds]; rfl
  exact ⟨t, ⟨hp.wf, r1, r3, by rw [r2]; exact asc, by omega, by simp, by omega⟩, r2, sz⟩
end Go.Proofs.Ytmjnoiajenoinaa.Sx
end
