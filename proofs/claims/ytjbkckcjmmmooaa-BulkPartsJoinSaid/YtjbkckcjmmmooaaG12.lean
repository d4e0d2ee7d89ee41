/- A part of the proof. -/
import Derived.Test.YtjbkckcjmmmooaaG8
import Derived.Test.YtjbkckcjmmmooaaG10
import Derived.Test.YtjbkckcjmmmooaaG11
section
/- The law that the parts of a cut join. -/
namespace Go.Proofs.Ytjbkckcjmmmooaa.Sx
open Go

/-KEEP Wf exW inU live Arn.cap Arn.free Rep rdS retL Tr.size Tr.list Tr.Bal gN TrR Got flt Asc Hn ht PlantR newS upM listE List.Perm outE betE cB jnM sameB keyW-/
def keyW (l : List Ent) : Prop := ∀ x ∈ l, -9223372036854775808 ≤ x.1 ∧ x.1 ≤ 9223372036854775807
theorem out_all {l : List Ent} {lo hi : Int} (h : lo > hi) : outE l lo hi = l := by
  unfold outE
  rw [List.filter_eq_self]
  intro x _
  simp
  omega
theorem s_dropO : SoundT C0 59 (tKeep outE) := s_drop.weak fun args H K h => by
  unfold tKeep at h
  unfold tDrop
  split at h <;> try exact h.elim
  unfold arM at h ⊢
  split at h <;> try exact h.elim
  obtain ⟨hs, t, hm, hr, h⟩ := h
  refine ⟨hs, t, hm, hr, fun S' j e hc => h S' j e ?_⟩
  rcases hc with hc | ⟨hl, hc⟩
  · exact hc
  · rw [out_all hl]; exact hc
/-- Where there is room, keeping a part makes a tree of it. -/
def tKeepOk (w : List Ent → Int → Int → List Ent) : Tfm C0 := fun args H K => match args with
  | [.at (.ptr 0 0), .at (.val (.int .u32 i)), .at (.val (.int .i64 lo)), .at (.val (.int .i64 hi))] => arM H fun S => ∃ hs t, upM S hs t i ∧ S.reads ≤ 900000000000000000 ∧ 12 * (Hn t.size + 2) ≤ S.free ∧
    ∀ S' j, TrR S hs (w t.list lo hi) (12 * gN (t.size + 1) + 6) (60 * gN (t.size + 1) + 30 + 6 * ht t + 1) S' j → K (.tup [.at (vU j), .at (vI 0)]) (chS S') W7
  | _ => False
theorem cut_tr {S S' : Arn} {hs : List Int} {t : Tr} {i j e : Int} {W : List Ent} (hm : upM S hs t i) (hr : S.reads ≤ 900000000000000000) (hf : 12 * (Hn t.size + 2) ≤ S.free) (hW : W.length = t.size → W = t.list) (hc : cutR S hs t i W S' j e) :
    e = 0 ∧ TrR S hs W (12 * gN (t.size + 1) + 6) (60 * gN (t.size + 1) + 30 + 6 * ht t + 1) S' j := by
  obtain ⟨w, rp, bal, asc, sz, hl, rd⟩ := hm
  have hrd := w.rds
  have hb := Bal.height bal (by omega)
  have hH := Hn_rng t.size
  rcases hc with ⟨a, _, b, c, m, d, hm⟩ | ⟨a, b, c, m, d, hm⟩ | ⟨_, _, a, _⟩ | ⟨_, _, _, c, d⟩
  · refine ⟨c, ?_⟩
    have g := (Got.rds (hs := hs) w (n := m) (by omega))
    rw [← d] at g
    rw [b]
    exact ⟨(⟨g.wf.zero_cons (by omega), g.stay, g.len, g.nu, g.rd0, g.rd⟩ : Got S hs 0 m S' (0 :: hs)).mono (by omega) (by omega), .nil, rfl, (List.length_eq_zero_iff.1 a).symm, trivial⟩
  · refine ⟨c, ?_⟩
    rw [b]
    exact hold_tr w rp bal (by omega) (by omega) d (by omega) (hW a).symm
  · omega
  · exact ⟨c, d⟩
theorem bet_full (l : List Ent) (lo hi : Int) : (betE l lo hi).length = l.length → betE l lo hi = l := fun h => by
  unfold betE at h ⊢
  exact List.filter_eq_self.2 (List.length_filter_eq_length_iff.1 h)
theorem out_full (l : List Ent) (lo hi : Int) : (outE l lo hi).length = l.length → outE l lo hi = l := fun h => by
  unfold outE at h ⊢
  exact List.filter_eq_self.2 (List.length_filter_eq_length_iff.1 h)
theorem keepOk {f : FuncId} {w : List Ent → Int → Int → List Ent} (hs : SoundT C0 f (tKeep w)) (hw : ∀ l lo hi, (w l lo hi).length = l.length → w l lo hi = l) : SoundT C0 f (tKeepOk w) := hs.weak fun args H K h => by
  unfold tKeepOk at h
  unfold tKeep
  split at h <;> try exact h.elim
  unfold arM at h ⊢
  split at h <;> try exact h.elim
  obtain ⟨hs, t, hm, hr, hf, h⟩ := h
  refine ⟨hs, t, hm, hr, fun S' j e hc => ?_⟩
  obtain ⟨e0, tr⟩ := cut_tr hm hr hf (fun z => hw _ _ _ (by rw [t.list_len]; exact z)) hc
  rw [e0]
  exact h S' j tr
def tJcOk : Tfm C0 := fun args H K => match args with
  | [.at (.ptr 0 0), .at (.val (.int .u32 l)), .at (.val (.int .u32 r))] => arM H fun S => ∃ hs tl tr, jnM S hs tl tr l r ∧ S.reads ≤ 900000000000000000 ∧ (l ≠ 0 → r ≠ 0 → ¬ (tl.list.getLast?.getD (0, 0)).1 ≥ (tr.list.head?.getD (0, 0)).1) ∧ 4 * (Hn ((tl.size : Int) + tr.size + 1) + 2) ≤ S.free ∧
    ∀ S' i, TrR S hs (tl.list ++ tr.list) (cB tl.size tr.size) (5 * cB tl.size tr.size + ht tl + ht tr + 2) S' i → K (.tup [.at (vU i), .at (vI 0)]) (chS S') W7
  | _ => False
theorem s_jcOk : SoundT C0 55 tJcOk := s_jc.weak fun args H K h => by
  unfold tJcOk at h
  unfold tJc
  split at h <;> try exact h.elim
  unfold arM at h ⊢
  split at h <;> try exact h.elim
  obtain ⟨hs, tl, tr, hm, hr, ho, hf, h⟩ := h
  obtain ⟨w, rl, rr, bl, br, sz, hl, rd⟩ := id hm
  refine ⟨hs, tl, tr, hm, hr, fun c S' e => ?_, fun c c2 S' e => ?_, fun c c2 hg => absurd hg (ho c c2), fun _ _ _ hf' => absurd hf (by omega), fun _ _ _ _ S' i tj => h S' i tj⟩
  · rw [c] at rl
    have en := rl.zero w
    subst en
    exact h S' _ (hold_tr (m := 0) w rr br (by omega) (by omega) (by rw [e, rdS_zero]) (by omega) (by simp [Tr.list]))
  · rw [c2] at rr
    have en := rr.zero w
    subst en
    exact h S' _ (hold_tr (m := 0) w rl bl (by omega) (by omega) (by rw [e, rdS_zero]) (by omega) (by simp [Tr.list]))
def tLsOk : Tfm C0 := fun args H K => match args with
  | [.at (.ptr 0 0), .at (.val (.int .u32 i))] => arM H fun S => ∃ hs t, Wf S hs ∧ Rep S t i ∧ Asc t.list ∧ keyW t.list ∧ t.size ≤ 60000 ∧ S.reads ≤ 1000000000000000000 ∧
    ∀ S' m (out : List Ent), S' = rdS S m → m ≤ t.size → out = t.list → K (.one (.at (.slc 7))) (chS S' ++ [.row true EC.ent out]) [0]
  | _ => False
structure XBp (P : Arn → Int → List Ent → Prop) where
  S : Arn
  i : Int
  l : List Ent
  lo : Int
  hi : Int
  h : P S i l ∧ lo ≤ hi ∧ -9223372036854775808 ≤ lo ∧ hi ≤ 9223372036854775807
noncomputable def aBp (raw : List Ent) (P : Arn → Int → List Ent → Prop) : Ann C0 := { quiet := [31, 35], Γ := [(34, frameT [] tLst), (17, frameT [] tGrow), (57, frameT [] tAwake15), (60, frameT [] (tKeepOk betE)), (59, frameT [] (tKeepOk outE)), (55, frameT [] tJcOk), (61, frameT [] tSize), (62, frameT [] tLsOk), (35, frameT [] tSame_ent), (31, frameT [] tSound)], inv := fun n => match n with
  | 1007 => some { X := XBp P, sl := [10, 11, 9, 2, 3], tf := fun x => [.one (.at (.ptr 1 0)), vi .u32 x.i, .one (.at (.slc 8)), vi .i64 x.lo, vi .i64 x.hi], hf := fun x => [.row false EC.ent raw] ++ chSk 1 x.S ++ [.row true EC.ent x.l] }
  | _ => none }
def tBp : Tfm C0 := fun args H K => match args, H with
  | [.at (.slc 0), .at (.val (.int .u64 t)), .at (.val (.int .i64 lo)), .at (.val (.int .i64 hi))], [.row false .ent raw] => 0 ≤ t ∧ (-9223372036854775808 ≤ lo ∧ lo ≤ 9223372036854775807) ∧ (-9223372036854775808 ≤ hi ∧ hi ≤ 9223372036854775807) ∧ keyW raw ∧ K (.one (.at (vB true))) [.row false EC.ent raw] []
  | _, _ => False
theorem rangeR_few2 (t : Tr) (lo hi lim : Int) : (rangeR t lo hi lim).2 ≤ t.size := by
  unfold rangeR
  split
  · simp
  · exact (lk_len t lo hi _).2.2
theorem s_lsOk : SoundT C0 62 tLsOk := s_list.weak fun args H K h => by
  unfold tLsOk at h
  unfold tList
  split at h <;> try exact h.elim
  unfold arM at h ⊢
  split at h <;> try exact h.elim
  obtain ⟨hs, t, w, rp, asc, kw, sz, rd, h⟩ := h
  exact ⟨hs, t, w, rp, by omega, by omega, fun S' out e eo => h S' _ out e (rangeR_few2 t _ _ _) (by rw [eo]; exact range_all asc kw (by omega))⟩
theorem rep_zB {S : Arn} {hs : List Int} {t : Tr} {i : Int} (w : Wf S hs) (h : Rep S t i) : i = 0 ↔ t.size = 0 := by
  constructor
  · intro e
    rw [e] at h
    rw [h.zero w]; rfl
  · intro e
    cases t with
    | nil => exact h
    | node a k v b => simp [Tr.size] at e
/-- Trees that are held, with their entries. -/
structure Env (S : Arn) (E : List (Int × List Ent)) : Prop where
  wf : Wf S (E.map Prod.fst)
  rep : ∀ p ∈ E, ∃ t, Rep S t p.1 ∧ t.list = p.2 ∧ t.Bal
theorem Env.step {S S' : Arn} {E : List (Int × List Ent)} {L : List Ent} {m r : Nat} {j : Int} (e : Env S E) (tr : TrR S (E.map Prod.fst) L m r S' j) : Env S' ((j, L) :: E) where
  wf := tr.got.wf
  rep p hp := by
    rcases List.mem_cons.1 hp with rfl | hp
    · exact tr.tree
    · obtain ⟨t, rp, lt, bt⟩ := e.rep p hp
      exact ⟨t, rp.held e.wf tr.got.stay (.inr (List.mem_map.2 ⟨p, hp, rfl⟩)), lt, bt⟩
theorem Env.rd {S : Arn} {E : List (Int × List Ent)} {n : Nat} (e : Env S E) (h : S.reads + n ≤ 4000000000000000000) : Env (rdS S n) E where
  wf := e.wf.rd h
  rep p hp := by
    obtain ⟨t, rp, lt, bt⟩ := e.rep p hp
    exact ⟨t, rep_rd rp n, lt, bt⟩
theorem Env.up {S : Arn} {E : List (Int × List Ent)} {i : Int} {L : List Ent} (e : Env S E) (hm : (i, L) ∈ E) (ha : Asc L) (hl : L.length ≤ 60000) (he : E.length ≤ 100000) (hr : S.reads ≤ 1000000000000000000) : ∃ t, upM S (E.map Prod.fst) t i ∧ t.list = L ∧ t.size = L.length := by
  obtain ⟨t, rp, lt, bt⟩ := e.rep _ hm
  have lt : t.list = L := lt
  have sz : t.size = L.length := by rw [← t.list_len, lt]
  exact ⟨t, ⟨e.wf, rp, bt, by rw [lt]; exact ha, by omega, by simp; omega, hr⟩, lt, sz⟩
theorem Env.jn {S : Arn} {E : List (Int × List Ent)} {i j : Int} {L M : List Ent} (e : Env S E) (h1 : (i, L) ∈ E) (h2 : (j, M) ∈ E) (hl : L.length + M.length ≤ 60000) (he : E.length ≤ 100000) (hr : S.reads ≤ 1000000000000000000) : ∃ tl tr, jnM S (E.map Prod.fst) tl tr i j ∧ tl.list = L ∧ tr.list = M ∧ tl.size = L.length ∧ tr.size = M.length := by
  obtain ⟨t, rp, lt, bt⟩ := e.rep _ h1
  obtain ⟨u, ru, lu, bu⟩ := e.rep _ h2
  have lt : t.list = L := lt
  have lu : u.list = M := lu
  have sz : t.size = L.length := by rw [← t.list_len, lt]
  have su : u.size = M.length := by rw [← u.list_len, lu]
  exact ⟨t, u, ⟨e.wf, rp, ru, bt, bu, by omega, by simp; omega, hr⟩, lt, lu, sz, su⟩
theorem thr_split {l : List Ent} (ha : Asc l) (c : Int) : flt (fun k => decide (k < c)) l ++ flt (fun k => decide (c ≤ k)) l = l := by
  induction l with
  | nil => rfl
  | cons x l ih =>
    have ih := ih ha.tail
    have hd : ∀ y ∈ l, x.1 < y.1 := (List.pairwise_cons.1 ha).1
    unfold flt at ih ⊢
    rw [List.filter_cons, List.filter_cons]
    by_cases a : x.1 < c
    · rw [if_pos (decide_eq_true a), if_neg (by simp; omega), List.cons_append, ih]
    · have e : l.filter (fun x => decide (x.1 < c)) = [] := by
        rw [List.filter_eq_nil_iff]
        intro y hy
        have := hd y hy
        simp; omega
      rw [e, List.nil_append] at ih
      rw [if_neg (by simp; omega), if_pos (decide_eq_true (by omega)), e, List.nil_append, ih]
theorem ord_of {L R : List Ent} {c : Int} (h1 : ∀ x ∈ L, x.1 < c) (h2 : ∀ y ∈ R, c ≤ y.1) (n1 : L ≠ []) (n2 : R ≠ []) : ¬ (L.getLast?.getD (0, 0)).1 ≥ (R.head?.getD (0, 0)).1 := by
  cases R with
  | nil => exact absurd rfl n2
  | cons y R =>
    rw [List.getLast?_eq_some_getLast n1]
    have a := h1 _ (List.getLast_mem n1)
    have b := h2 y (by simp)
    show ¬ (L.getLast n1).1 ≥ y.1
    omega
/-- The parts of a list below, in and above a range. -/
theorem parts {l : List Ent} (ha : Asc l) (hk : keyW l) {lo hi : Int} (h1 : -9223372036854775808 < lo) (h2 : hi < 9223372036854775807) (h : lo ≤ hi) :
    betE l (-9223372036854775808) (lo - 1) ++ (betE l lo hi ++ betE l (hi + 1) 9223372036854775807) = l ∧ betE l (-9223372036854775808) (lo - 1) ++ betE l (hi + 1) 9223372036854775807 = outE l lo hi := by
  have eA : betE l (-9223372036854775808) (lo - 1) = flt (fun k => decide (k < lo)) l := by
    unfold betE flt
    refine List.filter_congr fun x hx => ?_
    have := hk x hx
    dsimp only
    rw [decide_eq_true (show -9223372036854775808 ≤ x.1 by omega), Bool.true_and]
    by_cases c : x.1 < lo
    · rw [decide_eq_true c, decide_eq_true (by omega)]
    · rw [decide_eq_false c, decide_eq_false (by omega)]
  have eB : betE l lo hi = flt (fun k => decide (k < hi + 1)) (flt (fun k => decide (lo ≤ k)) l) := by
    rw [flt_flt]
    unfold betE flt
    refine List.filter_congr fun x _ => ?_
    dsimp only
    rw [Bool.and_comm]
    congr 1
    by_cases c : x.1 ≤ hi
    · rw [decide_eq_true c, decide_eq_true (by omega)]
    · rw [decide_eq_false c, decide_eq_false (by omega)]
  have eC : betE l (hi + 1) 9223372036854775807 = flt (fun k => decide (hi + 1 ≤ k)) (flt (fun k => decide (lo ≤ k)) l) := by
    rw [flt_flt]
    unfold betE flt
    refine List.filter_congr fun x hx => ?_
    have := hk x hx
    dsimp only
    rw [decide_eq_true (show x.1 ≤ 9223372036854775807 by omega), Bool.and_true]
    by_cases c : hi + 1 ≤ x.1
    · rw [decide_eq_true c, decide_eq_true (show lo ≤ x.1 by omega), Bool.and_true]
    · rw [decide_eq_false c, Bool.false_and]
  constructor
  · rw [eA, eB, eC, thr_split (flt_asc ha), thr_split ha]
  · rw [← drop_out ha h]
    have e1 : flt (toK lo false) l = flt (fun k => decide (k < lo)) l := by
      unfold flt toK
      congr 1
      funext x
      simp
    have e2 : flt (frK hi false) l = betE l (hi + 1) 9223372036854775807 := by
      unfold flt frK betE
      refine List.filter_congr fun x hx => ?_
      have := hk x hx
      rw [decide_eq_true (show x.1 ≤ 9223372036854775807 by omega), Bool.and_true]
      by_cases c : hi < x.1
      · rw [decide_eq_true c, decide_eq_true (show hi + 1 ≤ x.1 by omega), Bool.true_or]
      · rw [decide_eq_false c, decide_eq_false (show ¬ hi + 1 ≤ x.1 by omega)]; rfl
    rw [e1, e2, eA]
theorem bet_asc {l : List Ent} (ha : Asc l) (lo hi : Int) : Asc (betE l lo hi) := List.Pairwise.filter _ ha
theorem bet_mem {l : List Ent} {lo hi : Int} {x : Ent} (h : x ∈ betE l lo hi) : x ∈ l ∧ lo ≤ x.1 ∧ x.1 ≤ hi := by
  obtain ⟨a, b⟩ := List.mem_filter.1 h
  simp at b
  exact ⟨a, b⟩
theorem nK {t : Tr} (h : t.size ≤ 150) (bal : t.Bal) : 12 * gN (t.size + 1) + 6 ≤ 186 ∧ 60 * gN (t.size + 1) + 30 + 6 * ht t + 1 ≤ 1021 ∧ 12 * (Hn (t.size : Int) + 2) ≤ 204 := by
  have a := gN_size t.size
  have b := Hn_200 (n := t.size) (by omega)
  have c := Bal.height bal (by omega)
  omega
theorem nC {a b : Tr} (h : a.size + b.size ≤ 150) (b1 : a.Bal) (b2 : b.Bal) : cB a.size b.size ≤ 64 ∧ 5 * cB a.size b.size + ht a + ht b + 2 ≤ 352 ∧ 4 * (Hn ((a.size : Int) + b.size + 1) + 2) ≤ 68 := by
  have c := cB_Hn (a := a.size) (b := b.size) (by omega)
  have d := Hn_200 (n := a.size + b.size + 1) (by omega)
  rw [show ((a.size + b.size + 1 : Nat) : Int) = (a.size : Int) + b.size + 1 by omega] at d
  have e := Bal.height b1 (by omega)
  have f := Bal.height b2 (by omega)
  have g := Hn_200 (n := a.size) (by omega)
  have i := Hn_200 (n := b.size) (by omega)
  omega
def PBp (S : Arn) (i : Int) (l : List Ent) : Prop := Env S [(i, l)] ∧ Asc l ∧ l.length ≤ 120 ∧ S.free = 1200 ∧ S.reads = 0 ∧ keyW l
set_option maxHeartbeats 1600000 in
theorem vc_bp (raw : List Ent) (t lo hi : Int) (K : KT) (h0 : 0 ≤ t) (hlo : -9223372036854775808 ≤ lo ∧ lo ≤ 9223372036854775807) (hhi : -9223372036854775808 ≤ hi ∧ hi ≤ 9223372036854775807) (hw : keyW raw) (h : K (.one (.at (vB true))) [.row false EC.ent raw] []) :
    vc C0 (aBp raw PBp) Try.f14 [.at (.slc 0), .at (vU64 t), .at (vI lo), .at (vI hi)] [.row false EC.ent raw] (normK 1 K) := by
  generalize hP : PBp = P
  refine Eq.mp (show (((0 : Int) ≤ 120) ∧
((120 : Int) ≤ 1000000) ∧
(0 ≤ t) ∧
((1 : Int) ≤ 1200) ∧
((1200 : Int) ≤ 30000) ∧
((listE raw (Int.toNat 120)).length ≤ 30000) ∧
(∀ S' : Arn, (∀ i : Int, ((PlantR (newS ((↑(listE raw (Int.toNat 120)).length : Int) + 1200).toNat) [] (listE raw (Int.toNat 120)) S' i) → ((brS (decide (lo > hi)) ((∃ x : XBp P, (True ∧ (((Value.int IntKind.i64 (hi)) = (Value.int IntKind.i64 (x.lo))) ∧ ((Value.int IntKind.i64 (lo)) = (Value.int IntKind.i64 (x.hi))) ∧ True ∧ True ∧ ((Value.int IntKind.u32 (i)) = (Value.int IntKind.u32 (x.i))) ∧ True) ∧ ((raw) = (raw)) ∧ (True ∧ True ∧ True ∧ ((Value.int IntKind.u64 (S'.reads)) = (Value.int IntKind.u64 (x.S.reads))) ∧ True) ∧ (True ∧ True ∧ True ∧ ((Value.int IntKind.u32 (S'.fresh)) = (Value.int IntKind.u32 (x.S.fresh))) ∧ True) ∧ ((S'.nodes) = (x.S.nodes)) ∧ ((S'.counts) = (x.S.counts)) ∧ ((S'.used) = (x.S.used)) ∧ ((S'.gen) = (x.S.gen)) ∧ ((S'.rel) = (x.S.rel)) ∧ ((listE raw (Int.toNat 120)) = (x.l)) ∧ True))) ((∃ x : XBp P, (True ∧ (((Value.int IntKind.i64 (lo)) = (Value.int IntKind.i64 (x.lo))) ∧ ((Value.int IntKind.i64 (hi)) = (Value.int IntKind.i64 (x.hi))) ∧ True ∧ True ∧ ((Value.int IntKind.u32 (i)) = (Value.int IntKind.u32 (x.i))) ∧ True) ∧ ((raw) = (raw)) ∧ (True ∧ True ∧ True ∧ ((Value.int IntKind.u64 (S'.reads)) = (Value.int IntKind.u64 (x.S.reads))) ∧ True) ∧ (True ∧ True ∧ True ∧ ((Value.int IntKind.u32 (S'.fresh)) = (Value.int IntKind.u32 (x.S.fresh))) ∧ True) ∧ ((S'.nodes) = (x.S.nodes)) ∧
    ((S'.counts) = (x.S.counts)) ∧ ((S'.used) = (x.S.used)) ∧ ((S'.gen) = (x.S.gen)) ∧ ((S'.rel) = (x.S.rel)) ∧ ((listE raw (Int.toNat 120)) = (x.l)) ∧ True)))) ∧ (∀ x : XBp P, (True → (brS (x.lo == -9223372036854775808) ((K (SV.one (TV.at (At.val (Value.bool true)))) [(Chunk.row false (EC.ent) (raw))] [])) ((brS (x.hi == 9223372036854775807) ((K (SV.one (TV.at (At.val (Value.bool true)))) [(Chunk.row false (EC.ent) (raw))] [])) ((∃ hs : List Int, (∃ t1 : Tr, ((upM x.S hs t1 x.i) ∧ (x.S.reads ≤ 900000000000000000) ∧ (12 * (Hn (↑t1.size : Int) + 2) ≤ x.S.free) ∧ (∀ S'1 : Arn, (∀ j : Int, ((TrR x.S hs (betE t1.list (-9223372036854775808) (IntKind.i64.wrap (x.lo - 1))) (12 * gN (t1.size + 1) + 6) (60 * gN (t1.size + 1) + 30 + 6 * ht t1 + 1) S'1 j) → (∃ hs1 : List Int, (∃ t2 : Tr, ((upM S'1 hs1 t2 x.i) ∧ (S'1.reads ≤ 900000000000000000) ∧ (12 * (Hn (↑t2.size : Int) + 2) ≤ S'1.free) ∧ (∀ S'2 : Arn, (∀ j1 : Int, ((TrR S'1 hs1 (betE t2.list x.lo x.hi) (12 * gN (t2.size + 1) + 6) (60 * gN (t2.size + 1) + 30 + 6 * ht t2 + 1) S'2 j1) → (∃ hs2 : List Int, (∃ t3 : Tr, ((upM S'2 hs2 t3 x.i) ∧ (S'2.reads ≤ 900000000000000000) ∧ (12 * (Hn (↑t3.size : Int) + 2) ≤ S'2.free) ∧ (∀ S'3 : Arn, (∀ j2 : Int, ((TrR S'2 hs2 (betE t3.list (IntKind.i64.wrap (x.hi + 1)) 9223372036854775807) (12 * gN (t3.size + 1) + 6) (60 * gN (t3.size + 1) + 30 + 6 * ht t3 + 1) S'3 j2) → ((inU j) ∧ (exW S'3) ∧ (S'3.reads < 4000000000000000000) ∧ (∀ S'4 : Arn, (((S'4) = (rdS S'3 (S'3.us j).toNat)) → ((inU j1) ∧ (exW S'4) ∧
    (S'4.reads < 4000000000000000000) ∧ (∀ S'5 : Arn, (((S'5) = (rdS S'4 (S'4.us j1).toNat)) → ((inU j2) ∧ (exW S'5) ∧ (S'5.reads < 4000000000000000000) ∧ (∀ S'6 : Arn, (((S'6) = (rdS S'5 (S'5.us j2).toNat)) → (brS (IntKind.i64.wrap (IntKind.i64.wrap ((S'3.nd j).size + (S'4.nd j1).size) + (S'5.nd j2).size) != (↑x.l.length : Int)) ((K (SV.one (TV.at (At.val (Value.bool false)))) [(Chunk.row false (EC.ent) (raw))] [])) ((∃ hs3 : List Int, (∃ tl : Tr, (∃ tr : Tr, ((jnM S'6 hs3 tl tr j j2) ∧ (S'6.reads ≤ 900000000000000000) ∧ ((j ≠ 0) → ((j2 ≠ 0) → (¬(tl.list.getLast?.getD (0, 0)).fst ≥ (tr.list.head?.getD (0, 0)).fst))) ∧ (4 * (Hn ((↑tl.size : Int) + (↑tr.size : Int) + 1) + 2) ≤ S'6.free) ∧ (∀ S'7 : Arn, (∀ i1 : Int, ((TrR S'6 hs3 (tl.list ++ tr.list) (cB tl.size tr.size) (5 * cB tl.size tr.size + ht tl + ht tr + 2) S'7 i1) → (∃ hs4 : List Int, (∃ t4 : Tr, ((upM S'7 hs4 t4 x.i) ∧ (S'7.reads ≤ 900000000000000000) ∧ (12 * (Hn (↑t4.size : Int) + 2) ≤ S'7.free) ∧ (∀ S'8 : Arn, (∀ j3 : Int, ((TrR S'7 hs4 (outE t4.list x.lo x.hi) (12 * gN (t4.size + 1) + 6) (60 * gN (t4.size + 1) + 30 + 6 * ht t4 + 1) S'8 j3) → (∃ hs5 : List Int, (∃ tl1 : Tr, (∃ tr1 : Tr, ((jnM S'8 hs5 tl1 tr1 j j1) ∧ (S'8.reads ≤ 900000000000000000) ∧ ((j ≠ 0) → ((j1 ≠ 0) → (¬(tl1.list.getLast?.getD (0, 0)).fst ≥ (tr1.list.head?.getD (0, 0)).fst))) ∧ (4 * (Hn ((↑tl1.size : Int) + (↑tr1.size : Int) + 1) + 2) ≤ S'8.free) ∧ (∀ S'9 : Arn, (∀ i2 : Int,
    ((TrR S'8 hs5 (tl1.list ++ tr1.list) (cB tl1.size tr1.size) (5 * cB tl1.size tr1.size + ht tl1 + ht tr1 + 2) S'9 i2) → (∃ hs6 : List Int, (∃ tl2 : Tr, (∃ tr2 : Tr, ((jnM S'9 hs6 tl2 tr2 i2 j2) ∧ (S'9.reads ≤ 900000000000000000) ∧ ((i2 ≠ 0) → ((j2 ≠ 0) → (¬(tl2.list.getLast?.getD (0, 0)).fst ≥ (tr2.list.head?.getD (0, 0)).fst))) ∧ (4 * (Hn ((↑tl2.size : Int) + (↑tr2.size : Int) + 1) + 2) ≤ S'9.free) ∧ (∀ S'10 : Arn, (∀ i3 : Int, ((TrR S'9 hs6 (tl2.list ++ tr2.list) (cB tl2.size tr2.size) (5 * cB tl2.size tr2.size + ht tl2 + ht tr2 + 2) S'10 i3) → (∃ hs7 : List Int, (∃ t5 : Tr, ((Wf S'10 hs7) ∧ (Rep S'10 t5 i1) ∧ (Asc t5.list) ∧ (keyW t5.list) ∧ (t5.size ≤ 60000) ∧ (S'10.reads ≤ 1000000000000000000) ∧ (∀ S'11 : Arn, (∀ m : Nat, (∀ out : List Ent, (((S'11) = (rdS S'10 m)) → ((m ≤ t5.size) → (((out) = (t5.list)) → (∃ hs8 : List Int, (∃ t6 : Tr, ((Wf S'11 hs8) ∧ (Rep S'11 t6 j3) ∧ (Asc t6.list) ∧ (keyW t6.list) ∧ (t6.size ≤ 60000) ∧ (S'11.reads ≤ 1000000000000000000) ∧ (∀ S'12 : Arn, (∀ m1 : Nat, (∀ out1 : List Ent, (((S'12) = (rdS S'11 m1)) → ((m1 ≤ t6.size) → (((out1) = (t6.list)) → (brS (sameB out out1) ((∃ hs9 : List Int, (∃ t7 : Tr, ((Wf S'12 hs9) ∧ (Rep S'12 t7 i3) ∧ (Asc t7.list) ∧ (keyW t7.list) ∧ (t7.size ≤ 60000) ∧ (S'12.reads ≤ 1000000000000000000) ∧ (∀ S'13 : Arn, (∀ m2 : Nat, (∀ out2 : List Ent, (((S'13) = (rdS S'12 m2)) → ((m2 ≤ t7.size) → (((out2) = (t7.list)) → (brS (sameB out2 x.l) ((∃ hs10 : List Int, ((Wf S'13 hs10) ∧
    ([x.i, j, j1, j2, i1, j3, i2, i3].Perm hs10) ∧ ([x.i, j, j1, j2, i1, j3, i2, i3].length ≤ 1000000) ∧ (K (SV.one (TV.at (At.val (Value.bool true)))) [(Chunk.row false (EC.ent) (raw))] [])))) ((K (SV.one (TV.at (At.val (Value.bool false)))) [(Chunk.row false (EC.ent) (raw))] []))))))))))))) ((K (SV.one (TV.at (At.val (Value.bool false)))) [(Chunk.row false (EC.ent) (raw))] [])))))))))))))))))))))))))))))))))))))))))))))))))))))))))))))))))))))))))))))))))))))))) = _ by kernel_rfl) ?_
  subst hP
  obtain ⟨la, ll⟩ := listE_spec raw 120
  have lm := listE_memJ raw 120
  have e120 : Int.toNat 120 = 120 := rfl
  rw [e120]
  generalize listE raw 120 = l at *
  refine ⟨by decide, by decide, h0, by decide, by decide, by omega, fun S1 i hp => ?_⟩
  have fr := plant_free hp
  have env : Env S1 [(i, l)] := ⟨hp.wf, fun p hp' => by
    have : p = (i, l) := by simpa using hp'
    rw [this]; exact hp.rep⟩
  have hP : PBp S1 i l := ⟨env, la, ll, by omega, by rw [hp.rds]; rfl, fun x hx => hw x (lm x hx)⟩
  refine ⟨brS_of (fun c => ⟨⟨S1, i, l, hi, lo, hP, by have := of_decide_eq_true c; omega, hhi.1, hlo.2⟩, ?_⟩) fun c => ⟨⟨S1, i, l, lo, hi, hP, by have := of_decide_eq_false c; omega, hlo.1, hhi.2⟩, ?_⟩, fun x _ => ?_⟩
  · (repeat' first | exact trivial | exact rfl | refine And.intro ?_ ?_)
  · (repeat' first | exact trivial | exact rfl | refine And.intro ?_ ?_)
  clear hP env fr hp i S1 lm la ll l hlo hhi lo hi
  obtain ⟨S, i, m, lo, hi, ⟨env, am, ml, fr, rd0, kw⟩, hle, hlo, hhi⟩ := x
  dsimp only
  refine brS_of (fun _ => h) fun c1 => brS_of (fun _ => h) fun c2 => ?_
  have c1 : lo ≠ -9223372036854775808 := by simpa using c1
  have c2 : hi ≠ 9223372036854775807 := by simpa using c2
  rw [wrap_id (x := lo - 1) (by omega) (by omega), wrap_id (x := hi + 1) (by omega) (by omega)]
  obtain ⟨pa, po⟩ := parts am kw (lo := lo) (hi := hi) (by omega) (by omega) hle
  have kA : ∀ x ∈ betE m (-9223372036854775808) (lo - 1), x ∈ m ∧ x.1 < lo := fun x hx => by obtain ⟨a, b, c⟩ := bet_mem hx; exact ⟨a, by omega⟩
  have kB : ∀ x ∈ betE m lo hi, x ∈ m ∧ lo ≤ x.1 ∧ x.1 ≤ hi := fun x hx => bet_mem hx
  have kC : ∀ x ∈ betE m (hi + 1) 9223372036854775807, x ∈ m ∧ hi + 1 ≤ x.1 := fun x hx => by obtain ⟨a, b, c⟩ := bet_mem hx; exact ⟨a, b⟩
  have aA := bet_asc am (-9223372036854775808) (lo - 1)
  have aB := bet_asc am lo hi
  have aC := bet_asc am (hi + 1) 9223372036854775807
  have len := congrArg List.length pa
  rw [List.length_append, List.length_append] at len
  have eA : ∀ z : List Ent, z = m → betE z (-9223372036854775808) (lo - 1) = betE m (-9223372036854775808) (lo - 1) := fun z e => by rw [e]
  generalize gA : betE m (-9223372036854775808) (lo - 1) = A at *
  generalize gB : betE m lo hi = B at *
  generalize gC : betE m (hi + 1) 9223372036854775807 = C at *
  have aO : Asc (outE m lo hi) := List.Pairwise.filter _ am
  have lO := congrArg List.length po
  rw [List.length_append] at lO
  -- the three parts
  obtain ⟨t1, up1, lt1, zt1⟩ := env.up (i := i) (L := m) (by simp) am (by omega) (by simp) (by omega)
  have n1 := nK (t := t1) (by omega) up1.2.2.1
  refine ⟨_, t1, up1, by omega, by omega, fun S1 j1 tr1 => ?_⟩
  rw [lt1, gA] at tr1
  have env1 := env.step tr1
  have f1 := tr1.got.free env.wf
  have q1 := tr1.got.rd
  obtain ⟨t2, up2, lt2, zt2⟩ := env1.up (i := i) (L := m) (by simp) am (by omega) (by simp) (by omega)
  have n2 := nK (t := t2) (by omega) up2.2.2.1
  refine ⟨_, t2, up2, by omega, by omega, fun S2 j2 tr2 => ?_⟩
  rw [lt2, gB] at tr2
  have env2 := env1.step tr2
  have f2 := tr2.got.free env1.wf
  have q2 := tr2.got.rd
  obtain ⟨t3, up3, lt3, zt3⟩ := env2.up (i := i) (L := m) (by simp) am (by omega) (by simp) (by omega)
  have n3 := nK (t := t3) (by omega) up3.2.2.1
  refine ⟨_, t3, up3, by omega, by omega, fun S3 j3 tr3 => ?_⟩
  rw [lt3, gC] at tr3
  have env3 := env2.step tr3
  have f3 := tr3.got.free env2.wf
  have q3 := tr3.got.rd
  -- their sizes
  obtain ⟨u1, r1, l1, b1⟩ := env3.rep (j1, A) (by simp)
  have l1 : u1.list = A := l1
  have z1 : u1.size = A.length := by rw [← u1.list_len, l1]
  refine ⟨inU_of env3.wf r1.us, ⟨_, env3.wf⟩, by omega, fun S4 e4 => ?_⟩
  have s4 := us_one (S3.us j1)
  have env4 := env3.rd (n := (S3.us j1).toNat) (by omega)
  rw [← e4] at env4
  have q4 : S4.reads = S3.reads + (S3.us j1).toNat := by rw [e4]; rfl
  have f4 : S4.free = S3.free := by rw [e4]; rfl
  obtain ⟨u2, r2, l2, b2⟩ := env4.rep (j2, B) (by simp)
  have l2 : u2.list = B := l2
  have z2 : u2.size = B.length := by rw [← u2.list_len, l2]
  refine ⟨inU_of env4.wf r2.us, ⟨_, env4.wf⟩, by omega, fun S5 e5 => ?_⟩
  have s5 := us_one (S4.us j2)
  have env5 := env4.rd (n := (S4.us j2).toNat) (by omega)
  rw [← e5] at env5
  have q5 : S5.reads = S4.reads + (S4.us j2).toNat := by rw [e5]; rfl
  have f5 : S5.free = S4.free := by rw [e5]; rfl
  obtain ⟨u3, r3, l3, b3⟩ := env5.rep (j3, C) (by simp)
  have l3 : u3.list = C := l3
  have z3 : u3.size = C.length := by rw [← u3.list_len, l3]
  refine ⟨inU_of env5.wf r3.us, ⟨_, env5.wf⟩, by omega, fun S6 e6 => ?_⟩
  have s6 := us_one (S5.us j3)
  have env6 := env5.rd (n := (S5.us j3).toNat) (by omega)
  rw [← e6] at env6
  have q6 : S6.reads = S5.reads + (S5.us j3).toNat := by rw [e6]; rfl
  have f6 : S6.free = S5.free := by rw [e6]; rfl
  rw [r1.size env3.wf, r2.size env4.wf, r3.size env5.wf, wrap_id (x := (u1.size : Int) + u2.size) (by omega) (by omega), wrap_id (x := (u1.size : Int) + u2.size + u3.size) (by omega) (by omega)]
  refine bf7 (by rw [z1, z2, z3, ← len]; simp; omega) ?_
  -- the first and the last part
  obtain ⟨v1, v2, jm1, lv1, lv2, zv1, zv2⟩ := env6.jn (i := j1) (j := j3) (L := A) (M := C) (by simp) (by simp) (by omega) (by simp) (by omega)
  have n4 := nC (a := v1) (b := v2) (by omega) jm1.2.2.2.1 jm1.2.2.2.2.1
  have ne : ∀ {S : Arn} {hs : List Int} {t : Tr} {i : Int}, Wf S hs → Rep S t i → i ≠ 0 → t.list ≠ [] := fun w rp hi e => hi ((rep_zB w rp).2 (by rw [← Tr.list_len, e]; rfl))
  refine ⟨_, v1, v2, jm1, by omega, fun a b => ?_, by omega, fun S7 i1 tr7 => ?_⟩
  · have x1 := ne jm1.1 jm1.2.1 a
    have x2 := ne jm1.1 jm1.2.2.1 b
    rw [lv1] at x1 ⊢
    rw [lv2] at x2 ⊢
    exact ord_of (c := lo) (fun x hx => (kA x hx).2) (fun y hy => by have := (kC y hy).2; omega) x1 x2
  rw [lv1, lv2, po] at tr7
  have env7 := env6.step tr7
  have f7 := tr7.got.free env6.wf
  have q7 := tr7.got.rd
  obtain ⟨t4, up4, lt4, zt4⟩ := env7.up (i := i) (L := m) (by simp) am (by omega) (by simp) (by omega)
  have n5 := nK (t := t4) (by omega) up4.2.2.1
  refine ⟨_, t4, up4, by omega, by omega, fun S8 j4 tr8 => ?_⟩
  rw [lt4] at tr8
  have env8 := env7.step tr8
  have f8 := tr8.got.free env7.wf
  have q8 := tr8.got.rd
  obtain ⟨w1, w2, jm2, lw1, lw2, zw1, zw2⟩ := env8.jn (i := j1) (j := j2) (L := A) (M := B) (by simp) (by simp) (by omega) (by simp) (by omega)
  have n6 := nC (a := w1) (b := w2) (by omega) jm2.2.2.2.1 jm2.2.2.2.2.1
  refine ⟨_, w1, w2, jm2, by omega, fun a b => ?_, by omega, fun S9 i2 tr9 => ?_⟩
  · have x1 := ne jm2.1 jm2.2.1 a
    have x2 := ne jm2.1 jm2.2.2.1 b
    rw [lw1] at x1 ⊢
    rw [lw2] at x2 ⊢
    exact ord_of (c := lo) (fun x hx => (kA x hx).2) (fun y hy => (kB y hy).2.1) x1 x2
  rw [lw1, lw2] at tr9
  have env9 := env8.step tr9
  have f9 := tr9.got.free env8.wf
  have q9 := tr9.got.rd
  obtain ⟨y1, y2, jm3, ly1, ly2, zy1, zy2⟩ := env9.jn (i := i2) (j := j3) (L := A ++ B) (M := C) (by simp) (by simp) (by rw [List.length_append]; omega) (by simp) (by omega)
  rw [List.length_append] at zy1
  have n7 := nC (a := y1) (b := y2) (by omega) jm3.2.2.2.1 jm3.2.2.2.2.1
  refine ⟨_, y1, y2, jm3, by omega, fun a b => ?_, by omega, fun S10 i3 tr10 => ?_⟩
  · have x1 := ne jm3.1 jm3.2.1 a
    have x2 := ne jm3.1 jm3.2.2.1 b
    rw [ly1] at x1 ⊢
    rw [ly2] at x2 ⊢
    refine ord_of (c := hi + 1) (fun x hx => ?_) (fun y hy => (kC y hy).2) x1 x2
    rcases List.mem_append.1 hx with hx | hx
    · have := (kA x hx).2; omega
    · have := (kB x hx).2.2; omega
  rw [ly1, ly2, List.append_assoc, pa] at tr10
  have env10 := env9.step tr10
  have q10 := tr10.got.rd
  have kO : keyW (outE m lo hi) := fun x hx => kw x (List.mem_filter.1 hx).1
  -- the lists
  obtain ⟨p1, up5, lp1, zp1⟩ := env10.up (i := i1) (L := outE m lo hi) (by simp) aO (by omega) (by simp) (by omega)
  refine ⟨_, p1, up5.1, up5.2.1, by rw [lp1]; exact aO, by rw [lp1]; exact kO, by omega, by omega, fun S11 m1 out1 e11 hm1 eo1 => ?_⟩
  have env11 := env10.rd (n := m1) (by omega)
  rw [← e11] at env11
  have q11 : S11.reads = S10.reads + m1 := by rw [e11]; rfl
  obtain ⟨p2, up6, lp2, zp2⟩ := env11.up (i := j4) (L := outE m lo hi) (by simp) aO (by omega) (by simp) (by omega)
  refine ⟨_, p2, up6.1, up6.2.1, by rw [lp2]; exact aO, by rw [lp2]; exact kO, by omega, by omega, fun S12 m2 out2 e12 hm2 eo2 => bt7 (by rw [eo1, eo2, lp1, lp2]; simp [sameB]) ?_⟩
  have env12 := env11.rd (n := m2) (by omega)
  rw [← e12] at env12
  have q12 : S12.reads = S11.reads + m2 := by rw [e12]; rfl
  obtain ⟨p3, up7, lp3, zp3⟩ := env12.up (i := i3) (L := m) (by simp) am (by omega) (by simp) (by omega)
  refine ⟨_, p3, up7.1, up7.2.1, by rw [lp3]; exact am, by rw [lp3]; exact kw, by omega, by omega, fun S13 m3 out3 e13 hm3 eo3 => bt7 (by rw [eo3, lp3]; simp [sameB]) ?_⟩
  have env13 := env12.rd (n := m3) (by omega)
  rw [← e13] at env13
  exact ⟨_, env13.wf, List.reverse_perm [i3, i2, j4, i1, j3, j2, j1, i], by simp, h⟩
theorem s_bp : SoundT C0 14 tBp := by
  refine .of Try.func14 (by decide) rfl fun args H K h hB => ?_
  unfold tBp at h
  split at h <;> try exact h.elim
  rename_i t lo hi raw
  obtain ⟨h1, h2, h3, h4, h⟩ := h
  exact ⟨aBp raw PBp, ⟨frame C0.ok s_lst _, frame C0.ok s_grow _, frame C0.ok s_awake15 _, frame C0.ok (keepOk s_keep bet_full) _, frame C0.ok (keepOk s_dropO out_full) _, frame C0.ok s_jcOk _, frame C0.ok s_size _, frame C0.ok s_lsOk _, frame C0.ok s_same9 _, frame C0.ok s_sound _, trivial⟩, vc_bp raw t lo hi K h1 h2 h3 h4 h⟩
end Go.Proofs.Ytjbkckcjmmmooaa.Sx
end
