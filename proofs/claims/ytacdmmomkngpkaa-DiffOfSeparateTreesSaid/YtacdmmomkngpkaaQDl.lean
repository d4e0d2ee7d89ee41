/- diff's functions as they are used, and the law DiffOfSelf. -/
import Derived.Test.YtacdmmomkngpkaaQPaR
import Derived.Test.YtacdmmomkngpkaaQPaC
import Derived.Test.YtacdmmomkngpkaaQPaF
import Derived.Test.YtacdmmomkngpkaaQGr
import Derived.Test.YtacdmmomkngpkaaQMh
namespace Go.Proofs.Ytacdmmomkngpkaa.Sx
open Go

/-! ### Plain -/
def rngC (lo hi : Int) (cs : List Chg) : List Chg := cs.filter fun c => decide (lo ≤ c.key ∧ c.key ≤ hi)
theorem goV_fR (lo hi : Int) : ∀ (cs out : List Chg), Srt Chg.key cs → goV (fR lo hi) out cs = out ++ rngC lo hi cs
  | [], out, _ => by simp [goV, rngC]
  | c :: cs, out, h => by
    have hd : (fR lo hi c out).1 = out ++ (if lo ≤ c.key ∧ c.key ≤ hi then [c] else []) := by
      unfold fR; dsimp only; split <;> simp
    have hc : rngC lo hi (c :: cs) = (if lo ≤ c.key ∧ c.key ≤ hi then [c] else []) ++ rngC lo hi cs := by
      unfold rngC
      rw [List.filter_cons]
      by_cases d : lo ≤ c.key ∧ c.key ≤ hi <;> simp [d]
    have h2 : (fR lo hi c out).2 = decide (c.key < hi) := rfl
    rw [goV, h2, hd, hc, ← List.append_assoc]
    split
    · exact goV_fR lo hi cs _ h.tail
    · rename_i d
      have d : ¬ c.key < hi := by simpa using d
      have e : rngC lo hi cs = [] := by
        unfold rngC
        rw [List.filter_eq_nil_iff]
        intro x hx
        have := h.head x hx
        simp; omega
      rw [e, List.append_nil]
theorem goV_fC : ∀ (cs : List Chg) (s : Int), 0 ≤ s → s + cs.length ≤ 1000000 → goV fC s cs = s + cs.length
  | [], s, _, _ => by simp [goV]
  | c :: cs, s, h, h2 => by
    rw [List.length_cons] at h2
    have e : (fC c s) = (s + 1, true) := by unfold fC; rw [wrap_id (by omega) (by omega)]
    rw [goV, e, if_pos rfl, goV_fC cs (s + 1) (by omega) (by omega), List.length_cons]
    omega
theorem goV_fF (cs : List Chg) (s : Chg × Bool) : goV fF s cs = match cs with
    | [] => s
    | c :: _ => (c, true) := by
  cases cs <;> rfl
theorem btw_keys {l m : List Ent} (hl : Asc l) (hm : Asc m) (P : Int → Prop) (h1 : ∀ x ∈ l, P x.1) (h2 : ∀ x ∈ m, P x.1) : ∀ c ∈ btw l m, P c.key := by
  intro c hc
  have e := (btw_srt hl hm).fnd_self hc
  rw [btw_fnd hl hm, getE_fnd, getE_fnd] at e
  cases a : fnd Prod.fst l c.key with
  | some x => have := h1 x (fnd_mem a); rw [← fnd_key a]; exact this
  | none =>
    cases b : fnd Prod.fst m c.key with
    | some x => have := h2 x (fnd_mem b); rw [← fnd_key b]; exact this
    | none => rw [a, b] at e; simp [mkChg] at e
def Kin (l : List Ent) : Prop := ∀ x ∈ l, -9223372036854775808 ≤ x.1 ∧ x.1 ≤ 9223372036854775807
theorem rngC_all {l m : List Ent} (hl : Asc l) (hm : Asc m) (h1 : Kin l) (h2 : Kin m) : rngC (-9223372036854775808) 9223372036854775807 (btw l m) = btw l m := by
  have h := btw_keys hl hm (fun k => -9223372036854775808 ≤ k ∧ k ≤ 9223372036854775807) h1 h2
  unfold rngC
  rw [List.filter_eq_self]
  intro c hc
  simpa using h c hc

/-! ### The contracts -/
/-KEEP Wf exW inU live Arn.cap Arn.free Rep rdS Tr.size Tr.list btw rngC goV fR Asc Kin PlantR listE newS sameB-/
def tRangeB : Tfm C0 := fun args H K => match args with
  | [.at (.ptr 0 0), .at (.val (.int .u32 x)), .at (.val (.int .u32 y)), .at (.val (.int .i64 lo)), .at (.val (.int .i64 hi))] => arM H fun S => ∃ hs t1 t2, Wf S hs ∧ Rep S t1 x ∧ Rep S t2 y ∧ t1.size + t2.size ≤ 300000 ∧ S.reads + (2 + 6 * (t1.size + t2.size)) ≤ 3000000000000000000 ∧ Asc t1.list ∧ Asc t2.list ∧
    ∀ s' S' m, s' = rngC lo hi (btw t1.list t2.list) → S' = rdS S m → m ≤ 2 + 6 * (t1.size + t2.size) → (x = y → m = 0) → K (.one (.at (.slc 7))) (chS S' ++ [.row true EC.chg s']) [0]
  | _ => False
theorem s_rangeB : SoundT C0 51 tRangeB := s_fnR.weak fun args H K h => by
  unfold tRangeB at h
  split at h <;> try exact h.elim
  unfold arM at h
  split at h <;> try exact h.elim
  obtain ⟨hs, t1, t2, h1, h2, h3, h4, h5, h6, h7, h8⟩ := h
  exact ⟨hs, t1, t2, h1, h2, h3, h4, h5, fun s' S' m a1 a2 a3 a4 => h8 s' S' m (by rw [a1, goV_fR _ _ _ _ (btw_srt h6 h7)]; rfl) a2 a3 a4⟩
noncomputable def aDiff : Ann C0 := { Γ := [(51, frameT [] tRangeB)] }
def tDiff : Tfm C0 := fun args H K => match args with
  | [.at (.ptr 0 0), .at (.val (.int .u32 x)), .at (.val (.int .u32 y))] => arM H fun S => ∃ hs t1 t2, Wf S hs ∧ Rep S t1 x ∧ Rep S t2 y ∧ t1.size + t2.size ≤ 300000 ∧ S.reads + (2 + 6 * (t1.size + t2.size)) ≤ 3000000000000000000 ∧ Asc t1.list ∧ Asc t2.list ∧ Kin t1.list ∧ Kin t2.list ∧
    ∀ s' S' m, s' = btw t1.list t2.list → S' = rdS S m → m ≤ 2 + 6 * (t1.size + t2.size) → (x = y → m = 0) → K (.one (.at (.slc 7))) (chS S' ++ [.row true EC.chg s']) [0]
  | _ => False
theorem vc_diff (S : Arn) (x y : Int) (K : KT) (hs : List Int) (t1 t2 : Tr) (h1 : Wf S hs) (h2 : Rep S t1 x) (h3 : Rep S t2 y) (h4 : t1.size + t2.size ≤ 300000) (h5 : S.reads + (2 + 6 * (t1.size + t2.size)) ≤ 3000000000000000000)
    (h6 : Asc t1.list) (h7 : Asc t2.list) (h8 : Kin t1.list) (h9 : Kin t2.list) (h : ∀ s' S' m, s' = btw t1.list t2.list → S' = rdS S m → m ≤ 2 + 6 * (t1.size + t2.size) → (x = y → m = 0) → K (.one (.at (.slc 7))) (chS S' ++ [.row true EC.chg s']) [0]) :
    vc C0 aDiff Try.f49 [.at (.ptr 0 0), .at (vU x), .at (vU y)] (chS S) (normK 7 (wideK [0] K)) := by
  refine Eq.mp (show (∃ hs : List Int,
  (∃ t1 : Tr,
    (∃ t2 : Tr,
      ((Wf S hs) ∧
      (Rep S t1 x) ∧
      (Rep S t2 y) ∧
      (t1.size + t2.size ≤ 300000) ∧
      (S.reads + (2 + 6 * ((↑t1.size : Int) + (↑t2.size : Int))) ≤ 3000000000000000000) ∧
      (Asc t1.list) ∧
      (Asc t2.list) ∧
      (∀ s' : List Chg,
        (∀ S' : Arn,
          (∀ m : Nat,
            (((s') = (rngC (-9223372036854775808) 9223372036854775807 (btw t1.list t2.list))) →
            (((S') = (rdS S m)) →
            ((m ≤ 2 + 6 * (t1.size + t2.size)) →
            ((((x) = (y)) →
            ((m) = 0)) →
            (K (SV.one (TV.at (At.slc 7))) [(Chunk.box [(At.ptr 1 0), (At.slc 2), (At.slc 3), (At.val (Value.int IntKind.u64 (S'.reads)))]), (Chunk.box [(At.slc 4), (At.slc 5), (At.slc 6), (At.val (Value.int IntKind.u32 (S'.fresh)))]), (Chunk.row true (EC.node) (S'.nodes)), (Chunk.row true (EC.int) (S'.counts)), (Chunk.row true (EC.bool) (S'.used)), (Chunk.row true (EC.u32) (S'.gen)), (Chunk.row true (EC.u32) (S'.rel)), (Chunk.row true (EC.chg) (s'))] [0])))))))))))) = _ by kernel_rfl) ?_
  exact ⟨hs, t1, t2, h1, h2, h3, h4, h5, h6, h7, fun s' S' m a1 a2 a3 a4 => h s' S' m (by rw [a1, rngC_all h6 h7 h8 h9]) a2 a3 a4⟩
theorem s_diff : SoundT C0 49 tDiff := by
  refine .ofW [0] Try.func49 (by decide) rfl fun args H K h hB => ?_
  unfold tDiff at h
  split at h <;> try exact h.elim
  unfold arM at h
  split at h <;> try exact h.elim
  rename_i x y _ rd fr nd ct us gn rl
  obtain ⟨hs, t1, t2, h1, h2, h3, h4, h5, h6, h7, h8, h9, h10⟩ := h
  exact ⟨aDiff, ⟨frame C0.ok s_rangeB _, trivial⟩, vc_diff ⟨us, gn, rl, fr, nd, ct, rd⟩ x y K hs t1 t2 h1 h2 h3 h4 h5 h6 h7 h8 h9 h10⟩
/-! A tree and itself. -/
def selfM (x y : Int) (S : Arn) : Prop := x = y ∧ ∃ hs t, Wf S hs ∧ Rep S t x ∧ t.size ≤ 100000 ∧ S.reads ≤ 1000000000000000000 ∧ Asc t.list ∧ Kin t.list
theorem selfM.go {x y : Int} {S : Arn} (h : selfM x y S) : ∃ hs t, Wf S hs ∧ Rep S t x ∧ Rep S t y ∧ t.size + t.size ≤ 300000 ∧ S.reads + (2 + 6 * ((t.size : Int) + t.size)) ≤ 3000000000000000000 ∧ Asc t.list ∧ Kin t.list ∧ btw t.list t.list = [] ∧ (∀ m, (x = y → m = 0) → rdS S m = S) := by
  obtain ⟨rfl, hs, t, h1, h2, h3, h4, h5, h6⟩ := h
  exact ⟨hs, t, h1, h2, h2, by omega, by omega, h5, h6, btw_self _, fun m hm => by rw [hm rfl, rdS_zero]⟩
def tDiffS : Tfm C0 := fun args H K => match args with
  | [.at (.ptr 0 0), .at (.val (.int .u32 x)), .at (.val (.int .u32 y))] => arM H fun S => selfM x y S ∧ K (.one (.at (.slc 7))) (chS S ++ [.row true EC.chg []]) [0]
  | _ => False
theorem s_diffS : SoundT C0 49 tDiffS := s_diff.weak fun args H K h => by
  unfold tDiffS at h
  split at h <;> try exact h.elim
  unfold arM at h
  split at h <;> try exact h.elim
  obtain ⟨h1, h2⟩ := h
  obtain ⟨hs, t, a1, a2, a3, a4, a5, a6, a7, a8, a9⟩ := h1.go
  refine ⟨hs, t, t, a1, a2, a3, a4, a5, a6, a6, a7, a7, fun s' S' m b1 b2 b3 b4 => ?_⟩
  rw [a8] at b1
  rw [a9 m b4] at b2
  subst b1 b2
  exact h2
def tRangeS : Tfm C0 := fun args H K => match args with
  | [.at (.ptr 0 0), .at (.val (.int .u32 x)), .at (.val (.int .u32 y)), .at (.val (.int .i64 _)), .at (.val (.int .i64 _))] => arM H fun S => selfM x y S ∧ K (.one (.at (.slc 7))) (chS S ++ [.row true EC.chg []]) [0]
  | _ => False
theorem s_rangeS : SoundT C0 51 tRangeS := s_rangeB.weak fun args H K h => by
  unfold tRangeS at h
  split at h <;> try exact h.elim
  unfold arM at h
  split at h <;> try exact h.elim
  obtain ⟨h1, h2⟩ := h
  obtain ⟨hs, t, a1, a2, a3, a4, a5, a6, a7, a8, a9⟩ := h1.go
  refine ⟨hs, t, t, a1, a2, a3, a4, a5, a6, a6, fun s' S' m b1 b2 b3 b4 => ?_⟩
  rw [a8] at b1
  rw [a9 m b4] at b2
  have b1 : s' = [] := b1
  subst b1 b2
  exact h2
def tFirstS : Tfm C0 := fun args H K => match args with
  | [.at (.ptr 0 0), .at (.val (.int .u32 x)), .at (.val (.int .u32 y))] => arM H fun S => selfM x y S ∧ K (.tup [.agg [vI 0, vI 0, vI 0, vI 0], .at (vB false)]) (chS S) [0]
  | _ => False
theorem s_firstS : SoundT C0 52 tFirstS := s_fnF.weak fun args H K h => by
  unfold tFirstS at h
  split at h <;> try exact h.elim
  unfold arM at h
  split at h <;> try exact h.elim
  obtain ⟨h1, h2⟩ := h
  obtain ⟨hs, t, a1, a2, a3, a4, a5, a6, a7, a8, a9⟩ := h1.go
  refine ⟨hs, t, t, a1, a2, a3, a4, a5, fun s' S' m b1 b2 b3 b4 => ?_⟩
  rw [a8] at b1
  rw [a9 m b4] at b2
  have b1 : s' = (⟨0, 0, 0, 0⟩, false) := b1
  subst b1 b2
  exact h2
def tCountS : Tfm C0 := fun args H K => match args with
  | [.at (.ptr 0 0), .at (.val (.int .u32 x)), .at (.val (.int .u32 y))] => arM H fun S => selfM x y S ∧ K (.one (.at (vI 0))) (chS S) [0]
  | _ => False
theorem s_countS : SoundT C0 53 tCountS := s_fnC.weak fun args H K h => by
  unfold tCountS at h
  split at h <;> try exact h.elim
  unfold arM at h
  split at h <;> try exact h.elim
  obtain ⟨h1, h2⟩ := h
  obtain ⟨hs, t, a1, a2, a3, a4, a5, a6, a7, a8, a9⟩ := h1.go
  refine ⟨hs, t, t, a1, a2, a3, a4, a5, fun s' S' m b1 b2 b3 b4 => ?_⟩
  rw [a8] at b1
  rw [a9 m b4] at b2
  have b1 : s' = 0 := b1
  subst b1 b2
  exact h2
theorem sameB_rf (l : List Chg) : sameB l l = true := by simp [sameB]
def tSameT : Tfm C0 := fun args H K => match args, H with
  | [.at (.slc 0), .at (.slc 1)], [.row false .chg l, .row false .chg m] => l = m ∧ K (.one (.at (vB true))) [.row false EC.chg l, .row false EC.chg m] []
  | _, _ => False
theorem s_sameT : SoundT C0 94 tSameT := s_sameC.weak fun args H K h => by
  unfold tSameT at h
  split at h <;> try exact h.elim
  rename_i l m
  obtain ⟨rfl, h⟩ := h
  have e : sameB (α := Chg) l l = true := sameB_rf l
  show K (.one (.at (vB (sameB (α := Chg) l l)))) _ _
  rw [e]
  exact h
/-! ### The example of the chapter -/
noncomputable def aAwake18 : Ann C0 := { Γ := [(14, frameT [] tNew), (46, frameT [] tPlantA), (49, frameT [] tDiff), (94, frameT [] tSameT)] }
def tAwake18 : Tfm C0 := fun args H K => match args, H with
  | [], [] => K (.one (.at (vB true))) [] []
  | _, _ => False
/-! ### The law -/
noncomputable def aDos : Ann C0 := { Γ := [(24, frameT [] tLst), (33, frameT [] tGrow), (45, frameT [] tAwake18), (48, frameT [] tReads), (49, frameT [] tDiffS), (51, frameT [] tRangeS), (52, frameT [] tFirstS), (53, frameT [] tCountS), (50, frameT [] tWi)] }
def tDos : Tfm C0 := fun args H K => match args, H with
  | [.at (.slc 0), .at (.val (.int .u64 t)), .at (.val (.int .i64 _)), .at (.val (.int .i64 _))], [.row false .ent raw] => 0 ≤ t ∧ Kin raw ∧ K (.one (.at (vB true))) [.row false EC.ent raw] []
  | _, _ => False
theorem plant_free {S S' : Arn} {hs : List Int} {l : List Ent} {i : Int} (hw : Wf S hs) (h : PlantR S hs l S' i) : S'.free = S.free - l.length := by
  have h1 := hw.free_nonneg.2.2.2
  have h2 := h.wf.free_nonneg.2.2.2
  have h3 := h.len
  have h4 := h.nu
  have h5 : S'.cap = S.cap := by unfold Arn.cap; rw [h3]
  omega
theorem vc_awake18 (K : KT) (h : K (.one (.at (vB true))) [] []) : vc C0 aAwake18 Try.f45 [] [] (normK 0 K) := by
  refine Eq.mp (show ((((9 : Int) < 1 ∨ (65536 : Int) < 9) →
(K (SV.one (TV.at (At.val (Value.bool false)))) [] [])) ∧
(((1 : Int) ≤ 9) →
(((9 : Int) ≤ 65536) →
(∀ S : Arn,
  (((S) = (newS (Int.toNat 9))) →
  (∃ hs : List Int,
    ((Wf S hs) ∧
    (([(1, 10), (2, 20)] : List Ent).length ≤ 100000) ∧
    ((↑([(1, 10), (2, 20)] : List Ent).length : Int) ≤ S.free) ∧
    (hs.length + ([(1, 10), (2, 20)] : List Ent).length ≤ 900000000) ∧
    ((0 : Int) ≤ 0) ∧
    (∀ S' : Arn,
      (∀ i : Int,
        ((PlantR S hs ([(1, 10), (2, 20)] : List Ent) S' i) →
        (∃ hs1 : List Int,
          ((Wf S' hs1) ∧
          (([(2, 21), (3, 0)] : List Ent).length ≤ 100000) ∧
          ((↑([(2, 21), (3, 0)] : List Ent).length : Int) ≤ S'.free) ∧
          (hs1.length + ([(2, 21), (3, 0)] : List Ent).length ≤ 900000000) ∧
          ((0 : Int) ≤ 0) ∧
          (∀ S'1 : Arn,
            (∀ i1 : Int,
              ((PlantR S' hs1 ([(2, 21), (3, 0)] : List Ent) S'1 i1) →
              (∃ hs2 : List Int,
                (∃ t1 : Tr,
                  (∃ t2 : Tr,
                    ((Wf S'1 hs2) ∧
                    (Rep S'1 t1 i) ∧
                    (Rep S'1 t2 i1) ∧
                    (t1.size + t2.size ≤ 300000) ∧
                    (S'1.reads + (2 + 6 * ((↑t1.size : Int) + (↑t2.size : Int))) ≤ 3000000000000000000) ∧
                    (Asc t1.list) ∧
                    (Asc t2.list) ∧
                    (Kin t1.list) ∧
                    (Kin t2.list) ∧
                    (∀ s' : List Chg,
                      (∀ S'2 : Arn,
                        (∀ m : Nat,
                          (((s') = (btw t1.list t2.list)) →
                          (((S'2) = (rdS S'1 m)) →
                          ((m ≤ 2 + 6 * (t1.size + t2.size)) →
                          ((((i) = (i1)) →
                          ((m) = 0)) →
                          (((s') = [({ kind := 2, key := 1, old := 10, new := 0 : Chg }), ({ kind := 3, key := 2, old := 20, new := 21 : Chg }), ({ kind := 1, key := 3, old := 0, new := 0 : Chg })]) ∧
                          (K (SV.one (TV.at (At.val (Value.bool true)))) [] [])))))))))))))))))))))))))))) = _ by kernel_rfl) ?_
  refine ⟨fun c => by omega, fun _ _ S hS => ?_⟩
  have hS : S = newS 9 := hS
  have hw : Wf S [] := by rw [hS]; exact Wf.new (by decide) (by decide)
  have hf : S.free = 9 := by rw [hS]; rfl
  refine ⟨[], hw, by decide, by rw [hf]; decide, by decide, by decide, fun S1 i h1 => ?_⟩
  have f1 := plant_free hw h1
  refine ⟨[i], h1.wf, by decide, by rw [f1, hf]; decide, by simp, by decide, fun S2 j h2 => ?_⟩
  obtain ⟨t1, r1, l1, _⟩ := h1.rep
  obtain ⟨t2, r2, l2, _⟩ := h2.rep
  have r1' : Rep S2 t1 i := r1.held h1.wf h2.stay (.inr (by simp))
  have z1 : t1.size = 2 := by rw [← t1.list_len, l1]; rfl
  have z2 : t2.size = 2 := by rw [← t2.list_len, l2]; rfl
  have rd : S2.reads = 0 := by rw [h2.rds, h1.rds, hS]; rfl
  refine ⟨_, t1, t2, h2.wf, r1', r2, by omega, by omega, by rw [l1]; decide, by rw [l2]; decide, by rw [l1]; intro x hx; simp at hx; rcases hx with rfl | rfl <;> decide, by rw [l2]; intro x hx; simp at hx; rcases hx with rfl | rfl <;> decide, fun s' S3 m e1 _ _ _ => ⟨?_, h⟩⟩
  have e : btw [(1, 10), (2, 20)] [(2, 21), (3, 0)] = [⟨2, 1, 10, 0⟩, ⟨3, 2, 20, 21⟩, ⟨1, 3, 0, 0⟩] := by
    have a1 := btw_lt (e := (1, 10)) (f := (2, 21)) (by decide) [(2, 20)] [(3, 0)]
    have a2 := btw_eq (e := (2, 20)) (f := (2, 21)) rfl [] [(3, 0)]
    have a3 := btw_right (3, 0) []
    rw [a1, a2, a3, btw_self []]
    rfl
  rw [e1, l1, l2]
  exact e
theorem s_awake18 : SoundT C0 45 tAwake18 := by
  refine .of Try.func45 (by decide) rfl fun args H K h hB => ?_
  unfold tAwake18 at h
  split at h <;> try exact h.elim
  exact ⟨aAwake18, ⟨frame C0.ok s_new _, frame C0.ok s_plantA _, frame C0.ok s_diff _, frame C0.ok s_sameT _, trivial⟩, vc_awake18 K h⟩
theorem listE_sub (raw : List Ent) (n : Nat) : ∀ x ∈ listE raw n, x ∈ raw := by
  have key : ∀ (l acc : List Ent), Asc acc → ∀ x ∈ l.foldl insE acc, x ∈ acc ∨ x ∈ l := by
    intro l
    induction l with
    | nil => intro acc _ x hx; exact .inl hx
    | cons a l ih =>
      intro acc ha x hx
      rcases ih (insE acc a) (insE_asc a ha) x hx with h | h
      · rcases insE_mem ha h with h | h
        · exact .inr (by simp [h])
        · exact .inl h
      · exact .inr (by simp [h])
  intro x hx
  unfold listE at hx
  rcases key (raw.take n) [] (by simp [Srt]) x hx with h | h
  · simp at h
  · exact List.mem_of_mem_take h
theorem vc_dos (raw : List Ent) (t lo hi : Int) (K : KT) (h0 : 0 ≤ t) (hk : Kin raw) (h : K (.one (.at (vB true))) [.row false EC.ent raw] []) :
    vc C0 aDos Try.f8 [.at (.slc 0), .at (vU64 t), .at (vI lo), .at (vI hi)] [.row false EC.ent raw] (normK 1 K) := by
  refine Eq.mp (show (((0 : Int) ≤ 90) ∧
((90 : Int) ≤ 1000000) ∧
(0 ≤ t) ∧
((1 : Int) ≤ 1) ∧
((1 : Int) ≤ 30000) ∧
((listE raw (Int.toNat 90)).length ≤ 30000) ∧
(∀ S' : Arn,
  (∀ i : Int,
    ((PlantR (newS ((↑(listE raw (Int.toNat 90)).length : Int) + 1).toNat) [] (listE raw (Int.toNat 90)) S' i) →
    ((((i) = (i)) ∧
    (∃ hs : List Int,
      (∃ t1 : Tr,
        ((Wf S' hs) ∧
        (Rep S' t1 i) ∧
        (t1.size ≤ 100000) ∧
        (S'.reads ≤ 1000000000000000000) ∧
        (Asc t1.list) ∧
        (Kin t1.list))))) ∧
    (0 ≤ S'.reads) ∧
    (S'.reads ≤ S'.reads) ∧
    (S'.reads ≤ 4000000000000000000) ∧
    (S'.reads - S'.reads ≤ 2) ∧
    ((2 : Int) ≤ 4000000000000000000) ∧
    (((i) = (i)) ∧
    (∃ hs : List Int,
      (∃ t1 : Tr,
        ((Wf S' hs) ∧
        (Rep S' t1 i) ∧
        (t1.size ≤ 100000) ∧
        (S'.reads ≤ 1000000000000000000) ∧
        (Asc t1.list) ∧
        (Kin t1.list))))) ∧
    (0 ≤ S'.reads) ∧
    (S'.reads ≤ S'.reads) ∧
    (S'.reads ≤ 4000000000000000000) ∧
    (S'.reads - S'.reads ≤ 2) ∧
    ((2 : Int) ≤ 4000000000000000000) ∧
    (((i) = (i)) ∧
    (∃ hs : List Int,
      (∃ t1 : Tr,
        ((Wf S' hs) ∧
        (Rep S' t1 i) ∧
        (t1.size ≤ 100000) ∧
        (S'.reads ≤ 1000000000000000000) ∧
        (Asc t1.list) ∧
        (Kin t1.list))))) ∧
    (((i) = (i)) ∧
    (∃ hs : List Int,
      (∃ t1 : Tr,
        ((Wf S' hs) ∧
        (Rep S' t1 i) ∧
        (t1.size ≤ 100000) ∧
        (S'.reads ≤ 1000000000000000000) ∧
        (Asc t1.list) ∧
        (Kin t1.list))))) ∧
    (0 ≤ S'.reads) ∧
    (S'.reads ≤ S'.reads) ∧
    (S'.reads ≤ 4000000000000000000) ∧
    (S'.reads - S'.reads ≤ 4) ∧
    ((4 : Int) ≤ 4000000000000000000) ∧
    (K (SV.one (TV.at (At.val (Value.bool true)))) [(Chunk.row false (EC.ent) (raw))] [])))))) = _ by kernel_rfl) ?_
  have hlen : (listE raw 90).length ≤ 90 := (listE_spec raw 90).2
  have hasc : Asc (listE raw 90) := (listE_spec raw 90).1
  have hkin : Kin (listE raw 90) := fun x hx => hk x (listE_sub raw 90 x hx)
  refine ⟨by decide, by decide, h0, by decide, by decide, by show (listE raw 90).length ≤ 30000; omega, fun S i hp => ?_⟩
  obtain ⟨tr, r1, l1, _⟩ := hp.rep
  have l1 : tr.list = listE raw 90 := l1
  have z1 : tr.size ≤ 90 := by rw [← tr.list_len, l1]; exact hlen
  have rd : S.reads = 0 := by rw [hp.rds]; rfl
  have self : i = i ∧ ∃ hs t, Wf S hs ∧ Rep S t i ∧ t.size ≤ 100000 ∧ S.reads ≤ 1000000000000000000 ∧ Asc t.list ∧ Kin t.list := ⟨rfl, _, tr, hp.wf, r1, by omega, by omega, by rw [l1]; exact hasc, by rw [l1]; exact hkin⟩
  exact ⟨self, by omega, by omega, by omega, by omega, by decide, self, by omega, by omega, by omega, by omega, by decide, self, self, by omega, by omega, by omega, by omega, by decide, h⟩
theorem s_dos : SoundT C0 8 tDos := by
  refine .of Try.func8 (by decide) rfl fun args H K h hB => ?_
  unfold tDos at h
  split at h <;> try exact h.elim
  rename_i t lo hi raw
  exact ⟨aDos, ⟨frame C0.ok s_lst _, frame C0.ok s_grow _, frame C0.ok s_awake18 _, frame C0.ok s_rds _, frame C0.ok s_diffS _, frame C0.ok s_rangeS _, frame C0.ok s_firstS _, frame C0.ok s_countS _, frame C0.ok s_wi _, trivial⟩, vc_dos raw t lo hi K h.1 h.2.1 h.2.2⟩
end Go.Proofs.Ytacdmmomkngpkaa.Sx
