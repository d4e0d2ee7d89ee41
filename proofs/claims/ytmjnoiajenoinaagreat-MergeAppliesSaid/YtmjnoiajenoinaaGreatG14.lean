/- A part of the proof. -/
import Derived.Test.YtmjnoiajenoinaaGreatG13
import Derived.Test.YtmjnoiajenoinaaGreatG10
import Derived.Test.YtmjnoiajenoinaaGreatG9
import Derived.Test.YtmjnoiajenoinaaGreatG12
import Derived.Test.YtmjnoiajenoinaaGreatG2
import Derived.Test.YtmjnoiajenoinaaGreatG1
import Derived.Test.YtmjnoiajenoinaaGreatG5
import Derived.Test.YtmjnoiajenoinaaGreatG6
section
/- The law that Delete deletes. -/
namespace Go.Proofs.YtmjnoiajenoinaaGreat.Sx
open Go

/-KEEP Wf exW inU live Arn.cap Arn.free Rep rdS retL Tr.size Tr.list slotsOf orderOf PlantR newS insE outE listE getE TrR upM Hn keptD Asc Tr.Bal ht dB RepD List.Perm-/
structure XUe (P : Arn ->Int ->List Ent ->Int ->Prop) where
  S : Arn
  i : Int
  l : List Ent
  need : Int
  k : Int
  h : P S i l need
structure UdS where
  S0 : Arn
  S : Arn
  root : Int
  l : List Ent
  need : Int
  k : Int
  v : Int
  is : Bool
  d : List SlotT
  o : List Int
  r : Int
  i : Int
  w : Int
  f : Int
structure XUd (P : UdS ->Prop) where
  z : UdS
  h : P z
structure XUw (P : UdS ->Int ->Prop) where
  z : UdS
  want : Int
  h : P z want
theorem outE_flt (l : List Ent) (k : Int) : outE l k k = flt (neK k) l := by
  unfold outE flt neK
  congr 1
  funext x
  by_cases h : x.1 = k
  · simp [h]
  · rw [decide_eq_true (show x.1 ≠ k from h)]
    simp; omega
end Go.Proofs.YtmjnoiajenoinaaGreat.Sx
end
section
/- update.Increase, and the laws that updates increase, commute and share. -/
namespace Go.Proofs.YtmjnoiajenoinaaGreat.Sx
open Go

/-KEEP Wf exW inU live Arn.cap Arn.free Rep rdS retL Tr.size Tr.list slotsOf orderOf PlantR newS insE outE listE getE TrR upM Hn keptD Asc Tr.Bal ht dB iB RepD List.Perm flt neK-/
structure XUc (P : Arn ->Int ->List Ent ->Prop) where
  S : Arn
  i : Int
  l : List Ent
  k : Int
  h : P S i l
/-! ### The law that Increase increases -/
theorem Hn_le {n m : Nat} (h : n <=m) : Hn n <=Hn m := by
  have a := gN_size n
  have b := gN_size m
  have c := gN_mono (v := n + 1) (w := m + 1) (by omega) (by omega)
  omega
theorem gN_top {w v g : Nat} (h8 : v <=w) (hg : g < 80) (hw : (w : Int) < wt (g + 1)) : gN v <=g := by
  by_cases c : gN v <=g
  · exact c
  · by_cases z : 1 <=v
    · have h1 := gN_wt z
      have h2 := wt_mono (show g + 1 <=gN v by omega) (gN_rng v)
      omega
    · have : v = 0 := by omega
      subst this
      exact absurd (show gN 0 <=g by have : gN 0 = 0 := by decide
                                     omega) c
theorem Hn_104 {n : Nat} (h : n <=112) : Hn n <=13 := by
  have a := gN_size n
  have b := gN_top (w := 113) (v := n + 1) (g := 13) (by omega) (by omega) (by have : wt (13 + 1) = 115 := by decide
                                                                               omega)
  omega
end Go.Proofs.YtmjnoiajenoinaaGreat.Sx
end
section
/- Building and listing trees where there is room. -/
namespace Go.Proofs.YtmjnoiajenoinaaGreat.Sx
open Go

/-- Where there is room, an ascending list becomes a tree. -/
def tBuildOk : Tfm C0 := fun args H K => match args with
  | [.at (.ptr 0 0), .at (.slc 7)] => arMr H fun S rest => match rest with
    | [.row false .ent l] => ∃ hs, Wf S hs /\Asc l /\l.length <=60000 /\hs.length <=900000 /\(l.length : Int) <=S.free /\S.reads <=900000000000000000 /\∀ S' i, TrR S hs l 65537 0 S' i ->K (.tup [.at (vU i), .at (vI 0)]) (chS S' ++ [.row false EC.ent l]) W7
    | _ => False
  | _ => False
theorem shp_sizeV {t : Tr} {l : List Ent} (h : ShpT t l) : t.size = l.length := by rw [← t.list_len, h.list]
theorem shp_balV : ∀ {t : Tr} {l : List Ent}, ShpT t l ->t.Bal
  | .nil, _, _ => trivial
  | .node a k v b, l, h => by
    obtain ⟨h1, h2, h3, h4⟩ := h
    have s3 := shp_sizeV h3
    have s4 := shp_sizeV h4
    simp only [List.length_take, List.length_drop] at s3 s4
    refine ⟨?_, shp_balV h3, shp_balV h4⟩
    unfold balN
    omega
theorem ascB_of {l : List Ent} (h : Asc l) : ascB l = true := decide_eq_true h
theorem build_tr {S S' : Arn} {hs : List Int} {l : List Ent} {i : Int} (w : Wf S hs) (b : BuildR S hs l S' i) (hl : l.length <=60000) : TrR S hs l 65537 0 S' i := by
  obtain ⟨t, rp, sp⟩ := b.rep
  exact ⟨⟨b.wf, b.stay, b.len, by rw [b.nu]; omega, by rw [b.rds]; exact Int.le_refl _, by rw [b.rds]; omega⟩, t, rp, sp.list, shp_balV sp⟩
theorem s_buildOk : SoundT C0 17 tBuildOk := s_build.weak fun args H K h => by
  unfold tBuildOk at h
  unfold tBuild
  split at h <;> try exact h.elim
  unfold arMr at h ⊢
  split at h <;> try exact h.elim
  dsimp only at h ⊢
  split at h <;> try exact h.elim
  obtain ⟨hs, w, asc, hl, hh, hf, hr, h⟩ := h
  exact ⟨hs, w, by omega, by omega, fun e => absurd (ascB_of asc) (by rw [e]; decide), fun _ c => absurd hf (by omega), fun _ _ S' i b => h S' i (build_tr w b hl)⟩
theorem cap_new (c : Nat) : (newS c).cap = c := by unfold Arn.cap newS; simp
theorem Hld.new {c : Nat} (h1 : 1 <=c) (h2 : c <=65536) : Hld (newS c) [] := ⟨Wf.new h1 h2, fun _ h => (by cases h), fun _ h => (by cases h), fun _ h => (by cases h)⟩
end Go.Proofs.YtmjnoiajenoinaaGreat.Sx
end
section
/- Edits: what stays in range. No program in sight. -/
namespace Go.Proofs.YtmjnoiajenoinaaGreat.Sx
open Go

theorem kin_ins {l : List Ent} {e : Ent} (ha : Asc l) (h : Kin l) (he : -9223372036854775808 <=e.1 /\e.1 <=9223372036854775807) : Kin (insE l e) := fun x hx => by
  rcases insE_mem ha hx with rfl | c
  · exact he
  · exact h x c
theorem kin_flt {p : Int ->Bool} {l : List Ent} (h : Kin l) : Kin (flt p l) := fun x hx => h x (flt_mem hx)
theorem numsB {t : Tr} (h : t.size <=110) (bal : t.Bal) : 5 * iB t.size + ht t + 1 <=300 /\5 * dB t.size + ht t + 1 <=300 /\(iB t.size : Int) = 4 * Hn t.size + 1 /\(dB t.size : Int) <=4 * Hn t.size + 4 := by
  have a := iB_Hn t.size
  have b := dB_Hn t.size
  have c := Bal.height bal (by omega)
  have d := Hn_104 (n := t.size) (by omega)
  omega
def KinD (l : List EdtT) : Prop := ∀ e ∈ l, -9223372036854775808 <=e.ent.1 /\e.ent.1 <=9223372036854775807
end Go.Proofs.YtmjnoiajenoinaaGreat.Sx
end
section
/- law20: edit, fork, awake; merges where there is room. -/
namespace Go.Proofs.YtmjnoiajenoinaaGreat.Sx
open Go

/-KEEP EdM Wf Kept exW inU live Arn.cap Arn.free Rep rdS retL Tr.size Tr.list Tr.Bal Asc Kin KinD PlantR listE newS insE outE flt neK getE TrR Got upM Hn iB dB ht min MgM needM confE mergeE BuildR-/
structure EdM (S : Arn) (hs : List Int) (x : Int) (l : List Ent) (ed : List EdtT) (I : Nat) : Prop where
  wf : Wf S hs
  tree : ∃ t, Rep S t x /\t.list = l /\t.Bal
  asc : Asc l
  kin : Kin l
  kd : KinD ed
  len : l.length <=60
  hl : hs.length <=1000
  rd : S.reads <=1000000
  i4 : 4 * (Hn ((l.length + 9 : Nat) : Int) + 2) <=(I : Int)
  i60 : I <=100
  free : ((8 * I : Nat) : Int) <=S.free
structure XE1 (P : Nat ->Arn ->Int ->List Ent ->Prop) where
  i : Nat
  S : Arn
  y : Int
  m : List Ent
  h : P i S y m
structure XE2 (P : Nat ->Arn ->Int ->Int ->List Ent ->Prop) where
  i : Nat
  S : Arn
  y : Int
  z : Int
  m : List Ent
  h : P i S y z m
noncomputable def aEd (P1 : Nat ->Arn ->Int ->List Ent ->Prop) (P2 : Nat ->Arn ->Int ->Int ->List Ent ->Prop) (l : List Ent) (ed : List EdtT) : Ann C0 := { rounds := fun n => if n = 4 then 1 else 0, Γ := [(62, frameT [] tRetL), (63, frameT [] tMod), (64, frameT [] tUpDe), (41, frameT [] tDel), (65, frameT [] tUpIn), (40, frameT [] tIns), (66, frameT [] tRel)], inv := fun k => match k with
  | 4 => some { X := XE1 P1, sl := [1, 2, 11], wr := W7, tf := fun x => [vi .u32 x.y, .one (.at (.slc 9)), vi .i64 x.i], hf := fun x => chS x.S ++ [.row false EC.ent l, .row false EC.edm ed, .row true EC.ent x.m], μ := fun x => min ed.length 8 - x.i }
  | 1014 => some { X := XE2 P2, sl := [1, 11, 12, 13, 14], wr := W7, tf := fun x => [vi .u32 x.y, vi .i64 x.i, vi .u32 x.z, vi .i64 0, .one (.at (.slc 9))], hf := fun x => chS x.S ++ [.row false EC.ent l, .row false EC.edm ed, .row true EC.ent x.m], rel := fun T _ x => slotI T 11 x.i }
  | _ => none }
def tEd : Tfm C0 := fun args H K => match args with
  | [.at (.ptr 0 0), .at (.val (.int .u32 x)), .at (.slc 7), .at (.slc 8)] => arMr H fun S rest => match rest with
    | [.row false .ent l, .row false .edm ed] => ∃ hs I, EdM S hs x l ed I ∧
      (ed.length = 0 ->∀ S', TrR S hs l (8 * I) 8000 S' x ->K (.tup [.at (vU x), .at (.slc 7), .at (vB true)]) (chS S' ++ [.row false EC.ent l, .row false EC.edm ed]) W7) ∧
      (∀ S' y m, TrR S hs m (8 * I) 8000 S' y ->Asc m ->Kin m ->m.length <=l.length + 8 ->K (.tup [.at (vU y), .at (.slc 9), .at (vB true)]) (chS S' ++ [.row false EC.ent l, .row false EC.edm ed, .row true EC.ent m]) W7)
    | _ => False
  | _ => False
/-- Three trees of one arena, with their entries. -/
structure FkR (S : Arn) (b o t : Int) (lb lo lt : List Ent) (sp : Int) : Prop where
  h : Hld S [(t, lt), (o, lo), (b, lb)]
  sb : lb.length <=60
  so : lo.length <=68
  st : lt.length <=68
  rd : S.reads <=20000
  free : sp <=S.free
  cap : lb.length + sp + 144 <=S.cap
  top : S.cap <=lb.length + sp + 1100
structure XF0 (P : Arn ->Int ->Prop) where
  S : Arn
  b : Int
  h : P S b
structure XF1 (P : Arn ->Int ->Int ->List Ent ->Prop) where
  S : Arn
  b : Int
  o : Int
  lo : List Ent
  h : P S b o lo
structure XF2 (P : Arn ->Int ->Int ->Int ->List Ent ->List Ent ->Prop) where
  S : Arn
  b : Int
  o : Int
  t : Int
  lo : List Ent
  lt : List Ent
  h : P S b o t lo lt
/-- Where there is room, and no conflict is refused. -/
def tMgK : Tfm C0 := fun args H K => match args with
  | [.at (.ptr 0 0), .at (.val (.int .u32 b)), .at (.val (.int .u32 o)), .at (.val (.int .u32 t)), .at (.val (.int .i64 pol))] => arM H fun S => ∃ hs tb to tt, MgM S hs tb to tt b o t /\1 <=pol /\pol <=4 /\needM tb to tt <=S.free /\(pol = 3 ->confE tb.list to.list tt.list = []) ∧
    ∀ S' i c, c = confE tb.list to.list tt.list ->TrR S hs (mergeE tb.list to.list tt.list pol) 65537 2000000000 S' i ->K (.tup [.at (vU i), .at (.slc 7), .at (vI 0)]) (chS S' ++ [.row true EC.i64 c]) W7
  | _ => False
noncomputable def aAw20 : Ann C0 := { Γ := [(16, frameT [] tNew), (17, frameT [] tBuildOk), (18, frameT [] tMgK), (19, frameT [] tGetT), (20, frameT [] tSize)] }
def tAw20 : Tfm C0 := fun args H K => match args, H with
  | [], [] => K (.one (.at (vB true))) [] []
  | _, _ => False
def PE1 (S0 : Arn) (hs : List Int) (l : List Ent) (n I : Nat) : Nat ->Arn ->Int ->List Ent ->Prop := fun i S y m => i <=n /\Asc m /\Kin m /\m.length <=l.length + i /\TrR S0 hs m (i * I) (1000 * i) S y
def PE2 (S0 : Arn) (hs : List Int) (l : List Ent) (n I : Nat) : Nat ->Arn ->Int ->Int ->List Ent ->Prop := fun i S y z m => i < n /\Asc m /\Kin m /\m.length <=l.length + i + 1 /\Got S0 hs ((i + 1) * I) (1000 * (i + 1)) S (z :: y :: hs) /\∃ t, Rep S t z /\t.list = m /\t.Bal
theorem ed_up {S0 S : Arn} {hs : List Int} {x y : Int} {l m : List Ent} {ed : List EdtT} {n I i : Nat} (E : EdM S0 hs x l ed I) (h : PE1 S0 hs l n I i S y m) (hi : i < n) (hn : n <=8) :
    ∃ ty, upM S (y :: hs) ty y /\ty.list = m /\m.length <=67 /\4 * (Hn ty.size + 2) <=S.free /\4 * (Hn ((ty.size : Int) + 1) + 2) <=S.free /\iB ty.size <=I /\dB ty.size <=I /\5 * iB ty.size + ht ty + 1 <=1000 /\5 * dB ty.size + ht ty + 1 <=1000 := by
  obtain ⟨_, am, km, lm, tr⟩ := h
  obtain ⟨ty, ry, ly, bY⟩ := tr.tree
  have zy : ty.size = m.length := by rw [← ty.list_len, ly]
  have le := E.len
  have f := tr.got.free E.wf
  have q := tr.got.rd
  have rd := E.rd
  have fr := E.free
  have hl := E.hl
  have i4 := E.i4
  have mu : (i + 1) * I <=8 * I := Nat.mul_le_mul_right _ (by omega)
  rw [Nat.succ_mul] at mu
  have h1 := Hn_le (n := ty.size) (m := l.length + 9) (by omega)
  have h2 := Hn_le (n := ty.size + 1) (m := l.length + 9) (by omega)
  have nb := numsB (t := ty) (by omega) bY
  rw [show ((ty.size + 1 : Nat) : Int) = (ty.size : Int) + 1 by omega] at h2
  exact ⟨ty, ⟨tr.got.wf, ry, bY, by rw [ly]; exact am, by omega, by simp; omega, by omega⟩, ly, by omega, by omega, by omega, by omega, by omega, by omega, by omega⟩
theorem ed_step {S0 S S' : Arn} {hs : List Int} {y j : Int} {l m L : List Ent} {n I i a r : Nat} (h : PE1 S0 hs l n I i S y m) (hi : i < n) (tr : TrR S (y :: hs) L a r S' j) (ha : a <=I) (hr : r <=1000) (asc : Asc L) (kin : Kin L) (hl : L.length <=l.length + i + 1) : PE2 S0 hs l n I i S' y j L := by
  obtain ⟨_, _, _, _, t0⟩ := h
  have g := t0.got.seq tr.got (h := hs) (fun _ h => h) (fun i hi => List.mem_cons_of_mem _ hi)
  exact ⟨hi, asc, kin, hl, g.mono (by rw [Nat.succ_mul]; omega) (by omega), tr.tree⟩
theorem ed_rel {S0 S S' : Arn} {hs : List Int} {y z : Int} {l m : List Ent} {n I i : Nat} (h : PE2 S0 hs l n I i S y z m) (w3 : Wf S' (z :: hs)) (kp : Kept S S') : PE1 S0 hs l n I (i + 1) S' z m := by
  obtain ⟨hi, am, km, lm, g, t, rt, lt, bt⟩ := h
  have w' : Wf S (y :: z :: hs) := g.wf.perm (List.Perm.swap _ _ _)
  have g2 := rel_got w' w3 kp
  have g3 := g.seq g2 (h := hs) (fun _ h => h) (fun i hi => List.mem_cons_of_mem _ hi)
  exact ⟨hi, am, km, by omega, g3.mono (Nat.le_refl _) (Nat.le_refl _), t, rt.held w' g2.stay (.inr (by simp)), lt, bt⟩
theorem vc_ed (S : Arn) (x : Int) (l : List Ent) (ed : List EdtT) (K : KT) (hs : List Int) (I : Nat) (E : EdM S hs x l ed I)
    (h1 : ed.length = 0 ->∀ S', TrR S hs l (8 * I) 8000 S' x ->K (.tup [.at (vU x), .at (.slc 7), .at (vB true)]) (chS S' ++ [.row false EC.ent l, .row false EC.edm ed]) W7)
    (h2 : ∀ S' y m, TrR S hs m (8 * I) 8000 S' y ->Asc m ->Kin m ->m.length <=l.length + 8 ->K (.tup [.at (vU y), .at (.slc 9), .at (vB true)]) (chS S' ++ [.row false EC.ent l, .row false EC.edm ed, .row true EC.ent m]) W7) :
    vc C0 (aEd (PE1 S hs l (min ed.length 8) I) (PE2 S hs l (min ed.length 8) I) l ed) Tryz.f24 [.at (.ptr 0 0), .at (vU x), .at (.slc 7), .at (.slc 8)] (chS S ++ [.row false EC.ent l, .row false EC.edm ed]) (normK 9 (wideK W7 K)) := by
  generalize hP1 : PE1 S hs l (min ed.length 8) I = P1
  generalize hP2 : PE2 S hs l (min ed.length 8) I = P2
  refine Eq.mp (show ((live S x) ∧
(exW S) ∧
(∀ S' : Arn, (((S') = (retL S x))->(brS (decide (0 < (↑ed.length : Int))) (((((0 : Int)<=0)/\(0 < (↑ed.length : Int))/\(brS ((ed.getD (Int.toNat 0) { del := false, at_ := 0, ent := (0, 0) : EdtT }).del) ((brS (decide ((↑l.length : Int) > 0)) ((((0 : Int)<=0)/\(0 < (↑ed.length : Int))/\(0 < (↑l.length : Int))/\((↑l.length : Int)<=9223372036854775807)/\(∀ x1 : Int, (((x1) = ((ed.getD (Int.toNat 0) { del := false, at_ := 0, ent := (0, 0) : EdtT }).at_ % (↑l.length : Int)))->((0<=x1)/\(x1 < (↑l.length : Int))/\(∃ hs : List Int, (∃ t : Tr, (∃ v : Int, ((upM S' hs t x)/\((getE t.list (l.getD x1.toNat (0, 0)).fst) = (some (v)))/\(4 * (Hn (↑t.size : Int) + 2)<=S'.free)/\(∀ S'1 : Arn, (∀ j : Int, ((TrR S' hs (flt (neK (l.getD x1.toNat (0, 0)).fst) t.list) (dB t.size) (5 * dB t.size + ht t + 1) S'1 j)->((l.length<=1000000)/\(∃ x2 : XE2 P2, ((0 = ((↑x2.i : Int)))/\(True/\((Value.int .u32 (x)) = (Value.int .u32 (x2.y)))/\True/\((Value.int .i64 0) = (Value.int .i64 ((↑x2.i : Int))))/\((Value.int .u32 (j)) = (Value.int .u32 (x2.z)))/\((Value.int .i64 0) = (Value.int .i64 0))/\True/\True)/\(True/\True/\True/\((Value.int .u64 (S'1.reads)) = (Value.int .u64 (x2.S.reads)))/\True)/\(True/\True/\True/\((Value.int .u32 (S'1.fresh)) = (Value.int .u32 (x2.S.fresh)))/\True)/\((S'1.nodes) = (x2.S.nodes))/\((S'1.counts) = (x2.S.counts)) ∧
    ((S'1.used) = (x2.S.used))/\((S'1.gen) = (x2.S.gen))/\((S'1.rel) = (x2.S.rel))/\((l) = (l))/\((ed) = (ed))/\((outE l (l.getD x1.toNat (0, 0)).fst (l.getD x1.toNat (0, 0)).fst) = (x2.m))/\True))))))))))))))) ((((0 : Int)<=0)/\(0 < (↑ed.length : Int))/\(∃ hs : List Int, (∃ t : Tr, ((upM S' hs t x)/\(4 * (Hn ((↑t.size : Int) + 1) + 2)<=S'.free)/\(∀ S'1 : Arn, (∀ j : Int, (∀ o : Option Int, (((o) = (getE t.list (ed.getD (Int.toNat 0) { del := false, at_ := 0, ent := (0, 0) : EdtT }).ent.fst))->((TrR S' hs (insE t.list (ed.getD (Int.toNat 0) { del := false, at_ := 0, ent := (0, 0) : EdtT }).ent) (iB t.size) (5 * iB t.size + ht t + 1) S'1 j)->(((0 : Int)<=0)/\(0 < (↑ed.length : Int))/\(l.length<=1000000)/\(∃ x1 : XE2 P2, ((0 = ((↑x1.i : Int)))/\(True/\((Value.int .u32 (x)) = (Value.int .u32 (x1.y)))/\True/\((Value.int .i64 0) = (Value.int .i64 ((↑x1.i : Int))))/\((Value.int .u32 (j)) = (Value.int .u32 (x1.z)))/\((Value.int .i64 0) = (Value.int .i64 0))/\True/\True)/\(True/\True/\True/\((Value.int .u64 (S'1.reads)) = (Value.int .u64 (x1.S.reads)))/\True)/\(True/\True/\True/\((Value.int .u32 (S'1.fresh)) = (Value.int .u32 (x1.S.fresh)))/\True)/\((S'1.nodes) = (x1.S.nodes))/\((S'1.counts) = (x1.S.counts))/\((S'1.used) = (x1.S.used))/\((S'1.gen) = (x1.S.gen))/\((S'1.rel) = (x1.S.rel))/\((l) = (l))/\((ed) = (ed)) ∧
    ((insE l (ed.getD (Int.toNat 0) { del := false, at_ := 0, ent := (0, 0) : EdtT }).ent) = (x1.m))/\True))))))))))))))) ((((0 : Int)<=0)/\(0 < (↑ed.length : Int))/\(∃ hs : List Int, (∃ t : Tr, ((upM S' hs t x)/\(4 * (Hn ((↑t.size : Int) + 1) + 2)<=S'.free)/\(∀ S'1 : Arn, (∀ j : Int, (∀ o : Option Int, (((o) = (getE t.list (ed.getD (Int.toNat 0) { del := false, at_ := 0, ent := (0, 0) : EdtT }).ent.fst))->((TrR S' hs (insE t.list (ed.getD (Int.toNat 0) { del := false, at_ := 0, ent := (0, 0) : EdtT }).ent) (iB t.size) (5 * iB t.size + ht t + 1) S'1 j)->(((0 : Int)<=0)/\(0 < (↑ed.length : Int))/\(l.length<=1000000)/\(∃ x1 : XE2 P2, ((0 = ((↑x1.i : Int)))/\(True/\((Value.int .u32 (x)) = (Value.int .u32 (x1.y)))/\True/\((Value.int .i64 0) = (Value.int .i64 ((↑x1.i : Int))))/\((Value.int .u32 (j)) = (Value.int .u32 (x1.z)))/\((Value.int .i64 0) = (Value.int .i64 0))/\True/\True)/\(True/\True/\True/\((Value.int .u64 (S'1.reads)) = (Value.int .u64 (x1.S.reads)))/\True)/\(True/\True/\True/\((Value.int .u32 (S'1.fresh)) = (Value.int .u32 (x1.S.fresh)))/\True)/\((S'1.nodes) = (x1.S.nodes))/\((S'1.counts) = (x1.S.counts))/\((S'1.used) = (x1.S.used))/\((S'1.gen) = (x1.S.gen))/\((S'1.rel) = (x1.S.rel))/\((l) = (l))/\((ed) = (ed))/\((insE l (ed.getD (Int.toNat 0) { del := false, at_ := 0, ent := (0, 0) : EdtT }).ent) = (x1.m))/\True)))))))))))))))/\(∀ x1 : XE2 P2,
    ((0 = ((↑x1.i : Int)))->(∃ hs : List Int, ((Wf x1.S (x1.y :: hs))/\(∀ S'1 : Arn, (∀ fr : Int, ((Wf S'1 hs)->((Kept x1.S S'1)->((∃ x2 : XE1 P1, (True/\(True/\((Value.int .u32 (x1.z)) = (Value.int .u32 (x2.y)))/\True/\True/\((Value.int .i64 (IntKind.i64.wrap ((↑x1.i : Int) + 1))) = (Value.int .i64 ((↑x2.i : Int))))/\True)/\(True/\True/\True/\((Value.int .u64 (S'1.reads)) = (Value.int .u64 (x2.S.reads)))/\True)/\(True/\True/\True/\((Value.int .u32 (S'1.fresh)) = (Value.int .u32 (x2.S.fresh)))/\True)/\((S'1.nodes) = (x2.S.nodes))/\((S'1.counts) = (x2.S.counts))/\((S'1.used) = (x2.S.used))/\((S'1.gen) = (x2.S.gen))/\((S'1.rel) = (x2.S.rel))/\((l) = (l))/\((ed) = (ed))/\((x1.m) = (x2.m))/\True))/\(∀ x2 : XE1 P1, (True->(brS (decide ((↑x2.i : Int) < (↑ed.length : Int))) ((brS (decide ((↑x2.i : Int) < 8)) ((((0<=(↑x2.i : Int))/\((↑x2.i : Int) < (↑ed.length : Int))/\(brS ((ed.getD (↑x2.i : Int).toNat { del := false, at_ := 0, ent := (0, 0) : EdtT }).del) ((brS (decide ((↑x2.m.length : Int) > 0)) (((0<=(↑x2.i : Int))/\((↑x2.i : Int) < (↑ed.length : Int))/\(0 < (↑x2.m.length : Int))/\((↑x2.m.length : Int)<=9223372036854775807)/\(∀ x3 : Int, (((x3) = ((ed.getD (↑x2.i : Int).toNat { del := false, at_ := 0, ent := (0, 0) : EdtT }).at_ % (↑x2.m.length : Int)))->((0<=x3)/\(x3 < (↑x2.m.length : Int))/\(∃ hs1 : List Int, (∃ t : Tr, (∃ v : Int, ((upM x2.S hs1 t x2.y) ∧
    ((getE t.list (x2.m.getD x3.toNat (0, 0)).fst) = (some (v)))/\(4 * (Hn (↑t.size : Int) + 2)<=x2.S.free)/\(∀ S'2 : Arn, (∀ j : Int, ((TrR x2.S hs1 (flt (neK (x2.m.getD x3.toNat (0, 0)).fst) t.list) (dB t.size) (5 * dB t.size + ht t + 1) S'2 j)->((x2.m.length<=1000000)/\(∃ x4 : XE2 P2, ((((↑x2.i : Int)) = ((↑x4.i : Int)))/\(True/\((Value.int .u32 (x2.y)) = (Value.int .u32 (x4.y)))/\True/\((Value.int .i64 ((↑x2.i : Int))) = (Value.int .i64 ((↑x4.i : Int))))/\((Value.int .u32 (j)) = (Value.int .u32 (x4.z)))/\((Value.int .i64 0) = (Value.int .i64 0))/\True/\True)/\(True/\True/\True/\((Value.int .u64 (S'2.reads)) = (Value.int .u64 (x4.S.reads)))/\True)/\(True/\True/\True/\((Value.int .u32 (S'2.fresh)) = (Value.int .u32 (x4.S.fresh)))/\True)/\((S'2.nodes) = (x4.S.nodes))/\((S'2.counts) = (x4.S.counts))/\((S'2.used) = (x4.S.used))/\((S'2.gen) = (x4.S.gen))/\((S'2.rel) = (x4.S.rel))/\((l) = (l))/\((ed) = (ed))/\((outE x2.m (x2.m.getD x3.toNat (0, 0)).fst (x2.m.getD x3.toNat (0, 0)).fst) = (x4.m))/\True))))))))))))))) (((0<=(↑x2.i : Int))/\((↑x2.i : Int) < (↑ed.length : Int))/\(∃ hs1 : List Int, (∃ t : Tr, ((upM x2.S hs1 t x2.y)/\(4 * (Hn ((↑t.size : Int) + 1) + 2)<=x2.S.free)/\(∀ S'2 : Arn, (∀ j : Int, (∀ o : Option Int, (((o) = (getE t.list (ed.getD (↑x2.i : Int).toNat { del := false, at_ := 0, ent := (0, 0) : EdtT }).ent.fst)) →
    ((TrR x2.S hs1 (insE t.list (ed.getD (↑x2.i : Int).toNat { del := false, at_ := 0, ent := (0, 0) : EdtT }).ent) (iB t.size) (5 * iB t.size + ht t + 1) S'2 j)->((0<=(↑x2.i : Int))/\((↑x2.i : Int) < (↑ed.length : Int))/\(x2.m.length<=1000000)/\(∃ x3 : XE2 P2, ((((↑x2.i : Int)) = ((↑x3.i : Int)))/\(True/\((Value.int .u32 (x2.y)) = (Value.int .u32 (x3.y)))/\True/\((Value.int .i64 ((↑x2.i : Int))) = (Value.int .i64 ((↑x3.i : Int))))/\((Value.int .u32 (j)) = (Value.int .u32 (x3.z)))/\((Value.int .i64 0) = (Value.int .i64 0))/\True/\True)/\(True/\True/\True/\((Value.int .u64 (S'2.reads)) = (Value.int .u64 (x3.S.reads)))/\True)/\(True/\True/\True/\((Value.int .u32 (S'2.fresh)) = (Value.int .u32 (x3.S.fresh)))/\True)/\((S'2.nodes) = (x3.S.nodes))/\((S'2.counts) = (x3.S.counts))/\((S'2.used) = (x3.S.used))/\((S'2.gen) = (x3.S.gen))/\((S'2.rel) = (x3.S.rel))/\((l) = (l))/\((ed) = (ed))/\((insE x2.m (ed.getD (↑x2.i : Int).toNat { del := false, at_ := 0, ent := (0, 0) : EdtT }).ent) = (x3.m))/\True))))))))))))))) (((0<=(↑x2.i : Int))/\((↑x2.i : Int) < (↑ed.length : Int))/\(∃ hs1 : List Int, (∃ t : Tr, ((upM x2.S hs1 t x2.y)/\(4 * (Hn ((↑t.size : Int) + 1) + 2)<=x2.S.free)/\(∀ S'2 : Arn, (∀ j : Int, (∀ o : Option Int, (((o) = (getE t.list (ed.getD (↑x2.i : Int).toNat { del := false, at_ := 0, ent := (0, 0) : EdtT }).ent.fst)) →
    ((TrR x2.S hs1 (insE t.list (ed.getD (↑x2.i : Int).toNat { del := false, at_ := 0, ent := (0, 0) : EdtT }).ent) (iB t.size) (5 * iB t.size + ht t + 1) S'2 j)->((0<=(↑x2.i : Int))/\((↑x2.i : Int) < (↑ed.length : Int))/\(x2.m.length<=1000000)/\(∃ x3 : XE2 P2, ((((↑x2.i : Int)) = ((↑x3.i : Int)))/\(True/\((Value.int .u32 (x2.y)) = (Value.int .u32 (x3.y)))/\True/\((Value.int .i64 ((↑x2.i : Int))) = (Value.int .i64 ((↑x3.i : Int))))/\((Value.int .u32 (j)) = (Value.int .u32 (x3.z)))/\((Value.int .i64 0) = (Value.int .i64 0))/\True/\True)/\(True/\True/\True/\((Value.int .u64 (S'2.reads)) = (Value.int .u64 (x3.S.reads)))/\True)/\(True/\True/\True/\((Value.int .u32 (S'2.fresh)) = (Value.int .u32 (x3.S.fresh)))/\True)/\((S'2.nodes) = (x3.S.nodes))/\((S'2.counts) = (x3.S.counts))/\((S'2.used) = (x3.S.used))/\((S'2.gen) = (x3.S.gen))/\((S'2.rel) = (x3.S.rel))/\((l) = (l))/\((ed) = (ed))/\((insE x2.m (ed.getD (↑x2.i : Int).toNat { del := false, at_ := 0, ent := (0, 0) : EdtT }).ent) = (x3.m))/\True)))))))))))))))/\(∀ x3 : XE2 P2, ((((↑x2.i : Int)) = ((↑x3.i : Int)))->(∃ hs1 : List Int, ((Wf x3.S (x3.y :: hs1))/\(∀ S'2 : Arn, (∀ fr1 : Int, ((Wf S'2 hs1)->((Kept x3.S S'2)->(∃ x' : XE1 P1, (True/\((True/\((Value.int .u32 (x3.z)) = (Value.int .u32 (x'.y)))/\True/\True ∧
    ((Value.int .i64 (IntKind.i64.wrap ((↑x3.i : Int) + 1))) = (Value.int .i64 ((↑x'.i : Int))))/\True)/\(True/\True/\True/\((Value.int .u64 (S'2.reads)) = (Value.int .u64 (x'.S.reads)))/\True)/\(True/\True/\True/\((Value.int .u32 (S'2.fresh)) = (Value.int .u32 (x'.S.fresh)))/\True)/\((S'2.nodes) = (x'.S.nodes))/\((S'2.counts) = (x'.S.counts))/\((S'2.used) = (x'.S.used))/\((S'2.gen) = (x'.S.gen))/\((S'2.rel) = (x'.S.rel))/\((l) = (l))/\((ed) = (ed))/\((x3.m) = (x'.m))/\True)/\(min ed.length 8 - x'.i < min ed.length 8 - x2.i))))))))))))) ((K (SV.tup [(TV.at (At.val (Value.int .u32 (x2.y)))), (TV.at (At.slc 9)), (TV.at (At.val (Value.bool true)))]) [(Chunk.box [(At.ptr 1 0), (At.slc 2), (At.slc 3), (At.val (Value.int .u64 (x2.S.reads)))]), (Chunk.box [(At.slc 4), (At.slc 5), (At.slc 6), (At.val (Value.int .u32 (x2.S.fresh)))]), (Chunk.row true (EC.node) (x2.S.nodes)), (Chunk.row true (EC.int) (x2.S.counts)), (Chunk.row true (EC.bool) (x2.S.used)), (Chunk.row true (EC.u32) (x2.S.gen)), (Chunk.row true (EC.u32) (x2.S.rel)), (Chunk.row false (EC.ent) (l)), (Chunk.row false (EC.edm) (ed)), (Chunk.row true (EC.ent) (x2.m))] [0, 1, 2, 3, 4, 5, 6]))))
    ((K (SV.tup [(TV.at (At.val (Value.int .u32 (x2.y)))), (TV.at (At.slc 9)), (TV.at (At.val (Value.bool true)))]) [(Chunk.box [(At.ptr 1 0), (At.slc 2), (At.slc 3), (At.val (Value.int .u64 (x2.S.reads)))]), (Chunk.box [(At.slc 4), (At.slc 5), (At.slc 6), (At.val (Value.int .u32 (x2.S.fresh)))]), (Chunk.row true (EC.node) (x2.S.nodes)), (Chunk.row true (EC.int) (x2.S.counts)), (Chunk.row true (EC.bool) (x2.S.used)), (Chunk.row true (EC.u32) (x2.S.gen)), (Chunk.row true (EC.u32) (x2.S.rel)), (Chunk.row false (EC.ent) (l)), (Chunk.row false (EC.edm) (ed)), (Chunk.row true (EC.ent) (x2.m))] [0, 1, 2, 3, 4, 5, 6])))))))))))))))) ((K (SV.tup [(TV.at (At.val (Value.int .u32 (x)))), (TV.at (At.slc 7)), (TV.at (At.val (Value.bool true)))]) [(Chunk.box [(At.ptr 1 0), (At.slc 2), (At.slc 3), (At.val (Value.int .u64 (S'.reads)))]), (Chunk.box [(At.slc 4), (At.slc 5), (At.slc 6), (At.val (Value.int .u32 (S'.fresh)))]), (Chunk.row true (EC.node) (S'.nodes)), (Chunk.row true (EC.int) (S'.counts)), (Chunk.row true (EC.bool) (S'.used)), (Chunk.row true (EC.u32) (S'.gen)), (Chunk.row true (EC.u32) (S'.rel)), (Chunk.row false (EC.ent) (l)), (Chunk.row false (EC.edm) (ed))] [0, 1, 2, 3, 4, 5, 6])))))) = _ by kernel_rfl) ?_
  subst hP1 hP2
  obtain ⟨tx, rx, lx, bx⟩ := E.tree
  have hl := E.hl
  refine ⟨rx.us, ⟨_, E.wf⟩, fun S1 e1 => ?_⟩
  have t0 : TrR S hs l 0 0 S1 x := by rw [e1]; exact ⟨retL_got E.wf rx.us (by omega), tx, rx.retL, lx, bx⟩
  clear e1
  have mx : ∀ i, i <=8 ->i * I <=8 * I := fun i hi => Nat.mul_le_mul_right _ hi
  have hn8 : min ed.length 8 <=8 := Nat.min_le_right _ _
  have hnl : min ed.length 8 <=ed.length := Nat.min_le_left _ _
  have hnx : ∀ i : Nat, i < ed.length ->i < 8 ->i < min ed.length 8 := fun i a b => by omega
  generalize min ed.length 8 = n at *
  have hm1 : PE1 S hs l n I 0 S1 x l := ⟨Nat.zero_le _, E.asc, E.kin, by omega, t0.mono (by omega) (by omega)⟩
  refine brS_of (fun c => ⟨⟨by decide, by have := of_decide_eq_true c; omega, ?_⟩, fun x2 q => ?_⟩) fun c => h1 (by have := of_decide_eq_false c; omega) S1 (t0.mono (by omega) (by omega))
  · have c : 0 < ed.length := by have := of_decide_eq_true c; omega
    have c := hnx 0 c (by omega)
    obtain ⟨ty, up, ly, l67, f1, f2, b1, b2, b3, b4⟩ := ed_up E hm1 c hn8
    have am := E.asc
    have km := E.kin
    have hit : Int.toNat 0 = 0 := rfl
    rw [hit]
    have hmem : ed.getD 0 { del := false, at_ := 0, ent := (0, 0) } ∈ ed := by
      rw [List.getD_eq_getElem?_getD, List.getElem?_eq_getElem (by omega)]; exact List.getElem_mem _
    have hen := E.kd _ hmem
    generalize ed.getD 0 { del := false, at_ := 0, ent := (0, 0) } = en at *
    have il := insE_len l en.ent
    refine brS_of (fun d => brS_of (fun g => ?_) fun g => ?_) fun d => ?_
    · have g : 0 < l.length := by have := of_decide_eq_true g; omega
      refine ⟨by omega, by omega, by omega, by omega, fun z ez => ?_⟩
      obtain ⟨z0, z1⟩ := mod_rng (by omega) ez
      have hz : l.getD z.toNat (0, 0) ∈ l := by
        rw [List.getD_eq_getElem?_getD, List.getElem?_eq_getElem (by omega)]; exact List.getElem_mem _
      have fl := flt_len (p := neK (l.getD z.toNat (0, 0)).fst) (l := l)
      refine ⟨z0, z1, _, ty, (l.getD z.toNat (0, 0)).snd, up, by rw [ly, getE_fnd, am.fnd_self hz]; rfl, f1, fun S2 j tr => ⟨by omega, ⟨0, S2, x, j, outE l (l.getD z.toNat (0, 0)).fst (l.getD z.toNat (0, 0)).fst, ?_⟩, ?_⟩⟩
      · rw [ly] at tr
        rw [outE_flt]
        exact ed_step hm1 c tr (by omega) (by omega) (flt_asc am) (kin_flt km) (by omega)
      · (repeat' first | exact trivial | exact rfl | refine And.intro ?_ ?_)
    all_goals
      refine ⟨by omega, by omega, _, ty, up, f2, fun S2 j o eo tr => ⟨by omega, by omega, by omega, ⟨0, S2, x, j, insE l en.ent, ?_⟩, ?_⟩⟩
      · rw [ly] at tr
        exact ed_step hm1 c tr (by omega) (by omega) (insE_asc _ am) (kin_ins am km hen) (by omega)
      · (repeat' first | exact trivial | exact rfl | refine And.intro ?_ ?_)
  · have c : 0 < ed.length := by have := of_decide_eq_true c; omega
    obtain ⟨i2, S2, y, z, m, hi2, am, km, lm, g, tz⟩ := x2
    have q : (0 : Int) = i2 := q
    obtain rfl : 0 = i2 := by omega
    dsimp only
    have w' : Wf S2 (y :: z :: hs) := g.wf.perm (List.Perm.swap _ _ _)
    refine ⟨_, w', fun S3 _ w3 kp => ⟨⟨⟨1, S3, z, m, ed_rel ⟨hi2, am, km, lm, g, tz⟩ w3 kp⟩, ?_⟩, fun x3 _ => ?_⟩⟩
    · (repeat' first | exact trivial | exact rfl | refine And.intro ?_ ?_)
    obtain ⟨i, S1, y, m, hm1⟩ := x3
    dsimp only
    obtain ⟨hin, am, km, lm, t0⟩ := id hm1
    have fin : n <=i ->K (.tup [.at (vU y), .at (.slc 9), .at (vB true)]) (chS S1 ++ [.row false EC.ent l, .row false EC.edm ed, .row true EC.ent m]) W7 := fun e => by
      have m8 := mx i (by omega)
      exact h2 S1 y m (t0.mono m8 (by omega)) am km (by omega)
    refine brS_of (fun c => brS_of (fun c8 => ⟨⟨by omega, by have := of_decide_eq_true c; omega, ?_⟩, fun x4 q => ?_⟩) fun c8 => fin (by have := of_decide_eq_false c8; omega)) fun c => fin (by have := of_decide_eq_false c; omega)
    · have cl : i < ed.length := by have := of_decide_eq_true c; omega
      have c8 : i < 8 := by have := of_decide_eq_true c8; omega
      have c := hnx i cl c8
      obtain ⟨ty, up, ly, l67, f1, f2, b1, b2, b3, b4⟩ := ed_up E hm1 c hn8
      have hit : (i : Int).toNat = i := rfl
      rw [hit]
      have hmem : ed.getD i { del := false, at_ := 0, ent := (0, 0) } ∈ ed := by
        rw [List.getD_eq_getElem?_getD, List.getElem?_eq_getElem (by omega)]; exact List.getElem_mem _
      have hen := E.kd _ hmem
      generalize ed.getD i { del := false, at_ := 0, ent := (0, 0) } = en at *
      have il := insE_len m en.ent
      refine brS_of (fun d => brS_of (fun g => ?_) fun g => ?_) fun d => ?_
      · have g : 0 < m.length := by have := of_decide_eq_true g; omega
        refine ⟨by omega, by omega, by omega, by omega, fun z ez => ?_⟩
        obtain ⟨z0, z1⟩ := mod_rng (by omega) ez
        have hz : m.getD z.toNat (0, 0) ∈ m := by
          rw [List.getD_eq_getElem?_getD, List.getElem?_eq_getElem (by omega)]; exact List.getElem_mem _
        have fl := flt_len (p := neK (m.getD z.toNat (0, 0)).fst) (l := m)
        refine ⟨z0, z1, _, ty, (m.getD z.toNat (0, 0)).snd, up, by rw [ly, getE_fnd, am.fnd_self hz]; rfl, f1, fun S2 j tr => ⟨by omega, ⟨i, S2, y, j, outE m (m.getD z.toNat (0, 0)).fst (m.getD z.toNat (0, 0)).fst, ?_⟩, ?_⟩⟩
        · rw [ly] at tr
          rw [outE_flt]
          exact ed_step hm1 c tr (by omega) (by omega) (flt_asc am) (kin_flt km) (by omega)
        · (repeat' first | exact trivial | exact rfl | refine And.intro ?_ ?_)
      all_goals
        refine ⟨by omega, by omega, _, ty, up, f2, fun S2 j o eo tr => ⟨by omega, by omega, by omega, ⟨i, S2, y, j, insE m en.ent, ?_⟩, ?_⟩⟩
        · rw [ly] at tr
          exact ed_step hm1 c tr (by omega) (by omega) (insE_asc _ am) (kin_ins am km hen) (by omega)
        · (repeat' first | exact trivial | exact rfl | refine And.intro ?_ ?_)
    · have cl : i < ed.length := by have := of_decide_eq_true c; omega
      have c8 : i < 8 := by have := of_decide_eq_true c8; omega
      have c := hnx i cl c8
      obtain ⟨i2, S2, y, z, m, hi2, am, km, lm, g, tz⟩ := x4
      have q : (i : Int) = i2 := q
      obtain rfl : i = i2 := by omega
      dsimp only
      have w' : Wf S2 (y :: z :: hs) := g.wf.perm (List.Perm.swap _ _ _)
      refine ⟨_, w', fun S3 _ w3 kp => ⟨⟨i + 1, S3, z, m, ed_rel ⟨hi2, am, km, lm, g, tz⟩ w3 kp⟩, trivial, ?_, by show n - (i + 1) < n - i; omega⟩⟩
      (repeat' first | exact trivial | exact rfl | refine And.intro ?_ ?_)
      exact congrArg (Value.int .i64) (show IntKind.i64.wrap ((i : Int) + 1) = ((i + 1 : Nat) : Int) by rw [wrap_id (by omega) (by omega)]; omega)
theorem s_ed : SoundT C0 24 tEd := by
  refine .ofW W7 Tryz.func24 (by decide) rfl fun args H K h hB => ?_
  unfold tEd at h
  split at h <;> try exact h.elim
  unfold arMr at h
  split at h <;> try exact h.elim
  split at h <;> try exact h.elim
  rename_i x _ rd fr nd ct us gn rl _ l ed
  obtain ⟨hs, I, h1, h2, h3⟩ := h
  exact ⟨aEd (PE1 ⟨us, gn, rl, fr, nd, ct, rd⟩ hs l (min ed.length 8) I) (PE2 ⟨us, gn, rl, fr, nd, ct, rd⟩ hs l (min ed.length 8) I) l ed, ⟨frame C0.ok s_retL _, frame C0.ok s_mod _, frame C0.ok s_upDe _, frame C0.ok s_del _, frame C0.ok s_upIn _, frame C0.ok s_ins _, frame C0.ok s_rel _, trivial⟩, vc_ed ⟨us, gn, rl, fr, nd, ct, rd⟩ x l ed K hs I h1 h2 h3⟩
def PF0 (B : List Ent) (I : Nat) (sp : Int) : Arn ->Int ->Prop := fun S b => Hld S [(b, B)] /\S.reads = 0 /\(18 * I : Nat) + sp <=S.free /\S.cap = B.length + (18 * I : Nat) + sp
def PF1 (B : List Ent) (I : Nat) (sp : Int) : Arn ->Int ->Int ->List Ent ->Prop := fun S b o lo => Hld S [(o, lo), (b, B)] /\lo.length <=68 /\S.reads <=8000 /\(10 * I : Nat) + sp <=S.free /\S.cap = B.length + (18 * I : Nat) + sp
def PF2 (B : List Ent) (sp : Int) : Arn ->Int ->Int ->Int ->List Ent ->List Ent ->Prop := fun S b o t lo lt => FkR S b o t B lo lt sp
theorem fk_ed {S : Arn} {E : List (Int × List Ent)} {b : Int} {B : List Ent} {ed : List EdtT} {I : Nat} (h : Hld S E) (hb : (b, B) ∈ E) (hE : E.length <=100) (kd : KinD ed) (lb : B.length <=60) (rd : S.reads <=1000000) (i4 : (I : Int) = 4 * (Hn ((B.length + 9 : Nat) : Int) + 2)) (fr : ((8 * I : Nat) : Int) <=S.free) : EdM S (E.map Prod.fst) b B ed I := by
  have h13 := Hn_104 (n := B.length + 9) (by omega)
  exact ⟨h.wf, h.rep _ hb, h.asc _ hb, h.kin _ hb, kd, lb, by simp; omega, rd, by omega, by omega, fr⟩
theorem merge_triv {lb lo lt : List Ent} (hb : Asc lb) (ho : Asc lo) (ht : Asc lt) (pol : Int) : (lb = lo ->mergeE lb lo lt pol = lt) /\(lb = lt ->mergeE lb lo lt pol = lo) /\(lo = lt ->mergeE lb lo lt pol = lo) := by
  refine ⟨fun e => Asc.ext (mergeE_asc ..) ht fun k => ?_, fun e => Asc.ext (mergeE_asc ..) ho fun k => ?_, fun e => Asc.ext (mergeE_asc ..) ho fun k => ?_⟩
  all_goals rw [mergeE_get]; unfold mergedO
  · subst e
    by_cases c : getE lb k = getE lt k
    · rw [if_pos (.inl c)]; exact c
    · rw [if_neg (fun d => d.elim c c), if_pos rfl]
  · subst e; rw [if_pos (.inr rfl)]
  · subst e; rw [if_pos (.inl rfl)]
theorem s_mgK : SoundT C0 18 tMgK := s_mg.weak fun args H K h => by
  unfold tMgK at h
  unfold tMg
  split at h <;> try exact h.elim
  unfold arM at h ⊢
  split at h <;> try exact h.elim
  rename_i b o t pol _ rd fr nd ct us gn rl
  obtain ⟨hs, tb, to, tt, hm, p1, p2, hf, hc, h⟩ := h
  refine ⟨hs, tb, to, tt, hm, fun S' i c e r => ?_⟩
  have h0 := hm.wf.us0 (Int.le_refl 0)
  have hrd := hm.rd
  have hl := hm.hl
  rcases r with ⟨a, _⟩ | ⟨_, a, b1, b2, b3, b4⟩ | ⟨_, _, a, _⟩ | ⟨_, _, _, a, _⟩ | ⟨_, _, _, _, b1, b2, b3⟩
  · exact absurd ⟨p1, p2⟩ a
  · rw [b1, b3]
    refine h S' i [] (conf_triv hm a).symm ?_
    have mt := merge_triv hm.ab hm.ao hm.at_ pol
    rw [b2] at b4 ⊢
    unfold trivI at b4 ⊢
    split at b4
    · rename_i q
      have r := hm.ro; rw [← q] at r
      rw [if_pos q]
      exact hold_tr (m := 0) hm.wf hm.rt hm.bt (by omega) (by omega) (by rw [b4, rdS_zero]) (by omega) (mt.1 (by rw [r.inj h0 hm.rb])).symm
    · rename_i q
      rw [if_neg q]
      refine hold_tr (m := 0) hm.wf hm.ro hm.bo (by omega) (by omega) (by rw [b4, rdS_zero]) (by omega) ?_
      rcases a with e | e | e
      · exact absurd e q
      · have r := hm.rt; rw [← e] at r
        exact (mt.2.1 (by rw [r.inj h0 hm.rb])).symm
      · have r := hm.rt; rw [← e] at r
        exact (mt.2.2 (by rw [r.inj h0 hm.ro])).symm
  · omega
  · exact absurd (hc a.1) a.2
  · rw [b1]; exact h S' i c b2 b3
theorem Hld.mg {S : Arn} {E : List (Int × List Ent)} {b o t : Int} {lb lo lt : List Ent} (e : Hld S E) (hb : (b, lb) ∈ E) (ho : (o, lo) ∈ E) (ht : (t, lt) ∈ E) (l1 : lb.length <=30000) (l2 : lo.length <=30000) (l3 : lt.length <=30000) (he : E.length <=900000) (hr : S.reads <=500000000000000000) :
    ∃ tb to tt, MgM S (E.map Prod.fst) tb to tt b o t /\tb.list = lb /\to.list = lo /\tt.list = lt /\needM tb to tt = (lb.length : Int) + lo.length + lt.length + 12 * (Hn ((lb.length : Int) + lo.length + lt.length) + 2) := by
  obtain ⟨tb, rb, eb, bb⟩ := e.rep _ hb
  obtain ⟨to, ro, eo, bo⟩ := e.rep _ ho
  obtain ⟨tt, rt, et, bt⟩ := e.rep _ ht
  have eb : tb.list = lb := eb
  have eo : to.list = lo := eo
  have et : tt.list = lt := et
  have zb : tb.size = lb.length := by rw [← tb.list_len, eb]
  have zo : to.size = lo.length := by rw [← to.list_len, eo]
  have zt : tt.size = lt.length := by rw [← tt.list_len, et]
  refine ⟨tb, to, tt, ⟨e.wf, rb, ro, rt, bb, bo, bt, by rw [eb]; exact e.asc _ hb, by rw [eo]; exact e.asc _ ho, by rw [et]; exact e.asc _ ht, by rw [eb]; exact e.kin _ hb, by rw [eo]; exact e.kin _ ho, by rw [et]; exact e.kin _ ht, by omega, by omega, by omega, by simpa using he, hr⟩, eb, eo, et, by unfold needM; rw [zb, zo, zt]⟩
theorem kin_lit {l : List Ent} (h : l.all (fun x => decide (-9223372036854775808 <=x.1) && decide (x.1 <=9223372036854775807)) = true) : Kin l := fun x hx => by
  have := List.all_eq_true.1 h x hx
  simpa using this
theorem ce20 : confE [((1 : Int), (10 : Int))] [(1, 11)] [(1, 10), (2, 20)] = [] := by decide
theorem me20 : mergeE [((1 : Int), (10 : Int))] [(1, 11)] [(1, 10), (2, 20)] 3 = [(1, 11), (2, 20)] := by decide
theorem vc_aw20 (K : KT) (h : K (.one (.at (vB true))) [] []) : vc C0 aAw20 Tryz.f4 [] [] (normK 0 K) := by
  refine Eq.mp (show ((((300 : Int) < 1 ∨ (65536 : Int) < 300) →
(K (SV.one (TV.at (At.val (Value.bool false)))) [] [])) ∧
(((1 : Int)<=300) →
(((300 : Int)<=65536) →
(∀ S : Arn, (((S) = (newS (Int.toNat 300)))->(∃ hs : List Int, ((Wf S hs)/\(Asc ([(1, 10)] : List Ent))/\(([(1, 10)] : List Ent).length<=60000)/\(hs.length<=900000)/\((↑([(1, 10)] : List Ent).length : Int)<=S.free)/\(S.reads<=900000000000000000)/\(∀ S' : Arn, (∀ i : Int, ((TrR S hs ([(1, 10)] : List Ent) 65537 0 S' i)->(∃ hs1 : List Int, ((Wf S' hs1)/\(Asc ([(1, 11)] : List Ent))/\(([(1, 11)] : List Ent).length<=60000)/\(hs1.length<=900000)/\((↑([(1, 11)] : List Ent).length : Int)<=S'.free)/\(S'.reads<=900000000000000000)/\(∀ S'1 : Arn, (∀ i1 : Int, ((TrR S' hs1 ([(1, 11)] : List Ent) 65537 0 S'1 i1)->(∃ hs2 : List Int, ((Wf S'1 hs2)/\(Asc ([(1, 10), (2, 20)] : List Ent))/\(([(1, 10), (2, 20)] : List Ent).length<=60000)/\(hs2.length<=900000)/\((↑([(1, 10), (2, 20)] : List Ent).length : Int)<=S'1.free)/\(S'1.reads<=900000000000000000)/\(∀ S'2 : Arn, (∀ i2 : Int, ((TrR S'1 hs2 ([(1, 10), (2, 20)] : List Ent) 65537 0 S'2 i2)->(∃ hs3 : List Int, (∃ tb : Tr, (∃ to : Tr, (∃ tt : Tr, ((MgM S'2 hs3 tb to tt i i1 i2)/\((1 : Int)<=3)/\((3 : Int)<=4)/\(needM tb to tt<=S'2.free)/\(((3 : Int) = 3)->((confE tb.list to.list tt.list) = []))/\(∀ S'3 : Arn, (∀ i3 : Int, (∀ c : List Int, (((c) = (confE tb.list to.list tt.list))->((TrR S'2 hs3 (mergeE tb.list to.list tt.list 3) 65537 2000000000 S'3 i3) →
    (∃ hs4 : List Int, (∃ t : Tr, ((Wf S'3 hs4)/\(Rep S'3 t i3)/\(Asc t.list)/\(t.size<=1000000)/\(S'3.reads + (↑t.size : Int)<=3000000000000000000)/\(∀ S'4 : Arn, (∀ m : Nat, (∀ o : Option Int, (((S'4) = (rdS S'3 m))->((m<=ht t)->(((o) = (getE t.list 1))->(brS ((↑c.length : Int) == 0) ((brS (o.isSome) ((brS (o.getD 0 == 11) (((inU i3)/\(exW S'4)/\(S'4.reads < 4000000000000000000)/\(∀ S'5 : Arn, (((S'5) = (rdS S'4 (S'4.us i3).toNat))->(K (SV.one (TV.at (At.val (Value.bool ((S'4.nd i3).size == 2))))) [] []))))) ((K (SV.one (TV.at (At.val (Value.bool false)))) [] [])))) ((K (SV.one (TV.at (At.val (Value.bool false)))) [] [])))) ((K (SV.one (TV.at (At.val (Value.bool false)))) [] [])))))))))))))))))))))))))))))))))))))))))) = _ by kernel_rfl) ?_
  refine ⟨fun c => by omega, fun _ _ S0 e => ?_⟩
  have e5 : Int.toNat 300 = 300 := rfl
  rw [e5] at e
  have h0 : Hld S0 [] := by rw [e]; exact Hld.new (by omega) (by omega)
  have c0 : S0.cap = 300 := by rw [e]; exact cap_new 300
  have r0 : S0.reads = 0 := by rw [e]; rfl
  clear e
  have f0 := h0.room
  simp only [sumL_nil] at f0
  refine ⟨_, h0.wf, by decide, by decide, by simp, by simp; omega, by omega, fun S1 b t1 => ?_⟩
  have h1 := h0.step t1 (by decide) (kin_lit rfl)
  have c1 := tr_cap t1
  have r1 := t1.got.rd
  have f1 := h1.room
  simp only [sumL_nil, sumL_cons] at f1
  refine ⟨_, h1.wf, by decide, by decide, by simp, by simp at f1 ⊢; omega, by omega, fun S2 o t2 => ?_⟩
  have h2 := h1.step t2 (by decide) (kin_lit rfl)
  have c2 := tr_cap t2
  have r2 := t2.got.rd
  have f2 := h2.room
  simp only [sumL_nil, sumL_cons] at f2
  refine ⟨_, h2.wf, by decide, by decide, by simp, by simp at f2 ⊢; omega, by omega, fun S3 t t3 => ?_⟩
  have h3 := h2.step t3 (by decide) (kin_lit rfl)
  have c3 := tr_cap t3
  have r3 := t3.got.rd
  have f3 := h3.room
  simp only [sumL_nil, sumL_cons] at f3
  obtain ⟨tb, to, tt, hm, eb, eo, et, nm⟩ := h3.mg (b := b) (o := o) (t := t) (lb := [(1, 10)]) (lo := [(1, 11)]) (lt := [(1, 10), (2, 20)]) (by simp) (by simp) (by simp) (by decide) (by decide) (by decide) (by simp) (by omega)
  have n2 : needM tb to tt <=S3.free := by
    have e : needM tb to tt = 4 + 12 * (Hn 4 + 2) := by rw [nm]; rfl
    have e2 : Hn 4 <=4 := by decide
    simp at f3
    omega
  have ce := ce20
  have me := me20
  refine ⟨_, tb, to, tt, hm, by decide, by decide, n2, fun _ => by rw [eb, eo, et]; exact ce, fun S4 m c ec t4 => ?_⟩
  rw [eb, eo, et] at ec t4
  rw [ce] at ec
  rw [me] at t4
  obtain ⟨u, rp, lu, bu⟩ := t4.tree
  have w4 := t4.got.wf
  have r4 := t4.got.rd
  have su : u.size = 2 := by rw [← u.list_len, lu]; rfl
  refine ⟨_, u, w4, rp, by rw [lu]; decide, by omega, by omega, fun S5 m5 o5 e5 b5 eo5 => ?_⟩
  rw [lu] at eo5
  have eo5 : o5 = some 11 := eo5
  have hb := Bal.height bu (by omega)
  have hr := Hn_rng u.size
  have w5 := w4.rd (n := m5) (by omega)
  rw [← e5] at w5
  have rp5 : Rep S5 u m := by rw [e5]; exact rp.rdn
  have r5 : S5.reads = S4.reads + m5 := by rw [e5]; rfl
  refine bt7 (by rw [ec]; rfl) (bt7 (by rw [eo5]; rfl) (bt7 (by rw [eo5]; rfl) ⟨inU_of w5 rp5.us, ⟨_, w5⟩, by omega, fun S6 _ => ?_⟩))
  rw [rp5.size w5, su]
  exact h
theorem s_aw20 : SoundT C0 4 tAw20 := by
  refine .of Tryz.func4 (by decide) rfl fun args H K h hB => ?_
  unfold tAw20 at h
  split at h <;> try exact h.elim
  exact ⟨aAw20, ⟨frame C0.ok s_new _, frame C0.ok s_buildOk _, frame C0.ok s_mgK _, frame C0.ok s_getT _, frame C0.ok s_size _, trivial⟩, vc_aw20 K h⟩
end Go.Proofs.YtmjnoiajenoinaaGreat.Sx
end
section
/- fork beside a patch. -/
namespace Go.Proofs.YtmjnoiajenoinaaGreat.Sx
open Go

/-KEEP EdM Wf Kept exW inU live Arn.cap Arn.free Rep rdS retL Tr.size Tr.list Tr.Bal Asc Kin KinD FkR listE TrR Got Hn ht MgM needM confE mergeE sameB slotsOf orderOf PlantR-/
abbrev hdA (raw : List Ent) (e1 : List EdtT) (p : List Chg) : List (Chunk C0) := [.row false EC.ent raw, .row false EC.edm e1, .row false EC.chg p, .row true EC.edm []]
abbrev zTA : List (Chunk C0) := [.box [.val (.pointer none), vU 0, vU 0, vU 0, .slc 13, .slc 14, .slc 15], .row true EC.ent [], .row true EC.ent [], .row true EC.ent []]
noncomputable def aFkA (P0 : Arn ->Int ->Prop) (P1 : Arn ->Int ->Int ->List Ent ->Prop) (P2 : Arn ->Int ->Int ->Int ->List Ent ->List Ent ->Prop) (raw B : List Ent) (e1 : List EdtT) (p : List Chg) : Ann C0 := { trunc := fun n => n = 17 || n = 20, Γ := [(21, frameT [] tLst), (23, frameT [] (tRes1 4 1)), (22, frameT [] tGrow), (24, frameT [] tEd)], inv := fun k => match k with
  | 1005 => some { X := XF0 P0, sl := [10, 12, 13, 14], tf := fun x => [.one (.at (.ptr 12 0)), .one (.at (.slc 11)), .one (.at (.ptr 4 0)), vi .u32 x.b], hf := fun x => hdA raw e1 p ++ chSk 4 x.S ++ [.row false EC.ent B] ++ zTA }
  | 1006 => some { X := XF1 P1, sl := [10, 12, 13, 14, 16, 17, 18], tf := fun x => [.one (.at (.ptr 12 0)), .one (.at (.slc 11)), .one (.at (.ptr 4 0)), vi .u32 x.b, vi .u32 x.o, .one (.at (.slc 16)), vb true], hf := fun x => hdA raw e1 p ++ chSk 4 x.S ++ [.row false EC.ent B] ++ zTA ++ [.row false EC.ent x.lo] }
  | 1007 => some { X := XF2 P2, sl := [10, 12, 13, 14, 16, 17, 18, 19, 20, 21], tf := fun x => [.one (.at (.ptr 12 0)), .one (.at (.slc 11)), .one (.at (.ptr 4 0)), vi .u32 x.b, vi .u32 x.o, .one (.at (.slc 16)), vb true, vi .u32 x.t, .one (.at (.slc 17)), vb true], hf := fun x => hdA raw e1 p ++ chSk 4 x.S ++ [.row false EC.ent B] ++ zTA ++ [.row false EC.ent x.lo, .row false EC.ent x.lt] }
  | _ => none }
abbrev chFkA (raw : List Ent) (e1 : List EdtT) (p : List Chg) (lb lo lt : List Ent) (S : Arn) : List (Chunk C0) := hdA raw e1 p ++ [.box [.ptr 8 0, .slc 9, .slc 10, vU64 S.reads], .row false EC.ent lb, .row false EC.ent lo, .row false EC.ent lt, .box [.slc 11, .slc 12, .slc 13, vU S.fresh], .row true EC.node S.nodes, .row true EC.int S.counts, .row true EC.bool S.used, .row true EC.u32 S.gen, .row true EC.u32 S.rel]
def tFkA : Tfm C0 := fun args H K => match args, H with
  | [.at (.slc 0), .at (.val (.int .u64 t)), .at (.slc 1), .at (.slc 3), .at (.val (.int .i64 sp))], [.row false .ent raw, .row false .edm e1, .row false .chg p, .row true .edm []] => 0 <=t /\0 <=sp /\sp <=20000 /\Kin raw /\KinD e1 ∧
    ∀ S b o t lo lt, FkR S b o t (listE raw 60) lo lt sp ->K (.tup [.agg [.ptr 4 0, vU b, vU o, vU t, .slc 5, .slc 6, .slc 7], .at (vB true)]) (chFkA raw e1 p (listE raw 60) lo lt S) []
  | _, _ => False
theorem vc_fkA (raw : List Ent) (e1 : List EdtT) (p : List Chg) (t sp : Int) (K : KT) (h0 : 0 <=t) (s0 : 0 <=sp) (s1 : sp <=20000) (hk : Kin raw) (k1 : KinD e1)
    (h : ∀ S b o t lo lt, FkR S b o t (listE raw 60) lo lt sp ->K (.tup [.agg [.ptr 4 0, vU b, vU o, vU t, .slc 5, .slc 6, .slc 7], .at (vB true)]) (chFkA raw e1 p (listE raw 60) lo lt S) []) :
    vc C0 (aFkA (PF0 (listE raw 60) (4 * (Hn (((listE raw 60).length + 9 : Nat) : Int) + 2)).toNat sp) (PF1 (listE raw 60) (4 * (Hn (((listE raw 60).length + 9 : Nat) : Int) + 2)).toNat sp) (PF2 (listE raw 60) sp) raw (listE raw 60) e1 p) Tryz.f5 [.at (.slc 0), .at (vU64 t), .at (.slc 1), .at (.slc 3), .at (vI sp)] (hdA raw e1 p) (normK 4 K) := by
  obtain ⟨la, ll⟩ := listE_spec raw 60
  have kB : Kin (listE raw 60) := fun x hx => hk x (listE_sub raw 60 x hx)
  have h13 := Hn_104 (n := (listE raw 60).length + 9) (by omega)
  have hr := Hn_rng (((listE raw 60).length + 9 : Nat) : Int)
  generalize hI : (4 * (Hn (((listE raw 60).length + 9 : Nat) : Int) + 2)).toNat = I
  have hII : (I : Int) = 4 * (Hn (((listE raw 60).length + 9 : Nat) : Int) + 2) := by omega
  clear hI
  generalize hP0 : PF0 (listE raw 60) I sp = P0
  generalize hP1 : PF1 (listE raw 60) I sp = P1
  generalize hP2 : PF2 (listE raw 60) sp = P2
  refine Eq.mp (show (((0 : Int)<=60) ∧
((60 : Int)<=1000000) ∧
(0<=IntKind.i64.wrap ((↑(listE raw (Int.toNat 60)).length : Int) + 8)) ∧
(IntKind.i64.wrap ((↑(listE raw (Int.toNat 60)).length : Int) + 8)<=65536) ∧
(∀ p1 : Int, (((p1) = (4 * (Hn (IntKind.i64.wrap ((↑(listE raw (Int.toNat 60)).length : Int) + 8) + 1) + 2)))->((0<=t)/\(1<=IntKind.i64.wrap (IntKind.i64.wrap (18 * p1) + sp))/\(IntKind.i64.wrap (IntKind.i64.wrap (18 * p1) + sp)<=30000)/\((listE raw (Int.toNat 60)).length<=30000)/\(∀ S' : Arn, (∀ i : Int, ((PlantR (newS ((↑(listE raw (Int.toNat 60)).length : Int) + IntKind.i64.wrap (IntKind.i64.wrap (18 * p1) + sp)).toNat) [] (listE raw (Int.toNat 60)) S' i)->((∃ x : XF0 P0, (True/\(True/\True/\True/\True/\True/\((Value.int .u32 (i)) = (Value.int .u32 (x.b)))/\True)/\((raw) = (raw))/\((e1) = (e1))/\((p) = (p))/\((([] : List EdtT) = []))/\(True/\True/\True/\((Value.int .u64 (S'.reads)) = (Value.int .u64 (x.S.reads)))/\True)/\(True/\True/\True/\((Value.int .u32 (S'.fresh)) = (Value.int .u32 (x.S.fresh)))/\True)/\((S'.nodes) = (x.S.nodes))/\((S'.counts) = (x.S.counts))/\((S'.used) = (x.S.used))/\((S'.gen) = (x.S.gen))/\((S'.rel) = (x.S.rel))/\((listE raw (Int.toNat 60)) = (listE raw 60))/\(((Value.pointer none) = (Value.pointer none))/\((Value.int .u32 0) = (Value.int .u32 0))/\((Value.int .u32 0) = (Value.int .u32 0))/\((Value.int .u32 0) = (Value.int .u32 0)) ∧
    True/\True/\True/\True)/\((([] : List Ent) = []))/\((([] : List Ent) = []))/\((([] : List Ent) = []))/\True))/\(∀ x : XF0 P0, (True->((∃ hs : List Int, (∃ I : Nat, ((EdM x.S hs x.b (listE raw 60) e1 I)/\(((e1.length) = 0)->(∀ S'1 : Arn, ((TrR x.S hs (listE raw 60) (8 * I) 8000 S'1 x.b)->(∃ x1 : XF1 P1, (True/\(True/\True/\True/\True/\((Value.int .u32 (x.b)) = (Value.int .u32 (x1.b)))/\((Value.int .u32 (x.b)) = (Value.int .u32 (x1.o)))/\True/\((Value.bool true) = (Value.bool true))/\True)/\((raw) = (raw))/\((e1) = (e1))/\((p) = (p))/\((([] : List EdtT) = []))/\(True/\True/\True/\((Value.int .u64 (S'1.reads)) = (Value.int .u64 (x1.S.reads)))/\True)/\(True/\True/\True/\((Value.int .u32 (S'1.fresh)) = (Value.int .u32 (x1.S.fresh)))/\True)/\((S'1.nodes) = (x1.S.nodes))/\((S'1.counts) = (x1.S.counts))/\((S'1.used) = (x1.S.used))/\((S'1.gen) = (x1.S.gen))/\((S'1.rel) = (x1.S.rel))/\((listE raw 60) = (listE raw 60))/\(((Value.pointer none) = (Value.pointer none))/\((Value.int .u32 0) = (Value.int .u32 0))/\((Value.int .u32 0) = (Value.int .u32 0))/\((Value.int .u32 0) = (Value.int .u32 0))/\True/\True/\True/\True)/\((([] : List Ent) = []))/\((([] : List Ent) = []))/\((([] : List Ent) = []))/\((listE raw 60) = (x1.lo))/\True)))))/\(∀ S'1 : Arn, (∀ y : Int, (∀ m : List Ent, ((TrR x.S hs m (8 * I) 8000 S'1 y)->((Asc m)->((Kin m) →
    ((m.length<=(listE raw 60).length + 8)->(∃ x1 : XF1 P1, (True/\(True/\True/\True/\True/\((Value.int .u32 (x.b)) = (Value.int .u32 (x1.b)))/\((Value.int .u32 (y)) = (Value.int .u32 (x1.o)))/\True/\((Value.bool true) = (Value.bool true))/\True)/\((raw) = (raw))/\((e1) = (e1))/\((p) = (p))/\((([] : List EdtT) = []))/\(True/\True/\True/\((Value.int .u64 (S'1.reads)) = (Value.int .u64 (x1.S.reads)))/\True)/\(True/\True/\True/\((Value.int .u32 (S'1.fresh)) = (Value.int .u32 (x1.S.fresh)))/\True)/\((S'1.nodes) = (x1.S.nodes))/\((S'1.counts) = (x1.S.counts))/\((S'1.used) = (x1.S.used))/\((S'1.gen) = (x1.S.gen))/\((S'1.rel) = (x1.S.rel))/\((listE raw 60) = (listE raw 60))/\(((Value.pointer none) = (Value.pointer none))/\((Value.int .u32 0) = (Value.int .u32 0))/\((Value.int .u32 0) = (Value.int .u32 0))/\((Value.int .u32 0) = (Value.int .u32 0))/\True/\True/\True/\True)/\((([] : List Ent) = []))/\((([] : List Ent) = []))/\((([] : List Ent) = []))/\((m) = (x1.lo))/\True))))))))))))/\(∀ x1 : XF1 P1, (True->((∃ hs : List Int, (∃ I : Nat, ((EdM x1.S hs x1.b (listE raw 60) [] I)/\(((([] : List EdtT).length) = 0)->(∀ S'1 : Arn, ((TrR x1.S hs (listE raw 60) (8 * I) 8000 S'1 x1.b)->(∃ x2 : XF2 P2, (True/\(True/\True/\True/\((Value.int .u32 (x1.b)) = (Value.int .u32 (x2.b))) ∧
    ((Value.int .u32 (x1.o)) = (Value.int .u32 (x2.o)))/\True/\((Value.bool true) = (Value.bool true))/\((Value.int .u32 (x1.b)) = (Value.int .u32 (x2.t)))/\True/\((Value.bool true) = (Value.bool true))/\True)/\((raw) = (raw))/\((e1) = (e1))/\((p) = (p))/\((([] : List EdtT) = []))/\(True/\True/\True/\((Value.int .u64 (S'1.reads)) = (Value.int .u64 (x2.S.reads)))/\True)/\(True/\True/\True/\((Value.int .u32 (S'1.fresh)) = (Value.int .u32 (x2.S.fresh)))/\True)/\((S'1.nodes) = (x2.S.nodes))/\((S'1.counts) = (x2.S.counts))/\((S'1.used) = (x2.S.used))/\((S'1.gen) = (x2.S.gen))/\((S'1.rel) = (x2.S.rel))/\((listE raw 60) = (listE raw 60))/\(((Value.pointer none) = (Value.pointer none))/\((Value.int .u32 0) = (Value.int .u32 0))/\((Value.int .u32 0) = (Value.int .u32 0))/\((Value.int .u32 0) = (Value.int .u32 0))/\True/\True/\True/\True)/\((([] : List Ent) = []))/\((([] : List Ent) = []))/\((([] : List Ent) = []))/\((x1.lo) = (x2.lo))/\((listE raw 60) = (x2.lt))/\True)))))/\(∀ S'1 : Arn, (∀ y : Int, (∀ m : List Ent, ((TrR x1.S hs m (8 * I) 8000 S'1 y)->((Asc m)->((Kin m)->((m.length<=(listE raw 60).length + 8)->(∃ x2 : XF2 P2, (True/\(True/\True/\True/\((Value.int .u32 (x1.b)) = (Value.int .u32 (x2.b)))/\((Value.int .u32 (x1.o)) = (Value.int .u32 (x2.o)))/\True/\((Value.bool true) = (Value.bool true)) ∧
    ((Value.int .u32 (y)) = (Value.int .u32 (x2.t)))/\True/\((Value.bool true) = (Value.bool true))/\True)/\((raw) = (raw))/\((e1) = (e1))/\((p) = (p))/\((([] : List EdtT) = []))/\(True/\True/\True/\((Value.int .u64 (S'1.reads)) = (Value.int .u64 (x2.S.reads)))/\True)/\(True/\True/\True/\((Value.int .u32 (S'1.fresh)) = (Value.int .u32 (x2.S.fresh)))/\True)/\((S'1.nodes) = (x2.S.nodes))/\((S'1.counts) = (x2.S.counts))/\((S'1.used) = (x2.S.used))/\((S'1.gen) = (x2.S.gen))/\((S'1.rel) = (x2.S.rel))/\((listE raw 60) = (listE raw 60))/\(((Value.pointer none) = (Value.pointer none))/\((Value.int .u32 0) = (Value.int .u32 0))/\((Value.int .u32 0) = (Value.int .u32 0))/\((Value.int .u32 0) = (Value.int .u32 0))/\True/\True/\True/\True)/\((([] : List Ent) = []))/\((([] : List Ent) = []))/\((([] : List Ent) = []))/\((x1.lo) = (x2.lo))/\((m) = (x2.lt))/\True))))))))))))/\(∀ x2 : XF2 P2, (True →
    (K (SV.tup [(TV.agg [(At.ptr 4 0), (At.val (Value.int .u32 (x2.b))), (At.val (Value.int .u32 (x2.o))), (At.val (Value.int .u32 (x2.t))), (At.slc 5), (At.slc 6), (At.slc 7)]), (TV.at (At.val (Value.bool true)))]) [(Chunk.row false (EC.ent) (raw)), (Chunk.row false (EC.edm) (e1)), (Chunk.row false (EC.chg) (p)), (Chunk.row true (EC.edm) []), (Chunk.box [(At.ptr 8 0), (At.slc 9), (At.slc 10), (At.val (Value.int .u64 (x2.S.reads)))]), (Chunk.row false (EC.ent) (listE raw 60)), (Chunk.row false (EC.ent) (x2.lo)), (Chunk.row false (EC.ent) (x2.lt)), (Chunk.box [(At.slc 11), (At.slc 12), (At.slc 13), (At.val (Value.int .u32 (x2.S.fresh)))]), (Chunk.row true (EC.node) (x2.S.nodes)), (Chunk.row true (EC.int) (x2.S.counts)), (Chunk.row true (EC.bool) (x2.S.used)), (Chunk.row true (EC.u32) (x2.S.gen)), (Chunk.row true (EC.u32) (x2.S.rel))] []))))))))))))))))) = _ by kernel_rfl) ?_
  subst hP0 hP1 hP2
  have e60 : Int.toNat 60 = 60 := rfl
  rw [e60]
  generalize listE raw 60 = B at *
  rw [wrap_id (x := (B.length : Int) + 8) (by omega) (by omega)]
  refine ⟨by decide, by decide, by omega, by omega, fun p ep => ?_⟩
  have ep : p = (I : Int) := by rw [ep, hII, show ((B.length + 9 : Nat) : Int) = (B.length : Int) + 8 + 1 by omega]
  subst ep
  rw [wrap_id (x := 18 * (I : Int)) (by omega) (by omega), wrap_id (x := 18 * (I : Int) + sp) (by omega) (by omega)]
  refine ⟨h0, by omega, by omega, by omega, fun S1 b hp => ⟨⟨⟨S1, b, ?_⟩, ?_⟩, fun x0 _ => ?_⟩⟩
  · obtain ⟨t1, up, lt, zt⟩ := plant_up hp la (by omega)
    have fr := plant_free hp
    have cp : S1.cap = (B.length : Int) + (18 * (I : Int) + sp) := by
      have := cap_len hp.len
      rw [this, cap_new]; omega
    refine ⟨⟨up.1, ?_, ?_, ?_⟩, by rw [hp.rds]; rfl, by omega, by omega⟩
    · intro q hq; simp at hq; subst hq; exact ⟨t1, up.2.1, lt, up.2.2.1⟩
    · intro q hq; simp at hq; subst hq; exact la
    · intro q hq; simp at hq; subst hq; exact kB
  · (repeat' first | exact trivial | exact rfl | refine And.intro ?_ ?_)
  obtain ⟨S, b, hh, rd, fr, cp⟩ := x0
  dsimp only
  have i8 : 8 <=I := by omega
  refine ⟨⟨_, I, fk_ed (I := I) (ed := e1) hh (List.mem_cons_self ..) (by simp) k1 (by omega) (by omega) hII (by omega), fun _ S2 tr => ⟨⟨S2, b, b, B, ?_⟩, ?_⟩, fun S2 o lo tr am km lm => ⟨⟨S2, b, o, lo, ?_⟩, ?_⟩⟩, fun x1 _ => ?_⟩
  · have f := tr.got.free hh.wf
    have q := tr.got.rd
    exact ⟨hh.step tr la kB, by omega, by omega, by omega, by rw [tr_cap tr]; exact cp⟩
  · (repeat' first | exact trivial | exact rfl | refine And.intro ?_ ?_)
  · have f := tr.got.free hh.wf
    have q := tr.got.rd
    exact ⟨hh.step tr am km, by omega, by omega, by omega, by rw [tr_cap tr]; exact cp⟩
  · (repeat' first | exact trivial | exact rfl | refine And.intro ?_ ?_)
  clear hh rd fr cp b S
  obtain ⟨S, b, o, lo, hh, lo68, rd, fr, cp⟩ := x1
  dsimp only
  refine ⟨⟨_, I, fk_ed (I := I) (ed := []) hh (b := b) (B := B) (by simp) (by simp) (fun e he => by cases he) (by omega) (by omega) hII (by omega), fun _ S2 tr => ⟨⟨S2, b, o, b, lo, B, ?_⟩, ?_⟩, fun S2 t lt tr am km lm => ⟨⟨S2, b, o, t, lo, lt, ?_⟩, ?_⟩⟩, fun x2 _ => ?_⟩
  · have f := tr.got.free hh.wf
    have q := tr.got.rd
    exact ⟨hh.step tr la kB, by omega, by omega, by omega, by omega, by omega, by rw [tr_cap tr]; omega, by rw [tr_cap tr]; omega⟩
  · (repeat' first | exact trivial | exact rfl | refine And.intro ?_ ?_)
  · have f := tr.got.free hh.wf
    have q := tr.got.rd
    exact ⟨hh.step tr am km, by omega, by omega, by omega, by omega, by omega, by rw [tr_cap tr]; omega, by rw [tr_cap tr]; omega⟩
  · (repeat' first | exact trivial | exact rfl | refine And.intro ?_ ?_)
  · exact h x2.S x2.b x2.o x2.t x2.lo x2.lt x2.h
theorem s_fkA : SoundT C0 5 tFkA := by
  refine .of Tryz.func5 (by decide) rfl fun args H K h hB => ?_
  unfold tFkA at h
  split at h <;> try exact h.elim
  rename_i t sp raw e1 p
  refine ⟨_, ?_, vc_fkA raw e1 p t sp K h.1 h.2.1 h.2.2.1 h.2.2.2.1 h.2.2.2.2.1 h.2.2.2.2.2⟩
  exact ⟨frame C0.ok s_lst _, frame C0.ok s_nIns _, frame C0.ok s_grow _, frame C0.ok s_ed _, trivial⟩
end Go.Proofs.YtmjnoiajenoinaaGreat.Sx
end
section
/- Leaves that are made one by one. No program in sight. -/
namespace Go.Proofs.YtmjnoiajenoinaaGreat
open Go

variable {S S' : Arn} {hs L : List Int}
theorem leaf_ok (w : Wf S hs) (hf : 0 < S.free) (hl : hs.length <=900000000) : NodeR S hs 0 0 .nil .nil (makeS S 0 0 0 0) (nxt S) := by
  have w2 : Wf S (0 :: 0 :: hs) := (w.zero_cons (by omega)).zero_cons (by simp; omega)
  have n := node_ok (k := 0) (v := 0) (l := 0) (r := 0) (tl := .nil) (tr := .nil) w2 hf (by rw [mk_size (tl := .nil) (tr := .nil) w rfl rfl]; decide) (by omega) rfl rfl
  have u0 : (makeS S 0 0 0 0).us 0 = false := by
    cases e : (makeS S 0 0 0 0).us 0 with
    | false => rfl
    | true =>
      have h1 := (w.nxt_spec hf).1
      rcases (make_us w hf 0).1 e with c | c
      · omega
      · rw [w.us0 (Int.le_refl 0)] at c; cases c
  have e1 : relA (makeS S 0 0 0 0) 0 = makeS S 0 0 0 0 := by unfold relA; rw [u0]; rfl
  have e : nodeS S 0 0 0 0 = makeS S 0 0 0 0 := by unfold nodeS; rw [e1, e1]
  rw [e] at n
  exact n
/-- k leaves were made. -/
structure SqR (S : Arn) (hs : List Int) (k : Nat) (S' : Arn) (L : List Int) : Prop where
  len : L.length = k
  wf : Wf S' (L ++ hs)
  got : Got S hs k 0 S' (L ++ hs)
  free : S'.free = S.free - k
theorem SqR.zero (w : Wf S hs) : SqR S hs 0 S [] := ⟨rfl, w, Got.refl w, by omega⟩
theorem SqR.step {k : Nat} (h : SqR S hs k S' L) (hf : 0 < S'.free) (hl : hs.length + k <=800000000) : SqR S hs (k + 1) (makeS S' 0 0 0 0) (L ++ [nxt S']) := by
  have n := leaf_ok h.wf hf (by rw [List.length_append, h.len]; omega)
  have p : (nxt S' :: (L ++ hs)).Perm ((L ++ [nxt S']) ++ hs) := by
    rw [List.append_assoc]
    exact (List.perm_middle).symm
  have w := n.wf.perm p
  have g := (h.got.seq (Got.node n) (h := hs) (fun _ h => h) (fun i hi => List.mem_append_right _ hi)).perm p
  refine ⟨by rw [List.length_append, h.len]; rfl, w, g.mono (Nat.le_refl _) (Nat.le_refl _), ?_⟩
  have a := h.wf.free_nonneg.2.2.2
  have b := w.free_nonneg.2.2.2
  have c : (makeS S' 0 0 0 0).cap = S'.cap := by unfold Arn.cap; rw [n.len]
  have d := n.nu
  have f := h.free
  omega
end Go.Proofs.YtmjnoiajenoinaaGreat
end
section
/- law20: squeeze. -/
namespace Go.Proofs.YtmjnoiajenoinaaGreat.Sx
open Go

/-KEEP Wf exW inU live Arn.cap Arn.free Rep rdS retL Hn getE makeS nxt mkNode maxSize-/
structure XSq (P : Nat ->Arn ->List Int ->Prop) where
  k : Nat
  S : Arn
  L : List Int
  h : P k S L
noncomputable def aSq (P : Nat ->Arn ->List Int ->Prop) (lb lo lt : List Ent) (b o t : Int) : Ann C0 := { quiet := [28], Γ := [(28, frameT [] tFree), (29, frameT [] tMakeOk)], inv := fun n => match n with
  | 3 => some { X := XSq P, sl := [2, 7, 6], wr := W7, tf := fun x => [.one (.at (.ptr 10 0)), vi .i64 x.k, .one (.at (.slc 11))], hf := fun x => chS x.S ++ [.row false EC.ent lb, .row false EC.ent lo, .row false EC.ent lt, .box [.ptr 0 0, vU b, vU o, vU t, .slc 7, .slc 8, .slc 9], .row true EC.u32 x.L], μ := fun x => 10000 - x.k }
  | _ => none }
def tSq : Tfm C0 := fun args H K => match args with
  | [.agg [.ptr 0 0, .val (.int .u32 b), .val (.int .u32 o), .val (.int .u32 t), .slc 7, .slc 8, .slc 9], .at (.val (.int .i64 fr))] => arMr H fun S rest => match rest with
    | [.row false .ent lb, .row false .ent lo, .row false .ent lt] => ∃ hs, Wf S hs /\hs.length <=1000 /\0 <=fr /\∀ S' k L, SqR S hs k S' L ->k <=10000 ->K (.tup [.at (.slc 10), .at (vB true)]) (chS S' ++ [.row false EC.ent lb, .row false EC.ent lo, .row false EC.ent lt, .row true EC.u32 L]) W7
    | _ => False
  | _ => False
set_option maxRecDepth 100000 in
theorem vc_sq (S : Arn) (lb lo lt : List Ent) (b o t fr : Int) (K : KT) (hs : List Int) (w : Wf S hs) (hl : hs.length <=1000) (hf : 0 <=fr)
    (h : ∀ S' k L, SqR S hs k S' L ->k <=10000 ->K (.tup [.at (.slc 10), .at (vB true)]) (chS S' ++ [.row false EC.ent lb, .row false EC.ent lo, .row false EC.ent lt, .row true EC.u32 L]) W7) :
    vc C0 (aSq (fun k S' L => k <=10000 /\SqR S hs k S' L) lb lo lt b o t) Tryz.f8 [.agg [.ptr 0 0, vU b, vU o, vU t, .slc 7, .slc 8, .slc 9], .at (vI fr)] (chS S ++ [.row false EC.ent lb, .row false EC.ent lo, .row false EC.ent lt]) (normK 10 (wideK W7 K)) := by
  generalize hP : (fun k S' L => k <=10000 /\SqR S hs k S' L) = P
  refine Eq.mp (show ((∃ x : XSq P, (True/\(((Value.int .i64 (fr)) = (Value.int .i64 (fr)))/\True/\True/\((Value.int .i64 0) = (Value.int .i64 ((↑x.k : Int))))/\True)/\(True/\True/\True/\((Value.int .u64 (S.reads)) = (Value.int .u64 (x.S.reads)))/\True)/\(True/\True/\True/\((Value.int .u32 (S.fresh)) = (Value.int .u32 (x.S.fresh)))/\True)/\((S.nodes) = (x.S.nodes))/\((S.counts) = (x.S.counts))/\((S.used) = (x.S.used))/\((S.gen) = (x.S.gen))/\((S.rel) = (x.S.rel))/\((lb) = (lb))/\((lo) = (lo))/\((lt) = (lt))/\(True/\((Value.int .u32 (b)) = (Value.int .u32 (b)))/\((Value.int .u32 (o)) = (Value.int .u32 (o)))/\((Value.int .u32 (t)) = (Value.int .u32 (t)))/\True/\True/\True/\True)/\([] = (x.L))/\True)) ∧
(∀ x : XSq P, (True->((exW x.S)/\(brS (decide (x.S.free > fr)) ((brS (decide ((↑x.k : Int) < 10000)) (((exW x.S)/\(live x.S 0)/\(live x.S 0)/\((mkNode x.S 0 0 0 0).size<=maxSize)/\(0 < x.S.free)/\(∀ S' : Arn, (∀ i : Int, (((S') = (makeS x.S 0 0 0 0))->(((i) = (nxt x.S))->(((x.L.length + [i].length) * bytesOf C0 EC.u32<=140737488355328)/\(∃ x' : XSq P, (True/\((((Value.int .i64 (fr)) = (Value.int .i64 (fr)))/\True/\True/\((Value.int .i64 (IntKind.i64.wrap ((↑x.k : Int) + 1))) = (Value.int .i64 ((↑x'.k : Int))))/\True)/\(True/\True/\True/\((Value.int .u64 (S'.reads)) = (Value.int .u64 (x'.S.reads)))/\True) ∧
    (True/\True/\True/\((Value.int .u32 (S'.fresh)) = (Value.int .u32 (x'.S.fresh)))/\True)/\((S'.nodes) = (x'.S.nodes))/\((S'.counts) = (x'.S.counts))/\((S'.used) = (x'.S.used))/\((S'.gen) = (x'.S.gen))/\((S'.rel) = (x'.S.rel))/\((lb) = (lb))/\((lo) = (lo))/\((lt) = (lt))/\(True/\((Value.int .u32 (b)) = (Value.int .u32 (b)))/\((Value.int .u32 (o)) = (Value.int .u32 (o)))/\((Value.int .u32 (t)) = (Value.int .u32 (t)))/\True/\True/\True/\True)/\((x.L ++ [i]) = (x'.L))/\True)/\(10000 - x'.k < 10000 - x.k)))))))))) ((K (SV.tup [(TV.at (At.slc 10)), (TV.at (At.val (Value.bool true)))]) [(Chunk.box [(At.ptr 1 0), (At.slc 2), (At.slc 3), (At.val (Value.int .u64 (x.S.reads)))]), (Chunk.box [(At.slc 4), (At.slc 5), (At.slc 6), (At.val (Value.int .u32 (x.S.fresh)))]), (Chunk.row true (EC.node) (x.S.nodes)), (Chunk.row true (EC.int) (x.S.counts)), (Chunk.row true (EC.bool) (x.S.used)), (Chunk.row true (EC.u32) (x.S.gen)), (Chunk.row true (EC.u32) (x.S.rel)), (Chunk.row false (EC.ent) (lb)), (Chunk.row false (EC.ent) (lo)), (Chunk.row false (EC.ent) (lt)), (Chunk.row true (EC.u32) (x.L))] [0, 1, 2, 3, 4, 5, 6]))))
    ((K (SV.tup [(TV.at (At.slc 10)), (TV.at (At.val (Value.bool true)))]) [(Chunk.box [(At.ptr 1 0), (At.slc 2), (At.slc 3), (At.val (Value.int .u64 (x.S.reads)))]), (Chunk.box [(At.slc 4), (At.slc 5), (At.slc 6), (At.val (Value.int .u32 (x.S.fresh)))]), (Chunk.row true (EC.node) (x.S.nodes)), (Chunk.row true (EC.int) (x.S.counts)), (Chunk.row true (EC.bool) (x.S.used)), (Chunk.row true (EC.u32) (x.S.gen)), (Chunk.row true (EC.u32) (x.S.rel)), (Chunk.row false (EC.ent) (lb)), (Chunk.row false (EC.ent) (lo)), (Chunk.row false (EC.ent) (lt)), (Chunk.row true (EC.u32) (x.L))] [0, 1, 2, 3, 4, 5, 6]))))))) = _ by kernel_rfl) ?_
  subst hP
  refine ⟨⟨⟨0, S, [], Nat.zero_le _, SqR.zero w⟩, ?_⟩, fun x _ => ?_⟩
  · (repeat' first | exact trivial | exact rfl | refine And.intro ?_ ?_)
  obtain ⟨k, S1, L, hk, sq⟩ := x
  dsimp only
  refine ⟨⟨_, sq.wf⟩, brS_of (fun c => brS_of (fun d => ?_) fun _ => h S1 k L sq hk) fun _ => h S1 k L sq hk⟩
  have c : S1.free > fr := of_decide_eq_true c
  have d : k < 10000 := by have := of_decide_eq_true d; omega
  have w0 : Wf S1 (L ++ hs) := sq.wf
  have e0 := sq.len
  refine ⟨⟨_, w0⟩, .inl rfl, .inl rfl, by rw [mk_size (tl := .nil) (tr := .nil) w0 rfl rfl]; decide, by omega, fun S2 i e2 ei => ⟨?_, ⟨k + 1, S2, L ++ [i], d, by rw [e2, ei]; exact sq.step (by omega) (by omega)⟩, trivial, ?_, by show 10000 - (k + 1) < 10000 - k; omega⟩⟩
  · rw [bytes_u32]; simp only [List.length_singleton]; omega
  · (repeat' first | exact trivial | exact rfl | exact congrArg (Value.int .i64) (wrap_next d (by omega)) | refine And.intro ?_ ?_)
theorem s_sq : SoundT C0 8 tSq := by
  refine .ofW W7 Tryz.func8 (by decide) rfl fun args H K h hB => ?_
  unfold tSq at h
  split at h <;> try exact h.elim
  unfold arMr at h
  split at h <;> try exact h.elim
  split at h <;> try exact h.elim
  rename_i b o t fr2 _ rd fr nd ct us gn rl _ lb lo lt
  obtain ⟨hs, h1, h2, h3, h4⟩ := h
  exact ⟨aSq (fun k S' L => k <=10000 /\SqR ⟨us, gn, rl, fr, nd, ct, rd⟩ hs k S' L) lb lo lt b o t, ⟨frame C0.ok s_free _, frame C0.ok s_makeOk _, trivial⟩, vc_sq ⟨us, gn, rl, fr, nd, ct, rd⟩ lb lo lt b o t fr2 K hs h1 h2 h3 h4⟩
end Go.Proofs.YtmjnoiajenoinaaGreat.Sx
end
section
/- Patches: what their functions answer. -/
namespace Go.Proofs.YtmjnoiajenoinaaGreat.Sx.P19
open Go

theorem outE_asc {l : List Ent} (h : Asc l) (lo hi : Int) : Asc (outE l lo hi) := List.Pairwise.filter _ h
theorem outE_le (l : List Ent) (lo hi : Int) : (outE l lo hi).length <=l.length := List.length_filter_le _ _

def mayA (x : Option Int) : TV := .agg [vB x.isSome, vI (x.getD 0)]
def optA (x : Option Int) : TV := .agg [vI (x.getD 0), vB x.isSome]
def chgA (c : Chg) : TV := .agg [vI c.kind, vI c.key, vI c.old, vI c.new]
def ChgR (k : Int) (a : Bool) (v : Int) (b : Bool) (w : Int) (d : Chg) (ok : Bool) : Prop :=
  ∀ x y : Option Int, a = x.isSome ->v = x.getD 0 ->b = y.isSome ->w = y.getD 0 ->ok = (mkChg k x y).isSome /\(mkChg k x y = none ->d = ⟨0, 0, 0, 0⟩) /\∀ c, mkChg k x y = some c ->d = c
def tBefore (r : Option Int ->TV) : Tfm C0 := fun args H K => match args, H with
  | [.agg [.val (.int .i64 kd), .val (.int .i64 ky), .val (.int .i64 od), .val (.int .i64 nw)]], [] => ∀ x, x = Chg.before ⟨kd, ky, od, nw⟩ ->K (.one (r x)) [] []
  | _, _ => False
def tAfter (r : Option Int ->TV) : Tfm C0 := fun args H K => match args, H with
  | [.agg [.val (.int .i64 kd), .val (.int .i64 ky), .val (.int .i64 od), .val (.int .i64 nw)]], [] => ∀ x, x = Chg.after ⟨kd, ky, od, nw⟩ ->K (.one (r x)) [] []
  | _, _ => False
def tChange : Tfm C0 := fun args H K => match args, H with
  | [.at (.val (.int .i64 k)), .agg [.val (.bool a), .val (.int .i64 v)], .agg [.val (.bool b), .val (.int .i64 w)]], [] =>
    ∀ d ok, ChgR k a v b w d ok ->K (.tup [chgA d, .at (vB ok)]) [] []
  | _, _ => False
def tChange19 : Tfm C0 := fun args H K => match args, H with
  | [.at (.val (.int .i64 k)), .agg [.val (.int .i64 v), .val (.bool a)], .agg [.val (.int .i64 w), .val (.bool b)]], [] =>
    ∀ d ok, ChgR k a v b w d ok ->K (.tup [chgA d, .at (vB ok)]) [] []
  | _, _ => False
theorem chg_arms {k v w : Int} {a b : Bool} {Q : Chg ->Bool ->Prop} (h : ∀ d ok, ChgR k a v b w d ok ->Q d ok) : (a = b /\v = w ->Q ⟨0, 0, 0, 0⟩ false) /\(¬ (a = b /\v = w) ->a = false ->Q ⟨1, k, 0, w⟩ true) ∧
    (¬ (a = b /\v = w) ->a = true ->b = false ->Q ⟨2, k, v, 0⟩ true) /\(¬ (a = b /\v = w) ->a = true ->b = true ->Q ⟨3, k, v, w⟩ true) := by
  refine ⟨fun e => h _ _ ?_, fun e e1 => h _ _ ?_, fun e e1 e2 => h _ _ ?_, fun e e1 e2 => h _ _ ?_⟩ <;> (intro x y h1 h2 h3 h4; subst h1 h2 h3 h4; cases x <;> cases y <;> simp_all [mkChg])
theorem s_before : SoundT C0 75 (tBefore mayA) := by
  refine .of Tryz.func75 (by decide) rfl fun args H K h hB => ⟨A0, trivial, ?_⟩
  unfold tBefore at h
  split at h <;> try exact h.elim
  rename_i kd ky od nw
  refine Eq.mp (show (brS (kd == 1) ((K (SV.one (TV.agg [(At.val (Value.bool false)), (At.val (Value.int .i64 0))])) [] [])) ((K (SV.one (TV.agg [(At.val (Value.bool true)), (At.val (Value.int .i64 od))])) [] []))) = _ by kernel_rfl) (brS_of (fun hb => ?_) fun hb => ?_)
  · simpa [Chg.before, mayA, show kd = 1 by simpa using hb] using h _ rfl
  · simpa [Chg.before, mayA, show ¬ kd = 1 by simpa using hb] using h _ rfl
theorem s_after : SoundT C0 76 (tAfter mayA) := by
  refine .of Tryz.func76 (by decide) rfl fun args H K h hB => ⟨A0, trivial, ?_⟩
  unfold tAfter at h
  split at h <;> try exact h.elim
  rename_i kd ky od nw
  refine Eq.mp (show (brS (kd == 2) ((K (SV.one (TV.agg [(At.val (Value.bool false)), (At.val (Value.int .i64 0))])) [] [])) ((K (SV.one (TV.agg [(At.val (Value.bool true)), (At.val (Value.int .i64 nw))])) [] []))) = _ by kernel_rfl) (brS_of (fun hb => ?_) fun hb => ?_)
  · simpa [Chg.after, mayA, show kd = 2 by simpa using hb] using h _ rfl
  · simpa [Chg.after, mayA, show ¬ kd = 2 by simpa using hb] using h _ rfl
theorem s_before19 : SoundT C0 38 (tBefore optA) := by
  refine .of Tryz.func38 (by decide) rfl fun args H K h hB => ⟨A0, trivial, ?_⟩
  unfold tBefore at h
  split at h <;> try exact h.elim
  rename_i kd ky od nw
  refine Eq.mp (show (brS (kd == 1) ((K (SV.one (TV.agg [(At.val (Value.int .i64 0)), (At.val (Value.bool false))])) [] [])) ((K (SV.one (TV.agg [(At.val (Value.int .i64 od)), (At.val (Value.bool true))])) [] []))) = _ by kernel_rfl) (brS_of (fun hb => ?_) fun hb => ?_)
  · simpa [Chg.before, optA, show kd = 1 by simpa using hb] using h _ rfl
  · simpa [Chg.before, optA, show ¬ kd = 1 by simpa using hb] using h _ rfl
theorem s_after19 : SoundT C0 39 (tAfter optA) := by
  refine .of Tryz.func39 (by decide) rfl fun args H K h hB => ⟨A0, trivial, ?_⟩
  unfold tAfter at h
  split at h <;> try exact h.elim
  rename_i kd ky od nw
  refine Eq.mp (show (brS (kd == 2) ((K (SV.one (TV.agg [(At.val (Value.int .i64 0)), (At.val (Value.bool false))])) [] [])) ((K (SV.one (TV.agg [(At.val (Value.int .i64 nw)), (At.val (Value.bool true))])) [] []))) = _ by kernel_rfl) (brS_of (fun hb => ?_) fun hb => ?_)
  · simpa [Chg.after, optA, show kd = 2 by simpa using hb] using h _ rfl
  · simpa [Chg.after, optA, show ¬ kd = 2 by simpa using hb] using h _ rfl
theorem s_change : SoundT C0 74 tChange := by
  refine .of Tryz.func74 (by decide) rfl fun args H K h hB => ⟨A0, trivial, ?_⟩
  unfold tChange at h
  split at h <;> try exact h.elim
  rename_i k a v b w
  obtain ⟨h1, h2, h3, h4⟩ := chg_arms h
  refine Eq.mp (show (brS (a == b && (v == w && true)) ((K (SV.tup [(TV.agg [(At.val (Value.int .i64 0)), (At.val (Value.int .i64 0)), (At.val (Value.int .i64 0)), (At.val (Value.int .i64 0))]), (TV.at (At.val (Value.bool false)))]) [] [])) ((brS (!a) ((K (SV.tup [(TV.agg [(At.val (Value.int .i64 1)), (At.val (Value.int .i64 (k))), (At.val (Value.int .i64 0)), (At.val (Value.int .i64 (w)))]), (TV.at (At.val (Value.bool true)))]) [] [])) ((brS (!b) ((K (SV.tup [(TV.agg [(At.val (Value.int .i64 2)), (At.val (Value.int .i64 (k))), (At.val (Value.int .i64 (v))), (At.val (Value.int .i64 0))]), (TV.at (At.val (Value.bool true)))]) [] [])) ((K (SV.tup [(TV.agg [(At.val (Value.int .i64 3)), (At.val (Value.int .i64 (k))), (At.val (Value.int .i64 (v))), (At.val (Value.int .i64 (w)))]), (TV.at (At.val (Value.bool true)))]) [] []))))))) = _ by kernel_rfl) ?_
  refine brS_of (fun e => ?_) fun e => brS_of (fun e1 => ?_) fun e1 => brS_of (fun e2 => ?_) fun e2 => ?_
  · exact h1 (by simpa using e)
  · exact h2 (by simpa using e) (by simpa using e1)
  · exact h3 (by simpa using e) (by simpa using e1) (by simpa using e2)
  · exact h4 (by simpa using e) (by simpa using e1) (by simpa using e2)
theorem s_change19 : SoundT C0 72 tChange19 := by
  refine .of Tryz.func72 (by decide) rfl fun args H K h hB => ⟨A0, trivial, ?_⟩
  unfold tChange19 at h
  split at h <;> try exact h.elim
  rename_i k v a w b
  obtain ⟨h1, h2, h3, h4⟩ := chg_arms h
  refine Eq.mp (show (brS (v == w && (a == b && true)) ((K (SV.tup [(TV.agg [(At.val (Value.int .i64 0)), (At.val (Value.int .i64 0)), (At.val (Value.int .i64 0)), (At.val (Value.int .i64 0))]), (TV.at (At.val (Value.bool false)))]) [] [])) ((brS (!a) ((K (SV.tup [(TV.agg [(At.val (Value.int .i64 1)), (At.val (Value.int .i64 (k))), (At.val (Value.int .i64 0)), (At.val (Value.int .i64 (w)))]), (TV.at (At.val (Value.bool true)))]) [] [])) ((brS (!b) ((K (SV.tup [(TV.agg [(At.val (Value.int .i64 2)), (At.val (Value.int .i64 (k))), (At.val (Value.int .i64 (v))), (At.val (Value.int .i64 0))]), (TV.at (At.val (Value.bool true)))]) [] [])) ((K (SV.tup [(TV.agg [(At.val (Value.int .i64 3)), (At.val (Value.int .i64 (k))), (At.val (Value.int .i64 (v))), (At.val (Value.int .i64 (w)))]), (TV.at (At.val (Value.bool true)))]) [] []))))))) = _ by kernel_rfl) ?_
  refine brS_of (fun e => ?_) fun e => brS_of (fun e1 => ?_) fun e1 => brS_of (fun e2 => ?_) fun e2 => ?_
  · exact h1 (by simp at e; exact ⟨e.2, e.1⟩)
  · exact h2 (by simp at e; exact fun hh => e hh.2 hh.1) (by simpa using e1)
  · exact h3 (by simp at e; exact fun hh => e hh.2 hh.1) (by simpa using e1) (by simpa using e2)
  · exact h4 (by simp at e; exact fun hh => e hh.2 hh.1) (by simpa using e1) (by simpa using e2)
structure XV1 (p : List Chg) where
  i : Nat
  h : i <=p.length /\valB p = valGo (prevK p i) (p.drop i)
structure XV2 (p : List Chg) where
  i : Nat
  c : Chg
  h : i < p.length /\valB p = valGo (prevK p i) (p.drop i) /\p[i]? = some c /\lowB p i c.key = false
structure XV3 (p : List Chg) extends XV2 p where
  d : Chg
  ok : Bool
  hd : CmpR c d ok
structure XV4 (p : List Chg) where
  i : Nat
  c : Chg
  b : Bool
  h : i < p.length /\valB p = valGo (prevK p i) (p.drop i) /\p[i]? = some c /\b = lowB p i c.key
noncomputable def aValid (p : List Chg) : Ann C0 := { Γ := [(75, frameT [] (tBefore mayA)), (76, frameT [] (tAfter mayA)), (74, frameT [] tChange)], quiet := [75, 76, 74], inv := fun n => match n with
  | 2 => some { X := XV1 p, sl := [9], tf := fun x => [vi .i64 x.i], hf := fun _ => [.row false EC.chg p], μ := fun x => p.length - x.i }
  | 1005 => some { X := XV4 p, sl := [9, 4, 26], tf := fun z => [vi .i64 z.i, .one (.at (.ptr 1 0)), vb z.b], hf := fun z => [.row false EC.chg p, .box [vI z.c.kind, vI z.c.key, vI z.c.old, vI z.c.new]], rel := fun T _ z => slotI T 9 z.i }
  | 1008 => some { X := XV2 p, sl := [9, 4], tf := fun z => [vi .i64 z.i, .one (.at (.ptr 1 0))], hf := fun z => [.row false EC.chg p, .box [vI z.c.kind, vI z.c.key, vI z.c.old, vI z.c.new]], rel := fun T _ z => slotI T 9 z.i }
  | 1009 => some { X := XV3 p, sl := [9, 4, 5, 6], tf := fun z => [vi .i64 z.i, .one (.at (.ptr 1 0)), .one (.at (.ptr 2 0)), vb z.ok], hf := fun z => [.row false EC.chg p, .box [vI z.c.kind, vI z.c.key, vI z.c.old, vI z.c.new], .box [vI z.d.kind, vI z.d.key, vI z.d.old, vI z.d.new]], rel := fun T _ z => slotI T 9 z.i }
  | _ => none }
def tValid : Tfm C0 := fun args H K => match args, H with
  | [.at (.slc 0)], [.row false .chg p] => K (.one (.at (vB (valB p)))) [.row false EC.chg p] []
  | _, _ => False
theorem vc_valid (p : List Chg) (K : KT) (hmax : p.length <=9223372036854775807) (h : K (.one (.at (vB (valB p)))) [.row false EC.chg p] []) : vc C0 (aValid p) Tryz.f42 [.at (.slc 0)] [.row false EC.chg p] (normK 1 K) := by
  refine Eq.mp (show ((∃ x : XV1 p, (True/\(True/\True/\((Value.int .i64 ((↑p.length : Int))) = (Value.int .i64 ((↑p.length : Int))))/\((Value.int .i64 0) = (Value.int .i64 ((↑x.i : Int))))/\True)/\((p) = (p))/\True)) ∧
(∀ x : XV1 p, (True->(brS (decide ((↑x.i : Int) < (↑p.length : Int))) (((0<=(↑x.i : Int))/\((↑x.i : Int) < (↑p.length : Int))/\(brS (decide ((↑x.i : Int) > 0)) (((0<=IntKind.i64.wrap ((↑x.i : Int) - 1))/\(IntKind.i64.wrap ((↑x.i : Int) - 1) < (↑p.length : Int))/\(∃ x1 : XV4 p, ((((↑x.i : Int)) = ((↑x1.i : Int)))/\(True/\True/\True/\((Value.int .i64 ((↑p.length : Int))) = (Value.int .i64 ((↑p.length : Int))))/\((Value.int .i64 ((↑x.i : Int))) = (Value.int .i64 ((↑x1.i : Int))))/\((Value.bool (decide ((cA p x.i).key<=(p.getD (IntKind.i64.wrap ((↑x.i : Int) - 1)).toNat { kind := 0, key := 0, old := 0, new := 0 : Chg }).key))) = (Value.bool (x1.b)))/\True)/\((p) = (p))/\(((Value.int .i64 ((cA p x.i).kind)) = (Value.int .i64 (x1.c.kind)))/\((Value.int .i64 ((cA p x.i).key)) = (Value.int .i64 (x1.c.key)))/\((Value.int .i64 ((cA p x.i).old)) = (Value.int .i64 (x1.c.old)))/\((Value.int .i64 ((cA p x.i).new)) = (Value.int .i64 (x1.c.new)))/\True)/\True)))) ((∃ x1 : XV4 p, ((((↑x.i : Int)) = ((↑x1.i : Int)))/\(True/\True/\True/\((Value.int .i64 ((↑p.length : Int))) = (Value.int .i64 ((↑p.length : Int)))) ∧
    ((Value.int .i64 ((↑x.i : Int))) = (Value.int .i64 ((↑x1.i : Int))))/\((Value.bool false) = (Value.bool (x1.b)))/\True)/\((p) = (p))/\(((Value.int .i64 ((cA p x.i).kind)) = (Value.int .i64 (x1.c.kind)))/\((Value.int .i64 ((cA p x.i).key)) = (Value.int .i64 (x1.c.key)))/\((Value.int .i64 ((cA p x.i).old)) = (Value.int .i64 (x1.c.old)))/\((Value.int .i64 ((cA p x.i).new)) = (Value.int .i64 (x1.c.new)))/\True)/\True))))/\(∀ x1 : XV4 p, ((((↑x.i : Int)) = ((↑x1.i : Int)))->(brS (x1.b) ((K (SV.one (TV.at (At.val (Value.bool false)))) [(Chunk.row false (EC.chg) (p))] [])) (((brS (x1.c.kind != 1) ((brS (x1.c.kind != 2) ((brS (x1.c.kind != 3) ((K (SV.one (TV.at (At.val (Value.bool false)))) [(Chunk.row false (EC.chg) (p))] [])) ((∃ x2 : XV2 p, ((((↑x1.i : Int)) = ((↑x2.i : Int)))/\(True/\True/\True/\((Value.int .i64 ((↑p.length : Int))) = (Value.int .i64 ((↑p.length : Int))))/\((Value.int .i64 ((↑x1.i : Int))) = (Value.int .i64 ((↑x2.i : Int))))/\True)/\((p) = (p))/\(((Value.int .i64 (x1.c.kind)) = (Value.int .i64 (x2.c.kind)))/\((Value.int .i64 (x1.c.key)) = (Value.int .i64 (x2.c.key)))/\((Value.int .i64 (x1.c.old)) = (Value.int .i64 (x2.c.old)))/\((Value.int .i64 (x1.c.new)) = (Value.int .i64 (x2.c.new)))/\True)/\True))))) ((∃ x2 : XV2 p, ((((↑x1.i : Int)) = ((↑x2.i : Int)))/\(True/\True/\True ∧
    ((Value.int .i64 ((↑p.length : Int))) = (Value.int .i64 ((↑p.length : Int))))/\((Value.int .i64 ((↑x1.i : Int))) = (Value.int .i64 ((↑x2.i : Int))))/\True)/\((p) = (p))/\(((Value.int .i64 (x1.c.kind)) = (Value.int .i64 (x2.c.kind)))/\((Value.int .i64 (x1.c.key)) = (Value.int .i64 (x2.c.key)))/\((Value.int .i64 (x1.c.old)) = (Value.int .i64 (x2.c.old)))/\((Value.int .i64 (x1.c.new)) = (Value.int .i64 (x2.c.new)))/\True)/\True))))) ((∃ x2 : XV2 p, ((((↑x1.i : Int)) = ((↑x2.i : Int)))/\(True/\True/\True/\((Value.int .i64 ((↑p.length : Int))) = (Value.int .i64 ((↑p.length : Int))))/\((Value.int .i64 ((↑x1.i : Int))) = (Value.int .i64 ((↑x2.i : Int))))/\True)/\((p) = (p))/\(((Value.int .i64 (x1.c.kind)) = (Value.int .i64 (x2.c.kind)))/\((Value.int .i64 (x1.c.key)) = (Value.int .i64 (x2.c.key)))/\((Value.int .i64 (x1.c.old)) = (Value.int .i64 (x2.c.old)))/\((Value.int .i64 (x1.c.new)) = (Value.int .i64 (x2.c.new)))/\True)/\True))))/\(∀ x2 : XV2 p, ((((↑x1.i : Int)) = ((↑x2.i : Int)))->(((∀ x3 : Option Int, (((x3) = ({ kind := x2.c.kind, key := x2.c.key, old := x2.c.old, new := x2.c.new : Chg }.before))->((∀ x4 : Option Int, (((x4) = ({ kind := x2.c.kind, key := x2.c.key, old := x2.c.old, new := x2.c.new : Chg }.after))->((∀ d : Chg, (∀ ok : Bool,
    ((ChgR x2.c.key x3.isSome (x3.getD 0) x4.isSome (x4.getD 0) d ok)->(∃ x5 : XV3 p, ((((↑x2.i : Int)) = ((↑x5.i : Int)))/\(True/\True/\True/\((Value.bool (ok)) = (Value.bool (x5.ok)))/\True/\((Value.int .i64 ((↑p.length : Int))) = (Value.int .i64 ((↑p.length : Int))))/\((Value.int .i64 ((↑x2.i : Int))) = (Value.int .i64 ((↑x5.i : Int))))/\True)/\((p) = (p))/\(((Value.int .i64 (x2.c.kind)) = (Value.int .i64 (x5.c.kind)))/\((Value.int .i64 (x2.c.key)) = (Value.int .i64 (x5.c.key)))/\((Value.int .i64 (x2.c.old)) = (Value.int .i64 (x5.c.old)))/\((Value.int .i64 (x2.c.new)) = (Value.int .i64 (x5.c.new)))/\True)/\(((Value.int .i64 (d.kind)) = (Value.int .i64 (x5.d.kind)))/\((Value.int .i64 (d.key)) = (Value.int .i64 (x5.d.key)))/\((Value.int .i64 (d.old)) = (Value.int .i64 (x5.d.old)))/\((Value.int .i64 (d.new)) = (Value.int .i64 (x5.d.new)))/\True)/\True)))))/\(∀ d : Chg, (∀ ok : Bool, ((ChgR x2.c.key x3.isSome (x3.getD 0) x4.isSome (x4.getD 0) d ok)->(∃ x5 : XV3 p, ((((↑x2.i : Int)) = ((↑x5.i : Int)))/\(True/\True/\True/\((Value.bool (ok)) = (Value.bool (x5.ok)))/\True/\((Value.int .i64 ((↑p.length : Int))) = (Value.int .i64 ((↑p.length : Int))))/\((Value.int .i64 ((↑x2.i : Int))) = (Value.int .i64 ((↑x5.i : Int))))/\True)/\((p) = (p)) ∧
    (((Value.int .i64 (x2.c.kind)) = (Value.int .i64 (x5.c.kind)))/\((Value.int .i64 (x2.c.key)) = (Value.int .i64 (x5.c.key)))/\((Value.int .i64 (x2.c.old)) = (Value.int .i64 (x5.c.old)))/\((Value.int .i64 (x2.c.new)) = (Value.int .i64 (x5.c.new)))/\True)/\(((Value.int .i64 (d.kind)) = (Value.int .i64 (x5.d.kind)))/\((Value.int .i64 (d.key)) = (Value.int .i64 (x5.d.key)))/\((Value.int .i64 (d.old)) = (Value.int .i64 (x5.d.old)))/\((Value.int .i64 (d.new)) = (Value.int .i64 (x5.d.new)))/\True)/\True))))))))/\(∀ x4 : Option Int, (((x4) = ({ kind := x2.c.kind, key := x2.c.key, old := x2.c.old, new := x2.c.new : Chg }.after))->(∀ d : Chg, (∀ ok : Bool, ((ChgR x2.c.key x3.isSome (x3.getD 0) x4.isSome (x4.getD 0) d ok)->(∃ x5 : XV3 p, ((((↑x2.i : Int)) = ((↑x5.i : Int)))/\(True/\True/\True/\((Value.bool (ok)) = (Value.bool (x5.ok)))/\True/\((Value.int .i64 ((↑p.length : Int))) = (Value.int .i64 ((↑p.length : Int))))/\((Value.int .i64 ((↑x2.i : Int))) = (Value.int .i64 ((↑x5.i : Int))))/\True)/\((p) = (p))/\(((Value.int .i64 (x2.c.kind)) = (Value.int .i64 (x5.c.kind)))/\((Value.int .i64 (x2.c.key)) = (Value.int .i64 (x5.c.key)))/\((Value.int .i64 (x2.c.old)) = (Value.int .i64 (x5.c.old)))/\((Value.int .i64 (x2.c.new)) = (Value.int .i64 (x5.c.new)))/\True) ∧
    (((Value.int .i64 (d.kind)) = (Value.int .i64 (x5.d.kind)))/\((Value.int .i64 (d.key)) = (Value.int .i64 (x5.d.key)))/\((Value.int .i64 (d.old)) = (Value.int .i64 (x5.d.old)))/\((Value.int .i64 (d.new)) = (Value.int .i64 (x5.d.new)))/\True)/\True))))))))))/\(∀ x3 : Option Int, (((x3) = ({ kind := x2.c.kind, key := x2.c.key, old := x2.c.old, new := x2.c.new : Chg }.before))->(∀ x4 : Option Int, (((x4) = ({ kind := x2.c.kind, key := x2.c.key, old := x2.c.old, new := x2.c.new : Chg }.after))->(∀ d : Chg, (∀ ok : Bool, ((ChgR x2.c.key x3.isSome (x3.getD 0) x4.isSome (x4.getD 0) d ok)->(∃ x5 : XV3 p, ((((↑x2.i : Int)) = ((↑x5.i : Int)))/\(True/\True/\True/\((Value.bool (ok)) = (Value.bool (x5.ok)))/\True/\((Value.int .i64 ((↑p.length : Int))) = (Value.int .i64 ((↑p.length : Int))))/\((Value.int .i64 ((↑x2.i : Int))) = (Value.int .i64 ((↑x5.i : Int))))/\True)/\((p) = (p))/\(((Value.int .i64 (x2.c.kind)) = (Value.int .i64 (x5.c.kind)))/\((Value.int .i64 (x2.c.key)) = (Value.int .i64 (x5.c.key)))/\((Value.int .i64 (x2.c.old)) = (Value.int .i64 (x5.c.old)))/\((Value.int .i64 (x2.c.new)) = (Value.int .i64 (x5.c.new)))/\True)/\(((Value.int .i64 (d.kind)) = (Value.int .i64 (x5.d.kind)))/\((Value.int .i64 (d.key)) = (Value.int .i64 (x5.d.key))) ∧
    ((Value.int .i64 (d.old)) = (Value.int .i64 (x5.d.old)))/\((Value.int .i64 (d.new)) = (Value.int .i64 (x5.d.new)))/\True)/\True))))))))))/\(∀ x3 : XV3 p, ((((↑x2.i : Int)) = ((↑x3.i : Int)))->(brS (!x3.ok) ((K (SV.one (TV.at (At.val (Value.bool false)))) [(Chunk.row false (EC.chg) (p))] [])) ((brS (!(x3.d.kind == x3.c.kind && (x3.d.key == x3.c.key && (x3.d.old == x3.c.old && (x3.d.new == x3.c.new && true))))) ((K (SV.one (TV.at (At.val (Value.bool false)))) [(Chunk.row false (EC.chg) (p))] [])) ((∃ x' : XV1 p, (True/\((True/\True/\((Value.int .i64 ((↑p.length : Int))) = (Value.int .i64 ((↑p.length : Int))))/\((Value.int .i64 (IntKind.i64.wrap ((↑x3.i : Int) + 1))) = (Value.int .i64 ((↑x'.i : Int))))/\True)/\((p) = (p))/\True)/\(p.length - x'.i < p.length - x.i))))))))))))))))))) ((K (SV.one (TV.at (At.val (Value.bool true)))) [(Chunk.row false (EC.chg) (p))] [])))))) = _ by kernel_rfl) ?_
  refine ⟨⟨⟨0, Nat.zero_le _, rfl⟩, by simp⟩, fun x _ => brS_of (fun hi => ?_) fun hi => ?_⟩
  · have hi : x.i < p.length := by simpa using hi
    have hc := cA_get hi
    refine ⟨by omega, by omega, ?_, fun x1 r1 => brS_of (fun hb => ?_) fun hb => ⟨?_, fun x2 r2 => ⟨?_, fun x3 r3 => ?_⟩⟩⟩
    · refine brS_of (fun h0 => ?_) fun h0 => ?_
      · have h0 : 0 < x.i := by simpa using h0
        rw [wrap_in (by omega) (by omega)]
        refine ⟨by omega, by omega, ⟨x.i, _, _, hi, x.h.2, hc, rfl⟩, rfl, ?_⟩
        have e : ((x.i : Int) - 1).toNat = x.i - 1 := by omega
        obtain ⟨k, hk⟩ : ∃ k, x.i = k + 1 := ⟨x.i - 1, by omega⟩
        have hp' : p[k]? = some (cA p k) := cA_get (by omega)
        have e2 : x.i - 1 = k := by omega
        have := lowB_succ hp' (cA p x.i).key
        rw [← hk] at this
        simp only [e, e2, this]
        simp [cA]
      · have h0 : x.i = 0 := by simp at h0; omega
        refine ⟨⟨x.i, _, _, hi, x.h.2, hc, rfl⟩, rfl, ?_⟩
        have : lowB p x.i (cA p x.i).key = false := by rw [h0]; rfl
        simp only [this]
        simp
    · have := valGo_step x1.h.2.2.1
      have e : valB p = false := by rw [x1.h.2.1, this, ← x1.h.2.2.2, hb]; rfl
      rw [e] at h; exact h
    · have hx : lowB p x1.i x1.c.key = false := by rw [← x1.h.2.2.2, hb]
      have stay : ∃ x2 : XV2 p, x2.i = x1.i /\x2.c = x1.c := ⟨⟨x1.i, x1.c, x1.h.1, x1.h.2.1, x1.h.2.2.1, hx⟩, rfl, rfl⟩
      obtain ⟨x2, e1, e2⟩ := stay
      refine brS_of (fun k1 => brS_of (fun k2 => brS_of (fun k3 => ?_) fun k3 => ?_) fun k2 => ?_) fun k1 => ?_
      · have hno : decide x1.c.ok = false := by
          apply decide_eq_false
          intro hok
          have := Chg.ok_kind hok
          simp at k1 k2 k3
          omega
        have e : valB p = false := by rw [x1.h.2.1, valGo_step x1.h.2.2.1, hno]; simp
        rw [e] at h; exact h
      all_goals exact ⟨x2, by simp [e1, e2]⟩
    · have key : ∀ (x3 x4 : Option Int) (d : Chg) (ok : Bool), x3 = x2.c.before ->x4 = x2.c.after ->ChgR x2.c.key x3.isSome (x3.getD 0) x4.isSome (x4.getD 0) d ok ->CmpR x2.c d ok := by
        intro x3 x4 d ok e3 e4 hr
        subst e3 e4
        obtain ⟨h1, h2, h3⟩ := hr _ _ rfl rfl rfl rfl
        exact ⟨h1, h3⟩
      refine ⟨fun x3 e3 => ⟨fun x4 e4 => ⟨fun d ok hr => ?_, fun d ok hr => ?_⟩, fun x4 e4 d ok hr => ?_⟩, fun x4 e4 x3 e3 d ok hr => ?_⟩
      all_goals exact ⟨⟨x2, d, ok, key _ _ _ _ ‹_› ‹_› hr⟩, by simp⟩
    · have hs := valGo_step x3.h.2.2.1
      rw [x3.h.2.2.2, x3.hd.ok] at hs
      rw [chg_eqB]
      refine brS_of (fun ho => ?_) fun ho => brS_of (fun hd => ?_) fun hd => ?_
      · have e : valB p = false := by rw [x3.h.2.1, hs]; simp at ho; simp [ho]
        rw [e] at h; exact h
      · have e : valB p = false := by rw [x3.h.2.1, hs]; simp at hd; simp [hd]
        rw [e] at h; exact h
      · have hlt := x3.h.1
        refine ⟨⟨x3.i + 1, by omega, ?_⟩, trivial, ?_, ?_⟩
        · rw [x3.h.2.1, hs]; simp at ho hd; simp [ho, hd]
        · rw [wrap_in (by omega) (by omega)]; simp
        · show p.length - (x3.i + 1) < p.length - x.i
          omega
  · have hi : x.i = p.length := by have := x.h.1; simp at hi; omega
    have e : valB p = true := by rw [x.h.2, hi, List.drop_length]; cases prevK p p.length <;> rfl
    rw [e] at h; exact h
theorem s_valid : SoundT C0 42 tValid := by
  refine .of Tryz.func42 (by decide) rfl fun args H K h hB => ?_
  unfold tValid at h
  split at h <;> try exact h.elim
  rename_i p
  exact ⟨aValid p, ⟨frame C0.ok s_before _, frame C0.ok s_after _, frame C0.ok s_change _, trivial⟩, vc_valid p K (hB 0 _ _ _ rfl) h⟩
structure XW3 (p : List Chg) where
  i : Nat
  c : Chg
  d : Chg
  ok : Bool
  h : i < p.length /\valB p = valGo (prevK p i) (p.drop i) /\p[i]? = some c /\CmpR c d ok
structure XW4 (p : List Chg) where
  i : Nat
  b : Bool
  h : i < p.length /\valB p = (!b && valGo (prevK p (i + 1)) (p.drop (i + 1)))
noncomputable def aValid19 (p : List Chg) : Ann C0 := { Γ := [(38, frameT [] (tBefore optA)), (39, frameT [] (tAfter optA)), (72, frameT [] tChange19)], quiet := [38, 39, 72], inv := fun n => match n with
  | 2 => some { X := XV1 p, sl := [3], tf := fun x => [vi .i64 x.i], hf := fun _ => [.row false EC.chg p], μ := fun x => p.length - x.i }
  | 1006 => some { X := XW3 p, sl := [3, 4, 5, 6], tf := fun z => [vi .i64 z.i, .one (.at (.ptr 1 0)), .one (.at (.ptr 2 0)), vb z.ok], hf := fun z => [.row false EC.chg p, .box [vI z.c.kind, vI z.c.key, vI z.c.old, vI z.c.new], .box [vI z.d.kind, vI z.d.key, vI z.d.old, vI z.d.new]], rel := fun T _ z => slotI T 3 z.i }
  | 1007 => some { X := XW4 p, sl := [3, 58], tf := fun z => [vi .i64 z.i, vb z.b], hf := fun _ => [.row false EC.chg p], rel := fun T _ z => slotI T 3 z.i }
  | _ => none }
theorem vc_valid19 (p : List Chg) (K : KT) (hmax : p.length <=9223372036854775807) (h : K (.one (.at (vB (valB p)))) [.row false EC.chg p] []) : vc C0 (aValid19 p) Tryz.f36 [.at (.slc 0)] [.row false EC.chg p] (normK 1 K) := by
  refine Eq.mp (show ((∃ x : XV1 p, (True/\(True/\((Value.int .i64 0) = (Value.int .i64 ((↑x.i : Int))))/\True)/\((p) = (p))/\True)) ∧
(∀ x : XV1 p, (True->(brS (decide ((↑x.i : Int) < (↑p.length : Int))) (((0<=(↑x.i : Int))/\((↑x.i : Int) < (↑p.length : Int))/\((∀ x1 : Option Int, (((x1) = ({ kind := (cA p x.i).kind, key := (cA p x.i).key, old := (cA p x.i).old, new := (cA p x.i).new : Chg }.before))->((∀ x2 : Option Int, (((x2) = ({ kind := (cA p x.i).kind, key := (cA p x.i).key, old := (cA p x.i).old, new := (cA p x.i).new : Chg }.after))->((∀ d : Chg, (∀ ok : Bool, ((ChgR (cA p x.i).key x1.isSome (x1.getD 0) x2.isSome (x2.getD 0) d ok)->(∃ x3 : XW3 p, ((((↑x.i : Int)) = ((↑x3.i : Int)))/\(True/\((Value.int .i64 ((↑x.i : Int))) = (Value.int .i64 ((↑x3.i : Int))))/\True/\True/\((Value.bool (ok)) = (Value.bool (x3.ok)))/\True)/\((p) = (p))/\(((Value.int .i64 ((cA p x.i).kind)) = (Value.int .i64 (x3.c.kind)))/\((Value.int .i64 ((cA p x.i).key)) = (Value.int .i64 (x3.c.key)))/\((Value.int .i64 ((cA p x.i).old)) = (Value.int .i64 (x3.c.old)))/\((Value.int .i64 ((cA p x.i).new)) = (Value.int .i64 (x3.c.new)))/\True)/\(((Value.int .i64 (d.kind)) = (Value.int .i64 (x3.d.kind)))/\((Value.int .i64 (d.key)) = (Value.int .i64 (x3.d.key)))/\((Value.int .i64 (d.old)) = (Value.int .i64 (x3.d.old))) ∧
    ((Value.int .i64 (d.new)) = (Value.int .i64 (x3.d.new)))/\True)/\True)))))/\(∀ d : Chg, (∀ ok : Bool, ((ChgR (cA p x.i).key x1.isSome (x1.getD 0) x2.isSome (x2.getD 0) d ok)->(∃ x3 : XW3 p, ((((↑x.i : Int)) = ((↑x3.i : Int)))/\(True/\((Value.int .i64 ((↑x.i : Int))) = (Value.int .i64 ((↑x3.i : Int))))/\True/\True/\((Value.bool (ok)) = (Value.bool (x3.ok)))/\True)/\((p) = (p))/\(((Value.int .i64 ((cA p x.i).kind)) = (Value.int .i64 (x3.c.kind)))/\((Value.int .i64 ((cA p x.i).key)) = (Value.int .i64 (x3.c.key)))/\((Value.int .i64 ((cA p x.i).old)) = (Value.int .i64 (x3.c.old)))/\((Value.int .i64 ((cA p x.i).new)) = (Value.int .i64 (x3.c.new)))/\True)/\(((Value.int .i64 (d.kind)) = (Value.int .i64 (x3.d.kind)))/\((Value.int .i64 (d.key)) = (Value.int .i64 (x3.d.key)))/\((Value.int .i64 (d.old)) = (Value.int .i64 (x3.d.old)))/\((Value.int .i64 (d.new)) = (Value.int .i64 (x3.d.new)))/\True)/\True))))))))/\(∀ x2 : Option Int, (((x2) = ({ kind := (cA p x.i).kind, key := (cA p x.i).key, old := (cA p x.i).old, new := (cA p x.i).new : Chg }.after))->(∀ d : Chg, (∀ ok : Bool, ((ChgR (cA p x.i).key x1.isSome (x1.getD 0) x2.isSome (x2.getD 0) d ok)->(∃ x3 : XW3 p, ((((↑x.i : Int)) = ((↑x3.i : Int)))/\(True/\((Value.int .i64 ((↑x.i : Int))) = (Value.int .i64 ((↑x3.i : Int))))/\True/\True ∧
    ((Value.bool (ok)) = (Value.bool (x3.ok)))/\True)/\((p) = (p))/\(((Value.int .i64 ((cA p x.i).kind)) = (Value.int .i64 (x3.c.kind)))/\((Value.int .i64 ((cA p x.i).key)) = (Value.int .i64 (x3.c.key)))/\((Value.int .i64 ((cA p x.i).old)) = (Value.int .i64 (x3.c.old)))/\((Value.int .i64 ((cA p x.i).new)) = (Value.int .i64 (x3.c.new)))/\True)/\(((Value.int .i64 (d.kind)) = (Value.int .i64 (x3.d.kind)))/\((Value.int .i64 (d.key)) = (Value.int .i64 (x3.d.key)))/\((Value.int .i64 (d.old)) = (Value.int .i64 (x3.d.old)))/\((Value.int .i64 (d.new)) = (Value.int .i64 (x3.d.new)))/\True)/\True))))))))))/\(∀ x1 : Option Int, (((x1) = ({ kind := (cA p x.i).kind, key := (cA p x.i).key, old := (cA p x.i).old, new := (cA p x.i).new : Chg }.before))->(∀ x2 : Option Int, (((x2) = ({ kind := (cA p x.i).kind, key := (cA p x.i).key, old := (cA p x.i).old, new := (cA p x.i).new : Chg }.after))->(∀ d : Chg, (∀ ok : Bool, ((ChgR (cA p x.i).key x1.isSome (x1.getD 0) x2.isSome (x2.getD 0) d ok)->(∃ x3 : XW3 p, ((((↑x.i : Int)) = ((↑x3.i : Int)))/\(True/\((Value.int .i64 ((↑x.i : Int))) = (Value.int .i64 ((↑x3.i : Int))))/\True/\True/\((Value.bool (ok)) = (Value.bool (x3.ok)))/\True)/\((p) = (p))/\(((Value.int .i64 ((cA p x.i).kind)) = (Value.int .i64 (x3.c.kind))) ∧
    ((Value.int .i64 ((cA p x.i).key)) = (Value.int .i64 (x3.c.key)))/\((Value.int .i64 ((cA p x.i).old)) = (Value.int .i64 (x3.c.old)))/\((Value.int .i64 ((cA p x.i).new)) = (Value.int .i64 (x3.c.new)))/\True)/\(((Value.int .i64 (d.kind)) = (Value.int .i64 (x3.d.kind)))/\((Value.int .i64 (d.key)) = (Value.int .i64 (x3.d.key)))/\((Value.int .i64 (d.old)) = (Value.int .i64 (x3.d.old)))/\((Value.int .i64 (d.new)) = (Value.int .i64 (x3.d.new)))/\True)/\True))))))))))/\(∀ x1 : XW3 p, ((((↑x.i : Int)) = ((↑x1.i : Int)))->((brS (decide (x1.c.kind < 1)) ((∃ x2 : XW4 p, ((((↑x1.i : Int)) = ((↑x2.i : Int)))/\(True/\((Value.int .i64 ((↑x1.i : Int))) = (Value.int .i64 ((↑x2.i : Int))))/\((Value.bool true) = (Value.bool (x2.b)))/\True)/\((p) = (p))/\True))) ((brS (decide (x1.c.kind > 3)) ((∃ x2 : XW4 p, ((((↑x1.i : Int)) = ((↑x2.i : Int)))/\(True/\((Value.int .i64 ((↑x1.i : Int))) = (Value.int .i64 ((↑x2.i : Int))))/\((Value.bool true) = (Value.bool (x2.b)))/\True)/\((p) = (p))/\True))) ((brS (!x1.ok) ((∃ x2 : XW4 p, ((((↑x1.i : Int)) = ((↑x2.i : Int)))/\(True/\((Value.int .i64 ((↑x1.i : Int))) = (Value.int .i64 ((↑x2.i : Int))))/\((Value.bool true) = (Value.bool (x2.b)))/\True)/\((p) = (p))/\True))) ((brS (!(x1.c.kind == x1.d.kind && (x1.c.key == x1.d.key && (x1.c.old == x1.d.old && (x1.c.new == x1.d.new && true)))))
    ((∃ x2 : XW4 p, ((((↑x1.i : Int)) = ((↑x2.i : Int)))/\(True/\((Value.int .i64 ((↑x1.i : Int))) = (Value.int .i64 ((↑x2.i : Int))))/\((Value.bool true) = (Value.bool (x2.b)))/\True)/\((p) = (p))/\True))) ((brS (decide ((↑x1.i : Int) > 0)) (((0<=IntKind.i64.wrap ((↑x1.i : Int) - 1))/\(IntKind.i64.wrap ((↑x1.i : Int) - 1) < (↑p.length : Int))/\(∃ x2 : XW4 p, ((((↑x1.i : Int)) = ((↑x2.i : Int)))/\(True/\((Value.int .i64 ((↑x1.i : Int))) = (Value.int .i64 ((↑x2.i : Int))))/\((Value.bool (decide (x1.c.key<=(p.getD (IntKind.i64.wrap ((↑x1.i : Int) - 1)).toNat { kind := 0, key := 0, old := 0, new := 0 : Chg }).key))) = (Value.bool (x2.b)))/\True)/\((p) = (p))/\True)))) ((∃ x2 : XW4 p, ((((↑x1.i : Int)) = ((↑x2.i : Int)))/\(True/\((Value.int .i64 ((↑x1.i : Int))) = (Value.int .i64 ((↑x2.i : Int))))/\((Value.bool false) = (Value.bool (x2.b)))/\True)/\((p) = (p))/\True))))))))))))/\(∀ x2 : XW4 p, ((((↑x1.i : Int)) = ((↑x2.i : Int)))->(brS (x2.b) ((K (SV.one (TV.at (At.val (Value.bool false)))) [(Chunk.row false (EC.chg) (p))] [])) ((∃ x' : XV1 p, (True/\((True/\((Value.int .i64 (IntKind.i64.wrap ((↑x2.i : Int) + 1))) = (Value.int .i64 ((↑x'.i : Int))))/\True)/\((p) = (p))/\True)/\(p.length - x'.i < p.length - x.i)))))))))))) ((K (SV.one (TV.at (At.val (Value.bool true)))) [(Chunk.row false (EC.chg) (p))] [])))))) = _ by kernel_rfl) ?_
  refine ⟨⟨⟨0, Nat.zero_le _, rfl⟩, by simp⟩, fun x _ => brS_of (fun hi => ?_) fun hi => ?_⟩
  · have hi : x.i < p.length := by simpa using hi
    have hc := cA_get hi
    have key : ∀ (x3 x4 : Option Int) (d : Chg) (ok : Bool), x3 = (cA p x.i).before ->x4 = (cA p x.i).after ->ChgR (cA p x.i).key x3.isSome (x3.getD 0) x4.isSome (x4.getD 0) d ok ->CmpR (cA p x.i) d ok := by
      intro x3 x4 d ok e3 e4 hr
      subst e3 e4
      obtain ⟨h1, h2, h3⟩ := hr _ _ rfl rfl rfl rfl
      exact ⟨h1, h3⟩
    refine ⟨by omega, by omega, ⟨fun x3 e3 => ⟨fun x4 e4 => ⟨fun d ok hr => ?_, fun d ok hr => ?_⟩, fun x4 e4 d ok hr => ?_⟩, fun x4 e4 x3 e3 d ok hr => ?_⟩, fun x1 r1 => ⟨?_, fun x2 r2 => ?_⟩⟩
    iterate 4 exact ⟨⟨x.i, cA p x.i, d, ok, hi, x.h.2, hc, key _ _ _ _ ‹_› ‹_› hr⟩, by simp⟩
    · have hs := valGo_step x1.h.2.2.1
      rw [← x1.h.2.1, x1.h.2.2.2.ok] at hs
      have h1 := x1.h.1
      have stop : decide x1.c.ok = false ->∃ x2 : XW4 p, x2.i = x1.i /\x2.b = true := fun e => ⟨⟨x1.i, true, h1, by
        have := valGo_step x1.h.2.2.1
        rw [← x1.h.2.1, e] at this
        simpa using this⟩, rfl, rfl⟩
      rw [chg_eqB]
      refine brS_of (fun e => ?_) fun e => brS_of (fun e1 => ?_) fun e1 => brS_of (fun e2 => ?_) fun e2 => brS_of (fun e3 => ?_) fun e3 => brS_of (fun e4 => ?_) fun e4 => ?_
      · obtain ⟨x2, a1, a2⟩ := stop (by apply decide_eq_false; intro hok; have := Chg.ok_kind hok; simp at e; omega)
        exact ⟨x2, by simp [a1, a2]⟩
      · obtain ⟨x2, a1, a2⟩ := stop (by apply decide_eq_false; intro hok; have := Chg.ok_kind hok; simp at e1; omega)
        exact ⟨x2, by simp [a1, a2]⟩
      · obtain ⟨x2, a1, a2⟩ := stop (by rw [x1.h.2.2.2.ok]; simp at e2; simp [e2])
        exact ⟨x2, by simp [a1, a2]⟩
      · obtain ⟨x2, a1, a2⟩ := stop (by rw [x1.h.2.2.2.ok]; simp at e3; simp; exact fun _ hh => e3 hh.symm)
        exact ⟨x2, by simp [a1, a2]⟩
      · have h0 : 0 < x1.i := by simpa using e4
        rw [wrap_in (by omega) (by omega)]
        obtain ⟨k, hk⟩ : ∃ k, x1.i = k + 1 := ⟨x1.i - 1, by omega⟩
        have hp' : p[k]? = some (cA p k) := cA_get (by omega)
        have e5 : ((x1.i : Int) - 1).toNat = k := by omega
        have := lowB_succ hp' x1.c.key
        rw [← hk] at this
        simp at e2 e3
        refine ⟨by omega, by omega, ⟨x1.i, lowB p x1.i x1.c.key, h1, ?_⟩, ?_⟩
        · rw [hs]; simp [e2, e3]
        · simp only [e5, this]; simp [cA]
      · have h0 : x1.i = 0 := by simp at e4; omega
        have : lowB p x1.i x1.c.key = false := by rw [h0]; rfl
        simp at e2 e3
        refine ⟨⟨x1.i, false, h1, ?_⟩, by simp⟩
        rw [hs, this]; simp [e2, e3]
    · refine brS_of (fun hb => ?_) fun hb => ?_
      · have e : valB p = false := by rw [x2.h.2, hb]; rfl
        rw [e] at h; exact h
      · have h1 := x2.h.1
        refine ⟨⟨x2.i + 1, by omega, by rw [x2.h.2, hb]; rfl⟩, trivial, ?_, ?_⟩
        · rw [wrap_in (by omega) (by omega)]; simp
        · show p.length - (x2.i + 1) < p.length - x.i
          omega
  · have hi : x.i = p.length := by have := x.h.1; simp at hi; omega
    have e : valB p = true := by rw [x.h.2, hi, List.drop_length]; cases prevK p p.length <;> rfl
    rw [e] at h; exact h
theorem s_valid19 : SoundT C0 36 tValid := by
  refine .of Tryz.func36 (by decide) rfl fun args H K h hB => ?_
  unfold tValid at h
  split at h <;> try exact h.elim
  rename_i p
  exact ⟨aValid19 p, ⟨frame C0.ok s_before19 _, frame C0.ok s_after19 _, frame C0.ok s_change19 _, trivial⟩, vc_valid19 p K (hB 0 _ _ _ rfl) h⟩
noncomputable def aGet19 : Ann C0 := { Γ := [(26, frameT [] tGet)] }
def tGet19 : Tfm C0 := fun args H K => match args, H with
  | [.at (.slc 0), .at (.val (.int .i64 q))], [.row false .ent l] => ∀ x : Option Int, x = getE l q ->K (.one (optA x)) [.row false EC.ent l] []
  | _, _ => False
theorem vc_get19 (l : List Ent) (q : Int) (K : KT) (h : ∀ x : Option Int, x = getE l q ->K (.one (optA x)) [.row false EC.ent l] []) :
    vc C0 aGet19 Tryz.f37 [.at (.slc 0), .at (.val (.int .i64 q))] [.row false EC.ent l] (normK 1 K) := by
  refine Eq.mp (show (∀ x : Option Int, (((x) = (getE l q))->(K (SV.one (TV.agg [(At.val (Value.int .i64 (x.getD 0))), (At.val (Value.bool (x.isSome)))])) [(Chunk.row false (EC.ent) (l))] []))) = _ by kernel_rfl) ?_
  exact fun x hx => h x hx
theorem s_get19 : SoundT C0 37 tGet19 := by
  refine .of Tryz.func37 (by decide) rfl fun args H K h hB => ?_
  unfold tGet19 at h
  split at h <;> try exact h.elim
  rename_i q l
  exact ⟨aGet19, ⟨frame C0.ok s_get _, trivial⟩, vc_get19 l q K h⟩
structure XFnd (p : List Chg) (q : Int) where
  i : Nat
  h : i <=p.length /\fnd Chg.key p q = fnd Chg.key (p.drop i) q
structure XB (P : Bool ->Prop) where
  b : Bool
  h : P b
structure XCB (P : Chg ->Bool ->Prop) where
  d : Chg
  ok : Bool
  h : P d ok
def inL (p q : List Chg) (i k : Nat) : Bool := decide (i < p.length) && (decide (k = q.length) || decide ((cA p i).key <=(cA q k).key))
structure XBo (G : List Chg ->List Chg ->Nat ->Nat ->List Chg ->Prop) (p q : List Chg) where
  i : Nat
  k : Nat
  out : List Chg
  inP : Bool
  inQ : Bool
  h : i <=p.length /\k <=q.length /\out.length <=i + k /\G p q i k out
structure XBc (G : List Chg ->List Chg ->Nat ->Nat ->List Chg ->Prop) (p q : List Chg) extends XBo G p q where
  go : Bool
  hg : go = (decide (i < p.length) || decide (k < q.length))
structure XBp (G : List Chg ->List Chg ->Nat ->Nat ->List Chg ->Prop) (p q : List Chg) extends XBo G p q where
  hp : inP = inL p q i k
structure XBq (G : List Chg ->List Chg ->Nat ->Nat ->List Chg ->Prop) (p q : List Chg) extends XBp G p q where
  hq : inQ = inL q p k i
def appR (l : List Ent) (p : List Chg) : List Ent × Int := if ascB l && valB p then (match app l p with
  | some r => (r, 0)
  | none => ([], 9)) else ([], 1)
structure XAp (l : List Ent) (p : List Chg) where
  i : Nat
  k : Nat
  acc : List Ent
  h : i <=l.length /\k <=p.length /\acc.length <=i + k /\AppAt l p i k acc
structure XAq (l : List Ent) (p : List Chg) extends XAp l p where
  hq : i < l.length ->(cA p k).key <=(eA l i).1
structure XAb (l : List Ent) (p : List Chg) extends XAq l p where
  b : Bool
  hb : b = (decide (i < l.length) && decide ((eA l i).1 = (cA p k).key))
structure XRo (p q : List Chg) where
  i : Nat
  k : Nat
  out : List Chg
  cf : List Int
  inP : Bool
  inQ : Bool
  h : i <=p.length /\k <=q.length /\(out.length <=i + k /\cf.length <=i + k) /\reb p q = (rebGo (pC (p.drop i) (q.drop k))).map (fun r => (out ++ r.1, cf ++ r.2))
structure XRc (p q : List Chg) extends XRo p q where
  go : Bool
  hg : go = (decide (i < p.length) || decide (k < q.length))
structure XRp (p q : List Chg) extends XRo p q where
  hp : inP = inL p q i k
structure XRq (p q : List Chg) extends XRp p q where
  hq : inQ = inL q p k i
def ap1 (out : List Ent) (c : Chg) : List Ent := match c.after with
  | some v => insE out (c.key, v)
  | none => outE out c.key c.key
def fitB (l : List Ent) (p : List Chg) : Bool := p.all fun c => decide (getE l c.key = c.before)
def app19R (l : List Ent) (p : List Chg) : List Ent × Int := if ascB l && valB p then (if fitB l p then (p.foldl ap1 l, 0) else ([], 9)) else ([], 1)
noncomputable def aAppN (l : List Ent) : Ann C0 := { rounds := fun n => if n = 5 then 1 else 0, Γ := [(35, frameT [] tAsc), (36, frameT [] tValid), (37, frameT [] tGet19), (38, frameT [] (tBefore optA)), (39, frameT [] (tAfter optA)), (40, frameT [] tIns), (41, frameT [] tDel)], inv := fun n => match n with
  | 5 => some { X := Empty, sl := [], tf := fun _ => [], hf := fun _ => [] }
  | 1008 => some { X := Empty, sl := [], tf := fun _ => [], hf := fun _ => [] }
  | _ => none }
structure XA9 (l : List Ent) (p : List Chg) where
  i : Nat
  out : List Ent
  h : i <=p.length /\out.length <=l.length + i /\fitB l (p.take i) = true /\out = (p.take i).foldl ap1 l
structure XA9b (l : List Ent) (p : List Chg) extends XA9 l p where
  b : Bool
  hb : b = !decide (getE l (cA p i).key = (cA p i).before)
noncomputable def aApp19 (l : List Ent) (p : List Chg) : Ann C0 := { trunc := fun n => n == 6, rounds := fun n => if n = 5 then 1 else 0, quiet := [37, 38, 39, 40, 41], Γ := [(35, frameT [] tAsc), (36, frameT [] tValid), (37, frameT [] tGet19), (38, frameT [] (tBefore optA)), (39, frameT [] (tAfter optA)), (40, frameT [] tIns), (41, frameT [] tDel)], inv := fun n => match n with
  | 5 => some { X := XA9 l p, sl := [7, 6], tf := fun x => [vi .i64 x.i, .one (.at (.slc 2))], hf := fun x => [.row false EC.ent l, .row false EC.chg p, .row true EC.ent x.out], μ := fun x => p.length - x.i }
  | 1008 => some { X := XA9b l p, sl := [36, 6], tf := fun x => [vb x.b, .one (.at (.slc 2))], hf := fun x => [.row false EC.ent l, .row false EC.chg p, .row false EC.ent x.out], rel := fun T _ x => slotI T 7 x.i }
  | _ => none }
def tApp19 : Tfm C0 := fun args H K => match args, H with
  | [.at (.slc 0), .at (.slc 1)], [.row false .ent l, .row false .chg p] => l.length + p.length <=1000000 /\(∀ (r : List Ent) (e : Int), (r, e) = app19R l p ->K (.tup [.at (.slc 2), .at (vI e)]) [.row false EC.ent l, .row false EC.chg p, .row true EC.ent r] []) ∧
    (p.length = 0 ->ascB l = true ->K (.tup [.at (.slc 0), .at (vI 0)]) [.row false EC.ent l, .row false EC.chg p] [])
  | _, _ => False
theorem outE_get' {l : List Ent} (h : Asc l) (k q : Int) : getE (outE l k k) q = if q = k then none else getE l q := by
  rw [getE_fnd, getE_fnd]
  unfold outE
  rw [fnd_filter h]
  cases hf : fnd Prod.fst l q with
  | none => simp
  | some x =>
    have hk := fnd_key hf
    simp only [Option.filter]
    by_cases hq : q = k
    · rw [if_pos hq, if_neg (by simp; omega)]; rfl
    · rw [if_neg hq, if_pos (by simp; omega)]
theorem ap1_get {l : List Ent} (h : Asc l) (c : Chg) : Asc (ap1 l c) /\∀ k, getE (ap1 l c) k = if k = c.key then c.after else getE l k := by
  unfold ap1
  cases hc : c.after with
  | none => exact ⟨outE_asc h _ _, fun k => outE_get' h _ _⟩
  | some v => exact ⟨insE_asc _ h, fun k => by
      rw [insE_get _ h]
      by_cases hk : k = c.key
      · rw [if_pos hk.symm, if_pos hk]
      · rw [if_neg (fun e => hk e.symm), if_neg hk]⟩
theorem ap1_len (l : List Ent) (c : Chg) : (ap1 l c).length <=l.length + 1 := by
  unfold ap1
  split
  · exact insE_len _ _
  · exact Nat.le_trans (outE_le _ _ _) (by omega)
theorem fold_get : ∀ (p : List Chg) {l : List Ent}, Asc l ->Srt Chg.key p ->Asc (p.foldl ap1 l) /\∀ k, getE (p.foldl ap1 l) k = put (getE l k) (fnd Chg.key p k) := by
  intro p
  induction p with
  | nil => intro l hl _; exact ⟨hl, fun k => by simp [fnd_nil, put]⟩
  | cons c t ih =>
    intro l hl hp
    obtain ⟨h1, h2⟩ := ap1_get hl c
    obtain ⟨h3, h4⟩ := ih h1 hp.tail
    refine ⟨h3, fun k => ?_⟩
    rw [List.foldl_cons, h4, h2, fnd_cons]
    by_cases hk : k = c.key
    · have hn : fnd Chg.key t k = none := fnd_of_lt fun x hx => by rw [hk]; exact hp.head x hx
      rw [hn, if_pos hk, if_pos hk.symm]; rfl
    · rw [if_neg hk, if_neg (fun e => hk e.symm)]
theorem fitB_iff {l : List Ent} {p : List Chg} : fitB l p = true ↔ Fits l p := by
  unfold fitB Fits
  simp
theorem app19R_eq (l : List Ent) (p : List Chg) : app19R l p = appR l p := by
  unfold app19R appR
  by_cases h : (ascB l && valB p) = true
  · rw [if_pos h, if_pos h]
    simp only [Bool.and_eq_true] at h
    have hl : Asc l := by simpa [ascB] using h.1
    have hp := (valB_iff.1 h.2).1
    by_cases hf : Fits l p
    · rw [if_pos (fitB_iff.2 hf)]
      obtain ⟨h1, h2⟩ := fold_get p hl hp
      rw [app_of hl hp h1 hf h2]
    · rw [if_neg (fun e => hf (fitB_iff.1 e)), (app_none hl hp).2 hf]
  · rw [if_neg h, if_neg h]
theorem opt_eqB (x y : Option Int) : (x.getD 0 == y.getD 0 && (x.isSome == y.isSome && true)) = decide (x = y) := by
  cases x <;> cases y <;> simp
  exact Bool.eq_iff_iff.2 (by simp)
theorem fit_snoc {l : List Ent} {p : List Chg} {i : Nat} (hi : i < p.length) : fitB l (p.take (i + 1)) = (fitB l (p.take i) && decide (getE l (cA p i).key = (cA p i).before)) := by
  unfold fitB
  rw [take_snoc (cA_get hi), List.all_append]; simp
theorem fold_snoc {l : List Ent} {p : List Chg} {i : Nat} (hi : i < p.length) : (p.take (i + 1)).foldl ap1 l = ap1 ((p.take i).foldl ap1 l) (cA p i) := by
  rw [take_snoc (cA_get hi), List.foldl_append]; rfl
theorem fit_not {l : List Ent} {p : List Chg} {i : Nat} (hi : i < p.length) (h : ¬ getE l (cA p i).key = (cA p i).before) : fitB l p = false := by
  unfold fitB
  rw [List.all_eq_false]
  exact ⟨cA p i, List.mem_of_getElem? (cA_get hi), by simpa using h⟩
theorem XA9.next {l : List Ent} {p : List Chg} (z : XA9 l p) (hi : z.i < p.length) (hb : getE l (cA p z.i).key = (cA p z.i).before) : (z.i + 1 <=p.length /\(ap1 z.out (cA p z.i)).length <=l.length + (z.i + 1) /\fitB l (p.take (z.i + 1)) = true /\ap1 z.out (cA p z.i) = (p.take (z.i + 1)).foldl ap1 l) := by
  obtain ⟨h1, h2, h3, h4⟩ := z.h
  refine ⟨hi, ?_, ?_, ?_⟩
  · have := ap1_len z.out (cA p z.i); omega
  · rw [fit_snoc hi, h3]; simpa using hb
  · rw [fold_snoc hi, ← h4]
theorem ap1_some {out : List Ent} {c : Chg} {v : Int} (h : c.after = some v) : insE out (c.key, v) = ap1 out c := by unfold ap1; rw [h]
theorem ap1_none {out : List Ent} {c : Chg} (h : c.after = none) : outE out c.key c.key = ap1 out c := by unfold ap1; rw [h]
theorem isN {x : Option Int} (h : x.isSome = false) : x = none := by
  cases x with
  | none => rfl
  | some v => cases h
theorem vc_appN (l : List Ent) (K : KT) (h : ∀ (r : List Ent) (e : Int), (r, e) = app19R l [] ->K (.tup [.at (.slc 2), .at (vI e)]) [.row false EC.ent l, .row false EC.chg [], .row true EC.ent r] [])
    (h0 : ascB l = true ->K (.tup [.at (.slc 0), .at (vI 0)]) [.row false EC.ent l, .row false EC.chg []] []) :
    vc C0 (aAppN l) Tryz.f10 [.at (.slc 0), .at (.slc 1)] [.row false EC.ent l, .row false EC.chg []] (normK 2 K) := by
  refine Eq.mp (show (brS (!ascB l) ((K (SV.tup [(TV.at (At.slc 2)), (TV.at (At.val (Value.int .i64 1)))]) [(Chunk.row false (EC.ent) (l)), (Chunk.row false (EC.chg) []), (Chunk.row true (EC.ent) [])] [])) ((K (SV.tup [(TV.at (At.slc 0)), (TV.at (At.val (Value.int .i64 0)))]) [(Chunk.row false (EC.ent) (l)), (Chunk.row false (EC.chg) [])] []))) = _ by kernel_rfl) ?_
  exact brS_of (fun c1 => h [] 1 (by simp at c1; simp [app19R, c1])) fun c1 => h0 (by simpa using c1)
theorem vc_app19 (l : List Ent) (p : List Chg) (K : KT) (hsm : l.length + p.length <=1000000) (hp : 0 < p.length) (h : ∀ (r : List Ent) (e : Int), (r, e) = app19R l p ->K (.tup [.at (.slc 2), .at (vI e)]) [.row false EC.ent l, .row false EC.chg p, .row true EC.ent r] []) :
    vc C0 (aApp19 l p) Tryz.f10 [.at (.slc 0), .at (.slc 1)] [.row false EC.ent l, .row false EC.chg p] (normK 2 K) := by
  refine Eq.mp (show (brS (!ascB l) ((K (SV.tup [(TV.at (At.slc 2)), (TV.at (At.val (Value.int .i64 1)))]) [(Chunk.row false (EC.ent) (l)), (Chunk.row false (EC.chg) (p)), (Chunk.row true (EC.ent) [])] [])) ((brS (!valB p) ((K (SV.tup [(TV.at (At.slc 2)), (TV.at (At.val (Value.int .i64 1)))]) [(Chunk.row false (EC.ent) (l)), (Chunk.row false (EC.chg) (p)), (Chunk.row true (EC.ent) [])] [])) ((brS (decide (0 < (↑p.length : Int))) (((((0 : Int)<=0)/\(0 < (↑p.length : Int))/\((0 : Int)<=0)/\(0 < (↑p.length : Int))/\(∀ x : Option Int, (((x) = (getE l (p.getD (Int.toNat 0) { kind := 0, key := 0, old := 0, new := 0 : Chg }).key))->(∀ x1 : Option Int, (((x1) = ({ kind := (p.getD (Int.toNat 0) { kind := 0, key := 0, old := 0, new := 0 : Chg }).kind, key := (p.getD (Int.toNat 0) { kind := 0, key := 0, old := 0, new := 0 : Chg }).key, old := (p.getD (Int.toNat 0) { kind := 0, key := 0, old := 0, new := 0 : Chg }).old, new := (p.getD (Int.toNat 0) { kind := 0, key := 0, old := 0, new := 0 : Chg }).new : Chg }.before))->(∃ x2 : XA9b l p, ((0 = ((↑x2.i : Int)))/\(True/\True/\True/\((Value.int .i64 0) = (Value.int .i64 0))/\((Value.bool (!(x.getD 0 == x1.getD 0 && (x.isSome == x1.isSome && true)))) = (Value.bool (x2.b)))/\True)/\((l) = (l))/\((p) = (p))/\((l) = (x2.out))/\True)))))))/\(∀ x : XA9b l p, ((0 = ((↑x.i : Int)))->(brS (x.b)
    ((K (SV.tup [(TV.at (At.slc 2)), (TV.at (At.val (Value.int .i64 9)))]) [(Chunk.row false (EC.ent) (l)), (Chunk.row false (EC.chg) (p)), (Chunk.row true (EC.ent) [])] [])) ((((0 : Int)<=0)/\(0 < (↑p.length : Int))/\(∀ x1 : Option Int, (((x1) = ({ kind := (p.getD (Int.toNat 0) { kind := 0, key := 0, old := 0, new := 0 : Chg }).kind, key := (p.getD (Int.toNat 0) { kind := 0, key := 0, old := 0, new := 0 : Chg }).key, old := (p.getD (Int.toNat 0) { kind := 0, key := 0, old := 0, new := 0 : Chg }).old, new := (p.getD (Int.toNat 0) { kind := 0, key := 0, old := 0, new := 0 : Chg }).new : Chg }.after))->(brS (x1.isSome) ((((0 : Int)<=0)/\(0 < (↑p.length : Int))/\(x.out.length<=1000000)/\(∃ x2 : XA9 l p, (True/\(True/\True/\True/\((Value.int .i64 1) = (Value.int .i64 ((↑x2.i : Int))))/\True)/\((l) = (l))/\((p) = (p))/\((insE x.out ((p.getD (Int.toNat 0) { kind := 0, key := 0, old := 0, new := 0 : Chg }).key, x1.getD 0)) = (x2.out))/\True))/\(∀ x2 : XA9 l p, (True->(brS (decide ((↑x2.i : Int) < (↑p.length : Int))) ((((0<=(↑x2.i : Int))/\((↑x2.i : Int) < (↑p.length : Int))/\(0<=(↑x2.i : Int))/\((↑x2.i : Int) < (↑p.length : Int))/\(∀ x3 : Option Int, (((x3) = (getE l (cA p x2.i).key))->(∀ x4 : Option Int, (((x4) = ({ kind := (cA p x2.i).kind, key := (cA p x2.i).key, old := (cA p x2.i).old, new := (cA p x2.i).new : Chg }.before))->(∃ x5 : XA9b l p, ((((↑x2.i : Int)) = ((↑x5.i : Int)))/\(True/\True/\True ∧
    ((Value.int .i64 ((↑x2.i : Int))) = (Value.int .i64 ((↑x2.i : Int))))/\((Value.bool (!(x3.getD 0 == x4.getD 0 && (x3.isSome == x4.isSome && true)))) = (Value.bool (x5.b)))/\True)/\((l) = (l))/\((p) = (p))/\((x2.out) = (x5.out))/\True)))))))/\(∀ x3 : XA9b l p, ((((↑x2.i : Int)) = ((↑x3.i : Int)))->(brS (x3.b) ((K (SV.tup [(TV.at (At.slc 2)), (TV.at (At.val (Value.int .i64 9)))]) [(Chunk.row false (EC.ent) (l)), (Chunk.row false (EC.chg) (p)), (Chunk.row true (EC.ent) [])] [])) (((0<=(↑x2.i : Int))/\((↑x2.i : Int) < (↑p.length : Int))/\(∀ x4 : Option Int, (((x4) = ({ kind := (cA p x2.i).kind, key := (cA p x2.i).key, old := (cA p x2.i).old, new := (cA p x2.i).new : Chg }.after))->(brS (x4.isSome) (((0<=(↑x2.i : Int))/\((↑x2.i : Int) < (↑p.length : Int))/\(x3.out.length<=1000000)/\(∃ x' : XA9 l p, (True/\((True/\True/\True/\((Value.int .i64 (IntKind.i64.wrap ((↑x2.i : Int) + 1))) = (Value.int .i64 ((↑x'.i : Int))))/\True)/\((l) = (l))/\((p) = (p))/\((insE x3.out ((cA p x2.i).key, x4.getD 0)) = (x'.out))/\True)/\(p.length - x'.i < p.length - x2.i))))) (((0<=(↑x2.i : Int))/\((↑x2.i : Int) < (↑p.length : Int))/\(x3.out.length<=1000000)/\(∃ x' : XA9 l p, (True/\((True/\True/\True/\((Value.int .i64 (IntKind.i64.wrap ((↑x2.i : Int) + 1))) = (Value.int .i64 ((↑x'.i : Int))))/\True)/\((l) = (l))/\((p) = (p))/\((outE x3.out (cA p x2.i).key (cA p x2.i).key) = (x'.out))/\True) ∧
    (p.length - x'.i < p.length - x2.i))))))))))))))) ((K (SV.tup [(TV.at (At.slc 2)), (TV.at (At.val (Value.int .i64 0)))]) [(Chunk.row false (EC.ent) (l)), (Chunk.row false (EC.chg) (p)), (Chunk.row true (EC.ent) (x2.out))] []))))))) ((((0 : Int)<=0)/\(0 < (↑p.length : Int))/\(x.out.length<=1000000)/\(∃ x2 : XA9 l p, (True/\(True/\True/\True/\((Value.int .i64 1) = (Value.int .i64 ((↑x2.i : Int))))/\True)/\((l) = (l))/\((p) = (p))/\((outE x.out (p.getD (Int.toNat 0) { kind := 0, key := 0, old := 0, new := 0 : Chg }).key (p.getD (Int.toNat 0) { kind := 0, key := 0, old := 0, new := 0 : Chg }).key) = (x2.out))/\True))/\(∀ x2 : XA9 l p, (True->(brS (decide ((↑x2.i : Int) < (↑p.length : Int))) ((((0<=(↑x2.i : Int))/\((↑x2.i : Int) < (↑p.length : Int))/\(0<=(↑x2.i : Int))/\((↑x2.i : Int) < (↑p.length : Int))/\(∀ x3 : Option Int, (((x3) = (getE l (cA p x2.i).key))->(∀ x4 : Option Int, (((x4) = ({ kind := (cA p x2.i).kind, key := (cA p x2.i).key, old := (cA p x2.i).old, new := (cA p x2.i).new : Chg }.before))->(∃ x5 : XA9b l p, ((((↑x2.i : Int)) = ((↑x5.i : Int)))/\(True/\True/\True/\((Value.int .i64 ((↑x2.i : Int))) = (Value.int .i64 ((↑x2.i : Int))))/\((Value.bool (!(x3.getD 0 == x4.getD 0 && (x3.isSome == x4.isSome && true)))) = (Value.bool (x5.b)))/\True)/\((l) = (l))/\((p) = (p))/\((x2.out) = (x5.out))/\True)))))))/\(∀ x3 : XA9b l p, ((((↑x2.i : Int)) = ((↑x3.i : Int)))->(brS (x3.b)
    ((K (SV.tup [(TV.at (At.slc 2)), (TV.at (At.val (Value.int .i64 9)))]) [(Chunk.row false (EC.ent) (l)), (Chunk.row false (EC.chg) (p)), (Chunk.row true (EC.ent) [])] [])) (((0<=(↑x2.i : Int))/\((↑x2.i : Int) < (↑p.length : Int))/\(∀ x4 : Option Int, (((x4) = ({ kind := (cA p x2.i).kind, key := (cA p x2.i).key, old := (cA p x2.i).old, new := (cA p x2.i).new : Chg }.after))->(brS (x4.isSome) (((0<=(↑x2.i : Int))/\((↑x2.i : Int) < (↑p.length : Int))/\(x3.out.length<=1000000)/\(∃ x' : XA9 l p, (True/\((True/\True/\True/\((Value.int .i64 (IntKind.i64.wrap ((↑x2.i : Int) + 1))) = (Value.int .i64 ((↑x'.i : Int))))/\True)/\((l) = (l))/\((p) = (p))/\((insE x3.out ((cA p x2.i).key, x4.getD 0)) = (x'.out))/\True)/\(p.length - x'.i < p.length - x2.i))))) (((0<=(↑x2.i : Int))/\((↑x2.i : Int) < (↑p.length : Int))/\(x3.out.length<=1000000)/\(∃ x' : XA9 l p, (True/\((True/\True/\True/\((Value.int .i64 (IntKind.i64.wrap ((↑x2.i : Int) + 1))) = (Value.int .i64 ((↑x'.i : Int))))/\True)/\((l) = (l))/\((p) = (p))/\((outE x3.out (cA p x2.i).key (cA p x2.i).key) = (x'.out))/\True)/\(p.length - x'.i < p.length - x2.i))))))))))))))) ((K (SV.tup [(TV.at (At.slc 2)), (TV.at (At.val (Value.int .i64 0)))]) [(Chunk.row false (EC.ent) (l)), (Chunk.row false (EC.chg) (p)), (Chunk.row true (EC.ent) (x2.out))] [])))))))))))))))))
    ((K (SV.tup [(TV.at (At.slc 2)), (TV.at (At.val (Value.int .i64 0)))]) [(Chunk.row false (EC.ent) (l)), (Chunk.row false (EC.chg) (p)), (Chunk.row false (EC.ent) (l))] []))))))) = _ by kernel_rfl) ?_
  refine brS_of (fun c1 => h [] 1 (by simp at c1; simp [app19R, c1])) fun c1 => brS_of (fun c2 => h [] 1 (by simp at c2; simp [app19R, c2])) fun c2 => brS_of (fun _ => ?_) fun e => absurd (of_decide_eq_false e) (by omega)
  have bad : fitB l p = false ->K (.tup [.at (.slc 2), .at (vI 9)]) [.row false EC.ent l, .row false EC.chg p, .row true EC.ent []] [] := fun hf => h [] 9 (by simp at c1 c2; simp [app19R, c1, c2, hf])
  have good : ∀ z, z = p.foldl ap1 l ->fitB l p = true ->K (.tup [.at (.slc 2), .at (vI 0)]) [.row false EC.ent l, .row false EC.chg p, .row true EC.ent z] [] := fun z hz hf => h z 0 (by simp at c1 c2; simp [app19R, c1, c2, hf, hz])
  refine ⟨⟨by decide, by omega, by decide, by omega, fun x hx x1 hx1 => ⟨⟨⟨0, l, Nat.zero_le _, Nat.le_refl _, rfl, rfl⟩, _, rfl⟩, rfl, ⟨trivial, trivial, trivial, rfl, ?_, trivial⟩, rfl, rfl, rfl, trivial⟩⟩, fun x rx => brS_of (fun eb => ?_) fun eb => ⟨by decide, by omega, fun x1 hx1 => brS_of (fun e1 => ⟨by decide, by omega, ?_, ⟨⟨1, ap1 x.out (cA p 0), ?_⟩, trivial, ⟨trivial, trivial, trivial, rfl, trivial⟩, rfl, rfl, ?_, trivial⟩, ?lp1⟩) fun e1 => ⟨by decide, by omega, ?_, ⟨⟨1, ap1 x.out (cA p 0), ?_⟩, trivial, ⟨trivial, trivial, trivial, rfl, trivial⟩, rfl, rfl, ?_, trivial⟩, ?lp2⟩⟩⟩
  case lp1 | lp2 =>
    refine fun y _ => brS_of (fun hi => ?_) fun hi => ?_
    · have hi : y.i < p.length := by simpa using hi
      refine ⟨⟨by omega, by omega, by omega, by omega, fun x hx x1 hx1 => ⟨⟨y, _, rfl⟩, rfl, ⟨trivial, trivial, trivial, rfl, ?_, trivial⟩, rfl, rfl, rfl, trivial⟩⟩, fun x rx => brS_of (fun eb => ?_) fun eb => ⟨by omega, by omega, fun x1 hx1 => brS_of (fun e1 => ⟨by omega, by omega, ?_, ⟨⟨y.i + 1, ap1 x.out (cA p y.i), ?_⟩, trivial, ⟨⟨trivial, trivial, trivial, ?_, trivial⟩, rfl, rfl, ?_, trivial⟩, ?_⟩⟩) fun e1 => ⟨by omega, by omega, ?_, ⟨⟨y.i + 1, ap1 x.out (cA p y.i), ?_⟩, trivial, ⟨⟨trivial, trivial, trivial, ?_, trivial⟩, rfl, rfl, ?_, trivial⟩, ?_⟩⟩⟩⟩
      all_goals try have rx : x.i = y.i := by omega
      all_goals try have hbb := x.hb
      all_goals try rw [rx, eb] at hbb
      all_goals try have hxo := x.h.2.1
      all_goals try (have nx := x.toXA9.next (by omega) (by rw [rx]; simpa using hbb); rw [rx] at nx)
      · subst hx hx1; rw [opt_eqB]
      · exact bad (fit_not hi (by simpa using hbb))
      · omega
      · exact nx
      · rw [wrap_next hi (by omega)]
      · have hv : (cA p y.i).after = some (x1.getD 0) := by
          obtain ⟨v, hv⟩ := Option.isSome_iff_exists.1 e1
          rw [hv]; exact hx1.symm.trans hv
        exact ap1_some hv
      · show p.length - (y.i + 1) < _; omega
      · omega
      · exact nx
      · rw [wrap_next hi (by omega)]
      · have hv : (cA p y.i).after = none := hx1.symm.trans (isN e1)
        exact ap1_none hv
      · show p.length - (y.i + 1) < _; omega
    · have hi : y.i = p.length := by have := y.h.1; simp at hi; omega
      obtain ⟨g1, g2, g3, g4⟩ := y.h
      rw [hi, List.take_length] at g3 g4
      exact good y.out g4 g3
  all_goals try have rx : x.i = 0 := by omega
  all_goals try have hbb := x.hb
  all_goals try rw [rx, eb] at hbb
  all_goals try have hxo := x.h.2.1
  all_goals try (have nx := x.toXA9.next (by omega) (by rw [rx]; simpa using hbb); rw [rx] at nx)
  · subst hx hx1; rw [opt_eqB]; rfl
  · exact bad (fit_not hp (by simpa using hbb))
  · omega
  · exact nx
  · have hv : (cA p 0).after = some (x1.getD 0) := by
      obtain ⟨v, hv⟩ := Option.isSome_iff_exists.1 e1
      rw [hv]; exact hx1.symm.trans hv
    exact ap1_some hv
  · omega
  · exact nx
  · have hv : (cA p 0).after = none := hx1.symm.trans (isN e1)
    exact ap1_none hv
theorem s_app19 : SoundT C0 10 tApp19 := by
  refine .of Tryz.func10 (by decide) rfl fun args H K h hB => ?_
  unfold tApp19 at h
  split at h <;> try exact h.elim
  rename_i l p
  obtain ⟨h1, h2, h3⟩ := h
  match p, h1, h2, h3 with
  | [], h1, h2, h3 => exact ⟨aAppN l, ⟨frame C0.ok s_asc9 _, frame C0.ok s_valid19 _, frame C0.ok s_get19 _, frame C0.ok s_before19 _, frame C0.ok s_after19 _, frame C0.ok s_ins _, frame C0.ok s_del _, trivial⟩, vc_appN l K h2 (h3 rfl)⟩
  | c :: t, h1, h2, h3 => exact ⟨aApp19 l (c :: t), ⟨frame C0.ok s_asc9 _, frame C0.ok s_valid19 _, frame C0.ok s_get19 _, frame C0.ok s_before19 _, frame C0.ok s_after19 _, frame C0.ok s_ins _, frame C0.ok s_del _, trivial⟩, vc_app19 l (c :: t) K h1 (Nat.zero_lt_succ _) h2⟩
end Go.Proofs.YtmjnoiajenoinaaGreat.Sx.P19
end
