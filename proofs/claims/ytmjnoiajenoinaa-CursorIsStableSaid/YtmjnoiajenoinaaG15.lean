/- A part of the proof. -/
import Derived.Test.YtmjnoiajenoinaaG14
import Derived.Test.YtmjnoiajenoinaaG12
import Derived.Test.YtmjnoiajenoinaaG13
import Derived.Test.YtmjnoiajenoinaaG6
import Derived.Test.YtmjnoiajenoinaaG10
import Derived.Test.YtmjnoiajenoinaaProg
import Derived.Test.YtmjnoiajenoinaaChecked
import Derived.WalkKit
import Derived.ProofKit
import Derived.OpenShut
import Derived.SizedLaws
import Derived.Carry
import Derived.Test.YtmjnoiajenoinaaG4
import Derived.Deep.Slices
import Derived.Lib.SmallJoins
import Derived.Deep.Strs
import Derived.Test.YtmjnoiajenoinaaRows
section
/- The law that Delete deletes. -/
namespace Go.Proofs.Ytmjnoiajenoinaa.Sx
open Go

/-KEEP Wf exW inU live Arn.cap Arn.free Rep rdS retL Tr.size Tr.list slotsOf orderOf PlantR newS insE outE listE getE TrR upM Hn keptD Asc Tr.Bal ht dB RepD List.Perm-/
structure XUe (P : Arn → Int → List Ent → Int → Prop) where
  S : Arn
  i : Int
  l : List Ent
  need : Int
  k : Int
  h : P S i l need
structure UdS where
  S0 : Arn
  S : Arn
  root : Int
  l : List Ent
  need : Int
  k : Int
  v : Int
  is : Bool
  d : List SlotT
  o : List Int
  r : Int
  i : Int
  w : Int
  f : Int
structure XUd (P : UdS → Prop) where
  z : UdS
  h : P z
structure XUw (P : UdS → Int → Prop) where
  z : UdS
  want : Int
  h : P z want
abbrev chUd (raw : List Ent) (z : UdS) : List (Chunk C0) := [.row false EC.ent raw] ++ chSk 1 z.S ++ [.row true EC.ent z.l, .box [.slc 10, .slc 11], .row true EC.slot z.d, .row true EC.u32 z.o]
def tUd : Tfm C0 := fun args H K => match args, H with
  | [.at (.slc 0), .at (.val (.int .u64 t)), .at (.val (.int .i64 _)), .at (.val (.int .i64 at')), .at (.val (.int .u16 f))], [.row false .ent raw] => 0 ≤ t ∧ -9223372036854775808 ≤ at' ∧ at' ≤ 9223372036854775807 ∧ 0 ≤ f ∧ f ≤ 65535 ∧ K (.one (.at (vB true))) [.row false EC.ent raw] []
  | _, _ => False
theorem outE_flt (l : List Ent) (k : Int) : outE l k k = flt (neK k) l := by
  unfold outE flt neK
  congr 1
  funext x
  by_cases h : x.1 = k
  · simp [h]
  · rw [decide_eq_true (show x.1 ≠ k from h)]
    simp; omega
def PUe (S : Arn) (i : Int) (l : List Ent) (need : Int) : Prop := ∃ t, upM S [i] t i ∧ t.list = l ∧ t.size = l.length ∧ l.length ≤ 150 ∧ need = 4 * (Hn (l.length : Int) + 2) ∧ S.reads = 0
/-- What Delete comes to. -/
def PUd (z : UdS) : Prop := ∃ t, upM z.S0 [z.root] t z.root ∧ t.list = z.l ∧ t.size = z.l.length ∧ z.l.length ≤ 150 ∧ z.need = 4 * (Hn (z.l.length : Int) + 2) ∧ z.r = 0 ∧ z.d = slotsOf z.S0 ∧ z.o = orderOf z.S0 ∧ 0 ≤ z.S.reads ∧ z.S.reads ≤ 60 * (Hn ((z.l.length : Int) + 1) + 2) ∧ z.v = (getE z.l z.k).getD 0 ∧ z.is = (getE z.l z.k).isSome ∧
  ((getE z.l z.k = none ∧ z.f = 4 ∧ z.i = 0 ∧ z.w = 0 ∧ ∃ m, z.S = rdS z.S0 m) ∨
   ((getE z.l z.k).isSome = true ∧ z.S0.free < z.need ∧ z.f = 2 ∧ z.i = 0 ∧ z.w = 0 ∧ ∃ m, z.S = rdS z.S0 m) ∨
   ((getE z.l z.k).isSome = true ∧ z.need ≤ z.S0.free ∧ z.f = 0 ∧ z.w = z.v ∧ ∃ (m r : Nat), (m : Int) ≤ z.need ∧ TrR z.S0 [z.root] (flt (neK z.k) z.l) m r z.S z.i))
def PUw (z : UdS) (want : Int) : Prop := PUd z ∧ want = z.f
end Go.Proofs.Ytmjnoiajenoinaa.Sx
end
section
/- update.Increase, and the laws that updates increase, commute and share. -/
namespace Go.Proofs.Ytmjnoiajenoinaa.Sx
open Go

/-KEEP Wf exW inU live Arn.cap Arn.free Rep rdS retL Tr.size Tr.list slotsOf orderOf PlantR newS insE outE listE getE TrR upM Hn keptD Asc Tr.Bal ht dB iB RepD List.Perm flt neK-/
noncomputable def aInc : Ann C0 := { Γ := [(69, frameT [] tGetT), (32, frameT [] tUpIn)] }
def tInc : Tfm C0 := fun args H K => match args with
  | [.at (.ptr 0 0), .at (.val (.int .u32 r)), .at (.val (.int .i64 k)), .at (.val (.int .i64 n))] => arM H fun S => ∃ hs t, upM S hs t r ∧ S.reads ≤ 900000000000000000 ∧ 4 * (Hn (t.size + 1) + 2) ≤ S.free ∧
    ∀ S' j w, w = IntKind.i64.wrap ((getE t.list k).getD 0 + n) → TrR S hs (insE t.list (k, w)) (iB t.size) (5 * iB t.size + 2 * ht t + 1) S' j → K (.tup [.at (vU j), .at (vI w), .at (vI 0)]) (chS S') W7
  | _ => False
structure XUc (P : Arn → Int → List Ent → Prop) where
  S : Arn
  i : Int
  l : List Ent
  k : Int
  h : P S i l
def tUc : Tfm C0 := fun args H K => match args, H with
  | [.at (.slc 0), .at (.val (.int .u64 t)), .at (.val (.int .i64 _)), .at (.val (.int .i64 n)), .at (.val (.int .i64 at'))], [.row false .ent raw] => 0 ≤ t ∧ (-9223372036854775808 ≤ n ∧ n ≤ 9223372036854775807) ∧ (-9223372036854775808 ≤ at' ∧ at' ≤ 9223372036854775807) ∧ (∀ x ∈ raw, -9223372036854775808 ≤ x.2 ∧ x.2 ≤ 9223372036854775807) ∧ K (.one (.at (vB true))) [.row false EC.ent raw] []
  | _, _ => False
/-! ### The law that Increase increases -/
theorem Hn_le {n m : Nat} (h : n ≤ m) : Hn n ≤ Hn m := by
  have a := gN_size n
  have b := gN_size m
  have c := gN_mono (v := n + 1) (w := m + 1) (by omega) (by omega)
  omega
theorem gN_top {w v g : Nat} (h8 : v ≤ w) (hg : g < 80) (hw : (w : Int) < wt (g + 1)) : gN v ≤ g := by
  by_cases c : gN v ≤ g
  · exact c
  · by_cases z : 1 ≤ v
    · have h1 := gN_wt z
      have h2 := wt_mono (show g + 1 ≤ gN v by omega) (gN_rng v)
      omega
    · have : v = 0 := by omega
      subst this
      exact absurd (show gN 0 ≤ g by have : gN 0 = 0 := by decide
                                     omega) c
theorem Hn_104 {n : Nat} (h : n ≤ 112) : Hn n ≤ 13 := by
  have a := gN_size n
  have b := gN_top (w := 113) (v := n + 1) (g := 13) (by omega) (by omega) (by have : wt (13 + 1) = 115 := by decide
                                                                               omega)
  omega
def PUc (S : Arn) (i : Int) (l : List Ent) : Prop := ∃ t, upM S [i] t i ∧ t.list = l ∧ t.size = l.length ∧ l.length ≤ 100 ∧ S.free = 200 ∧ S.reads = 0 ∧ ∀ x ∈ l, -9223372036854775808 ≤ x.2 ∧ x.2 ≤ 9223372036854775807
end Go.Proofs.Ytmjnoiajenoinaa.Sx
end
section
/- Edits: what stays in range. No program in sight. -/
namespace Go.Proofs.Ytmjnoiajenoinaa.Sx
open Go

theorem kin_ins {l : List Ent} {e : Ent} (ha : Asc l) (h : Kin l) (he : -9223372036854775808 ≤ e.1 ∧ e.1 ≤ 9223372036854775807) : Kin (insE l e) := fun x hx => by
  rcases insE_mem ha hx with rfl | c
  · exact he
  · exact h x c
theorem kin_flt {p : Int → Bool} {l : List Ent} (h : Kin l) : Kin (flt p l) := fun x hx => h x (flt_mem hx)
theorem numsB {t : Tr} (h : t.size ≤ 110) (bal : t.Bal) : 5 * iB t.size + ht t + 1 ≤ 300 ∧ 5 * dB t.size + ht t + 1 ≤ 300 ∧ (iB t.size : Int) = 4 * Hn t.size + 1 ∧ (dB t.size : Int) ≤ 4 * Hn t.size + 4 := by
  have a := iB_Hn t.size
  have b := dB_Hn t.size
  have c := Bal.height bal (by omega)
  have d := Hn_104 (n := t.size) (by omega)
  omega
def KinD (l : List EdtT) : Prop := ∀ e ∈ l, -9223372036854775808 ≤ e.ent.1 ∧ e.ent.1 ≤ 9223372036854775807
end Go.Proofs.Ytmjnoiajenoinaa.Sx
end
section
/- Building and listing trees where there is room. -/
namespace Go.Proofs.Ytmjnoiajenoinaa.Sx
open Go

/-- Where there is room, an ascending list becomes a tree. -/
def tBuildOk : Tfm C0 := fun args H K => match args with
  | [.at (.ptr 0 0), .at (.slc 7)] => arMr H fun S rest => match rest with
    | [.row false .ent l] => ∃ hs, Wf S hs ∧ Asc l ∧ l.length ≤ 60000 ∧ hs.length ≤ 900000 ∧ (l.length : Int) ≤ S.free ∧ S.reads ≤ 900000000000000000 ∧ ∀ S' i, TrR S hs l 65537 0 S' i → K (.tup [.at (vU i), .at (vI 0)]) (chS S' ++ [.row false EC.ent l]) W7
    | _ => False
  | _ => False
def tLsOk : Tfm C0 := fun args H K => match args with
  | [.at (.ptr 0 0), .at (.val (.int .u32 i))] => arM H fun S => ∃ hs t, Wf S hs ∧ Rep S t i ∧ Asc t.list ∧ Kin t.list ∧ t.size ≤ 60000 ∧ S.reads ≤ 1000000000000000000 ∧
    ∀ S' m (out : List Ent), S' = rdS S m → m ≤ t.size → out = t.list → K (.one (.at (.slc 7))) (chS S' ++ [.row true EC.ent out]) [0]
  | _ => False
theorem cap_new (c : Nat) : (newS c).cap = c := by unfold Arn.cap newS; simp
theorem Hld.new {c : Nat} (h1 : 1 ≤ c) (h2 : c ≤ 65536) : Hld (newS c) [] := ⟨Wf.new h1 h2, fun _ h => (by cases h), fun _ h => (by cases h), fun _ h => (by cases h)⟩
end Go.Proofs.Ytmjnoiajenoinaa.Sx
end
section
/- The law CursorIsStable. -/
namespace Go.Proofs.Ytmjnoiajenoinaa.Sx
open Go

/-KEEP Wf exW inU live Arn.cap Arn.free Rep rdS Tr.size Tr.list PlantR betE listE newS opS relC keepC Kept List.Perm Asc Kin upM UpdR TrR Hn iB dB ht insE outE neK flt getE slotsOf orderOf RepD nextC L20 W20 Tr.Bal-/
def eU (l : List EduT) (n : Nat) : EduT := l.getD n ⟨false, (0, 0)⟩
structure XCt (P : Arn → Cur → Int → Nat → Int → List Ent → Prop) where
  S : Arn
  c : Cur
  k : Int
  j : Nat
  nw : Int
  l : List Ent
  h : P S c k j nw l
structure XCv (P : Arn → Cur → Int → Nat → Int → List Ent → Int → Int → List Ent → Prop) where
  S : Arn
  c : Cur
  k : Int
  j : Nat
  nw : Int
  l : List Ent
  t : Int
  f : Int
  q : List Ent
  h : P S c k j nw l t f q
abbrev hdS (raw : List Ent) (ml : List MoveT) (ed : List EduT) (c : Cur) (S : Arn) (k : Int) : List (Chunk C0) := [.row false EC.ent raw, .row false EC.move ml, .row false EC.edc ed, .row false EC.ent (L20 raw), bxC 5 c] ++ chSk 5 S ++ [.row false EC.ent (W20 raw), .box [.slc 12, vI k, vB false]]
noncomputable def aSt (P1 P3 P4 P5 : Arn → Cur → Int → Nat → Int → List Ent → Prop) (P2 : Arn → Cur → Int → Nat → Int → List Ent → Int → Int → List Ent → Prop) (raw : List Ent) (ml : List MoveT) (ed : List EduT) : Ann C0 := { Γ := [(36, frameT [] tLst), (37, frameT [] tGrow), (38, frameT [] (tRes1 4 1)), (39, frameT [] tAwake24), (40, frameT [] tOpenL), (27, frameT [] tSound), (41, frameT [] tO24), (44, frameT [] tMv), (14, frameT [] tRelease), (43, frameT [] tCu_close), (42, frameT [] tCu_next), (29, frameT [] tUpDx), (32, frameT [] tUpIn), (33, frameT [] tIns), (30, frameT [] tDel), (21, frameT [] tDump), (34, frameT [] tTr7)], inv := fun n => match n with
  | 12 => some { X := XCt P1, sl := [9, 11, 12, 14, 16, 17, 18, 19], cp := [17], tf := fun x => [.one (.at (.slc 3)), .one (.at (.ptr 5 0)), vi .u32 x.c.root, .one (.at (.ptr 4 0)), .one (.at (.ptr 13 0)), .one (.at (.slc 14)), vi .u32 x.nw, vi .i64 x.j], hf := fun x => hdS raw ml ed x.c x.S x.k ++ [.row false EC.ent x.l], μ := fun x => 40 - x.j }
  | 1021 => some { X := XCv P2, sl := [9, 11, 12, 14, 16, 17, 18, 19, 20, 21, 22], tf := fun x => [.one (.at (.slc 3)), .one (.at (.ptr 5 0)), vi .u32 x.c.root, .one (.at (.ptr 4 0)), .one (.at (.ptr 13 0)), .one (.at (.slc 14)), vi .u32 x.nw, vi .i64 x.j, vi .u32 x.t, vi .i64 x.f, .one (.at (.slc 15))], hf := fun x => hdS raw ml ed x.c x.S x.k ++ [.row false EC.ent x.l, .row true EC.ent x.q], rel := fun T _ x => slotI T 19 x.j }
  | 1026 => some { X := XCt P3, sl := [9, 11, 12, 14, 16, 17, 18, 19], cp := [17], tf := fun x => [.one (.at (.slc 3)), .one (.at (.ptr 5 0)), vi .u32 x.c.root, .one (.at (.ptr 4 0)), .one (.at (.ptr 13 0)), .one (.at (.slc 14)), vi .u32 x.nw, vi .i64 x.j], hf := fun x => hdS raw ml ed x.c x.S x.k ++ [.row false EC.ent x.l], rel := fun T _ x => slotI T 19 x.j }
  | 1030 => some { X := XCt P4, sl := [9, 11, 12, 14, 16, 17, 18, 19], cp := [17], tf := fun x => [.one (.at (.slc 3)), .one (.at (.ptr 5 0)), vi .u32 x.c.root, .one (.at (.ptr 4 0)), .one (.at (.ptr 13 0)), .one (.at (.slc 14)), vi .u32 x.nw, vi .i64 x.j], hf := fun x => hdS raw ml ed x.c x.S x.k ++ [.row false EC.ent x.l], rel := fun T _ x => slotI T 19 x.j }
  | 1031 => some { X := XCt P5, sl := [9, 11, 12, 14, 16, 17, 18, 19, 25, 26], tf := fun x => [.one (.at (.slc 3)), .one (.at (.ptr 5 0)), vi .u32 x.c.root, .one (.at (.ptr 4 0)), .one (.at (.ptr 13 0)), .one (.at (.slc 14)), vi .u32 x.nw, vi .i64 x.j, .one (.at (.ptr 15 0)), vb true], hf := fun x => [.row false EC.ent raw, .row false EC.move ml, .row false EC.edc ed, .row false EC.ent (L20 raw), bxC 5 x.c] ++ chSk 5 x.S ++ [.row false EC.ent (W20 raw), .box [.any, .any, .any], .row false EC.ent x.l, .box [.slc 12, vI x.k, vB false]], rel := fun T _ x => slotI T 19 x.j }
  | _ => none }
def tSt : Tfm C0 := fun args H K => match args, H with
  | [.at (.slc 0), .at (.val (.int .u64 t)), .at (.slc 1), .at (.slc 2)], [.row false .ent raw, .row false .move ml, .row false .edc ed] => 0 ≤ t ∧ Kin raw ∧ (∀ x ∈ ed, -9223372036854775808 ≤ x.ent.1 ∧ x.ent.1 ≤ 9223372036854775807) ∧ K (.one (.at (vB true))) [.row false EC.ent raw, .row false EC.move ml, .row false EC.edc ed] []
  | _, _ => False
structure CsJ (raw : List Ent) (n I : Nat) (R : Int) (m : Nat) (S : Arn) (c : Cur) (k : Int) (l : List Ent) : Prop where
  cl : c.closed = false
  lo : c.lo = -9223372036854775808
  hi : c.hi = 9223372036854775807
  rl : relC (W20 raw) c k
  rd0 : 0 ≤ S.reads
  rd : S.reads ≤ R
  len : l.length ≤ (L20 raw).length + m
  cap : S.cap = 2 * (L20 raw).length + n + 2 * I
def CsI (raw : List Ent) (n I : Nat) (R : Int) (m : Nat) (S : Arn) (c : Cur) (k : Int) (nw : Int) (l : List Ent) : Prop := Hld S [(nw, l), (c.root, L20 raw)] ∧ CsJ raw n I R m S c k l
def PC1 (raw : List Ent) (n I : Nat) : Arn → Cur → Int → Nat → Int → List Ent → Prop := fun S c k j nw l => j ≤ 40 ∧ CsI raw n I (10000 * (j + 1)) (min j n) S c k nw l
def PC3 (raw : List Ent) (n I : Nat) : Arn → Cur → Int → Nat → Int → List Ent → Prop := fun S c k j nw l => (j < 40 ∧ j < n) ∧ CsI raw n I (10000 * (j + 1) + 4000) (j + 1) S c k nw l
def PC4 (raw : List Ent) (n I : Nat) : Arn → Cur → Int → Nat → Int → List Ent → Prop := fun S c k j nw l => j < 40 ∧ CsI raw n I (10000 * (j + 1) + 6000) (min (j + 1) n) S c k nw l
def PC5 (raw : List Ent) (n I : Nat) : Arn → Cur → Int → Nat → Int → List Ent → Prop := fun S c k j nw l => j < 40 ∧ CsI raw n I (10000 * (j + 1) + 7000) (min (j + 1) n) S c k nw l
def PC2 (raw : List Ent) (n I : Nat) : Arn → Cur → Int → Nat → Int → List Ent → Int → Int → List Ent → Prop := fun S c k j nw l t f q => (j < 40 ∧ j < n) ∧ CsJ raw n I (10000 * (j + 1) + 3000) j S c k l ∧
  ((f = 0 ∧ Hld S [(t, q), (nw, l), (c.root, L20 raw)] ∧ q.length ≤ l.length + 1) ∨ (f = 4 ∧ Hld S [(nw, l), (c.root, L20 raw)]))
theorem opS_hld {S : Arn} {E : List (Int × List Ent)} {x : Int} {l : List Ent} (h : Hld S E) (hx : (x, l) ∈ E) (hE : E.length ≤ 1000) : Hld (opS S x) ((x, l) :: E) := by
  obtain ⟨t, rp, lt, bt⟩ := h.rep _ hx
  have hv := rp.us
  refine ⟨?_, fun p hp => ?_, fun p hp => ?_, fun p hp => ?_⟩
  · show Wf (opS S x) (x :: E.map Prod.fst)
    unfold opS
    rcases hv with e | e
    · have e : x = 0 := e
      subst e
      rw [h.wf.us0 (Int.le_refl 0), if_neg (by decide)]
      exact h.wf.zero_cons (by simp; omega)
    · have e : S.us x = true := e
      rw [if_pos e]
      exact h.wf.ret e (by simp; omega)
  · rcases List.mem_cons.1 hp with rfl | hp
    · exact ⟨t, opS_rep rp _, lt, bt⟩
    · obtain ⟨u, ru, lu, bu⟩ := h.rep p hp
      exact ⟨u, opS_rep ru _, lu, bu⟩
  · rcases List.mem_cons.1 hp with rfl | hp
    · exact h.asc _ hx
    · exact h.asc p hp
  · rcases List.mem_cons.1 hp with rfl | hp
    · exact h.kin _ hx
    · exact h.kin p hp
theorem opS_cap (S : Arn) (i : Int) : (opS S i).cap = S.cap := by unfold opS; split <;> rfl
theorem Hld.up {S : Arn} {E : List (Int × List Ent)} {x : Int} {l : List Ent} (h : Hld S E) (hx : (x, l) ∈ E) (hl : l.length ≤ 60000) (hE : E.length ≤ 1000) (hr : S.reads ≤ 1000000000000000000) : ∃ t, upM S (E.map Prod.fst) t x ∧ t.list = l ∧ t.size = l.length ∧ t.Bal := by
  obtain ⟨t, rp, lt, bt⟩ := h.rep _ hx
  have lt : t.list = l := lt
  have sz : t.size = l.length := by rw [← t.list_len, lt]
  exact ⟨t, ⟨h.wf, rp, bt, by rw [lt]; exact h.asc _ hx, by omega, by simp; omega, hr⟩, lt, sz, bt⟩
theorem min40 (m : Nat) : (if 40 < (m : Int) then 40 else (m : Int)) = ((min m 40 : Nat) : Int) := by split <;> omega
theorem eU_mem {l : List EduT} {n : Nat} (h : n < l.length) : eU l n ∈ l := by
  unfold eU
  rw [List.getD_eq_getElem?_getD, List.getElem?_eq_getElem h]
  exact List.getElem_mem _
theorem vc_st (raw : List Ent) (ml : List MoveT) (ed : List EduT) (t : Int) (K : KT) (h0 : 0 ≤ t) (hk : Kin raw) (he : ∀ x ∈ ed, -9223372036854775808 ≤ x.ent.1 ∧ x.ent.1 ≤ 9223372036854775807) (h : K (.one (.at (vB true))) [.row false EC.ent raw, .row false EC.move ml, .row false EC.edc ed] []) :
    ∃ I, vc C0 (aSt (PC1 raw (min ed.length 40) I) (PC3 raw (min ed.length 40) I) (PC4 raw (min ed.length 40) I) (PC5 raw (min ed.length 40) I) (PC2 raw (min ed.length 40) I) raw ml ed) Try.f7 [.at (.slc 0), .at (vU64 t), .at (.slc 1), .at (.slc 2)] [.row false EC.ent raw, .row false EC.move ml, .row false EC.edc ed] (normK 3 K) := by
  have n40 : min ed.length 40 ≤ 40 := Nat.min_le_right _ _
  have nle : min ed.length 40 ≤ ed.length := Nat.min_le_left _ _
  obtain ⟨la, ll⟩ := listE_spec raw 60
  have kB : Kin (L20 raw) := fun x hx => hk x (listE_sub raw 60 x hx)
  have h13 := Hn_104 (n := (L20 raw).length + min ed.length 40 + 1) (by show (listE raw 60).length + _ + 1 ≤ 112; omega)
  have hr := Hn_rng (((L20 raw).length + min ed.length 40 + 1 : Nat) : Int)
  obtain ⟨I, hI⟩ : ∃ I : Nat, (I : Int) = 4 * (Hn (((L20 raw).length + min ed.length 40 + 1 : Nat) : Int) + 2) := ⟨(4 * (Hn (((L20 raw).length + min ed.length 40 + 1 : Nat) : Int) + 2)).toNat, by omega⟩
  refine ⟨I, ?_⟩
  generalize hP1 : PC1 raw (min ed.length 40) I = P1
  generalize hP2 : PC2 raw (min ed.length 40) I = P2
  generalize hP3 : PC3 raw (min ed.length 40) I = P3
  generalize hP4 : PC4 raw (min ed.length 40) I = P4
  generalize hP5 : PC5 raw (min ed.length 40) I = P5
  refine Eq.mp (show (((0 : Int) ≤ 60) ∧
((60 : Int) ≤ 1000000) ∧
(0 ≤ IntKind.i64.wrap ((↑(listE raw (Int.toNat 60)).length : Int) + if 40 < (↑ed.length : Int) then 40 else (↑ed.length : Int))) ∧
(IntKind.i64.wrap ((↑(listE raw (Int.toNat 60)).length : Int) + if 40 < (↑ed.length : Int) then 40 else (↑ed.length : Int)) ≤ 65536) ∧
(∀ p : Int, (((p) = (4 * (Hn (IntKind.i64.wrap ((↑(listE raw (Int.toNat 60)).length : Int) + if 40 < (↑ed.length : Int) then 40 else (↑ed.length : Int)) + 1) + 2))) → ((0 ≤ t) ∧ (1 ≤ IntKind.i64.wrap (IntKind.i64.wrap (IntKind.i64.wrap (2 * p) + (↑(listE raw (Int.toNat 60)).length : Int)) + if 40 < (↑ed.length : Int) then 40 else (↑ed.length : Int))) ∧ (IntKind.i64.wrap (IntKind.i64.wrap (IntKind.i64.wrap (2 * p) + (↑(listE raw (Int.toNat 60)).length : Int)) + if 40 < (↑ed.length : Int) then 40 else (↑ed.length : Int)) ≤ 30000) ∧ ((listE raw (Int.toNat 60)).length ≤ 30000) ∧ (∀ S' : Arn, (∀ i : Int, ((PlantR (newS ((↑(listE raw (Int.toNat 60)).length : Int) + IntKind.i64.wrap (IntKind.i64.wrap (IntKind.i64.wrap (2 * p) + (↑(listE raw (Int.toNat 60)).length : Int)) + if 40 < (↑ed.length : Int) then 40 else (↑ed.length : Int))).toNat) [] (listE raw (Int.toNat 60)) S' i) → ((exW S') ∧ (live S' i) ∧ (∀ S'1 : Arn, (((S'1) = (opS S' i)) → (((listE raw (Int.toNat 60)).length ≤ 1000000) ∧ (∀ W : List Ent, (((W) = (betE (listE raw (Int.toNat 60)) (-9223372036854775808) 9223372036854775807)) → ((∃ x : XCt P1, (True ∧ (True ∧ True ∧ True ∧
    ((Value.int IntKind.i64 (if 40 < (↑ed.length : Int) then 40 else (↑ed.length : Int))) = (Value.int IntKind.i64 (if 40 < (↑ed.length : Int) then 40 else (↑ed.length : Int)))) ∧ True ∧ ((Value.int IntKind.u32 (i)) = (Value.int IntKind.u32 (x.c.root))) ∧ True ∧ True ∧ True ∧ ((Value.int IntKind.u32 (i)) = (Value.int IntKind.u32 (x.nw))) ∧ ((Value.int IntKind.i64 0) = (Value.int IntKind.i64 ((↑x.j : Int)))) ∧ True) ∧ ((raw) = (raw)) ∧ ((ml) = (ml)) ∧ ((ed) = (ed)) ∧ ((listE raw (Int.toNat 60)) = (L20 raw)) ∧ (True ∧ ((Value.int IntKind.u32 (i)) = (Value.int IntKind.u32 (x.c.root))) ∧ ((Value.int IntKind.i64 (-9223372036854775808)) = (Value.int IntKind.i64 (x.c.lo))) ∧ ((Value.int IntKind.i64 9223372036854775807) = (Value.int IntKind.i64 (x.c.hi))) ∧ ((Value.int IntKind.i64 0) = (Value.int IntKind.i64 (x.c.place))) ∧ ((Value.int IntKind.i64 0) = (Value.int IntKind.i64 (x.c.ek))) ∧ ((Value.int IntKind.i64 0) = (Value.int IntKind.i64 (x.c.ev))) ∧ ((Value.bool false) = (Value.bool (x.c.closed))) ∧ True) ∧ (True ∧ True ∧ True ∧ ((Value.int IntKind.u64 (S'1.reads)) = (Value.int IntKind.u64 (x.S.reads))) ∧ True) ∧ (True ∧ True ∧ True ∧ ((Value.int IntKind.u32 (S'1.fresh)) = (Value.int IntKind.u32 (x.S.fresh))) ∧ True) ∧ ((S'1.nodes) = (x.S.nodes)) ∧ ((S'1.counts) = (x.S.counts)) ∧ ((S'1.used) = (x.S.used)) ∧ ((S'1.gen) = (x.S.gen)) ∧ ((S'1.rel) = (x.S.rel)) ∧ ((W) = (W20 raw)) ∧ (True ∧ ((Value.int IntKind.i64 0) = (Value.int IntKind.i64 (x.k))) ∧
    ((Value.bool false) = (Value.bool false)) ∧ True) ∧ ((listE raw (Int.toNat 60)) = (x.l)) ∧ True)) ∧ (∀ x : XCt P1, (True → (brS (decide ((↑x.j : Int) < (↑ml.length : Int))) ((brS (decide ((↑x.j : Int) < 40)) (((brS (decide ((↑x.j : Int) < if 40 < (↑ed.length : Int) then 40 else (↑ed.length : Int))) (((0 ≤ (↑x.j : Int)) ∧ ((↑x.j : Int) < (↑ed.length : Int)) ∧ (x.l.length ≤ 1000000) ∧ ((0 ≤ (↑x.j : Int)) ∧ ((↑x.j : Int) < (↑ed.length : Int)) ∧ (brS ((eU ed x.j).del) (((0 ≤ (↑x.j : Int)) ∧ ((↑x.j : Int) < (↑ed.length : Int)) ∧ (∃ hs : List Int, (∃ t1 : Tr, ((upM x.S hs t1 x.nw) ∧ (4 * (Hn (↑t1.size : Int) + 2) ≤ x.S.free) ∧ (∀ S'2 : Arn, (∀ j : Int, (∀ v : Int, (∀ f : Int, ((UpdR x.S hs t1 (eU ed x.j).ent.fst S'2 j f) → ((0 ≤ (↑x.j : Int)) ∧ ((↑x.j : Int) < (↑ed.length : Int)) ∧ (x.l.length ≤ 1000000) ∧ (∃ x1 : XCv P2, ((((↑x.j : Int)) = ((↑x1.j : Int))) ∧ (True ∧ True ∧ True ∧ ((Value.int IntKind.i64 (if 40 < (↑ed.length : Int) then 40 else (↑ed.length : Int))) = (Value.int IntKind.i64 (if 40 < (↑ed.length : Int) then 40 else (↑ed.length : Int)))) ∧ True ∧ ((Value.int IntKind.u32 (x.c.root)) = (Value.int IntKind.u32 (x1.c.root))) ∧ True ∧ True ∧ True ∧ ((Value.int IntKind.u32 (x.nw)) = (Value.int IntKind.u32 (x1.nw))) ∧ ((Value.int IntKind.i64 ((↑x.j : Int))) = (Value.int IntKind.i64 ((↑x1.j : Int)))) ∧ ((Value.int IntKind.u32 (j)) = (Value.int IntKind.u32 (x1.t))) ∧ ((Value.int IntKind.i64 (f)) = (Value.int IntKind.i64 (x1.f))) ∧ True ∧ True) ∧ ((raw) = (raw)) ∧ ((ml) = (ml)) ∧
    ((ed) = (ed)) ∧ ((L20 raw) = (L20 raw)) ∧ (True ∧ ((Value.int IntKind.u32 (x.c.root)) = (Value.int IntKind.u32 (x1.c.root))) ∧ ((Value.int IntKind.i64 (x.c.lo)) = (Value.int IntKind.i64 (x1.c.lo))) ∧ ((Value.int IntKind.i64 (x.c.hi)) = (Value.int IntKind.i64 (x1.c.hi))) ∧ ((Value.int IntKind.i64 (x.c.place)) = (Value.int IntKind.i64 (x1.c.place))) ∧ ((Value.int IntKind.i64 (x.c.ek)) = (Value.int IntKind.i64 (x1.c.ek))) ∧ ((Value.int IntKind.i64 (x.c.ev)) = (Value.int IntKind.i64 (x1.c.ev))) ∧ ((Value.bool (x.c.closed)) = (Value.bool (x1.c.closed))) ∧ True) ∧ (True ∧ True ∧ True ∧ ((Value.int IntKind.u64 (S'2.reads)) = (Value.int IntKind.u64 (x1.S.reads))) ∧ True) ∧ (True ∧ True ∧ True ∧ ((Value.int IntKind.u32 (S'2.fresh)) = (Value.int IntKind.u32 (x1.S.fresh))) ∧ True) ∧ ((S'2.nodes) = (x1.S.nodes)) ∧ ((S'2.counts) = (x1.S.counts)) ∧ ((S'2.used) = (x1.S.used)) ∧ ((S'2.gen) = (x1.S.gen)) ∧ ((S'2.rel) = (x1.S.rel)) ∧ ((W20 raw) = (W20 raw)) ∧ (True ∧ ((Value.int IntKind.i64 (x.k)) = (Value.int IntKind.i64 (x1.k))) ∧ ((Value.bool false) = (Value.bool false)) ∧ True) ∧ ((x.l) = (x1.l)) ∧ ((outE x.l (eU ed x.j).ent.fst (eU ed x.j).ent.fst) = (x1.q)) ∧ True))))))))))))) (((0 ≤ (↑x.j : Int)) ∧ ((↑x.j : Int) < (↑ed.length : Int)) ∧ (∃ hs : List Int, (∃ t1 : Tr, ((upM x.S hs t1 x.nw) ∧ (4 * (Hn ((↑t1.size : Int) + 1) + 2) ≤ x.S.free) ∧ (∀ S'2 : Arn, (∀ j : Int, (∀ o : Option Int, (((o) = (getE t1.list (eU ed x.j).ent.fst)) →
    ((TrR x.S hs (insE t1.list (eU ed x.j).ent) (iB t1.size) (5 * iB t1.size + ht t1 + 1) S'2 j) → (∃ x1 : XCv P2, ((((↑x.j : Int)) = ((↑x1.j : Int))) ∧ (True ∧ True ∧ True ∧ ((Value.int IntKind.i64 (if 40 < (↑ed.length : Int) then 40 else (↑ed.length : Int))) = (Value.int IntKind.i64 (if 40 < (↑ed.length : Int) then 40 else (↑ed.length : Int)))) ∧ True ∧ ((Value.int IntKind.u32 (x.c.root)) = (Value.int IntKind.u32 (x1.c.root))) ∧ True ∧ True ∧ True ∧ ((Value.int IntKind.u32 (x.nw)) = (Value.int IntKind.u32 (x1.nw))) ∧ ((Value.int IntKind.i64 ((↑x.j : Int))) = (Value.int IntKind.i64 ((↑x1.j : Int)))) ∧ ((Value.int IntKind.u32 (j)) = (Value.int IntKind.u32 (x1.t))) ∧ ((Value.int IntKind.i64 0) = (Value.int IntKind.i64 (x1.f))) ∧ True ∧ True) ∧ ((raw) = (raw)) ∧ ((ml) = (ml)) ∧ ((ed) = (ed)) ∧ ((L20 raw) = (L20 raw)) ∧ (True ∧ ((Value.int IntKind.u32 (x.c.root)) = (Value.int IntKind.u32 (x1.c.root))) ∧ ((Value.int IntKind.i64 (x.c.lo)) = (Value.int IntKind.i64 (x1.c.lo))) ∧ ((Value.int IntKind.i64 (x.c.hi)) = (Value.int IntKind.i64 (x1.c.hi))) ∧ ((Value.int IntKind.i64 (x.c.place)) = (Value.int IntKind.i64 (x1.c.place))) ∧ ((Value.int IntKind.i64 (x.c.ek)) = (Value.int IntKind.i64 (x1.c.ek))) ∧ ((Value.int IntKind.i64 (x.c.ev)) = (Value.int IntKind.i64 (x1.c.ev))) ∧ ((Value.bool (x.c.closed)) = (Value.bool (x1.c.closed))) ∧ True) ∧ (True ∧ True ∧ True ∧ ((Value.int IntKind.u64 (S'2.reads)) = (Value.int IntKind.u64 (x1.S.reads))) ∧ True) ∧ (True ∧ True ∧ True ∧
    ((Value.int IntKind.u32 (S'2.fresh)) = (Value.int IntKind.u32 (x1.S.fresh))) ∧ True) ∧ ((S'2.nodes) = (x1.S.nodes)) ∧ ((S'2.counts) = (x1.S.counts)) ∧ ((S'2.used) = (x1.S.used)) ∧ ((S'2.gen) = (x1.S.gen)) ∧ ((S'2.rel) = (x1.S.rel)) ∧ ((W20 raw) = (W20 raw)) ∧ (True ∧ ((Value.int IntKind.i64 (x.k)) = (Value.int IntKind.i64 (x1.k))) ∧ ((Value.bool false) = (Value.bool false)) ∧ True) ∧ ((x.l) = (x1.l)) ∧ ((insE x.l (eU ed x.j).ent) = (x1.q)) ∧ True)))))))))))))) ∧ (∀ x1 : XCv P2, ((((↑x.j : Int)) = ((↑x1.j : Int))) → ((brS (x1.f == 0) ((∃ hs : List Int, ((Wf x1.S (x1.nw :: hs)) ∧ (∀ S'2 : Arn, (∀ fr : Int, ((Wf S'2 hs) → ((Kept x1.S S'2) → (((fr + (↑S'2.nu : Int)) = ((↑x1.S.nu : Int))) → (((1 < x1.S.ct x1.nw) → (((x1.S.us x1.nw) = true) → ((S'2) = (decS x1.S x1.nw)))) → ((((x1.S.us x1.nw) = false) → ((S'2) = (x1.S))) → (∃ x2 : XCt P3, ((((↑x1.j : Int)) = ((↑x2.j : Int))) ∧ (True ∧ True ∧ True ∧ ((Value.int IntKind.i64 (if 40 < (↑ed.length : Int) then 40 else (↑ed.length : Int))) = (Value.int IntKind.i64 (if 40 < (↑ed.length : Int) then 40 else (↑ed.length : Int)))) ∧ True ∧ ((Value.int IntKind.u32 (x1.c.root)) = (Value.int IntKind.u32 (x2.c.root))) ∧ True ∧ True ∧ True ∧ ((Value.int IntKind.u32 (x1.t)) = (Value.int IntKind.u32 (x2.nw))) ∧ ((Value.int IntKind.i64 ((↑x1.j : Int))) = (Value.int IntKind.i64 ((↑x2.j : Int)))) ∧ True) ∧ ((raw) = (raw)) ∧ ((ml) = (ml)) ∧ ((ed) = (ed)) ∧ ((L20 raw) = (L20 raw)) ∧ (True ∧
    ((Value.int IntKind.u32 (x1.c.root)) = (Value.int IntKind.u32 (x2.c.root))) ∧ ((Value.int IntKind.i64 (x1.c.lo)) = (Value.int IntKind.i64 (x2.c.lo))) ∧ ((Value.int IntKind.i64 (x1.c.hi)) = (Value.int IntKind.i64 (x2.c.hi))) ∧ ((Value.int IntKind.i64 (x1.c.place)) = (Value.int IntKind.i64 (x2.c.place))) ∧ ((Value.int IntKind.i64 (x1.c.ek)) = (Value.int IntKind.i64 (x2.c.ek))) ∧ ((Value.int IntKind.i64 (x1.c.ev)) = (Value.int IntKind.i64 (x2.c.ev))) ∧ ((Value.bool (x1.c.closed)) = (Value.bool (x2.c.closed))) ∧ True) ∧ (True ∧ True ∧ True ∧ ((Value.int IntKind.u64 (S'2.reads)) = (Value.int IntKind.u64 (x2.S.reads))) ∧ True) ∧ (True ∧ True ∧ True ∧ ((Value.int IntKind.u32 (S'2.fresh)) = (Value.int IntKind.u32 (x2.S.fresh))) ∧ True) ∧ ((S'2.nodes) = (x2.S.nodes)) ∧ ((S'2.counts) = (x2.S.counts)) ∧ ((S'2.used) = (x2.S.used)) ∧ ((S'2.gen) = (x2.S.gen)) ∧ ((S'2.rel) = (x2.S.rel)) ∧ ((W20 raw) = (W20 raw)) ∧ (True ∧ ((Value.int IntKind.i64 (x1.k)) = (Value.int IntKind.i64 (x2.k))) ∧ ((Value.bool false) = (Value.bool false)) ∧ True) ∧ ((x1.q) = (x2.l)) ∧ True)))))))))))) ((brS (x1.f != 4) ((K (SV.one (TV.at (At.val (Value.bool false)))) [(Chunk.row false (EC.ent) (raw)), (Chunk.row false (EC.move) (ml)), (Chunk.row false (EC.edc) (ed))] [])) ((∃ x2 : XCt P3, ((((↑x1.j : Int)) = ((↑x2.j : Int))) ∧ (True ∧ True ∧ True ∧
    ((Value.int IntKind.i64 (if 40 < (↑ed.length : Int) then 40 else (↑ed.length : Int))) = (Value.int IntKind.i64 (if 40 < (↑ed.length : Int) then 40 else (↑ed.length : Int)))) ∧ True ∧ ((Value.int IntKind.u32 (x1.c.root)) = (Value.int IntKind.u32 (x2.c.root))) ∧ True ∧ True ∧ True ∧ ((Value.int IntKind.u32 (x1.nw)) = (Value.int IntKind.u32 (x2.nw))) ∧ ((Value.int IntKind.i64 ((↑x1.j : Int))) = (Value.int IntKind.i64 ((↑x2.j : Int)))) ∧ True) ∧ ((raw) = (raw)) ∧ ((ml) = (ml)) ∧ ((ed) = (ed)) ∧ ((L20 raw) = (L20 raw)) ∧ (True ∧ ((Value.int IntKind.u32 (x1.c.root)) = (Value.int IntKind.u32 (x2.c.root))) ∧ ((Value.int IntKind.i64 (x1.c.lo)) = (Value.int IntKind.i64 (x2.c.lo))) ∧ ((Value.int IntKind.i64 (x1.c.hi)) = (Value.int IntKind.i64 (x2.c.hi))) ∧ ((Value.int IntKind.i64 (x1.c.place)) = (Value.int IntKind.i64 (x2.c.place))) ∧ ((Value.int IntKind.i64 (x1.c.ek)) = (Value.int IntKind.i64 (x2.c.ek))) ∧ ((Value.int IntKind.i64 (x1.c.ev)) = (Value.int IntKind.i64 (x2.c.ev))) ∧ ((Value.bool (x1.c.closed)) = (Value.bool (x2.c.closed))) ∧ True) ∧ (True ∧ True ∧ True ∧ ((Value.int IntKind.u64 (x1.S.reads)) = (Value.int IntKind.u64 (x2.S.reads))) ∧ True) ∧ (True ∧ True ∧ True ∧ ((Value.int IntKind.u32 (x1.S.fresh)) = (Value.int IntKind.u32 (x2.S.fresh))) ∧ True) ∧ ((x1.S.nodes) = (x2.S.nodes)) ∧ ((x1.S.counts) = (x2.S.counts)) ∧ ((x1.S.used) = (x2.S.used)) ∧ ((x1.S.gen) = (x2.S.gen)) ∧ ((x1.S.rel) = (x2.S.rel)) ∧ ((W20 raw) = (W20 raw)) ∧ (True ∧
    ((Value.int IntKind.i64 (x1.k)) = (Value.int IntKind.i64 (x2.k))) ∧ ((Value.bool false) = (Value.bool false)) ∧ True) ∧ ((x1.l) = (x2.l)) ∧ True)))))) ∧ (∀ x2 : XCt P3, ((((↑x1.j : Int)) = ((↑x2.j : Int))) → ((exW x2.S) ∧ (live x2.S x2.nw) ∧ (∀ S'2 : Arn, (((S'2) = (opS x2.S x2.nw)) → (∃ hs : List Int, (∃ t1 : Tr, ((Wf S'2 hs) ∧ (Rep S'2 t1 x2.nw) ∧ (t1.size ≤ 1000000) ∧ (S'2.reads + (↑t1.size : Int) ≤ 3000000000000000000) ∧ (∀ S'3 : Arn, (∀ m : Nat, (∀ c' : Cur, (∀ r : Option Ent, (∀ e : Int, (((S'3) = (rdS S'2 m)) → ((m ≤ t1.size) → (((Prod.mk (c') (Prod.mk (r) (e))) = (nextC t1 { root := x2.nw, lo := -9223372036854775808, hi := 9223372036854775807, place := 0, ek := 0, ev := 0, closed := false : Cur })) → ((((c'.closed) = true) → (∃ x3 : XCt P4, ((((↑x.j : Int)) = ((↑x3.j : Int))) ∧ (True ∧ True ∧ True ∧ ((Value.int IntKind.i64 (if 40 < (↑ed.length : Int) then 40 else (↑ed.length : Int))) = (Value.int IntKind.i64 (if 40 < (↑ed.length : Int) then 40 else (↑ed.length : Int)))) ∧ True ∧ ((Value.int IntKind.u32 (x2.c.root)) = (Value.int IntKind.u32 (x3.c.root))) ∧ True ∧ True ∧ True ∧ ((Value.int IntKind.u32 (x2.nw)) = (Value.int IntKind.u32 (x3.nw))) ∧ ((Value.int IntKind.i64 ((↑x2.j : Int))) = (Value.int IntKind.i64 ((↑x3.j : Int)))) ∧ True) ∧ ((raw) = (raw)) ∧ ((ml) = (ml)) ∧ ((ed) = (ed)) ∧ ((L20 raw) = (L20 raw)) ∧ (True ∧ ((Value.int IntKind.u32 (x2.c.root)) = (Value.int IntKind.u32 (x3.c.root))) ∧ ((Value.int IntKind.i64 (x2.c.lo)) = (Value.int IntKind.i64 (x3.c.lo))) ∧
    ((Value.int IntKind.i64 (x2.c.hi)) = (Value.int IntKind.i64 (x3.c.hi))) ∧ ((Value.int IntKind.i64 (x2.c.place)) = (Value.int IntKind.i64 (x3.c.place))) ∧ ((Value.int IntKind.i64 (x2.c.ek)) = (Value.int IntKind.i64 (x3.c.ek))) ∧ ((Value.int IntKind.i64 (x2.c.ev)) = (Value.int IntKind.i64 (x3.c.ev))) ∧ ((Value.bool (x2.c.closed)) = (Value.bool (x3.c.closed))) ∧ True) ∧ (True ∧ True ∧ True ∧ ((Value.int IntKind.u64 (S'3.reads)) = (Value.int IntKind.u64 (x3.S.reads))) ∧ True) ∧ (True ∧ True ∧ True ∧ ((Value.int IntKind.u32 (S'3.fresh)) = (Value.int IntKind.u32 (x3.S.fresh))) ∧ True) ∧ ((S'3.nodes) = (x3.S.nodes)) ∧ ((S'3.counts) = (x3.S.counts)) ∧ ((S'3.used) = (x3.S.used)) ∧ ((S'3.gen) = (x3.S.gen)) ∧ ((S'3.rel) = (x3.S.rel)) ∧ ((W20 raw) = (W20 raw)) ∧ (True ∧ ((Value.int IntKind.i64 (x2.k)) = (Value.int IntKind.i64 (x3.k))) ∧ ((Value.bool false) = (Value.bool false)) ∧ True) ∧ ((x2.l) = (x3.l)) ∧ True))) ∧ (((c'.closed) = false) → (∃ hs1 : List Int, ((Wf S'3 (c'.root :: hs1)) ∧ (∀ c'1 : Cur, (∀ S'4 : Arn, (((c'1) = ({ root := c'.root, lo := c'.lo, hi := c'.hi, place := c'.place, ek := c'.ek, ev := c'.ev, closed := true : Cur })) → ((Wf S'4 hs1) → ((Kept S'3 S'4) → (∃ x3 : XCt P4, ((((↑x.j : Int)) = ((↑x3.j : Int))) ∧ (True ∧ True ∧ True ∧ ((Value.int IntKind.i64 (if 40 < (↑ed.length : Int) then 40 else (↑ed.length : Int))) = (Value.int IntKind.i64 (if 40 < (↑ed.length : Int) then 40 else (↑ed.length : Int)))) ∧ True ∧
    ((Value.int IntKind.u32 (x2.c.root)) = (Value.int IntKind.u32 (x3.c.root))) ∧ True ∧ True ∧ True ∧ ((Value.int IntKind.u32 (x2.nw)) = (Value.int IntKind.u32 (x3.nw))) ∧ ((Value.int IntKind.i64 ((↑x2.j : Int))) = (Value.int IntKind.i64 ((↑x3.j : Int)))) ∧ True) ∧ ((raw) = (raw)) ∧ ((ml) = (ml)) ∧ ((ed) = (ed)) ∧ ((L20 raw) = (L20 raw)) ∧ (True ∧ ((Value.int IntKind.u32 (x2.c.root)) = (Value.int IntKind.u32 (x3.c.root))) ∧ ((Value.int IntKind.i64 (x2.c.lo)) = (Value.int IntKind.i64 (x3.c.lo))) ∧ ((Value.int IntKind.i64 (x2.c.hi)) = (Value.int IntKind.i64 (x3.c.hi))) ∧ ((Value.int IntKind.i64 (x2.c.place)) = (Value.int IntKind.i64 (x3.c.place))) ∧ ((Value.int IntKind.i64 (x2.c.ek)) = (Value.int IntKind.i64 (x3.c.ek))) ∧ ((Value.int IntKind.i64 (x2.c.ev)) = (Value.int IntKind.i64 (x3.c.ev))) ∧ ((Value.bool (x2.c.closed)) = (Value.bool (x3.c.closed))) ∧ True) ∧ (True ∧ True ∧ True ∧ ((Value.int IntKind.u64 (S'4.reads)) = (Value.int IntKind.u64 (x3.S.reads))) ∧ True) ∧ (True ∧ True ∧ True ∧ ((Value.int IntKind.u32 (S'4.fresh)) = (Value.int IntKind.u32 (x3.S.fresh))) ∧ True) ∧ ((S'4.nodes) = (x3.S.nodes)) ∧ ((S'4.counts) = (x3.S.counts)) ∧ ((S'4.used) = (x3.S.used)) ∧ ((S'4.gen) = (x3.S.gen)) ∧ ((S'4.rel) = (x3.S.rel)) ∧ ((W20 raw) = (W20 raw)) ∧ (True ∧ ((Value.int IntKind.i64 (x2.k)) = (Value.int IntKind.i64 (x3.k))) ∧ ((Value.bool false) = (Value.bool false)) ∧ True) ∧ ((x2.l) = (x3.l)) ∧ True)))))))))))))))))))))))))))))))) ((∃ x1 : XCt P4, ((((↑x.j : Int)) = ((↑x1.j : Int))) ∧
    (True ∧ True ∧ True ∧ ((Value.int IntKind.i64 (if 40 < (↑ed.length : Int) then 40 else (↑ed.length : Int))) = (Value.int IntKind.i64 (if 40 < (↑ed.length : Int) then 40 else (↑ed.length : Int)))) ∧ True ∧ ((Value.int IntKind.u32 (x.c.root)) = (Value.int IntKind.u32 (x1.c.root))) ∧ True ∧ True ∧ True ∧ ((Value.int IntKind.u32 (x.nw)) = (Value.int IntKind.u32 (x1.nw))) ∧ ((Value.int IntKind.i64 ((↑x.j : Int))) = (Value.int IntKind.i64 ((↑x1.j : Int)))) ∧ True) ∧ ((raw) = (raw)) ∧ ((ml) = (ml)) ∧ ((ed) = (ed)) ∧ ((L20 raw) = (L20 raw)) ∧ (True ∧ ((Value.int IntKind.u32 (x.c.root)) = (Value.int IntKind.u32 (x1.c.root))) ∧ ((Value.int IntKind.i64 (x.c.lo)) = (Value.int IntKind.i64 (x1.c.lo))) ∧ ((Value.int IntKind.i64 (x.c.hi)) = (Value.int IntKind.i64 (x1.c.hi))) ∧ ((Value.int IntKind.i64 (x.c.place)) = (Value.int IntKind.i64 (x1.c.place))) ∧ ((Value.int IntKind.i64 (x.c.ek)) = (Value.int IntKind.i64 (x1.c.ek))) ∧ ((Value.int IntKind.i64 (x.c.ev)) = (Value.int IntKind.i64 (x1.c.ev))) ∧ ((Value.bool (x.c.closed)) = (Value.bool (x1.c.closed))) ∧ True) ∧ (True ∧ True ∧ True ∧ ((Value.int IntKind.u64 (x.S.reads)) = (Value.int IntKind.u64 (x1.S.reads))) ∧ True) ∧ (True ∧ True ∧ True ∧ ((Value.int IntKind.u32 (x.S.fresh)) = (Value.int IntKind.u32 (x1.S.fresh))) ∧ True) ∧ ((x.S.nodes) = (x1.S.nodes)) ∧ ((x.S.counts) = (x1.S.counts)) ∧ ((x.S.used) = (x1.S.used)) ∧ ((x.S.gen) = (x1.S.gen)) ∧ ((x.S.rel) = (x1.S.rel)) ∧ ((W20 raw) = (W20 raw)) ∧ (True ∧
    ((Value.int IntKind.i64 (x.k)) = (Value.int IntKind.i64 (x1.k))) ∧ ((Value.bool false) = (Value.bool false)) ∧ True) ∧ ((x.l) = (x1.l)) ∧ True)))) ∧ (∀ x1 : XCt P4, ((((↑x.j : Int)) = ((↑x1.j : Int))) → (((0 ≤ (↑x1.j : Int)) ∧ ((↑x1.j : Int) < (↑ml.length : Int)) ∧ (((false = false) ∧ ((x1.c.closed) = false) ∧ ((L20 raw).length ≤ 1000000) ∧ (∃ hs : List Int, (∃ t1 : Tr, ((Wf x1.S hs) ∧ (Rep x1.S t1 x1.c.root) ∧ (Asc t1.list) ∧ ((W20 raw) = (betE t1.list x1.c.lo x1.c.hi)) ∧ (relC (W20 raw) x1.c x1.k) ∧ (t1.size ≤ 1000000) ∧ (x1.S.reads + (↑t1.size : Int) ≤ 3000000000000000000) ∧ (∀ S'2 : Arn, (∀ m : Nat, (∀ c' : Cur, (∀ k' : Int, (((S'2) = (rdS x1.S m)) → ((m ≤ t1.size) → ((relC (W20 raw) c' k') → ((keepC x1.c c') → (∃ x2 : XCt P5, ((((↑x1.j : Int)) = ((↑x2.j : Int))) ∧ (True ∧ True ∧ True ∧ ((Value.int IntKind.i64 (if 40 < (↑ed.length : Int) then 40 else (↑ed.length : Int))) = (Value.int IntKind.i64 (if 40 < (↑ed.length : Int) then 40 else (↑ed.length : Int)))) ∧ True ∧ ((Value.int IntKind.u32 (x1.c.root)) = (Value.int IntKind.u32 (x2.c.root))) ∧ True ∧ True ∧ True ∧ ((Value.int IntKind.u32 (x1.nw)) = (Value.int IntKind.u32 (x2.nw))) ∧ ((Value.int IntKind.i64 ((↑x1.j : Int))) = (Value.int IntKind.i64 ((↑x2.j : Int)))) ∧ True ∧ ((Value.bool true) = (Value.bool true)) ∧ True) ∧ ((raw) = (raw)) ∧ ((ml) = (ml)) ∧ ((ed) = (ed)) ∧ ((L20 raw) = (L20 raw)) ∧ (True ∧ ((Value.int IntKind.u32 (c'.root)) = (Value.int IntKind.u32 (x2.c.root))) ∧
    ((Value.int IntKind.i64 (c'.lo)) = (Value.int IntKind.i64 (x2.c.lo))) ∧ ((Value.int IntKind.i64 (c'.hi)) = (Value.int IntKind.i64 (x2.c.hi))) ∧ ((Value.int IntKind.i64 (c'.place)) = (Value.int IntKind.i64 (x2.c.place))) ∧ ((Value.int IntKind.i64 (c'.ek)) = (Value.int IntKind.i64 (x2.c.ek))) ∧ ((Value.int IntKind.i64 (c'.ev)) = (Value.int IntKind.i64 (x2.c.ev))) ∧ ((Value.bool (c'.closed)) = (Value.bool (x2.c.closed))) ∧ True) ∧ (True ∧ True ∧ True ∧ ((Value.int IntKind.u64 (S'2.reads)) = (Value.int IntKind.u64 (x2.S.reads))) ∧ True) ∧ (True ∧ True ∧ True ∧ ((Value.int IntKind.u32 (S'2.fresh)) = (Value.int IntKind.u32 (x2.S.fresh))) ∧ True) ∧ ((S'2.nodes) = (x2.S.nodes)) ∧ ((S'2.counts) = (x2.S.counts)) ∧ ((S'2.used) = (x2.S.used)) ∧ ((S'2.gen) = (x2.S.gen)) ∧ ((S'2.rel) = (x2.S.rel)) ∧ ((W20 raw) = (W20 raw)) ∧ True ∧ ((x1.l) = (x2.l)) ∧ (True ∧ ((Value.int IntKind.i64 (k')) = (Value.int IntKind.i64 (x2.k))) ∧ ((Value.bool false) = (Value.bool false)) ∧ True) ∧ True)))))))))))))) ∧ (false = false) ∧ ((x1.c.closed) = false) ∧ ((L20 raw).length ≤ 1000000) ∧ (∃ hs : List Int, (∃ t1 : Tr, ((Wf x1.S hs) ∧ (Rep x1.S t1 x1.c.root) ∧ (Asc t1.list) ∧ ((W20 raw) = (betE t1.list x1.c.lo x1.c.hi)) ∧ (relC (W20 raw) x1.c x1.k) ∧ (t1.size ≤ 1000000) ∧ (x1.S.reads + (↑t1.size : Int) ≤ 3000000000000000000) ∧ (∀ S'2 : Arn, (∀ m : Nat, (∀ c' : Cur, (∀ k' : Int, (((S'2) = (rdS x1.S m)) → ((m ≤ t1.size) → ((relC (W20 raw) c' k') → ((keepC x1.c c') → (∃ x2 : XCt P5,
    ((((↑x1.j : Int)) = ((↑x2.j : Int))) ∧ (True ∧ True ∧ True ∧ ((Value.int IntKind.i64 (if 40 < (↑ed.length : Int) then 40 else (↑ed.length : Int))) = (Value.int IntKind.i64 (if 40 < (↑ed.length : Int) then 40 else (↑ed.length : Int)))) ∧ True ∧ ((Value.int IntKind.u32 (x1.c.root)) = (Value.int IntKind.u32 (x2.c.root))) ∧ True ∧ True ∧ True ∧ ((Value.int IntKind.u32 (x1.nw)) = (Value.int IntKind.u32 (x2.nw))) ∧ ((Value.int IntKind.i64 ((↑x1.j : Int))) = (Value.int IntKind.i64 ((↑x2.j : Int)))) ∧ True ∧ ((Value.bool true) = (Value.bool true)) ∧ True) ∧ ((raw) = (raw)) ∧ ((ml) = (ml)) ∧ ((ed) = (ed)) ∧ ((L20 raw) = (L20 raw)) ∧ (True ∧ ((Value.int IntKind.u32 (c'.root)) = (Value.int IntKind.u32 (x2.c.root))) ∧ ((Value.int IntKind.i64 (c'.lo)) = (Value.int IntKind.i64 (x2.c.lo))) ∧ ((Value.int IntKind.i64 (c'.hi)) = (Value.int IntKind.i64 (x2.c.hi))) ∧ ((Value.int IntKind.i64 (c'.place)) = (Value.int IntKind.i64 (x2.c.place))) ∧ ((Value.int IntKind.i64 (c'.ek)) = (Value.int IntKind.i64 (x2.c.ek))) ∧ ((Value.int IntKind.i64 (c'.ev)) = (Value.int IntKind.i64 (x2.c.ev))) ∧ ((Value.bool (c'.closed)) = (Value.bool (x2.c.closed))) ∧ True) ∧ (True ∧ True ∧ True ∧ ((Value.int IntKind.u64 (S'2.reads)) = (Value.int IntKind.u64 (x2.S.reads))) ∧ True) ∧ (True ∧ True ∧ True ∧ ((Value.int IntKind.u32 (S'2.fresh)) = (Value.int IntKind.u32 (x2.S.fresh))) ∧ True) ∧ ((S'2.nodes) = (x2.S.nodes)) ∧ ((S'2.counts) = (x2.S.counts)) ∧ ((S'2.used) = (x2.S.used)) ∧ ((S'2.gen) = (x2.S.gen)) ∧
    ((S'2.rel) = (x2.S.rel)) ∧ ((W20 raw) = (W20 raw)) ∧ True ∧ ((x1.l) = (x2.l)) ∧ (True ∧ ((Value.int IntKind.i64 (k')) = (Value.int IntKind.i64 (x2.k))) ∧ ((Value.bool false) = (Value.bool false)) ∧ True) ∧ True)))))))))))))) ∧ (false = false) ∧ ((x1.c.closed) = false) ∧ ((L20 raw).length ≤ 1000000) ∧ (∃ hs : List Int, (∃ t1 : Tr, ((Wf x1.S hs) ∧ (Rep x1.S t1 x1.c.root) ∧ (Asc t1.list) ∧ ((W20 raw) = (betE t1.list x1.c.lo x1.c.hi)) ∧ (relC (W20 raw) x1.c x1.k) ∧ (t1.size ≤ 1000000) ∧ (x1.S.reads + (↑t1.size : Int) ≤ 3000000000000000000) ∧ (∀ S'2 : Arn, (∀ m : Nat, (∀ c' : Cur, (∀ k' : Int, (((S'2) = (rdS x1.S m)) → ((m ≤ t1.size) → ((relC (W20 raw) c' k') → ((keepC x1.c c') → (∃ x2 : XCt P5, ((((↑x1.j : Int)) = ((↑x2.j : Int))) ∧ (True ∧ True ∧ True ∧ ((Value.int IntKind.i64 (if 40 < (↑ed.length : Int) then 40 else (↑ed.length : Int))) = (Value.int IntKind.i64 (if 40 < (↑ed.length : Int) then 40 else (↑ed.length : Int)))) ∧ True ∧ ((Value.int IntKind.u32 (x1.c.root)) = (Value.int IntKind.u32 (x2.c.root))) ∧ True ∧ True ∧ True ∧ ((Value.int IntKind.u32 (x1.nw)) = (Value.int IntKind.u32 (x2.nw))) ∧ ((Value.int IntKind.i64 ((↑x1.j : Int))) = (Value.int IntKind.i64 ((↑x2.j : Int)))) ∧ True ∧ ((Value.bool true) = (Value.bool true)) ∧ True) ∧ ((raw) = (raw)) ∧ ((ml) = (ml)) ∧ ((ed) = (ed)) ∧ ((L20 raw) = (L20 raw)) ∧ (True ∧ ((Value.int IntKind.u32 (c'.root)) = (Value.int IntKind.u32 (x2.c.root))) ∧ ((Value.int IntKind.i64 (c'.lo)) = (Value.int IntKind.i64 (x2.c.lo))) ∧
    ((Value.int IntKind.i64 (c'.hi)) = (Value.int IntKind.i64 (x2.c.hi))) ∧ ((Value.int IntKind.i64 (c'.place)) = (Value.int IntKind.i64 (x2.c.place))) ∧ ((Value.int IntKind.i64 (c'.ek)) = (Value.int IntKind.i64 (x2.c.ek))) ∧ ((Value.int IntKind.i64 (c'.ev)) = (Value.int IntKind.i64 (x2.c.ev))) ∧ ((Value.bool (c'.closed)) = (Value.bool (x2.c.closed))) ∧ True) ∧ (True ∧ True ∧ True ∧ ((Value.int IntKind.u64 (S'2.reads)) = (Value.int IntKind.u64 (x2.S.reads))) ∧ True) ∧ (True ∧ True ∧ True ∧ ((Value.int IntKind.u32 (S'2.fresh)) = (Value.int IntKind.u32 (x2.S.fresh))) ∧ True) ∧ ((S'2.nodes) = (x2.S.nodes)) ∧ ((S'2.counts) = (x2.S.counts)) ∧ ((S'2.used) = (x2.S.used)) ∧ ((S'2.gen) = (x2.S.gen)) ∧ ((S'2.rel) = (x2.S.rel)) ∧ ((W20 raw) = (W20 raw)) ∧ True ∧ ((x1.l) = (x2.l)) ∧ (True ∧ ((Value.int IntKind.i64 (k')) = (Value.int IntKind.i64 (x2.k))) ∧ ((Value.bool false) = (Value.bool false)) ∧ True) ∧ True)))))))))))))) ∧ (∀ x2 : XCt P5, ((((↑x1.j : Int)) = ((↑x2.j : Int))) → (∃ x' : XCt P1, (True ∧ ((True ∧ True ∧ True ∧ ((Value.int IntKind.i64 (if 40 < (↑ed.length : Int) then 40 else (↑ed.length : Int))) = (Value.int IntKind.i64 (if 40 < (↑ed.length : Int) then 40 else (↑ed.length : Int)))) ∧ True ∧ ((Value.int IntKind.u32 (x2.c.root)) = (Value.int IntKind.u32 (x'.c.root))) ∧ True ∧ True ∧ True ∧ ((Value.int IntKind.u32 (x2.nw)) = (Value.int IntKind.u32 (x'.nw))) ∧ ((Value.int IntKind.i64 (IntKind.i64.wrap ((↑x2.j : Int) + 1))) = (Value.int IntKind.i64 ((↑x'.j : Int)))) ∧ True) ∧
    ((raw) = (raw)) ∧ ((ml) = (ml)) ∧ ((ed) = (ed)) ∧ ((L20 raw) = (L20 raw)) ∧ (True ∧ ((Value.int IntKind.u32 (x2.c.root)) = (Value.int IntKind.u32 (x'.c.root))) ∧ ((Value.int IntKind.i64 (x2.c.lo)) = (Value.int IntKind.i64 (x'.c.lo))) ∧ ((Value.int IntKind.i64 (x2.c.hi)) = (Value.int IntKind.i64 (x'.c.hi))) ∧ ((Value.int IntKind.i64 (x2.c.place)) = (Value.int IntKind.i64 (x'.c.place))) ∧ ((Value.int IntKind.i64 (x2.c.ek)) = (Value.int IntKind.i64 (x'.c.ek))) ∧ ((Value.int IntKind.i64 (x2.c.ev)) = (Value.int IntKind.i64 (x'.c.ev))) ∧ ((Value.bool (x2.c.closed)) = (Value.bool (x'.c.closed))) ∧ True) ∧ (True ∧ True ∧ True ∧ ((Value.int IntKind.u64 (x2.S.reads)) = (Value.int IntKind.u64 (x'.S.reads))) ∧ True) ∧ (True ∧ True ∧ True ∧ ((Value.int IntKind.u32 (x2.S.fresh)) = (Value.int IntKind.u32 (x'.S.fresh))) ∧ True) ∧ ((x2.S.nodes) = (x'.S.nodes)) ∧ ((x2.S.counts) = (x'.S.counts)) ∧ ((x2.S.used) = (x'.S.used)) ∧ ((x2.S.gen) = (x'.S.gen)) ∧ ((x2.S.rel) = (x'.S.rel)) ∧ ((W20 raw) = (W20 raw)) ∧ (True ∧ ((Value.int IntKind.i64 (x2.k)) = (Value.int IntKind.i64 (x'.k))) ∧ ((Value.bool false) = (Value.bool false)) ∧ True) ∧ ((x2.l) = (x'.l)) ∧ True) ∧ (40 - x'.j < 40 - x.j)))))))))) ((∃ hs : List Int, ((Wf x.S hs) ∧ ([x.c.root, x.nw].Perm hs) ∧ ([x.c.root, x.nw].length ≤ 1000000) ∧ (exW x.S) ∧ (∀ d : List SlotT, (∀ o : List Int, (((d) = (slotsOf x.S)) → (((o) = (orderOf x.S)) → ((d.length ≤ 1000000) ∧ (∃ t1 : Tr, ((RepD d t1 x.nw) ∧ (Asc t1.list) ∧ (t1.Bal) ∧
    (t1.size ≤ 2 * d.length + 2) ∧ (t1.size ≤ 1000000) ∧ ((t1.list) = (x.l)))) ∧ (((x.c.closed) = true) → (K (SV.one (TV.at (At.val (Value.bool false)))) [(Chunk.row false (EC.ent) (raw)), (Chunk.row false (EC.move) (ml)), (Chunk.row false (EC.edc) (ed))] [])) ∧ (((x.c.closed) = false) → (∃ hs1 : List Int, ((Wf x.S (x.c.root :: hs1)) ∧ (∀ c' : Cur, (∀ S'2 : Arn, (((c') = ({ root := x.c.root, lo := x.c.lo, hi := x.c.hi, place := x.c.place, ek := x.c.ek, ev := x.c.ev, closed := true : Cur })) → ((Wf S'2 hs1) → ((Kept x.S S'2) → (∃ hs2 : List Int, ((Wf S'2 hs2) ∧ ([x.nw].Perm hs2) ∧ ([x.nw].length ≤ 1000000) ∧ (K (SV.one (TV.at (At.val (Value.bool true)))) [(Chunk.row false (EC.ent) (raw)), (Chunk.row false (EC.move) (ml)), (Chunk.row false (EC.edc) (ed))] []))))))))))))))))))))) ((∃ hs : List Int, ((Wf x.S hs) ∧ ([x.c.root, x.nw].Perm hs) ∧ ([x.c.root, x.nw].length ≤ 1000000) ∧ (exW x.S) ∧ (∀ d : List SlotT, (∀ o : List Int, (((d) = (slotsOf x.S)) → (((o) = (orderOf x.S)) → ((d.length ≤ 1000000) ∧ (∃ t1 : Tr, ((RepD d t1 x.nw) ∧ (Asc t1.list) ∧ (t1.Bal) ∧ (t1.size ≤ 2 * d.length + 2) ∧ (t1.size ≤ 1000000) ∧ ((t1.list) = (x.l)))) ∧ (((x.c.closed) = true) → (K (SV.one (TV.at (At.val (Value.bool false)))) [(Chunk.row false (EC.ent) (raw)), (Chunk.row false (EC.move) (ml)), (Chunk.row false (EC.edc) (ed))] [])) ∧ (((x.c.closed) = false) → (∃ hs1 : List Int, ((Wf x.S (x.c.root :: hs1)) ∧ (∀ c' : Cur, (∀ S'2 : Arn,
    (((c') = ({ root := x.c.root, lo := x.c.lo, hi := x.c.hi, place := x.c.place, ek := x.c.ek, ev := x.c.ev, closed := true : Cur })) → ((Wf S'2 hs1) → ((Kept x.S S'2) → (∃ hs2 : List Int, ((Wf S'2 hs2) ∧ ([x.nw].Perm hs2) ∧ ([x.nw].length ≤ 1000000) ∧ (K (SV.one (TV.at (At.val (Value.bool true)))) [(Chunk.row false (EC.ent) (raw)), (Chunk.row false (EC.move) (ml)), (Chunk.row false (EC.edc) (ed))] [])))))))))))))))))))))))))))))))))))) = _ by kernel_rfl) ?_
  subst hP1 hP2 hP3 hP4 hP5
  have e60 : Int.toNat 60 = 60 := rfl
  rw [e60, min40]
  have nlt : ∀ j : Nat, (j : Int) < ((min ed.length 40 : Nat) : Int) → j < min ed.length 40 := fun j h => by omega
  generalize min ed.length 40 = n at *
  have ll : (L20 raw).length ≤ 60 := ll
  have la : Asc (L20 raw) := la
  show _ ∧ _
  rw [show (listE raw 60) = L20 raw from rfl]
  rw [wrap_id (x := ((L20 raw).length : Int) + n) (by omega) (by omega)]
  refine ⟨by decide, by decide, by omega, by omega, fun p ep => ?_⟩
  have ep : p = (I : Int) := by rw [ep, hI]; simp only [Int.natCast_add, Int.natCast_one]
  subst ep
  rw [wrap_id (x := 2 * (I : Int)) (by omega) (by omega), wrap_id (x := 2 * (I : Int) + (L20 raw).length) (by omega) (by omega), wrap_id (x := 2 * (I : Int) + (L20 raw).length + n) (by omega) (by omega)]
  refine ⟨h0, by omega, by omega, by omega, fun S1 i hp => ?_⟩
  obtain ⟨tr, up, lt, zt⟩ := plant_up hp la (by omega)
  have cp : S1.cap = ((L20 raw).length : Int) + (2 * (I : Int) + (L20 raw).length + n) := by
    have := cap_len hp.len
    rw [this, cap_new]; omega
  have hrd : S1.reads = 0 := by rw [hp.rds]; rfl
  have h1 : Hld S1 [(i, L20 raw)] := by
    refine ⟨up.1, ?_, ?_, ?_⟩
    · intro q hq; simp at hq; subst hq; exact ⟨tr, up.2.1, lt, up.2.2.1⟩
    · intro q hq; simp at hq; subst hq; exact la
    · intro q hq; simp at hq; subst hq; exact kB
  refine ⟨⟨_, hp.wf⟩, up.2.1.us, fun S2 e2 => ⟨by omega, fun W eW => ?_⟩⟩
  have h2 : Hld S2 [(i, L20 raw), (i, L20 raw)] := by rw [e2]; exact opS_hld h1 (by simp) (by simp)
  have r2 : S2.reads = 0 := by rw [e2, opS_reads, hrd]
  have c2 : S2.cap = S1.cap := by rw [e2]; exact opS_cap _ _
  refine ⟨⟨⟨S2, ⟨i, -9223372036854775808, 9223372036854775807, 0, 0, 0, false⟩, 0, 0, i, L20 raw, by omega, h2, rfl, rfl, rfl, .inl ⟨rfl, rfl⟩, by omega, by omega, by omega, by omega⟩, ?_⟩, fun x _ => ?_⟩
  · (repeat' first | exact trivial | exact rfl | exact eW | refine And.intro ?_ ?_)
  obtain ⟨hj, hh, hx⟩ := x.h
  have xE : ((∃ hs : List Int,
                ((Wf x.S hs) ∧
                ([x.c.root, x.nw].Perm hs) ∧
                ([x.c.root, x.nw].length ≤ 1000000) ∧
                (exW x.S) ∧
                (∀ d : List SlotT,
                  (∀ o : List Int,
                    (((d) = (slotsOf x.S)) →
                    (((o) = (orderOf x.S)) →
                    ((d.length ≤ 1000000) ∧
                    (∃ t1 : Tr,
                      ((RepD d t1 x.nw) ∧
                      (Asc t1.list) ∧
                      (t1.Bal) ∧
                      (t1.size ≤ 2 * d.length + 2) ∧
                      (t1.size ≤ 1000000) ∧
                      ((t1.list) = (x.l)))) ∧
                    (((x.c.closed) = true) →
                    (K (SV.one (TV.at (At.val (Value.bool false)))) [(Chunk.row false (EC.ent) (raw)), (Chunk.row false (EC.move) (ml)), (Chunk.row false (EC.edc) (ed))] [])) ∧
                    (((x.c.closed) = false) →
                    (∃ hs1 : List Int,
                      ((Wf x.S (x.c.root :: hs1)) ∧
                      (∀ c' : Cur,
                        (∀ S'2 : Arn,
                          (((c') = ({ root := x.c.root, lo := x.c.lo, hi := x.c.hi, place := x.c.place, ek := x.c.ek, ev := x.c.ev, closed := true : Cur })) →
                          ((Wf S'2 hs1) →
                          ((Kept x.S S'2) →
                          (∃ hs2 : List Int,
                            ((Wf S'2 hs2) ∧
                            ([x.nw].Perm hs2) ∧
                            ([x.nw].length ≤ 1000000) ∧
                            (K (SV.one (TV.at (At.val (Value.bool true)))) [(Chunk.row false (EC.ent) (raw)), (Chunk.row false (EC.move) (ml)), (Chunk.row false (EC.edc) (ed))] []))))))))))))))))))) := by
    have pm : ([x.c.root, x.nw] : List Int).Perm [x.nw, x.c.root] := List.Perm.swap _ _ _
    have w := hh.wf
    have sl := slots_le w
    obtain ⟨u, rp, lu, bu⟩ := hh.rep (x.nw, x.l) (by simp)
    have ut := tr_tree w rp lu bu (hh.asc (x.nw, x.l) (by simp))
    refine ⟨_, w, pm, by simp, ⟨_, w⟩, fun d o ed eo => ⟨by rw [ed]; omega, by rw [ed]; exact ut, fun z => absurd z (by rw [hx.cl]; decide), fun _ => ⟨[x.nw], w.perm pm.symm, fun c' S' ec w' k' => ⟨[x.nw], w', List.Perm.refl _, by simp, h⟩⟩⟩⟩
  refine brS_of (fun c => brS_of (fun d => ?_) fun _ => xE) fun _ => xE
  clear xE
  have c : x.j < ml.length := by have := of_decide_eq_true c; omega
  have d : x.j < 40 := by have := of_decide_eq_true d; omega
  refine ⟨brS_of (fun g => ?_) fun g => ?_, fun x1 e1 => ?_⟩
  · have g := nlt x.j (of_decide_eq_true g)
    have rm := hh.room
    simp only [sumL_cons, sumL_nil] at rm
    have cap := hx.cap
    have len := hx.len
    have rd := hx.rd
    have rd0 := hx.rd0
    have mj : min x.j n = x.j := Nat.min_eq_left (by omega)
    rw [mj] at len
    obtain ⟨u, um, lu, zu, bu⟩ := hh.up (x := x.nw) (l := x.l) (by simp) (by omega) (by simp) (by omega)
    have f1 := Hn_le (n := u.size) (m := (L20 raw).length + n + 1) (by omega)
    have f2 := Hn_le (n := u.size + 1) (m := (L20 raw).length + n + 1) (by omega)
    rw [show ((u.size + 1 : Nat) : Int) = (u.size : Int) + 1 by omega] at f2
    have nb := numsB (t := u) (by omega) bu
    have hen := he _ (eU_mem (l := ed) (n := x.j) (by omega))
    have nw0 : ∀ S', x.S.reads ≤ S'.reads → S'.reads ≤ x.S.reads + 300 → S'.cap = x.S.cap → CsJ raw n I (10000 * (x.j + 1) + 3000) x.j S' x.c x.k x.l := fun S' h2 h3 h4 => ⟨hx.cl, hx.lo, hx.hi, hx.rl, by omega, by omega, len, by omega⟩
    refine ⟨by omega, by omega, by omega, ⟨by omega, by omega, brS_of (fun q => ?_) fun q => ?_⟩, fun x1 e1 => ?_⟩
    · refine ⟨by omega, by omega, _, u, um, by omega, fun S' j v f ur => ⟨by omega, by omega, by omega, ?_⟩⟩
      rcases ur with ⟨un, uf, uj, m, um', us⟩ | ⟨un, uf, tr'⟩
      · have h' := hh.rd (n := m) (by omega)
        rw [← us] at h'
        have hq : S'.reads = x.S.reads + m := by rw [us]; rfl
        refine ⟨⟨S', x.c, x.k, x.j, x.nw, x.l, j, f, outE x.l (eU ed x.j).ent.fst (eU ed x.j).ent.fst, ⟨d, g⟩, nw0 S' (by omega) (by omega) (by rw [us]; rfl), .inr ⟨uf, h'⟩⟩, ?_⟩
        (repeat' first | exact trivial | exact rfl | refine And.intro ?_ ?_)
      · have fl := flt_len (p := neK (eU ed x.j).ent.fst) (l := x.l)
        rw [lu] at tr'
        have h' := hh.step tr' (flt_asc (hh.asc (x.nw, x.l) (by simp))) (kin_flt (hh.kin (x.nw, x.l) (by simp)))
        have q1 := tr'.got.rd
        have q0 := tr'.got.rd0
        have cc := tr_cap tr'
        refine ⟨⟨S', x.c, x.k, x.j, x.nw, x.l, j, f, outE x.l (eU ed x.j).ent.fst (eU ed x.j).ent.fst, ⟨d, g⟩, nw0 S' q0 (by omega) cc, .inl ⟨uf, by rw [outE_flt]; exact h', by rw [outE_flt]; omega⟩⟩, ?_⟩
        (repeat' first | exact trivial | exact rfl | refine And.intro ?_ ?_)
    · refine ⟨by omega, by omega, _, u, um, by omega, fun S' j o eo tr' => ?_⟩
      have il := insE_len x.l (eU ed x.j).ent
      rw [lu] at tr'
      have h' := hh.step tr' (insE_asc _ (hh.asc (x.nw, x.l) (by simp))) (kin_ins (hh.asc (x.nw, x.l) (by simp)) (hh.kin (x.nw, x.l) (by simp)) hen)
      have q1 := tr'.got.rd
      have q0 := tr'.got.rd0
      have cc := tr_cap tr'
      refine ⟨⟨S', x.c, x.k, x.j, x.nw, x.l, j, 0, insE x.l (eU ed x.j).ent, ⟨d, g⟩, nw0 S' q0 (by omega) cc, .inl ⟨rfl, h', il⟩⟩, ?_⟩
      (repeat' first | exact trivial | exact rfl | refine And.intro ?_ ?_)
    · obtain ⟨S, c, k, j, nw, l, t1, f, q, ⟨dj, gj⟩, hJ, hf⟩ := x1
      dsimp only at e1 ⊢
      refine ⟨brS_of (fun z => ?_) fun z => brS_of (fun z2 => ?_) fun z2 => ?_, fun x2 e2 => ?_⟩
      · have z : f = 0 := by simpa using z
        rcases hf with ⟨_, h3, lq⟩ | ⟨z4, _⟩
        · have h3 : Hld S [(nw, l), (t1, q), (c.root, L20 raw)] := h3.perm (List.Perm.swap _ _ _)
          refine ⟨_, h3.wf, fun S' fr w' kp _ _ _ => ?_⟩
          have h4 := h3.drop w' kp
          have cc := kept_cap kp
          have qq := kp.rds
          have len := hJ.len
          have rd := hJ.rd
          have rd0 := hJ.rd0
          have cap := hJ.cap
          refine ⟨⟨S', c, k, j, t1, q, ⟨dj, gj⟩, h4, hJ.cl, hJ.lo, hJ.hi, hJ.rl, by omega, by omega, by omega, by omega⟩, ?_⟩
          (repeat' first | exact trivial | exact rfl | refine And.intro ?_ ?_)
        · omega
      · have z : f ≠ 0 := by simpa using z
        have z2 : f ≠ 4 := by simpa using z2
        rcases hf with ⟨z0, _⟩ | ⟨z4, _⟩
        · exact absurd z0 z
        · exact absurd z4 z2
      · have z : f ≠ 0 := by simpa using z
        rcases hf with ⟨z0, _⟩ | ⟨z4, h3⟩
        · exact absurd z0 z
        have len := hJ.len
        have rd := hJ.rd
        refine ⟨⟨S, c, k, j, nw, l, ⟨dj, gj⟩, h3, hJ.cl, hJ.lo, hJ.hi, hJ.rl, hJ.rd0, by omega, by omega, hJ.cap⟩, ?_⟩
        (repeat' first | exact trivial | exact rfl | refine And.intro ?_ ?_)
      clear hf hJ gj dj um lu zu bu f1 f2 nb hen nw0
      obtain ⟨S3, c3, k3, j3, nw3, l3, ⟨dj, gj⟩, h3, hJ⟩ := x2
      dsimp only at e2 ⊢
      have len := hJ.len
      have rd := hJ.rd
      have rd0 := hJ.rd0
      have cap := hJ.cap
      obtain ⟨u3, rp3, _, _⟩ := h3.rep (nw3, l3) (by simp)
      refine ⟨⟨_, h3.wf⟩, rp3.us, fun S4 e4 => ?_⟩
      have h4 : Hld S4 [(nw3, l3), (nw3, l3), (c3.root, L20 raw)] := by rw [e4]; exact opS_hld h3 (by simp) (by simp)
      have r4 : S4.reads = S3.reads := by rw [e4, opS_reads]
      have c4 : S4.cap = S3.cap := by rw [e4]; exact opS_cap _ _
      obtain ⟨u4, um4, lu4, zu4, bu4⟩ := h4.up (x := nw3) (l := l3) (by simp) (by omega) (by simp) (by omega)
      refine ⟨_, u4, h4.wf, um4.2.1, by omega, by omega, fun S5 m c' r e e5 m5 nx => ?_⟩
      obtain ⟨c5, f5, f6, f7⟩ := next_rel (t := u4) (c := ⟨nw3, -9223372036854775808, 9223372036854775807, 0, 0, 0, false⟩) (k := 0) rfl (by rw [lu4]; exact h4.asc (nw3, l3) (by simp)) rfl (.inl ⟨rfl, rfl⟩)
      rw [f5] at nx
      obtain ⟨rfl, _⟩ := Prod.mk.inj nx
      obtain ⟨g1, g2, g3, g4⟩ := f7
      have g1 : c'.root = nw3 := g1
      have g4 : c'.closed = false := g4
      have h5 := h4.rd (n := m) (by omega)
      rw [← e5] at h5
      have r5 : S5.reads = S4.reads + m := by rw [e5]; rfl
      have c5' : S5.cap = S4.cap := by rw [e5]; rfl
      refine ⟨fun z => absurd z (by rw [g4]; decide), fun _ => ⟨[nw3, c3.root], by rw [g1]; exact h5.wf, fun c6 S6 _ w6 k6 => ?_⟩⟩
      have h6 := h5.drop w6 k6
      have cc := kept_cap k6
      have qq := k6.rds
      have mj3 : min (j3 + 1) n = j3 + 1 := Nat.min_eq_left (by omega)
      refine ⟨⟨S6, c3, k3, j3, nw3, l3, dj, h6, hJ.cl, hJ.lo, hJ.hi, hJ.rl, by omega, by omega, by rw [mj3]; omega, by omega⟩, by show (x.j : Int) = (j3 : Int); omega, ?_⟩
      (repeat' first | exact trivial | exact rfl | refine And.intro ?_ ?_)
  · have g : ¬ (x.j : Int) < n := of_decide_eq_false g
    have len := hx.len
    have rd := hx.rd
    refine ⟨⟨x.S, x.c, x.k, x.j, x.nw, x.l, d, hh, hx.cl, hx.lo, hx.hi, hx.rl, hx.rd0, by omega, by rw [Nat.min_eq_right (by omega)]; rw [Nat.min_eq_right (by omega)] at len; exact len, hx.cap⟩, ?_⟩
    (repeat' first | exact trivial | exact rfl | refine And.intro ?_ ?_)
  have e1 : (x.j : Int) = x1.j := e1
  obtain ⟨d1, h1', hJ⟩ := x1.h
  clear hx hh
  have len := hJ.len
  have rd := hJ.rd
  have rd0 := hJ.rd0
  obtain ⟨u, rp, lu, bu⟩ := h1'.rep (x1.c.root, L20 raw) (by simp)
  have lu : u.list = L20 raw := lu
  have zu : u.size = (L20 raw).length := by rw [← u.list_len, lu]
  have hl : (L20 raw).length ≤ 1000000 := by omega
  have xM : (∃ hs : List Int,
                    (∃ t1 : Tr,
                      ((Wf x1.S hs) ∧
                      (Rep x1.S t1 x1.c.root) ∧
                      (Asc t1.list) ∧
                      ((W20 raw) = (betE t1.list x1.c.lo x1.c.hi)) ∧
                      (relC (W20 raw) x1.c x1.k) ∧
                      (t1.size ≤ 1000000) ∧
                      (x1.S.reads + (↑t1.size : Int) ≤ 3000000000000000000) ∧
                      (∀ S'2 : Arn,
                        (∀ m : Nat,
                          (∀ c' : Cur,
                            (∀ k' : Int,
                              (((S'2) = (rdS x1.S m)) →
                              ((m ≤ t1.size) →
                              ((relC (W20 raw) c' k') →
                              ((keepC x1.c c') →
                              (∃ x2 : XCt (PC5 raw n I),
                                ((((↑x1.j : Int)) = ((↑x2.j : Int))) ∧
                                (True ∧
                                True ∧
                                True ∧
                                ((Value.int IntKind.i64 ((n : Nat) : Int)) = (Value.int IntKind.i64 ((n : Nat) : Int))) ∧
                                True ∧
                                ((Value.int IntKind.u32 (x1.c.root)) = (Value.int IntKind.u32 (x2.c.root))) ∧
                                True ∧
                                True ∧
                                True ∧
                                ((Value.int IntKind.u32 (x1.nw)) = (Value.int IntKind.u32 (x2.nw))) ∧
                                ((Value.int IntKind.i64 ((↑x1.j : Int))) = (Value.int IntKind.i64 ((↑x2.j : Int)))) ∧
                                True ∧
                                ((Value.bool true) = (Value.bool true)) ∧
                                True) ∧
                                ((raw) = (raw)) ∧
                                ((ml) = (ml)) ∧
                                ((ed) = (ed)) ∧
                                ((L20 raw) = (L20 raw)) ∧
                                (True ∧
                                ((Value.int IntKind.u32 (c'.root)) = (Value.int IntKind.u32 (x2.c.root))) ∧
                                ((Value.int IntKind.i64 (c'.lo)) = (Value.int IntKind.i64 (x2.c.lo))) ∧
                                ((Value.int IntKind.i64 (c'.hi)) = (Value.int IntKind.i64 (x2.c.hi))) ∧
                                ((Value.int IntKind.i64 (c'.place)) = (Value.int IntKind.i64 (x2.c.place))) ∧
                                ((Value.int IntKind.i64 (c'.ek)) = (Value.int IntKind.i64 (x2.c.ek))) ∧
                                ((Value.int IntKind.i64 (c'.ev)) = (Value.int IntKind.i64 (x2.c.ev))) ∧
                                ((Value.bool (c'.closed)) = (Value.bool (x2.c.closed))) ∧
                                True) ∧
                                (True ∧
                                True ∧
                                True ∧
                                ((Value.int IntKind.u64 (S'2.reads)) = (Value.int IntKind.u64 (x2.S.reads))) ∧
                                True) ∧
                                (True ∧
                                True ∧
                                True ∧
                                ((Value.int IntKind.u32 (S'2.fresh)) = (Value.int IntKind.u32 (x2.S.fresh))) ∧
                                True) ∧
                                ((S'2.nodes) = (x2.S.nodes)) ∧
                                ((S'2.counts) = (x2.S.counts)) ∧
                                ((S'2.used) = (x2.S.used)) ∧
                                ((S'2.gen) = (x2.S.gen)) ∧
                                ((S'2.rel) = (x2.S.rel)) ∧
                                ((W20 raw) = (W20 raw)) ∧
                                True ∧
                                ((x1.l) = (x2.l)) ∧
                                (True ∧
                                ((Value.int IntKind.i64 (k')) = (Value.int IntKind.i64 (x2.k))) ∧
                                ((Value.bool false) = (Value.bool false)) ∧
                                True) ∧
                                True))))))))))))) := by
    refine ⟨_, u, h1'.wf, rp, by rw [lu]; exact la, by rw [lu, hJ.lo, hJ.hi], hJ.rl, by omega, by omega, fun S3 m c' k' e3 m3 e4 e5 => ?_⟩
    obtain ⟨g1, g2, g3, g4⟩ := e5
    have h3 := h1'.rd (n := m) (by omega)
    rw [← e3] at h3
    have r3 : S3.reads = x1.S.reads + m := by rw [e3]; rfl
    refine ⟨⟨S3, c', k', x1.j, x1.nw, x1.l, d1, by rw [g1]; exact h3, g4.trans hJ.cl, g2.trans hJ.lo, g3.trans hJ.hi, e4, by omega, by omega, len, by rw [e3]; exact hJ.cap⟩, ?_⟩
    (repeat' first | exact trivial | exact rfl | exact congrArg (Value.int IntKind.u32) g1.symm | refine And.intro ?_ ?_)
  refine ⟨?_, fun x2 e2 => ?_⟩
  · have a1 : (0 : Int) ≤ (x1.j : Int) := by omega
    have a2 : (x1.j : Int) < (ml.length : Int) := by omega
    have hc := hJ.cl
    (repeat' first | exact xM | exact hc | exact hl | exact a1 | exact a2 | exact rfl | refine And.intro ?_ ?_)
  · obtain ⟨d2, h2', hK⟩ := x2.h
    have e2 : (x1.j : Int) = (x2.j : Int) := e2
    have rd2 := hK.rd
    refine ⟨⟨x2.S, x2.c, x2.k, x2.j + 1, x2.nw, x2.l, by omega, h2', hK.cl, hK.lo, hK.hi, hK.rl, hK.rd0, by omega, hK.len, hK.cap⟩, ?_⟩
    have v : IntKind.i64.wrap ((x2.j : Int) + 1) = ((x2.j + 1 : Nat) : Int) := by rw [wrap_id (by omega) (by omega)]; rfl
    (repeat' first | exact trivial | exact rfl | exact congrArg (Value.int IntKind.i64) v | refine And.intro ?_ ?_)
    show 40 - (x2.j + 1) < 40 - x.j
    omega
theorem s_st : SoundT C0 7 tSt := by
  refine .of Try.func7 (by decide) rfl fun args H K h hB => ?_
  unfold tSt at h
  split at h <;> try exact h.elim
  rename_i t raw ml ed
  obtain ⟨I, hv⟩ := vc_st raw ml ed t K h.1 h.2.1 h.2.2.1 h.2.2.2
  refine ⟨_, ?_, hv⟩
  exact ⟨frame C0.ok s_lst _, frame C0.ok s_grow _, frame C0.ok s_nIns _, frame C0.ok s_awake24 _, frame C0.ok s_openL _, frame C0.ok s_sound _, frame C0.ok s_o24 _, frame C0.ok s_mv _, frame C0.ok s_release _, frame C0.ok s_cu_close _, frame C0.ok s_cu_next _, frame C0.ok s_upDx _, frame C0.ok s_upIn _, frame C0.ok s_ins _, frame C0.ok s_del _, frame C0.ok s_dump _, frame C0.ok s_tr7 _, trivial⟩
end Go.Proofs.Ytmjnoiajenoinaa.Sx
end
section
/- What every law's last step leans on. -/
namespace Go.Proofs.Ytmjnoiajenoinaa
open Go.ChangeShapes Go.WideShapes Go.ChangeAt Go.RowKit

theorem ownK : ownKnob Try.prog.godebug = none := by kernel_rfl
theorem laidO : laidOutB Try.prog = true := by kernel_rfl

theorem lit_i64 {a : Int} (h : (Lit.int .i64 a).wf = true) : -9223372036854775808 ≤ a ∧ a ≤ 9223372036854775807 := by
  have h1 : IntKind.i64.min = -9223372036854775808 := rfl
  have h2 : IntKind.i64.max = 9223372036854775807 := rfl
  simp only [Lit.wf, Bool.and_eq_true, decide_eq_true_eq] at h
  omega
theorem lit_u64 {a : Int} (h : (Lit.int .u64 a).wf = true) : 0 ≤ a ∧ a ≤ 18446744073709551615 := by
  have h1 : IntKind.u64.min = 0 := rfl
  have h2 : IntKind.u64.max = 18446744073709551615 := rfl
  simp only [Lit.wf, Bool.and_eq_true, decide_eq_true_eq] at h
  omega
end Go.Proofs.Ytmjnoiajenoinaa
end
section
/- From contracts to laws: the arguments as they come, what a law's call leaves. -/
namespace Go.Proofs.Ytmjnoiajenoinaa.Sx
open Go Go.Joins Go.ChangeShapes Go.WideShapes Go.ChangeAt Go.RowKit

theorem Sat.imms {C : Ctx} {w : World} (vs : List Value) (H : List (Chunk C)) (h : ∀ (n : Nat) (c : Chunk C), H[n]? = some c → ∃ e l, c = .row false e l ∧ Imm C w (vs.getD n undef) e l) : Sat C (fun n => vs.getD n undef) (fun _ _ => False) w H where
  holds n c hc := by
    obtain ⟨e, l, rfl, hi⟩ := h n c hc
    exact ⟨hi, fun _ hh => hh⟩
  dis _ _ _ hh := hh.elim
  bd _ _ hh := hh.elim
  imm _ _ _ _ _ _ hh := hh
  out _ _ _ hh := hh
  cl n c hc m hm := by
    obtain ⟨e, l, rfl, _⟩ := h n c hc
    simp [Chunk.names] at hm

theorem lawOf {f : FuncId} {t : Tfm C0} (hs : SoundT C0 f t) {args : List TV} {H : List (Chunk C0)} {vs : List Value} {σ : Nat → Value} {w : World} (ht : ∀ K : KT, K (.one (.at (vB true))) H [] → t args H K)
    (hsat : Sat C0 σ (fun _ _ => False) w H) (hr : Rels (TV.rel σ) args vs) (hn : ∀ x ∈ args, ∀ m ∈ x.names, m < H.length) : Calls Try.prog f vs.toArray w (fun e w' => e = .returned (.bool true) ∧ Below w.heap.size w w') := by
  have hc := hs.call args H (fun r _ _ => r = .one (.at (vB true))) (ht _ rfl) σ _ w vs hsat hr hn
  refine Calls.mono hc fun e w' hh => ?_
  cases e with
  | panicked ch => exact hh.elim
  | outgrown => exact hh.elim
  | returned v =>
    obtain ⟨r, H', ts, σ', φ', hout, rfl⟩ := hh
    have hv : v = .bool true := hout.rel
    exact ⟨by rw [hv], hout.adv.os, hout.adv.tape, hout.adv.output, hout.adv.size, fun k hk => hout.adv.fr k hk fun n hh => hh⟩

section
variable {HH : Type} {enc : TypeId × Value → HH} {P : Program} {w : World} {base b0 : Nat} {spare : Nat → Bool} {held : Bool} {r : Reach}
theorem openRowQ {α : Type} [Inhabited α] {t e : TypeId} {f : α → List Value} {Q : α → Prop} {sz : Nat} {v : Value} {d : DataW HH} {p : List MemPlace} (ht : P.underlying t = some (.slice e)) (hC : P.cellsOf e = sz) (hpos : 0 < sz) (hf : ∀ x, (f x).length = sz)
    (hel : ∀ {n : Nat} {cs : List Value} {x : DataW HH × List MemPlace}, DataW.trod enc P w base spare held n e cs = some x → ∃ a, cs = f a ∧ Q a) (hv : Value.okWide P w r b0 t v) (h : DataW.Trod enc P w base spare held t v d p) :
    ∃ A n c l, v = .slice A n c ∧ Rd f sz w A n c l ∧ ∀ x ∈ l, Q x := by
  obtain ⟨A, n, c, rfl⟩ := okWide_slice ht hv
  obtain ⟨fuel, hh⟩ := h
  have hh : DataW.trod enc P w base spare held fuel t [.slice A n c] = some (d, p) := by simpa [Value.cells] using hh
  rcases Go.Deep.open_slice ht hh with ⟨h1, _⟩ | ⟨a, len, cap, m, k, D, Pl, h1, hb, hle, hm, hmm, hx, hall⟩
  · simp only [List.cons.injEq, Value.slice.injEq, and_true] at h1
    obtain ⟨rfl, rfl, rfl⟩ := h1
    exact ⟨none, 0, 0, [], rfl, Rd.nil hf, fun x hx => by simp at hx⟩
  · simp only [List.cons.injEq, Value.slice.injEq, and_true] at h1
    obtain ⟨rfl, rfl, rfl⟩ := h1
    have hlm : n ≤ m := by rw [hmm]; split <;> omega
    have hel' : ∀ i, i < n → ∃ x : α, w.cells? base (a.add (i * P.cellsOf e)) (P.cellsOf e) = some (f x) ∧ Q x := fun i hi => by
      obtain ⟨cs', hc1, hc2⟩ := hall i (by omega)
      obtain ⟨x, rfl, hq⟩ := hel hc2
      exact ⟨x, hc1, hq⟩
    obtain ⟨F, hF⟩ := Go.Deep.choose_lt hel'
    have cell : ∀ i, i < n → ∀ j, j < sz → w.cell? ((a.add (i * sz)).add j) = (f (F i))[j]? := fun i hi j hj => by
      have h2 := (hF i hi).1
      rw [hC] at h2
      unfold World.cells? at h2
      split at h2
      · exact mapM_some_get h2 j j (by simp [hj])
      · cases h2
    refine ⟨some a, n, c, (List.range n).map F, rfl, ⟨by simp, hle, hm, hf, fun h => (by cases h), fun hn => ?_⟩, fun x hx => by obtain ⟨i, hi, rfl⟩ := List.mem_map.1 hx; exact (hF i (List.mem_range.1 hi)).2⟩
    obtain ⟨b, o, sp⟩ := a
    have hsome : ∀ i, i < n → ∀ j, j < sz → ∃ u, w.cell? (((⟨b, o, sp⟩ : Addr).add (i * sz)).add j) = some u := fun i hi j hj => by
      rw [cell i hi j hj]
      exact ⟨_, List.getElem?_eq_getElem (by rw [hf]; exact hj)⟩
    obtain ⟨u0, hu0⟩ := hsome 0 hn 0 hpos
    have hspot : sp = none := by simpa [Addr.add] using World.cell?_spot hu0
    subst hspot
    refine ⟨b, o, rfl, ?_, fun k x hx j u hu => ?_⟩
    · have hu1 : w.cell? ⟨b, o, none⟩ = some u0 := by simpa [Addr.add] using hu0
      unfold World.cell? at hu1
      split at hu1
      · rename_i hb2
        exact (Array.getElem?_eq_some_iff.1 hb2).1
      · cases hu1
    · rw [List.getElem?_map] at hx
      have hk : k < n := by
        rcases Nat.lt_or_ge k n with h2 | h2
        · exact h2
        · rw [List.getElem?_eq_none (by simpa using h2)] at hx; cases hx
      rw [List.getElem?_range hk] at hx
      simp only [Option.map_some, Option.some.injEq] at hx
      subst hx
      have hj : j < sz := by
        have := (List.getElem?_eq_some_iff.1 hu).1
        rwa [hf] at this
      have h3 := cell k hk j hj
      rw [hu] at h3
      rw [← h3]
      congr 1
      rw [Go.WideShapes.add_plain, Go.WideShapes.add_plain]
theorem openRow {α : Type} [Inhabited α] {t e : TypeId} {f : α → List Value} {sz : Nat} {v : Value} {d : DataW HH} {p : List MemPlace} (ht : P.underlying t = some (.slice e)) (hC : P.cellsOf e = sz) (hpos : 0 < sz) (hf : ∀ x, (f x).length = sz)
    (hel : ∀ {n : Nat} {cs : List Value} {x : DataW HH × List MemPlace}, DataW.trod enc P w base spare held n e cs = some x → ∃ a, cs = f a) (hv : Value.okWide P w r b0 t v) (h : DataW.Trod enc P w base spare held t v d p) :
    ∃ A n c l, v = .slice A n c ∧ Rd f sz w A n c l := by
  obtain ⟨A, n, c, l, h1, h2, _⟩ := openRowQ (Q := fun _ => True) ht hC hpos hf (fun h => by obtain ⟨a, e⟩ := hel h; exact ⟨a, e, trivial⟩) hv h
  exact ⟨A, n, c, l, h1, h2⟩
end

section
variable {HH : Type} {enc : TypeId × Value → HH} {w : World} {base b0 : Nat} {spare : Nat → Bool} {held : Bool} {r : Reach}
set_option maxRecDepth 100000 in
theorem elEw {n : Nat} {cs : List Value} {x : DataW HH × List MemPlace} (h : DataW.trod enc Try.prog w base spare held n 61 cs = some x) :
    ∃ a : Ent, cs = EC.enc .ent a ∧ ((-9223372036854775808 ≤ a.1 ∧ a.1 ≤ 9223372036854775807) ∧ (-9223372036854775808 ≤ a.2 ∧ a.2 ≤ 9223372036854775807)) := by
  obtain ⟨y0, y1, m, _, hl, h0, h1⟩ := trod_struct2 Try.underlying61 h
  obtain ⟨k, e0, _, w0⟩ := DataW.trod_int Try.underlying2 h0
  obtain ⟨v, e1, _, w1⟩ := DataW.trod_int Try.underlying2 h1
  have hl : cs.length = 2 := hl.trans (by kernel_rfl)
  have c1 : Try.prog.cellsOf 2 = 1 := by kernel_rfl
  match cs, hl with
  | [a, b], _ =>
    simp [c1] at e0 e1
    exact ⟨(k, v), by rw [e0, e1]; rfl, lit_i64 w0, lit_i64 w1⟩
set_option maxRecDepth 100000 in
/-- The same with what the entries' numbers are. -/
theorem openEw {v : Value} {d : DataW HH} {p : List MemPlace} (hv : Value.okWide Try.prog w r b0 58 v) (h : DataW.Trod enc Try.prog w base spare held 58 v d p) :
    ∃ (l : List Ent), Imm C0 w v EC.ent l ∧ ∀ x ∈ l, (-9223372036854775808 ≤ x.1 ∧ x.1 ≤ 9223372036854775807) ∧ (-9223372036854775808 ≤ x.2 ∧ x.2 ≤ 9223372036854775807) := by
  obtain ⟨A, n, c, l, rfl, hr, hq⟩ := openRowQ (α := Ent) (f := fun x => EC.enc .ent x) (sz := 2) Try.underlying58 (by kernel_rfl) (by decide) (fun _ => rfl) (fun h => elEw h) hv h
  obtain rfl := hr.len
  exact ⟨l, ⟨A, c, rfl, hr⟩, hq⟩
instance : Inhabited Chg := ⟨⟨0, 0, 0, 0⟩⟩
end
end Go.Proofs.Ytmjnoiajenoinaa.Sx
end
section
/- Opening arguments that are slices of edits (cursor, update), of steps (compact), of numbers, of truth values. -/
namespace Go.Proofs.Ytmjnoiajenoinaa.Sx
open Go Go.Joins Go.ChangeShapes Go.WideShapes Go.ChangeAt Go.RowKit

section
variable {HH : Type} {enc : TypeId × Value → HH} {w : World} {base b0 : Nat} {spare : Nat → Bool} {held : Bool} {r : Reach}
instance : Inhabited EduT := ⟨⟨false, (0, 0)⟩⟩
instance : Inhabited LStepT := ⟨⟨false, 0, 0, 0, 0⟩⟩
def rng64 (x : Int) : Prop := -9223372036854775808 ≤ x ∧ x ≤ 9223372036854775807
set_option maxRecDepth 100000 in
theorem elH {n : Nat} {cs : List Value} {x : DataW HH × List MemPlace} (h : DataW.trod enc Try.prog w base spare held n 88 cs = some x) : ∃ a : EduT, cs = EC.enc .edc a ∧ ((-9223372036854775808 ≤ a.ent.1 ∧ a.ent.1 ≤ 9223372036854775807) ∧ (-9223372036854775808 ≤ a.ent.2 ∧ a.ent.2 ≤ 9223372036854775807)) := by
  obtain ⟨y0, y1, m, _, hl, h0, h1⟩ := trod_struct2 Try.underlying88 h
  obtain ⟨k, e0, _⟩ := DataW.trod_bool Try.underlying4 h0
  obtain ⟨s, e2, q2⟩ := elEw h1
  have hl : cs.length = 3 := hl.trans (by kernel_rfl)
  have c1 : Try.prog.cellsOf 4 = 1 := by kernel_rfl
  have c3 : Try.prog.cellsOf 61 = 2 := by kernel_rfl
  match cs, hl with
  | [a, c, d], _ =>
    simp [c1, c3] at e0 e2
    have e2 : [c, d] = [Value.int .i64 s.1, Value.int .i64 s.2] := e2
    simp only [List.cons.injEq, and_true] at e2
    exact ⟨⟨k, s⟩, by rw [e0, e2.1, e2.2]; rfl, q2⟩
set_option maxRecDepth 100000 in
theorem openH {v : Value} {d : DataW HH} {p : List MemPlace} (hv : Value.okWide Try.prog w r b0 81 v) (h : DataW.Trod enc Try.prog w base spare held 81 v d p) :
    ∃ (l : List EduT), Imm C0 w v EC.edc l ∧ ∀ x ∈ l, (-9223372036854775808 ≤ x.ent.1 ∧ x.ent.1 ≤ 9223372036854775807) ∧ (-9223372036854775808 ≤ x.ent.2 ∧ x.ent.2 ≤ 9223372036854775807) := by
  obtain ⟨A, n, c, l, rfl, hr, hq⟩ := openRowQ (α := EduT) (f := fun x => EC.enc .edc x) (sz := 3) Try.underlying81 (by kernel_rfl) (by decide) (fun _ => rfl) (fun h => elH h) hv h
  obtain rfl := hr.len
  exact ⟨l, ⟨A, c, rfl, hr⟩, hq⟩
end
end Go.Proofs.Ytmjnoiajenoinaa.Sx
end
section
/- Opening an argument that is a slice of a cursor's moves. -/
namespace Go.Proofs.Ytmjnoiajenoinaa.Sx
open Go Go.Joins Go.ChangeShapes Go.WideShapes Go.ChangeAt Go.RowKit

section
variable {HH : Type} {enc : TypeId × Value → HH} {w : World} {base b0 : Nat} {spare : Nat → Bool} {held : Bool} {r : Reach}
set_option maxRecDepth 100000 in
theorem elM {n : Nat} {cs : List Value} {x : DataW HH × List MemPlace} (h : DataW.trod enc Try.prog w base spare held n 95 cs = some x) : ∃ a : MoveT, cs = EC.enc .move a := by
  obtain ⟨y0, y1, y2, m, _, hl, h0, h1, h2⟩ := Go.Deep.trod_struct3 Try.underlying95 h
  obtain ⟨k, e0, _⟩ := DataW.trod_int Try.underlying3 h0
  obtain ⟨v, e1, _⟩ := DataW.trod_int Try.underlying2 h1
  obtain ⟨s, e2, _⟩ := DataW.trod_int Try.underlying3 h2
  have hl : cs.length = 3 := hl.trans (by kernel_rfl)
  have c1 : Try.prog.cellsOf 2 = 1 := by kernel_rfl
  have c2 : Try.prog.cellsOf 3 = 1 := by kernel_rfl
  match cs, hl with
  | [a, b, c], _ =>
    simp [c1, c2] at e0 e1 e2
    exact ⟨⟨k, v, s⟩, by rw [e0, e1, e2]; rfl⟩
instance : Inhabited MoveT := ⟨⟨0, 0, 0⟩⟩
set_option maxRecDepth 100000 in
theorem openM {v : Value} {d : DataW HH} {p : List MemPlace} (hv : Value.okWide Try.prog w r b0 80 v) (h : DataW.Trod enc Try.prog w base spare held 80 v d p) :
    ∃ (l : List MoveT), Imm C0 w v EC.move l := by
  obtain ⟨A, n, c, l, rfl, hr⟩ := openRow (α := MoveT) (f := fun x => EC.enc .move x) (sz := 3) Try.underlying80 (by kernel_rfl) (by decide) (fun _ => rfl) (fun h => elM h) hv h
  obtain rfl := hr.len
  exact ⟨l, A, c, rfl, hr⟩
end
end Go.Proofs.Ytmjnoiajenoinaa.Sx
end
section
/- 'CursorIsStable': the law returns true for every input, and its arguments read afterwards as they read before. -/
namespace Go.Proofs.Ytmjnoiajenoinaa.cursorIsStable
open Go.ChangeShapes Go.WideShapes Go.ChangeAt Go.RowKit Sx

set_option maxRecDepth 100000 in
theorem lifted (os : Os) (started : os.Started) (H : Type) (enc : TypeId × Value → H) :
    ReturnsInHanded {} Try.checked os 7 .any (Rows.cursorIsStableSpec.pre6 enc Try.prog Try.f7 Rows.cursorIsStableRow.domain false) (Rows.cursorIsStableSpec.post enc Try.prog Try.f7 false true false false) := by
  refine returnsInHanded_of_change (C := Try.checked) ownK started (by kernel_rfl) Try.func7
    (ChangeSpec.witness6 (enc := enc) (C := Try.checked) false ⟨#[], #[.slice none 0 0, .int .u64 0, .slice none 0 0, .slice none 0 0], []⟩ 8 (by kernel_rfl) (by kernel_rfl) (by kernel_rfl) (by kernel_rfl)) ?_
  intro W base args ds gs before hval0 hW hcnd _
  have hval : ∀ (j : Nat) t v, Try.f7.params[j]? = some t → args[j]? = some v → Value.okWide Try.prog W .any base t v := hval0
  have hW' := hW
  obtain ⟨p, q, hA0, hV, rfl, hfz, hnd⟩ := hW
  have hA : DataW.TrodAll enc Try.prog W 0 (fun _ => true) true Try.f7.params.toList args.toList ds p := hA0
  rw [Try.params7] at hA hval
  obtain ⟨v0, vs0, d0, ds0, p0, q0, hargs, rfl, rfl, h0, r0⟩ := trodAll_cons hA
  obtain ⟨v1, vs1, d1, ds1, p1, q1, rfl, rfl, rfl, h1, r1⟩ := trodAll_cons r0
  obtain ⟨v2, vs2, d2, ds2, p2, q2, rfl, rfl, rfl, h2, r2⟩ := trodAll_cons r1
  obtain ⟨v3, vs3, d3, ds3, p3, q3, rfl, rfl, rfl, h3, r3⟩ := trodAll_cons r2
  obtain ⟨rfl, rfl, rfl⟩ := trodAll_nil r3
  obtain rfl : args = #[v0, v1, v2, v3] := by cases args; simp_all
  obtain ⟨rfl, rfl⟩ := trodVars_none hV
  have k0 := h0
  have k1 := h1
  have k2 := h2
  have k3 := h3
  clear hA0 hval0
  simp only [List.append_nil] at hW'
  have hlt : ∀ x ∈ p0 ++ (p1 ++ (p2 ++ (p3))), x.block < W.heap.size := fun x hx => by simpa using hW'.lt x (by simpa using hx)
  have l0 : ∀ x ∈ p0, x.block < W.heap.size := fun x hx => hlt x (by simp [hx])
  have l1 : ∀ x ∈ p1, x.block < W.heap.size := fun x hx => hlt x (by simp [hx])
  have l2 : ∀ x ∈ p2, x.block < W.heap.size := fun x hx => hlt x (by simp [hx])
  have l3 : ∀ x ∈ p3, x.block < W.heap.size := fun x hx => hlt x (by simp [hx])
  obtain ⟨L0, R0, Q0⟩ := openEw (hval 0 58 v0 rfl rfl) h0
  obtain ⟨a1, rfl, rfl, rfl, w1⟩ := open_int Try.underlying74 (hval 1 74 v1 rfl rfl) h1
  have b1 := lit_u64 w1
  obtain ⟨L2, R2⟩ := openM (hval 2 80 v2 rfl rfl) h2
  obtain ⟨L3, R3, Q3⟩ := openH (hval 3 81 v3 rfl rfl) h3
  refine (lawOf s_st (args := [.at (.slc 0), .at (.val (.int .u64 a1)), .at (.slc 1), .at (.slc 2)]) (H := [Chunk.row false EC.ent L0, Chunk.row false EC.move L2, Chunk.row false EC.edc L3]) (vs := [v0, .int .u64 a1, v2, v3]) (σ := fun n => [v0, v2, v3].getD n undef) (w := W) (fun K h => ⟨b1.1, fun x hx => (Q0 x hx).1, fun x hx => (Q3 x hx).1, h⟩)
    (Sat.imms [v0, v2, v3] _ fun n c hc => by match n, hc with | 0, hc => exact ⟨_, _, (Option.some.inj hc).symm, R0⟩ | 1, hc => exact ⟨_, _, (Option.some.inj hc).symm, R2⟩ | 2, hc => exact ⟨_, _, (Option.some.inj hc).symm, R3⟩ | n + 3, hc => simp at hc) (Rels.cons rfl (Rels.cons rfl (Rels.cons rfl (Rels.cons rfl Rels.nil)))) (by simp [TV.names, At.names])).mono fun e W' ⟨he, hg⟩ => ?_
  subst he
  exact ⟨_, rfl, _, _, _, [] ++ [], _, [], hW', (trodAll_cons_mk (shut_bool Try.underlying4 true) trodAll_mk0), (trodAll_cons_mk (Below.trod laidO (by kernel_rfl) (of_decide_eq_true (by kernel_rfl)) k0 hg l0) (trodAll_cons_mk (Below.trod laidO (by kernel_rfl) (of_decide_eq_true (by kernel_rfl)) k1 hg l1) (trodAll_cons_mk (Below.trod laidO (by kernel_rfl) (of_decide_eq_true (by kernel_rfl)) k2 hg l2) (trodAll_cons_mk (Below.trod laidO (by kernel_rfl) (of_decide_eq_true (by kernel_rfl)) k3 hg l3) trodAll_mk0)))), rfl, hg.frame _, fun h => by cases h⟩

theorem over : Rows.cursorIsStableRow.holds Try.pinned (OpenSpec.ofChange Rows.cursorIsStableSpec) :=
  OpenClaim.holds_of_wide 7 Try.f7 rfl rfl rfl rfl rfl rfl rfl ⟨rfl, rfl, rfl, rfl, rfl⟩ rfl rfl rfl rfl rfl (by kernel_rfl) Try.func7 (by kernel_rfl)
    (of_decide_eq_true (by kernel_rfl)) (by unfold Func.isWrapper; first | (rw [if_pos (by decide +kernel)]; kernel_rfl) | (rw [if_neg (by decide +kernel)]; exact ⟨rfl, rfl⟩))
    (fun os started H enc _ => lifted os started H enc)

theorem proved : Rows.CursorIsStableSaid := over
#print axioms proved
end Go.Proofs.Ytmjnoiajenoinaa.cursorIsStable
end
