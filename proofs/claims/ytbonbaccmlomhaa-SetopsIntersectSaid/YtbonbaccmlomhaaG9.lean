/- A part of the proof. -/
import Derived.Test.YtbonbaccmlomhaaG5
import Derived.Test.YtbonbaccmlomhaaG1
import Derived.Test.YtbonbaccmlomhaaG8
import Derived.Test.YtbonbaccmlomhaaG7
import Derived.Test.YtbonbaccmlomhaaG2
section
/- Listing trees. -/
namespace Go.Proofs.Ytbonbaccmlomhaa.Sx
open Go

/-KEEP Wf exW inU live Arn.cap Arn.free maxSize mkNode makeS relA nxt NodeR BuildR Rep lk pl rdS Tr.size-/
abbrev chL (lim : Int) (S : Arn) (out : List Ent) : List (Chunk C0) := [.box [.ptr 1 0, .slc 2, vI lim], .box [.ptr 3 0, .slc 4, .slc 5, vU64 S.reads], .row true EC.ent out, .box [.slc 6, .slc 7, .slc 8, vU S.fresh], .row true EC.node S.nodes, .row true EC.int S.counts, .row true EC.bool S.used, .row true EC.u32 S.gen, .row true EC.u32 S.rel]
def lsM (H : List (Chunk C0)) (k : Int → Arn → List Ent → Prop) : Prop := match H with
  | [.box [.ptr 1 0, .slc 2, .val (.int .i64 lim)], .box [.ptr 3 0, .slc 4, .slc 5, .val (.int .u64 rd)], .row true .ent out, .box [.slc 6, .slc 7, .slc 8, .val (.int .u32 fr)], .row true .node nd, .row true .int ct, .row true .bool us, .row true .u32 gn, .row true .u32 rl] => k lim ⟨us, gn, rl, fr, nd, ct, rd⟩ out
  | _ => False
def tFull : Tfm C0 := fun args H K => match args with
  | [.at (.ptr 0 0)] => lsM H fun lim S out => K (.one (.at (vB (decide (lim ≤ (out.length : Int)))))) (chL lim S out) []
  | _ => False
def room (lim : Int) (out : List Ent) : Nat := (lim - out.length).toNat
def tLk (n : Nat) : Tfm C0 := fun args H K => match args with
  | [.at (.ptr 0 0), .at (.val (.int .u32 i)), .at (.val (.int .i64 lo)), .at (.val (.int .i64 hi))] => lsM H fun lim S out => ∃ hs t, Wf S hs ∧ Rep S t i ∧ t.size < n ∧ t.size ≤ 1000000 ∧ out.length + t.size ≤ 3000000 ∧ S.reads + t.size ≤ 3000000000000000000 ∧
    ∀ S' out', S' = rdS S (lk t lo hi (room lim out)).2 → out' = out ++ (lk t lo hi (room lim out)).1 → K (.tup []) (chL lim S' out') [0, 1, 2]
  | _ => False
structure XSt (P : Arn → List Ent → Prop) where
  S : Arn
  out : List Ent
  h : P S out
noncomputable def aLk (n : Nat) (lim : Int) (nd : NodeT) (P1 P2 : Arn → List Ent → Prop) : Ann C0 := { Γ := [(145, frameT [] tFull), (63, frameT [] tNode), (124, frameT [] (tLk n))], inv := fun k => match k with
  | 1005 => some { X := XSt P1, sl := [8], tf := fun _ => [.one (.at (.ptr 9 0))], hf := fun x => chL lim x.S x.out ++ [bxN nd], wr := [0, 1, 2] }
  | 1007 => some { X := XSt P2, sl := [8], tf := fun _ => [.one (.at (.ptr 9 0))], hf := fun x => chL lim x.S x.out ++ [bxN nd], wr := [0, 1, 2] }
  | _ => none }
def tPl (n : Nat) : Tfm C0 := fun args H K => match args with
  | [.at (.ptr 0 0), .at (.val (.int .u32 i)), .at (.val (.int .i64 x)), .at (.val (.int .i64 y))] => lsM H fun lim S out => ∃ hs t, Wf S hs ∧ Rep S t i ∧ t.size < n ∧ t.size ≤ 1000000 ∧ out.length + t.size ≤ 3000000 ∧ S.reads + 2 * t.size ≤ 3000000000000000000 ∧ 0 ≤ x ∧ y ≤ t.size ∧
    ∀ S' out', S' = rdS S (pl t x y).2 → out' = out ++ (pl t x y).1 → K (.tup []) (chL lim S' out') [0, 1, 2]
  | _ => False
def lkA (t : Tr) (lo hi : Int) (rm : Nat) : List Ent × Nat := match t with
  | .nil => ([], 0)
  | .node l k _ _ => if lo < k then lk l lo hi rm else ([], 0)
def lkB (t : Tr) (lo hi : Int) (rm : Nat) : List Ent := match t with
  | .nil => []
  | .node _ k v _ => if lo ≤ k ∧ k ≤ hi ∧ (lkA t lo hi rm).1.length < rm then [(k, v)] else []
def plS (t : Tr) : Int := match t with
  | .nil => 0
  | .node l _ _ _ => l.size
def plA (t : Tr) (x y : Int) : List Ent × Nat := match t with
  | .nil => ([], 0)
  | .node l _ _ _ => if x < (l.size : Int) then pl l x (if (l.size : Int) < y then (l.size : Int) else y) else ([], 0)
def plB (t : Tr) (x y : Int) : List Ent := match t with
  | .nil => []
  | .node l k v _ => if x ≤ (l.size : Int) ∧ (l.size : Int) < y then [(k, v)] else []
end Go.Proofs.Ytbonbaccmlomhaa.Sx
end
section
/- Range, Slice and List; Build. -/
namespace Go.Proofs.Ytbonbaccmlomhaa.Sx
open Go

/-KEEP Wf exW inU live Arn.cap Arn.free maxSize mkNode makeS relA nxt NodeR BuildR Rep lk pl rdS Tr.size rangeR sliceR ne0-/
def tLkA : Tfm C0 := fun args H K => match args with
  | [.at (.ptr 0 0), .at (.val (.int .u32 i)), .at (.val (.int .i64 lo)), .at (.val (.int .i64 hi))] => lsM H fun lim S out => ∃ hs t, Wf S hs ∧ Rep S t i ∧ t.size ≤ 1000000 ∧ out.length + t.size ≤ 3000000 ∧ S.reads + t.size ≤ 3000000000000000000 ∧
    ∀ S' out', S' = rdS S (lk t lo hi (room lim out)).2 → out' = out ++ (lk t lo hi (room lim out)).1 → K (.tup []) (chL lim S' out') [0, 1, 2]
  | _ => False
def tPlA : Tfm C0 := fun args H K => match args with
  | [.at (.ptr 0 0), .at (.val (.int .u32 i)), .at (.val (.int .i64 x)), .at (.val (.int .i64 y))] => lsM H fun lim S out => ∃ hs t, Wf S hs ∧ Rep S t i ∧ t.size ≤ 1000000 ∧ out.length + t.size ≤ 3000000 ∧ S.reads + 2 * t.size ≤ 3000000000000000000 ∧ 0 ≤ x ∧ y ≤ t.size ∧
    ∀ S' out', S' = rdS S (pl t x y).2 → out' = out ++ (pl t x y).1 → K (.tup []) (chL lim S' out') [0, 1, 2]
  | _ => False
def rangeR (t : Tr) (lo hi lim : Int) : List Ent × Nat := if lim ≤ 0 ∨ hi < lo then ([], 0) else lk t lo hi lim.toNat
def sliceR (t : Tr) (x y : Int) : List Ent × Nat := if x < 0 ∨ y < x then ([], 0) else if (t.size : Int) < y then ([], ne0 t) else ((pl t x y).1, ne0 t + (pl t x y).2)
noncomputable def aRange : Ann C0 := { Γ := [(124, frameT [] tLkA)] }
def tRange : Tfm C0 := fun args H K => match args with
  | [.at (.ptr 0 0), .at (.val (.int .u32 i)), .at (.val (.int .i64 lo)), .at (.val (.int .i64 hi)), .at (.val (.int .i64 lim))] => arM H fun S => ∃ hs t, Wf S hs ∧ Rep S t i ∧ t.size ≤ 1000000 ∧ S.reads + t.size ≤ 3000000000000000000 ∧
    ∀ S' (out : List Ent), S' = rdS S (rangeR t lo hi lim).2 → out = (rangeR t lo hi lim).1 → K (.one (.at (.slc 7))) (chS S' ++ [.row true EC.ent out]) [0]
  | _ => False
def tSlice : Tfm C0 := fun args H K => match args with
  | [.at (.ptr 0 0), .at (.val (.int .u32 i)), .at (.val (.int .i64 x)), .at (.val (.int .i64 y))] => arM H fun S => ∃ hs t, Wf S hs ∧ Rep S t i ∧ t.size ≤ 1000000 ∧ S.reads + 2 * t.size ≤ 2000000000000000000 ∧
    ∀ S' (out : List Ent), S' = rdS S (sliceR t x y).2 → out = (sliceR t x y).1 → K (.one (.at (.slc 7))) (chS S' ++ [.row true EC.ent out]) [0]
  | _ => False
noncomputable def aList : Ann C0 := { Γ := [(90, frameT [] tRange)] }
def tList : Tfm C0 := fun args H K => match args with
  | [.at (.ptr 0 0), .at (.val (.int .u32 i))] => arM H fun S => ∃ hs t, Wf S hs ∧ Rep S t i ∧ t.size ≤ 1000000 ∧ S.reads + t.size ≤ 3000000000000000000 ∧
    ∀ S' (out : List Ent), S' = rdS S (rangeR t (-9223372036854775808) 9223372036854775807 2147483647).2 → out = (rangeR t (-9223372036854775808) 9223372036854775807 2147483647).1 → K (.one (.at (.slc 7))) (chS S' ++ [.row true EC.ent out]) [0]
  | _ => False
def tNodeW : Tfm C0 := fun args H K => match args with
  | [.at (.ptr 0 0), .at (.val (.int .u32 l)), .agg [.val (.int .i64 k), .val (.int .i64 v)], .at (.val (.int .u32 r))] => arM H fun S => ∃ hs tl tr, Wf S (l :: r :: hs) ∧ Rep S tl l ∧ Rep S tr r ∧ tl.size + tr.size ≤ 1000000 ∧ 0 < S.free ∧ hs.length ≤ 900000000 ∧
    ∀ S' i, NodeR S hs k v tl tr S' i → K (.one (.at (vU i))) (chS S') W7
  | _ => False
noncomputable def aNodeW : Ann C0 := { Γ := [(100, frameT [] tMakeOk), (25, frameT [] tGive)] }
def tBld (n : Nat) : Tfm C0 := fun args H K => match args with
  | [.at (.ptr 0 0), .at (.slc 7)] => arMr H fun S rest => match rest with
    | [.row false .ent l] => ∃ hs, Wf S hs ∧ l.length < n ∧ l.length ≤ 100000 ∧ (l.length : Int) ≤ S.free ∧ hs.length + l.length ≤ 800000000 ∧ ∀ S' i, BuildR S hs l S' i → K (.one (.at (vU i))) (chS S' ++ [.row false EC.ent l]) W7
    | _ => False
  | _ => False
structure XBld (P : Arn → Int → Prop) where
  S : Arn
  i : Int
  h : P S i
noncomputable def aBld (n : Nat) (l : List Ent) (P : Arn → Int → Prop) : Ann C0 := { Γ := [(88, frameT [] (tBld n)), (123, frameT [] tNodeW)], inv := fun k => match k with
  | 1005 => some { X := XBld P, sl := [6], tf := fun x => [vi .u32 x.i], hf := fun x => chS x.S ++ [.row false EC.ent l], wr := W7 }
  | _ => none }
end Go.Proofs.Ytbonbaccmlomhaa.Sx
end
section
/- Build, Grow, and the example of the chapter on bulk operations. -/
namespace Go.Proofs.Ytbonbaccmlomhaa.Sx
open Go

/-KEEP Wf exW inU live Arn.cap Arn.free Rep rdS Tr.size BuildR PlantR rangeR newS ascB-/
def tBldA : Tfm C0 := fun args H K => match args with
  | [.at (.ptr 0 0), .at (.slc 7)] => arMr H fun S rest => match rest with
    | [.row false .ent l] => ∃ hs, Wf S hs ∧ l.length ≤ 100000 ∧ (l.length : Int) ≤ S.free ∧ hs.length + l.length ≤ 800000000 ∧ ∀ S' i, BuildR S hs l S' i → K (.one (.at (vU i))) (chS S' ++ [.row false EC.ent l]) W7
    | _ => False
  | _ => False
noncomputable def aBuild (S : Arn) (l : List Ent) : Ann C0 := { Γ := [(77, frameT [] tFree), (88, frameT [] tBldA)], inv := fun n => match n with
  | 2 => some { X := XA l, sl := [6], tf := fun x => [vi .i64 x.i], hf := fun _ => chS S ++ [.row false EC.ent l], μ := fun x => l.length - x.i }
  | _ => none }
def tBuild : Tfm C0 := fun args H K => match args with
  | [.at (.ptr 0 0), .at (.slc 7)] => arMr H fun S rest => match rest with
    | [.row false .ent l] => ∃ hs, Wf S hs ∧ l.length ≤ 100000 ∧ hs.length + l.length ≤ 800000000 ∧ (ascB l = false → K (.tup [.at (vU 0), .at (vI 7)]) (chS S ++ [.row false EC.ent l]) W7) ∧
      (ascB l = true → S.free < l.length → K (.tup [.at (vU 0), .at (vI 2)]) (chS S ++ [.row false EC.ent l]) W7) ∧
      (ascB l = true → (l.length : Int) ≤ S.free → ∀ S' i, BuildR S hs l S' i → K (.tup [.at (vU i), .at (vI 0)]) (chS S' ++ [.row false EC.ent l]) W7)
    | _ => False
  | _ => False
abbrev chSk (k : Nat) (S : Arn) : List (Chunk C0) := [.box [.ptr (k + 1) 0, .slc (k + 2), .slc (k + 3), vU64 S.reads], .box [.slc (k + 4), .slc (k + 5), .slc (k + 6), vU S.fresh], .row true EC.node S.nodes, .row true EC.int S.counts, .row true EC.bool S.used, .row true EC.u32 S.gen, .row true EC.u32 S.rel]
noncomputable def aGrow : Ann C0 := { Γ := [(34, frameT [] tNew), (51, frameT [] tPlantA)] }
def tGrow : Tfm C0 := fun args H K => match args, H with
  | [.at (.slc 0), .at (.val (.int .u64 t)), .at (.val (.int .i64 sp))], [.row false .ent l] => 0 ≤ t ∧ 1 ≤ sp ∧ sp ≤ 30000 ∧ l.length ≤ 30000 ∧ ∀ S' i, PlantR (newS ((l.length : Int) + sp).toNat) [] l S' i → K (.tup [.at (.ptr 1 0), .at (vU i), .at (vB true)]) ([.row false EC.ent l] ++ chSk 1 S') []
  | _, _ => False
noncomputable def aAwake15 : Ann C0 := { Γ := [(34, frameT [] tNew), (35, frameT [] tBuild), (63, frameT [] tNode), (39, frameT [] tList)] }
def tAwake15 : Tfm C0 := fun args H K => match args, H with
  | [], [] => K (.one (.at (vB true))) [] []
  | _, _ => False
end Go.Proofs.Ytbonbaccmlomhaa.Sx
end
section
/- update.Insert, Delete, Increase. -/
namespace Go.Proofs.Ytbonbaccmlomhaa.Sx
open Go

/-KEEP Wf exW inU live Arn.free Rep rdS retL Tr.size Tr.list Tr.Bal getE Asc ht Hn gN iB dB insE flt neK hasK TrR Got-/
def tIn : Tfm C0 := fun args H K => match args with
  | [.at (.ptr 0 0), .at (.val (.int .u32 i)), .agg [.val (.int .i64 k), .val (.int .i64 v)]] => arM H fun S => ∃ hs t, Wf S (i :: hs) ∧ Rep S t i ∧ t.Bal ∧ Asc t.list ∧ t.size ≤ 700000 ∧ (iB t.size : Int) ≤ S.free ∧ hs.length ≤ 500000000 ∧ S.reads + 5 * iB t.size ≤ 1600000000000000000 ∧
    ∀ S' j, TrR S hs (insE t.list (k, v)) (iB t.size) (5 * iB t.size) S' j → K (.one (.at (vU j))) (chS S') W7
  | _ => False
theorem s_in : SoundT C0 105 tIn := (s_insr 1000000).weak fun args H K h => by
  unfold tIn at h
  unfold tInsT
  split at h <;> try exact h.elim
  unfold arM at h ⊢
  split at h <;> try exact h.elim
  obtain ⟨hs, t, h1, h2, h3, h4, h6, h7, h8, h9, h10⟩ := h
  exact ⟨hs, t, h1, h2, h3, h4, by omega, h6, h7, by omega, h9, h10⟩
def tDe : Tfm C0 := fun args H K => match args with
  | [.at (.ptr 0 0), .at (.val (.int .u32 i)), .at (.val (.int .i64 key))] => arM H fun S => ∃ hs t, Wf S (i :: hs) ∧ Rep S t i ∧ t.Bal ∧ Asc t.list ∧ t.size ≤ 700000 ∧ hasK t.list key ∧ (dB t.size : Int) ≤ S.free ∧ hs.length ≤ 200000000 ∧ S.reads + 5 * dB t.size ≤ 1500000000000000000 ∧
    ∀ S' j, TrR S hs (flt (neK key) t.list) (dB t.size) (5 * dB t.size) S' j → K (.one (.at (vU j))) (chS S') W7
  | _ => False
theorem s_de : SoundT C0 102 tDe := (s_dlt 1000000).weak fun args H K h => by
  unfold tDe at h
  unfold tDlt
  split at h <;> try exact h.elim
  unfold arM at h ⊢
  split at h <;> try exact h.elim
  obtain ⟨hs, t, h1, h2, h3, h4, h6, h7, h8, h9, h10, h11⟩ := h
  exact ⟨hs, t, h1, h2, h3, h4, by omega, h6, h7, h8, by omega, h10, h11⟩
/-- What an update of a held tree starts from. -/
def upM (S : Arn) (hs : List Int) (t : Tr) (root : Int) : Prop := Wf S hs ∧ Rep S t root ∧ t.Bal ∧ Asc t.list ∧ t.size ≤ 60000 ∧ hs.length ≤ 100000000 ∧ S.reads ≤ 1000000000000000000
noncomputable def aUpI : Ann C0 := { Γ := [(18, frameT [] tGetT), (71, frameT [] tHold), (49, frameT [] tSize), (104, frameT [] (tRes1 4 1)), (95, frameT [] tRoom), (105, frameT [] tIn)] }
def tUpI : Tfm C0 := fun args H K => match args with
  | [.at (.ptr 0 0), .at (.val (.int .u32 r)), .agg [.val (.int .i64 k), .val (.int .i64 v)]] => arM H fun S => ∃ hs t, upM S hs t r ∧
    (getE t.list k = some v → ∀ S' m, S' = retL (rdS S m) r → m ≤ ht t → K (.tup [.at (vU r), .at (vI v), .at (vB true), .at (vI 0)]) (chS S') W7) ∧
    (getE t.list k ≠ some v → S.free < 4 * (Hn (t.size + 1) + 2) → ∀ S' m, S' = rdS S m → m ≤ ht t + 1 → K (.tup [.at (vU 0), .at (vI 0), .at (vB false), .at (vI 2)]) (chS S') W7) ∧
    (getE t.list k ≠ some v → 4 * (Hn (t.size + 1) + 2) ≤ S.free → ∀ S' j (o : Option Int), o = getE t.list k → TrR S hs (insE t.list (k, v)) (iB t.size) (5 * iB t.size + ht t + 1) S' j → K (.tup [.at (vU j), .at (vI (o.getD 0)), .at (vB o.isSome), .at (vI 0)]) (chS S') W7)
  | _ => False
noncomputable def aUpD : Ann C0 := { Γ := [(18, frameT [] tGetT), (71, frameT [] tHold), (49, frameT [] tSize), (101, frameT [] (tRes1 4 0)), (95, frameT [] tRoom), (102, frameT [] tDe)] }
def tUpD : Tfm C0 := fun args H K => match args with
  | [.at (.ptr 0 0), .at (.val (.int .u32 r)), .at (.val (.int .i64 k))] => arM H fun S => ∃ hs t, upM S hs t r ∧
    (getE t.list k = none → ∀ S' m, S' = rdS S m → m ≤ ht t → K (.tup [.at (vU 0), .at (vI 0), .at (vI 4)]) (chS S') W7) ∧
    (∀ v, getE t.list k = some v → S.free < 4 * (Hn t.size + 2) → ∀ S' m, S' = rdS S m → m ≤ ht t + 1 → K (.tup [.at (vU 0), .at (vI 0), .at (vI 2)]) (chS S') W7) ∧
    (∀ v, getE t.list k = some v → 4 * (Hn t.size + 2) ≤ S.free → ∀ S' j, TrR S hs (flt (neK k) t.list) (dB t.size) (5 * dB t.size + ht t + 1) S' j → K (.tup [.at (vU j), .at (vI v), .at (vI 0)]) (chS S') W7)
  | _ => False
theorem Hn_mono1 (n : Nat) : Hn n ≤ Hn ((n : Int) + 1) := by
  have a := gN_size n
  have b := gN_size (n + 1)
  have c := gN_mono (v := n + 1) (w := n + 1 + 1) (by omega) (by omega)
  rw [show ((n + 1 : Nat) : Int) = (n : Int) + 1 by omega] at b
  omega
theorem retL_free (S : Arn) (i : Int) : (retL S i).free = S.free := by unfold retL; split <;> rfl
theorem us_one (b : Bool) : b.toNat ≤ 1 := by cases b <;> decide
theorem iB_Hn (n : Nat) : (iB n : Int) = 4 * Hn n + 1 := by have := gN_size n; unfold iB; omega
theorem dB_Hn (n : Nat) : (dB n : Int) ≤ 4 * Hn n + 4 := by have := gN_size n; have := dB_le n; omega
theorem vc_upI (S : Arn) (r k v : Int) (K : KT) (hs : List Int) (t : Tr) (hm : upM S hs t r)
    (h1 : getE t.list k = some v → ∀ S' m, S' = retL (rdS S m) r → m ≤ ht t → K (.tup [.at (vU r), .at (vI v), .at (vB true), .at (vI 0)]) (chS S') W7)
    (h2 : getE t.list k ≠ some v → S.free < 4 * (Hn (t.size + 1) + 2) → ∀ S' m, S' = rdS S m → m ≤ ht t + 1 → K (.tup [.at (vU 0), .at (vI 0), .at (vB false), .at (vI 2)]) (chS S') W7)
    (h3 : getE t.list k ≠ some v → 4 * (Hn (t.size + 1) + 2) ≤ S.free → ∀ S' j (o : Option Int), o = getE t.list k → TrR S hs (insE t.list (k, v)) (iB t.size) (5 * iB t.size + ht t + 1) S' j → K (.tup [.at (vU j), .at (vI (o.getD 0)), .at (vB o.isSome), .at (vI 0)]) (chS S') W7) :
    vc C0 aUpI Try.f59 [.at (.ptr 0 0), .at (vU r), .agg [vI k, vI v]] (chS S) (normK 7 (wideK W7 K)) := by
  refine Eq.mp (show (∃ hs : List Int, (∃ t : Tr, ((Wf S hs) ∧ (Rep S t r) ∧ (Asc t.list) ∧ (t.size ≤ 1000000) ∧ (S.reads + (↑t.size : Int) ≤ 3000000000000000000) ∧ (∀ S' : Arn, (∀ m : Nat, (∀ o : Option Int, (((S') = (rdS S m)) → ((m ≤ ht t) → (((o) = (getE t.list k)) → (brS (o.isSome) ((brS (o.getD 0 == v) (((live S' r) ∧ (exW S') ∧ (∀ S'1 : Arn, (((S'1) = (retL S' r)) → (K (SV.tup [(TV.at (At.val (Value.int IntKind.u32 (r)))), (TV.at (At.val (Value.int IntKind.i64 (o.getD 0)))), (TV.at (At.val (Value.bool true))), (TV.at (At.val (Value.int IntKind.i64 0)))]) [(Chunk.box [(At.ptr 1 0), (At.slc 2), (At.slc 3), (At.val (Value.int IntKind.u64 (S'1.reads)))]), (Chunk.box [(At.slc 4), (At.slc 5), (At.slc 6), (At.val (Value.int IntKind.u32 (S'1.fresh)))]), (Chunk.row true (EC.node) (S'1.nodes)), (Chunk.row true (EC.int) (S'1.counts)), (Chunk.row true (EC.bool) (S'1.used)), (Chunk.row true (EC.u32) (S'1.gen)), (Chunk.row true (EC.u32) (S'1.rel))] [0, 1, 2, 3, 4, 5, 6]))))) (((inU r) ∧ (exW S') ∧ (S'.reads < 4000000000000000000) ∧ (∀ S'1 : Arn, (((S'1) = (rdS S' (S'.us r).toNat)) → ((0 ≤ (S'.nd r).size) ∧ ((S'.nd r).size ≤ 65536) ∧ (∀ p : Int, (((p) = (4 * (Hn ((S'.nd r).size + 1) + 2))) → ((exW S'1) ∧ (∀ b : Bool, (((b) = (decide (0 ≤ p) && decide (p ≤ S'1.free))) → (brS (!b)
    ((K (SV.tup [(TV.at (At.val (Value.int IntKind.u32 0))), (TV.at (At.val (Value.int IntKind.i64 0))), (TV.at (At.val (Value.bool false))), (TV.at (At.val (Value.int IntKind.i64 2)))]) [(Chunk.box [(At.ptr 1 0), (At.slc 2), (At.slc 3), (At.val (Value.int IntKind.u64 (S'1.reads)))]), (Chunk.box [(At.slc 4), (At.slc 5), (At.slc 6), (At.val (Value.int IntKind.u32 (S'1.fresh)))]), (Chunk.row true (EC.node) (S'1.nodes)), (Chunk.row true (EC.int) (S'1.counts)), (Chunk.row true (EC.bool) (S'1.used)), (Chunk.row true (EC.u32) (S'1.gen)), (Chunk.row true (EC.u32) (S'1.rel))] [0, 1, 2, 3, 4, 5, 6])) ((((live S'1 r) ∧ (exW S'1) ∧ (∀ S'2 : Arn, (((S'2) = (retL S'1 r)) → (∃ hs1 : List Int, (∃ t1 : Tr, ((Wf S'2 (r :: hs1)) ∧ (Rep S'2 t1 r) ∧ (t1.Bal) ∧ (Asc t1.list) ∧ (t1.size ≤ 700000) ∧ ((↑(iB t1.size) : Int) ≤ S'2.free) ∧ (hs1.length ≤ 500000000) ∧ (S'2.reads + 5 * (↑(iB t1.size) : Int) ≤ 1600000000000000000) ∧ (∀ S'3 : Arn, (∀ j : Int, ((TrR S'2 hs1 (insE t1.list (k, v)) (iB t1.size) (5 * iB t1.size) S'3 j) →
    (K (SV.tup [(TV.at (At.val (Value.int IntKind.u32 (j)))), (TV.at (At.val (Value.int IntKind.i64 (o.getD 0)))), (TV.at (At.val (Value.bool (o.isSome)))), (TV.at (At.val (Value.int IntKind.i64 0)))]) [(Chunk.box [(At.ptr 1 0), (At.slc 2), (At.slc 3), (At.val (Value.int IntKind.u64 (S'3.reads)))]), (Chunk.box [(At.slc 4), (At.slc 5), (At.slc 6), (At.val (Value.int IntKind.u32 (S'3.fresh)))]), (Chunk.row true (EC.node) (S'3.nodes)), (Chunk.row true (EC.int) (S'3.counts)), (Chunk.row true (EC.bool) (S'3.used)), (Chunk.row true (EC.u32) (S'3.gen)), (Chunk.row true (EC.u32) (S'3.rel))] [0, 1, 2, 3, 4, 5, 6])))))))))) ∧ (live S'1 r) ∧ (exW S'1) ∧ (∀ S'2 : Arn, (((S'2) = (retL S'1 r)) → (∃ hs1 : List Int, (∃ t1 : Tr, ((Wf S'2 (r :: hs1)) ∧ (Rep S'2 t1 r) ∧ (t1.Bal) ∧ (Asc t1.list) ∧ (t1.size ≤ 700000) ∧ ((↑(iB t1.size) : Int) ≤ S'2.free) ∧ (hs1.length ≤ 500000000) ∧ (S'2.reads + 5 * (↑(iB t1.size) : Int) ≤ 1600000000000000000) ∧ (∀ S'3 : Arn, (∀ j : Int, ((TrR S'2 hs1 (insE t1.list (k, v)) (iB t1.size) (5 * iB t1.size) S'3 j) →
    (K (SV.tup [(TV.at (At.val (Value.int IntKind.u32 (j)))), (TV.at (At.val (Value.int IntKind.i64 (o.getD 0)))), (TV.at (At.val (Value.bool (o.isSome)))), (TV.at (At.val (Value.int IntKind.i64 0)))]) [(Chunk.box [(At.ptr 1 0), (At.slc 2), (At.slc 3), (At.val (Value.int IntKind.u64 (S'3.reads)))]), (Chunk.box [(At.slc 4), (At.slc 5), (At.slc 6), (At.val (Value.int IntKind.u32 (S'3.fresh)))]), (Chunk.row true (EC.node) (S'3.nodes)), (Chunk.row true (EC.int) (S'3.counts)), (Chunk.row true (EC.bool) (S'3.used)), (Chunk.row true (EC.u32) (S'3.gen)), (Chunk.row true (EC.u32) (S'3.rel))] [0, 1, 2, 3, 4, 5, 6])))))))))))))))))))))))) (((inU r) ∧ (exW S') ∧ (S'.reads < 4000000000000000000) ∧ (∀ S'1 : Arn, (((S'1) = (rdS S' (S'.us r).toNat)) → ((0 ≤ (S'.nd r).size) ∧ ((S'.nd r).size ≤ 65536) ∧ (∀ p : Int, (((p) = (4 * (Hn ((S'.nd r).size + 1) + 2))) → ((exW S'1) ∧ (∀ b : Bool, (((b) = (decide (0 ≤ p) && decide (p ≤ S'1.free))) → (brS (!b)
    ((K (SV.tup [(TV.at (At.val (Value.int IntKind.u32 0))), (TV.at (At.val (Value.int IntKind.i64 0))), (TV.at (At.val (Value.bool false))), (TV.at (At.val (Value.int IntKind.i64 2)))]) [(Chunk.box [(At.ptr 1 0), (At.slc 2), (At.slc 3), (At.val (Value.int IntKind.u64 (S'1.reads)))]), (Chunk.box [(At.slc 4), (At.slc 5), (At.slc 6), (At.val (Value.int IntKind.u32 (S'1.fresh)))]), (Chunk.row true (EC.node) (S'1.nodes)), (Chunk.row true (EC.int) (S'1.counts)), (Chunk.row true (EC.bool) (S'1.used)), (Chunk.row true (EC.u32) (S'1.gen)), (Chunk.row true (EC.u32) (S'1.rel))] [0, 1, 2, 3, 4, 5, 6])) ((((live S'1 r) ∧ (exW S'1) ∧ (∀ S'2 : Arn, (((S'2) = (retL S'1 r)) → (∃ hs1 : List Int, (∃ t1 : Tr, ((Wf S'2 (r :: hs1)) ∧ (Rep S'2 t1 r) ∧ (t1.Bal) ∧ (Asc t1.list) ∧ (t1.size ≤ 700000) ∧ ((↑(iB t1.size) : Int) ≤ S'2.free) ∧ (hs1.length ≤ 500000000) ∧ (S'2.reads + 5 * (↑(iB t1.size) : Int) ≤ 1600000000000000000) ∧ (∀ S'3 : Arn, (∀ j : Int, ((TrR S'2 hs1 (insE t1.list (k, v)) (iB t1.size) (5 * iB t1.size) S'3 j) →
    (K (SV.tup [(TV.at (At.val (Value.int IntKind.u32 (j)))), (TV.at (At.val (Value.int IntKind.i64 (o.getD 0)))), (TV.at (At.val (Value.bool (o.isSome)))), (TV.at (At.val (Value.int IntKind.i64 0)))]) [(Chunk.box [(At.ptr 1 0), (At.slc 2), (At.slc 3), (At.val (Value.int IntKind.u64 (S'3.reads)))]), (Chunk.box [(At.slc 4), (At.slc 5), (At.slc 6), (At.val (Value.int IntKind.u32 (S'3.fresh)))]), (Chunk.row true (EC.node) (S'3.nodes)), (Chunk.row true (EC.int) (S'3.counts)), (Chunk.row true (EC.bool) (S'3.used)), (Chunk.row true (EC.u32) (S'3.gen)), (Chunk.row true (EC.u32) (S'3.rel))] [0, 1, 2, 3, 4, 5, 6])))))))))) ∧ (live S'1 r) ∧ (exW S'1) ∧ (∀ S'2 : Arn, (((S'2) = (retL S'1 r)) → (∃ hs1 : List Int, (∃ t1 : Tr, ((Wf S'2 (r :: hs1)) ∧ (Rep S'2 t1 r) ∧ (t1.Bal) ∧ (Asc t1.list) ∧ (t1.size ≤ 700000) ∧ ((↑(iB t1.size) : Int) ≤ S'2.free) ∧ (hs1.length ≤ 500000000) ∧ (S'2.reads + 5 * (↑(iB t1.size) : Int) ≤ 1600000000000000000) ∧ (∀ S'3 : Arn, (∀ j : Int, ((TrR S'2 hs1 (insE t1.list (k, v)) (iB t1.size) (5 * iB t1.size) S'3 j) →
    (K (SV.tup [(TV.at (At.val (Value.int IntKind.u32 (j)))), (TV.at (At.val (Value.int IntKind.i64 (o.getD 0)))), (TV.at (At.val (Value.bool (o.isSome)))), (TV.at (At.val (Value.int IntKind.i64 0)))]) [(Chunk.box [(At.ptr 1 0), (At.slc 2), (At.slc 3), (At.val (Value.int IntKind.u64 (S'3.reads)))]), (Chunk.box [(At.slc 4), (At.slc 5), (At.slc 6), (At.val (Value.int IntKind.u32 (S'3.fresh)))]), (Chunk.row true (EC.node) (S'3.nodes)), (Chunk.row true (EC.int) (S'3.counts)), (Chunk.row true (EC.bool) (S'3.used)), (Chunk.row true (EC.u32) (S'3.gen)), (Chunk.row true (EC.u32) (S'3.rel))] [0, 1, 2, 3, 4, 5, 6])))))))))))))))))))))))))))))))) = _ by kernel_rfl) ?_
  obtain ⟨w, rp, bal, asc, sz, hl, rd⟩ := hm
  have hrd := w.rds
  have hb := Bal.height bal (by omega)
  have hH := Hn_rng t.size
  have hH1 := Hn_rng ((t.size : Int) + 1)
  have hmo := Hn_mono1 t.size
  have hi := iB_Hn t.size
  refine ⟨hs, t, w, rp, asc, by omega, by omega, fun S1 m o e1 hm1 eo => ?_⟩
  have wl : Wf S1 hs := by rw [e1]; exact w.rd (by omega)
  have rp1 : Rep S1 t r := by rw [e1]; exact rep_rd rp m
  have lv : live S1 r := rp1.us
  have q1 : S1.reads = S.reads + m := by rw [e1]; rfl
  have f1 : S1.free = S.free := by rw [e1]; rfl
  have z1 : (S1.nd r).size = t.size := rp1.size wl
  refine brS_of (fun c => brS_of (fun d => ?_) fun d => ?_) fun c => ?_
  · have d : o.getD 0 = v := by simpa using d
    obtain ⟨x, ex⟩ := Option.isSome_iff_exists.1 c
    have ev : x = v := by rw [ex] at d; exact d
    have he : getE t.list k = some v := by rw [← eo, ex, ev]
    refine ⟨lv, ⟨hs, wl⟩, fun S2 e2 => ?_⟩
    rw [d]
    exact h1 he S2 m (by rw [e2, e1]) hm1
  all_goals
    have hne : getE t.list k ≠ some v := by
      intro he
      rw [he] at eo
      subst eo
      first
        | (simp at d; done)
        | (simp at c; done)
    refine ⟨inU_of wl lv, ⟨hs, wl⟩, by omega, fun S2 e2 => ?_⟩
    have hu := us_one (S1.us r)
    have wl2 : Wf S2 hs := by rw [e2]; exact wl.rd (by omega)
    have rp2 : Rep S2 t r := by rw [e2]; exact rep_rd rp1 _
    have lv2 : live S2 r := rp2.us
    have f2 : S2.free = S.free := by rw [e2]; exact f1
    have q2 : S2.reads = S.reads + m + (S1.us r).toNat := by rw [e2, ← q1]; rfl
    have gA : Got S hs 0 (ht t + 1) S2 hs := by
      rw [e2, e1, rdS_rdS]
      rw [e1] at hu
      exact (Got.rds w (by omega)).mono (by omega) (by omega)
    rw [z1]
    refine ⟨by omega, by omega, fun p ep => ⟨⟨hs, wl2⟩, fun b eb => brS_of (fun d2 => ?_) fun d2 => ?_⟩⟩
    · have d2 : b = false := by simpa using d2
      rw [d2] at eb
      have hf : ¬ p ≤ S2.free := fun hp => by
        rw [decide_eq_true hp, decide_eq_true (show 0 ≤ p by omega)] at eb; cases eb
      exact h2 hne (by omega) S2 (m + (S1.us r).toNat) (by rw [e2, e1, rdS_rdS]) (by omega)
    · have d2 : b = true := by simpa using d2
      rw [d2] at eb
      have hf : p ≤ S2.free := by
        by_cases hp : p ≤ S2.free
        · exact hp
        · rw [decide_eq_false hp, Bool.and_false] at eb; cases eb
      refine ⟨⟨lv2, ⟨hs, wl2⟩, ?_⟩, lv2, ⟨hs, wl2⟩, ?_⟩
      all_goals
        intro S3 e3
        have g3 := retL_got (hs := hs) wl2 lv2 (by omega)
        rw [← e3] at g3
        have rp3 : Rep S3 t r := by rw [e3]; exact rp2.retL
        have f3 : S3.free = S2.free := by rw [e3]; exact retL_free _ _
        have q3 : S3.reads = S2.reads := by rw [e3]; exact (retL_flds _ _).1
        refine ⟨hs, t, g3.wf, rp3, bal, asc, by omega, by omega, by omega, by omega, fun S4 j tr => h3 hne (by omega) S4 j o eo ⟨?_, tr.tree⟩⟩
        exact ((gA.seq g3 (h := hs) (fun _ h => h) (fun _ h => h)).seq tr.got (fun _ h => h) (fun _ h => h)).mono (by omega) (by omega)
theorem s_upI : SoundT C0 59 tUpI := by
  refine .ofW W7 Try.func59 (by decide) rfl fun args H K h hB => ?_
  unfold tUpI at h
  split at h <;> try exact h.elim
  unfold arM at h
  split at h <;> try exact h.elim
  rename_i r k v _ rd fr nd ct us gn rl
  obtain ⟨hs, t, h1, h2, h3, h4⟩ := h
  exact ⟨aUpI, ⟨frame C0.ok s_getT _, frame C0.ok s_hold _, frame C0.ok s_size _, frame C0.ok s_rIns _, frame C0.ok s_room _, frame C0.ok s_in _, trivial⟩, vc_upI ⟨us, gn, rl, fr, nd, ct, rd⟩ r k v K hs t h1 h2 h3 h4⟩
theorem getE_has {l : List Ent} {k v : Int} (h : getE l k = some v) : hasK l k := by
  induction l with
  | nil => cases h
  | cons x l ih =>
    obtain ⟨a, b⟩ := x
    unfold getE at h
    split at h
    · rename_i e
      exact ⟨b, by rw [← e]; simp⟩
    · obtain ⟨w, hw⟩ := ih h
      exact ⟨w, by simp [hw]⟩
theorem vc_upD (S : Arn) (r k : Int) (K : KT) (hs : List Int) (t : Tr) (hm : upM S hs t r)
    (h1 : getE t.list k = none → ∀ S' m, S' = rdS S m → m ≤ ht t → K (.tup [.at (vU 0), .at (vI 0), .at (vI 4)]) (chS S') W7)
    (h2 : ∀ v, getE t.list k = some v → S.free < 4 * (Hn t.size + 2) → ∀ S' m, S' = rdS S m → m ≤ ht t + 1 → K (.tup [.at (vU 0), .at (vI 0), .at (vI 2)]) (chS S') W7)
    (h3 : ∀ v, getE t.list k = some v → 4 * (Hn t.size + 2) ≤ S.free → ∀ S' j, TrR S hs (flt (neK k) t.list) (dB t.size) (5 * dB t.size + ht t + 1) S' j → K (.tup [.at (vU j), .at (vI v), .at (vI 0)]) (chS S') W7) :
    vc C0 aUpD Try.f57 [.at (.ptr 0 0), .at (vU r), .at (vI k)] (chS S) (normK 7 (wideK W7 K)) := by
  refine Eq.mp (show (∃ hs : List Int, (∃ t : Tr, ((Wf S hs) ∧ (Rep S t r) ∧ (Asc t.list) ∧ (t.size ≤ 1000000) ∧ (S.reads + (↑t.size : Int) ≤ 3000000000000000000) ∧ (∀ S' : Arn, (∀ m : Nat, (∀ o : Option Int, (((S') = (rdS S m)) → ((m ≤ ht t) → (((o) = (getE t.list k)) → (brS (!o.isSome) ((K (SV.tup [(TV.at (At.val (Value.int IntKind.u32 0))), (TV.at (At.val (Value.int IntKind.i64 0))), (TV.at (At.val (Value.int IntKind.i64 4)))]) [(Chunk.box [(At.ptr 1 0), (At.slc 2), (At.slc 3), (At.val (Value.int IntKind.u64 (S'.reads)))]), (Chunk.box [(At.slc 4), (At.slc 5), (At.slc 6), (At.val (Value.int IntKind.u32 (S'.fresh)))]), (Chunk.row true (EC.node) (S'.nodes)), (Chunk.row true (EC.int) (S'.counts)), (Chunk.row true (EC.bool) (S'.used)), (Chunk.row true (EC.u32) (S'.gen)), (Chunk.row true (EC.u32) (S'.rel))] [0, 1, 2, 3, 4, 5, 6])) (((inU r) ∧ (exW S') ∧ (S'.reads < 4000000000000000000) ∧ (∀ S'1 : Arn, (((S'1) = (rdS S' (S'.us r).toNat)) → ((0 ≤ (S'.nd r).size) ∧ ((S'.nd r).size ≤ 65536) ∧ (∀ p : Int, (((p) = (4 * (Hn ((S'.nd r).size + 0) + 2))) → ((exW S'1) ∧ (∀ b : Bool, (((b) = (decide (0 ≤ p) && decide (p ≤ S'1.free))) → (brS (!b)
    ((K (SV.tup [(TV.at (At.val (Value.int IntKind.u32 0))), (TV.at (At.val (Value.int IntKind.i64 0))), (TV.at (At.val (Value.int IntKind.i64 2)))]) [(Chunk.box [(At.ptr 1 0), (At.slc 2), (At.slc 3), (At.val (Value.int IntKind.u64 (S'1.reads)))]), (Chunk.box [(At.slc 4), (At.slc 5), (At.slc 6), (At.val (Value.int IntKind.u32 (S'1.fresh)))]), (Chunk.row true (EC.node) (S'1.nodes)), (Chunk.row true (EC.int) (S'1.counts)), (Chunk.row true (EC.bool) (S'1.used)), (Chunk.row true (EC.u32) (S'1.gen)), (Chunk.row true (EC.u32) (S'1.rel))] [0, 1, 2, 3, 4, 5, 6])) (((live S'1 r) ∧ (exW S'1) ∧ (∀ S'2 : Arn, (((S'2) = (retL S'1 r)) → (∃ hs1 : List Int, (∃ t1 : Tr, ((Wf S'2 (r :: hs1)) ∧ (Rep S'2 t1 r) ∧ (t1.Bal) ∧ (Asc t1.list) ∧ (t1.size ≤ 700000) ∧ (hasK t1.list k) ∧ ((↑(dB t1.size) : Int) ≤ S'2.free) ∧ (hs1.length ≤ 200000000) ∧ (S'2.reads + 5 * (↑(dB t1.size) : Int) ≤ 1500000000000000000) ∧ (∀ S'3 : Arn, (∀ j : Int, ((TrR S'2 hs1 (flt (neK k) t1.list) (dB t1.size) (5 * dB t1.size) S'3 j) →
    (K (SV.tup [(TV.at (At.val (Value.int IntKind.u32 (j)))), (TV.at (At.val (Value.int IntKind.i64 (o.getD 0)))), (TV.at (At.val (Value.int IntKind.i64 0)))]) [(Chunk.box [(At.ptr 1 0), (At.slc 2), (At.slc 3), (At.val (Value.int IntKind.u64 (S'3.reads)))]), (Chunk.box [(At.slc 4), (At.slc 5), (At.slc 6), (At.val (Value.int IntKind.u32 (S'3.fresh)))]), (Chunk.row true (EC.node) (S'3.nodes)), (Chunk.row true (EC.int) (S'3.counts)), (Chunk.row true (EC.bool) (S'3.used)), (Chunk.row true (EC.u32) (S'3.gen)), (Chunk.row true (EC.u32) (S'3.rel))] [0, 1, 2, 3, 4, 5, 6])))))))))))))))))))))))))))))))) = _ by kernel_rfl) ?_
  obtain ⟨w, rp, bal, asc, sz, hl, rd⟩ := hm
  have hrd := w.rds
  have hb := Bal.height bal (by omega)
  have hH := Hn_rng t.size
  have hi := dB_Hn t.size
  refine ⟨hs, t, w, rp, asc, by omega, by omega, fun S1 m o e1 hm1 eo => ?_⟩
  have wl : Wf S1 hs := by rw [e1]; exact w.rd (by omega)
  have rp1 : Rep S1 t r := by rw [e1]; exact rep_rd rp m
  have lv : live S1 r := rp1.us
  have q1 : S1.reads = S.reads + m := by rw [e1]; rfl
  have f1 : S1.free = S.free := by rw [e1]; rfl
  have z1 : (S1.nd r).size = t.size := rp1.size wl
  refine brS_of (fun c => ?_) fun c => ?_
  · have c : o = none := by simpa using c
    exact h1 (by rw [← eo, c]) S1 m e1 hm1
  obtain ⟨v, ev⟩ := Option.isSome_iff_exists.1 (show o.isSome = true by simpa using c)
  subst ev
  have he := eo.symm
  refine ⟨inU_of wl lv, ⟨hs, wl⟩, by omega, fun S2 e2 => ?_⟩
  have hu := us_one (S1.us r)
  have wl2 : Wf S2 hs := by rw [e2]; exact wl.rd (by omega)
  have rp2 : Rep S2 t r := by rw [e2]; exact rep_rd rp1 _
  have lv2 : live S2 r := rp2.us
  have f2 : S2.free = S.free := by rw [e2]; exact f1
  have q2 : S2.reads = S.reads + m + (S1.us r).toNat := by rw [e2, ← q1]; rfl
  have gA : Got S hs 0 (ht t + 1) S2 hs := by
    rw [e2, e1, rdS_rdS]
    rw [e1] at hu
    exact (Got.rds w (by omega)).mono (by omega) (by omega)
  rw [z1, Int.add_zero]
  refine ⟨by omega, by omega, fun p ep => ⟨⟨hs, wl2⟩, fun b eb => brS_of (fun d2 => ?_) fun d2 => ?_⟩⟩
  · have d2 : b = false := by simpa using d2
    rw [d2] at eb
    have hf : ¬ p ≤ S2.free := fun hp => by
      rw [decide_eq_true hp, decide_eq_true (show 0 ≤ p by omega)] at eb; cases eb
    exact h2 v he (by omega) S2 (m + (S1.us r).toNat) (by rw [e2, e1, rdS_rdS]) (by omega)
  · have d2 : b = true := by simpa using d2
    rw [d2] at eb
    have hf : p ≤ S2.free := by
      by_cases hp : p ≤ S2.free
      · exact hp
      · rw [decide_eq_false hp, Bool.and_false] at eb; cases eb
    refine ⟨lv2, ⟨hs, wl2⟩, fun S3 e3 => ?_⟩
    have g3 := retL_got (hs := hs) wl2 lv2 (by omega)
    rw [← e3] at g3
    have rp3 : Rep S3 t r := by rw [e3]; exact rp2.retL
    have f3 : S3.free = S2.free := by rw [e3]; exact retL_free _ _
    have q3 : S3.reads = S2.reads := by rw [e3]; exact (retL_flds _ _).1
    refine ⟨hs, t, g3.wf, rp3, bal, asc, by omega, getE_has he, by omega, by omega, by omega, fun S4 j tr => h3 v he (by omega) S4 j ⟨?_, tr.tree⟩⟩
    exact ((gA.seq g3 (h := hs) (fun _ h => h) (fun _ h => h)).seq tr.got (fun _ h => h) (fun _ h => h)).mono (by omega) (by omega)
theorem s_upD : SoundT C0 57 tUpD := by
  refine .ofW W7 Try.func57 (by decide) rfl fun args H K h hB => ?_
  unfold tUpD at h
  split at h <;> try exact h.elim
  unfold arM at h
  split at h <;> try exact h.elim
  rename_i r k _ rd fr nd ct us gn rl
  obtain ⟨hs, t, h1, h2, h3, h4⟩ := h
  exact ⟨aUpD, ⟨frame C0.ok s_getT _, frame C0.ok s_hold _, frame C0.ok s_size _, frame C0.ok s_rDel _, frame C0.ok s_room _, frame C0.ok s_de _, trivial⟩, vc_upD ⟨us, gn, rl, fr, nd, ct, rd⟩ r k K hs t h1 h2 h3 h4⟩
/-! ### Where there is room -/
theorem insE_same {l : List Ent} {k v : Int} (ha : Asc l) (h : getE l k = some v) : insE l (k, v) = l :=
  Asc.ext (insE_asc _ ha) ha fun q => by
    rw [insE_get _ ha]
    show (if k = q then some v else getE l q) = _
    split
    · rename_i e; rw [← e, h]
    · rfl
def tUpIn : Tfm C0 := fun args H K => match args with
  | [.at (.ptr 0 0), .at (.val (.int .u32 r)), .agg [.val (.int .i64 k), .val (.int .i64 v)]] => arM H fun S => ∃ hs t, upM S hs t r ∧ 4 * (Hn (t.size + 1) + 2) ≤ S.free ∧
    ∀ S' j (o : Option Int), o = getE t.list k → TrR S hs (insE t.list (k, v)) (iB t.size) (5 * iB t.size + ht t + 1) S' j → K (.tup [.at (vU j), .at (vI (o.getD 0)), .at (vB o.isSome), .at (vI 0)]) (chS S') W7
  | _ => False
theorem hold_tr {S S' : Arn} {hs : List Int} {t : Tr} {r : Int} {m a b : Nat} {L : List Ent} (w : Wf S hs) (rp : Rep S t r) (bal : t.Bal) (hl : hs.length ≤ 900000000) (hr : S.reads + m ≤ 4000000000000000000) (e : S' = retL (rdS S m) r) (hb : m ≤ b) (hL : t.list = L) : TrR S hs L a b S' r := by
  have g := Got.rds (hs := hs) w hr
  have rp1 : Rep (rdS S m) t r := rep_rd rp m
  have g2 := retL_got (hs := hs) g.wf rp1.us (by omega)
  rw [← e] at g2
  exact ⟨(g.seq g2 (h := hs) (fun _ h => h) (fun _ h => h)).mono (by omega) (by omega), t, by rw [e]; exact rp1.retL, hL, bal⟩
theorem s_upIn : SoundT C0 59 tUpIn := s_upI.weak fun args H K h => by
  unfold tUpIn at h
  unfold tUpI
  split at h <;> try exact h.elim
  unfold arM at h ⊢
  split at h <;> try exact h.elim
  obtain ⟨hs, t, hm, hf, h⟩ := h
  refine ⟨hs, t, hm, fun he S' m e hm' => ?_, fun _ hf' => absurd hf (by omega), fun _ _ => h⟩
  obtain ⟨w, rp, bal, asc, sz, hl, rd⟩ := hm
  have hb := Bal.height bal (by omega)
  have hH := Hn_rng t.size
  exact h S' _ (some _) he.symm (hold_tr w rp bal (by omega) (by omega) e (by omega) (insE_same asc he).symm)
def tUpDe : Tfm C0 := fun args H K => match args with
  | [.at (.ptr 0 0), .at (.val (.int .u32 r)), .at (.val (.int .i64 k))] => arM H fun S => ∃ hs t v, upM S hs t r ∧ getE t.list k = some v ∧ 4 * (Hn t.size + 2) ≤ S.free ∧
    ∀ S' j, TrR S hs (flt (neK k) t.list) (dB t.size) (5 * dB t.size + ht t + 1) S' j → K (.tup [.at (vU j), .at (vI v), .at (vI 0)]) (chS S') W7
  | _ => False
theorem s_upDe : SoundT C0 57 tUpDe := s_upD.weak fun args H K h => by
  unfold tUpDe at h
  unfold tUpD
  split at h <;> try exact h.elim
  unfold arM at h ⊢
  split at h <;> try exact h.elim
  obtain ⟨hs, t, v, hm, he, hf, h⟩ := h
  refine ⟨hs, t, hm, fun hn => (by rw [he] at hn; cases hn), fun v' _ hf' => absurd hf (by omega), fun v' he' _ S' j tr => ?_⟩
  rw [he] at he'
  obtain rfl := Option.some.inj he'
  exact h S' j tr
end Go.Proofs.Ytbonbaccmlomhaa.Sx
end
section
/- What is still to come of two trees, as plain data: what a walk through both finds is the patch between their lists. -/
namespace Go.Proofs.Ytbonbaccmlomhaa.Sx
open Go

def itZ : ItemT := ⟨0, 0, 0, 0, false⟩
def lastI (l : List ItemT) : ItemT := l.getLastD itZ
def pushL (S : Arn) (l : List ItemT) (i : Int) : List ItemT := if i = 0 then l else l ++ [⟨i, (S.nd i).size, 0, 0, false⟩]
def expL (S : Arn) (l : List ItemT) : List ItemT := pushL S (pushL S l.dropLast (S.nd (lastI l).index).right ++ [⟨0, 0, (S.nd (lastI l).index).key, (S.nd (lastI l).index).value, true⟩]) (S.nd (lastI l).index).left

inductive Part where
  | tr (t : Tr)
  | en (e : Ent)
def Part.list : Part → List Ent
  | .tr t => t.list
  | .en e => [e]
def Part.w : Part → Nat
  | .tr t => 2 * t.size
  | .en _ => 1
def flatP (ps : List Part) : List Ent := ps.flatMap Part.list
def wgt : List Part → Nat
  | [] => 0
  | p :: ps => p.w + wgt ps
def PartR (S : Arn) : Part → ItemT → Prop
  | .tr t, x => x.single = false ∧ S.us x.index = true ∧ Rep S t x.index ∧ x.size = t.size
  | .en e, x => x.single = true ∧ x.key = e.1 ∧ x.value = e.2
def StkR (S : Arn) : List Part → List ItemT → Prop
  | [], l => l = []
  | p :: ps, l => l ≠ [] ∧ PartR S p (lastI l) ∧ StkR S ps l.dropLast
def trP (t : Tr) (ps : List Part) : List Part := match t with
  | .nil => ps
  | .node .. => .tr t :: ps

variable {S : Arn} {hs : List Int}
theorem lastI_snoc (l : List ItemT) (x : ItemT) : lastI (l ++ [x]) = x := by simp [lastI]
theorem lastI_at {l : List ItemT} (h : l ≠ []) : l.dropLast ++ [lastI l] = l := by
  unfold lastI
  rw [List.getLastD_eq_getLast?, List.getLast?_eq_some_getLast h]
  exact List.dropLast_concat_getLast h
theorem StkR.push {ps : List Part} {l : List ItemT} (h : StkR S ps l) {p : Part} {x : ItemT} (hp : PartR S p x) : StkR S (p :: ps) (l ++ [x]) :=
  ⟨by simp, by rw [lastI_snoc]; exact hp, by rw [List.dropLast_concat]; exact h⟩
theorem flatP_trP (t : Tr) (ps : List Part) : flatP (trP t ps) = t.list ++ flatP ps := by
  cases t <;> simp [trP, flatP, Part.list, Tr.list]
theorem wgt_trP (t : Tr) (ps : List Part) : wgt (trP t ps) = 2 * t.size + wgt ps := by
  cases t <;> simp [trP, wgt, Part.w, Tr.size]
theorem StkR.tree (w : Wf S hs) {ps : List Part} {l : List ItemT} (h : StkR S ps l) {t : Tr} {i : Int} (hr : Rep S t i) : StkR S (trP t ps) (pushL S l i) := by
  cases t with
  | nil =>
    have : i = 0 := hr
    subst this
    simpa [trP, pushL] using h
  | node a k v b =>
    have hu := hr.1
    have := (w.pos hu).1
    rw [pushL, if_neg (by omega)]
    exact h.push (show PartR S (.tr (.node a k v b)) _ from ⟨rfl, hu, hr, hr.size w⟩)
theorem StkR.exp (w : Wf S hs) {a b : Tr} {k v : Int} {ps : List Part} {l : List ItemT} (h : StkR S (.tr (.node a k v b) :: ps) l) : StkR S (trP a (.en (k, v) :: trP b ps)) (expL S l) := by
  obtain ⟨_, ⟨_, _, ⟨_, h2, h3, h4, h5⟩, _⟩, h6⟩ := h
  exact ((h6.tree w h5).push (show PartR S (.en (k, v)) _ from ⟨rfl, h2, h3⟩)).tree w h4
theorem StkR.len (w : Wf S hs) : ∀ {ps : List Part} {l : List ItemT}, StkR S ps l → l.length ≤ wgt ps
  | [], l, h => by have : l = [] := h; simp [this]
  | p :: ps, l, h => by
    obtain ⟨h1, h2, h3⟩ := h
    have := StkR.len w h3
    have h4 := congrArg List.length (lastI_at h1)
    rw [List.length_append] at h4
    have : 1 ≤ p.w := by
      cases p with
      | en e => exact Nat.le_refl 1
      | tr t =>
        cases t with
        | nil =>
          have h5 : (lastI l).index = 0 := h2.2.2.1
          have := (w.pos h2.2.1).1
          omega
        | node a k v b => simp [Part.w, Tr.size]; omega
    simp only [wgt, List.length_singleton] at *
    omega
theorem StkR.empty {ps : List Part} (h : StkR S ps []) : ps = [] := by
  cases ps with
  | nil => rfl
  | cons p ps => exact absurd rfl h.1
theorem StkR.cons {ps : List Part} {l : List ItemT} (h : StkR S ps l) (hl : l ≠ []) : ∃ p qs, ps = p :: qs ∧ PartR S p (lastI l) ∧ StkR S qs l.dropLast := by
  cases ps with
  | nil => exact absurd h hl
  | cons p ps => exact ⟨p, ps, rfl, h.2⟩
theorem PartR.tree (w : Wf S hs) {p : Part} {x : ItemT} (h : PartR S p x) (hx : x.single = false) : ∃ a k v b, p = .tr (.node a k v b) ∧ S.us x.index = true ∧ Rep S (.node a k v b) x.index ∧ x.size = 1 + a.size + b.size := by
  cases p with
  | en e => have := h.1; rw [hx] at this; cases this
  | tr t =>
    cases t with
    | nil =>
      have h5 : x.index = 0 := h.2.2.1
      have := (w.pos h.2.1).1
      omega
    | node a k v b => exact ⟨a, k, v, b, rfl, h.2.1, h.2.2.1, by rw [h.2.2.2]; simp [Tr.size]⟩
theorem PartR.ent {p : Part} {x : ItemT} (h : PartR S p x) (hx : x.single = true) : p = .en (x.key, x.value) := by
  cases p with
  | en e => obtain ⟨_, h1, h2⟩ := h; rw [h1, h2]
  | tr t => have := h.1; rw [hx] at this; cases this

/-! ### What a visitor finds -/
def goV {σ : Type} (f : Chg → σ → σ × Bool) : σ → List Chg → σ
  | s, [] => s
  | s, c :: cs => if (f c s).2 then goV f (f c s).1 cs else (f c s).1
def stepV {σ : Type} (f : Chg → σ → σ × Bool) (cs : List Chg) (s : σ) : σ × Bool := match cs with
  | [] => (s, true)
  | c :: _ => f c s
/-- What a pair says. -/
def pairC (k l r : Int) (inL inR : Bool) : List Chg := if inL then (if inR then (if l = r then [] else [⟨3, k, l, r⟩]) else [⟨2, k, l, 0⟩]) else [⟨1, k, 0, r⟩]
theorem pE_common (l A B : List Ent) : pE (l ++ A) (l ++ B) = l.map (fun x => (some x, some x)) ++ pE A B := by
  induction l with
  | nil => rfl
  | cons x l ih =>
    show pairs Prod.fst Prod.fst (x :: (l ++ A)) (x :: (l ++ B)) = _
    rw [pairs, if_neg (by omega), if_neg (by omega)]
    exact congrArg _ ih
theorem btw_common (l A B : List Ent) : btw (l ++ A) (l ++ B) = btw A B := by
  unfold btw
  rw [pE_common, List.flatMap_append]
  have : (l.map fun x => (some x, some x)).flatMap btw1 = [] := by
    rw [List.flatMap_eq_nil_iff]
    intro z hz
    obtain ⟨x, _, rfl⟩ := List.mem_map.1 hz
    simp [btw1, mkChg]
  rw [this]; rfl
/-! ### The walk's steps -/
def wI (x : ItemT) : Nat := if x.single then 1 else 2 * x.size.toNat
def wL (l : List ItemT) : Nat := (l.map wI).sum
theorem wL_snoc (l : List ItemT) (x : ItemT) : wL (l ++ [x]) = wL l + wI x := by simp [wL]
theorem wL_last {l : List ItemT} (h : l ≠ []) : wL l = wL l.dropLast + wI (lastI l) := by
  conv => lhs; rw [← lastI_at h]
  exact wL_snoc _ _
theorem StkR.wgt : ∀ {ps : List Part} {l : List ItemT}, StkR S ps l → wL l = Sx.wgt ps
  | [], l, h => by have : l = [] := h; subst this; rfl
  | p :: ps, l, h => by
    obtain ⟨h1, h2, h3⟩ := h
    rw [wL_last h1, StkR.wgt h3, Sx.wgt]
    have : wI (lastI l) = p.w := by
      cases p with
      | en e => have := h2.1; simp [wI, this, Part.w]
      | tr t => have h4 := h2.1; have h5 := h2.2.2.2; simp [wI, h4, Part.w, h5]
    omega
structure PIn {σ : Type} (S : Arn) (f : Chg → σ → σ × Bool) (fin : σ) (sz : σ → Nat) (W Z : Nat) (l r : List ItemT) (s : σ) (m : Nat) : Prop where
  ex : ∃ ps qs, StkR S ps l ∧ StkR S qs r ∧ goV f s (btw (flatP ps) (flatP qs)) = fin
  rd : m + 3 * (wL l + wL r) ≤ 2 + 3 * W
  zs : sz s + (wL l + wL r) ≤ Z
section
variable {σ : Type} {f : Chg → σ → σ × Bool} {fin s : σ} {sz : σ → Nat} {W Z m : Nat} {l r : List ItemT}
theorem PIn.len (w : Wf S hs) (h : PIn S f fin sz W Z l r s m) : l.length ≤ Z ∧ r.length ≤ Z ∧ sz s ≤ Z ∧ m ≤ 2 + 3 * W := by
  obtain ⟨⟨ps, qs, h1, h2, _⟩, h3, h4⟩ := h
  have := h1.len w; have := h2.len w
  have := h1.wgt; have := h2.wgt
  omega
theorem PIn.done (h : PIn S f fin sz W Z [] [] s m) : s = fin := by
  obtain ⟨⟨ps, qs, h1, h2, h3⟩, _, _⟩ := h
  rw [h1.empty, h2.empty] at h3
  have e : btw (flatP []) (flatP []) = [] := by
    show btw [] [] = []
    unfold btw pE; rw [pairs]; rfl
  rw [e] at h3
  exact h3
theorem wL_exp (w : Wf S hs) {ps : List Part} {a b : Tr} {k v : Int} (h : StkR S (.tr (.node a k v b) :: ps) l) : wL (expL S l) + 1 = wL l := by
  have h1 := (h.exp w).wgt
  have h2 := h.wgt
  rw [wgt_trP] at h1
  simp only [Sx.wgt, Part.w, Tr.size] at h1 h2
  rw [wgt_trP] at h1
  omega
theorem flatP_exp (a b : Tr) (k v : Int) (ps : List Part) : flatP (trP a (.en (k, v) :: trP b ps)) = flatP (.tr (.node a k v b) :: ps) := by
  rw [flatP_trP]
  show a.list ++ ((k, v) :: flatP (trP b ps)) = _
  rw [flatP_trP]
  simp [flatP, Part.list, Tr.list]
theorem PIn.left (w : Wf S hs) (h : PIn S f fin sz W Z l r s m) (hl : l ≠ []) (h1 : (lastI l).single = false) : S.us (lastI l).index = true ∧ ∀ k, k ≤ 3 → PIn S f fin sz W Z (expL S l) r s (m + k) ∧ wL (expL S l) + wL r < wL l + wL r := by
  obtain ⟨⟨ps, qs, a1, a2, a3⟩, a4, a5⟩ := h
  obtain ⟨p, ps', rfl, b1, b2⟩ := a1.cons hl
  obtain ⟨x, k, v, y, rfl, d1, d2, d3⟩ := b1.tree w h1
  have e := wL_exp w a1
  refine ⟨d1, fun n hn => ⟨⟨⟨_, qs, a1.exp w, a2, ?_⟩, by omega, by omega⟩, by omega⟩⟩
  rw [flatP_exp]; exact a3
theorem PIn.right (w : Wf S hs) (h : PIn S f fin sz W Z l r s m) (hr : r ≠ []) (h1 : (lastI r).single = false) : S.us (lastI r).index = true ∧ ∀ k, k ≤ 3 → PIn S f fin sz W Z l (expL S r) s (m + k) ∧ wL l + wL (expL S r) < wL l + wL r := by
  obtain ⟨⟨ps, qs, a1, a2, a3⟩, a4, a5⟩ := h
  obtain ⟨p, qs', rfl, b1, b2⟩ := a2.cons hr
  obtain ⟨x, k, v, y, rfl, d1, d2, d3⟩ := b1.tree w h1
  have e := wL_exp w a2
  refine ⟨d1, fun n hn => ⟨⟨⟨ps, _, a1, a2.exp w, ?_⟩, by omega, by omega⟩, by omega⟩⟩
  rw [flatP_exp]; exact a3
def inL (l r : List ItemT) : Bool := decide (l ≠ []) && (decide (r = []) || decide ((lastI l).key ≤ (lastI r).key))
def popI (b : Bool) (l : List ItemT) : List ItemT := if b then l.dropLast else l
end
end Go.Proofs.Ytbonbaccmlomhaa.Sx
end
section
/- What is still to come of a tree: push, pop, top, expand. -/
namespace Go.Proofs.Ytbonbaccmlomhaa.Sx
open Go

/-KEEP Wf exW inU Arn.cap Arn.free rdS pushL lastI expL-/
abbrev chSd (l : List ItemT) (S : Arn) : List (Chunk C0) := [.box [.slc 2], .box [.ptr 3 0, .slc 4, .slc 5, vU64 S.reads], .row true EC.item l, .box [.slc 6, .slc 7, .slc 8, vU S.fresh], .row true EC.node S.nodes, .row true EC.int S.counts, .row true EC.bool S.used, .row true EC.u32 S.gen, .row true EC.u32 S.rel]
def sdM (H : List (Chunk C0)) (k : List ItemT → Arn → Prop) : Prop := match H with
  | [.box [.slc 2], .box [.ptr 3 0, .slc 4, .slc 5, .val (.int .u64 rd)], .row true .item l, .box [.slc 6, .slc 7, .slc 8, .val (.int .u32 fr)], .row true .node nd, .row true .int ct, .row true .bool us, .row true .u32 gn, .row true .u32 rl] => k l ⟨us, gn, rl, fr, nd, ct, rd⟩
  | _ => False
abbrev itA (x : ItemT) : TV := .agg [vU x.index, vI x.size, vI x.key, vI x.value, vB x.single]
noncomputable def aPush : Ann C0 := { Γ := [(49, frameT [] tSize)] }
def tPush : Tfm C0 := fun args H K => match args with
  | [.at (.ptr 0 0), .at (.ptr 1 0), .at (.val (.int .u32 i))] => sdM H fun l S => inU i ∧ exW S ∧ (i = 0 ∨ S.us i = true) ∧ S.reads < 4000000000000000000 ∧ l.length ≤ 1000000 ∧ ∀ l' S' m, l' = pushL S l i → S' = rdS S m → m ≤ 1 → K (.tup []) (chSd l' S') [0, 1, 2]
  | _ => False
noncomputable def aPop : Ann C0 := { Γ := [], trunc := fun n => n = 13 }
def tPop : Tfm C0 := fun args H K => match args, H with
  | [.at (.ptr 0 0)], [.box [.slc 1], .row true .item l] => 0 < l.length ∧ l.length ≤ 1000000 ∧ ∀ l', l' = l.dropLast → K (.tup []) [.box [.slc 1], .row true EC.item l'] [0, 1]
  | _, _ => False
def tTop : Tfm C0 := fun args H K => match args, H with
  | [.at (.ptr 0 0)], [.box [.slc 1], .row true .item l] => l.length ≤ 1000000 ∧ ∀ x b, x = lastI l → b = decide (l ≠ []) → K (.tup [itA x, .at (vB b)]) [.box [.slc 1], .row true EC.item l] []
  | _, _ => False
noncomputable def aExp : Ann C0 := { Γ := [(152, frameT [] tTop), (153, frameT [] tPop), (63, frameT [] tNode), (151, frameT [] tPush)] }
def tExp : Tfm C0 := fun args H K => match args with
  | [.at (.ptr 0 0), .at (.ptr 1 0)] => sdM H fun l S => 0 < l.length ∧ exW S ∧ S.us (lastI l).index = true ∧ S.reads ≤ 3000000000000000000 ∧ l.length ≤ 900000 ∧ ∀ l' S' m, l' = expL S l → S' = rdS S m → m ≤ 3 → K (.tup []) (chSd l' S') [0, 1, 2]
  | _ => False
end Go.Proofs.Ytbonbaccmlomhaa.Sx
end
section
/- What the walks of treework.Pairs share. -/
namespace Go.Proofs.Ytbonbaccmlomhaa.Sx
open Go

structure XP {σ : Type} (P : List ItemT → List ItemT → σ → Nat → Bool → Prop) where
  l : List ItemT
  r : List ItemT
  s : σ
  m : Nat
  c : Bool
  h : P l r s m c
abbrev bxI (x : ItemT) : Chunk C0 := .box [vU x.index, vI x.size, vI x.key, vI x.value, vB x.single]
def relP (a b : Nat) (H : List (Chunk C0)) (l r : List ItemT) : Prop := match H[a]?, H[b]? with
  | some (.row true .item l'), some (.row true .item r') => l' = l ∧ r' = r
  | _, _ => False
def ifI (b : Bool) (x : Int) : Int := if b then x else 0
def fR (lo hi : Int) (c : Chg) (s : List Chg) : List Chg × Bool := (if lo ≤ c.key ∧ c.key ≤ hi then s ++ [c] else s, decide (c.key < hi))
def fC (_ : Chg) (s : Int) : Int × Bool := (IntKind.i64.wrap (s + 1), true)
def fF (c : Chg) (_ : Chg × Bool) : (Chg × Bool) × Bool := ((c, true), false)
def tCom : Tfm C0 := fun args H K => match args, H with
  | [], [] => K (.one (.at (vB true))) [] []
  | _, _ => False
section
variable {σ : Type} (S : Arn) (f : Chg → σ → σ × Bool) (fin : σ) (sz : σ → Nat) (W Z : Nat)
def PA0 : List ItemT → List ItemT → σ → Nat → Bool → Prop := fun l r s m _ => PIn S f fin sz W Z l r s m
def PA1 : List ItemT → List ItemT → σ → Nat → Bool → Prop := fun l r s m c => PIn S f fin sz W Z l r s m ∧ (c = true ↔ l = [] ∧ r = [])
def PA2 : List ItemT → List ItemT → σ → Nat → Bool → Prop := fun l r s m c => PIn S f fin sz W Z l r s m ∧ ¬ (l = [] ∧ r = []) ∧ (c = true → l ≠ [] ∧ r ≠ [] ∧ (lastI l).single = false ∧ (lastI r).single = false ∧ (lastI l).index = (lastI r).index)
def PA3 : List ItemT → List ItemT → σ → Nat → Bool → Prop := fun l r s m c => PIn S f fin sz W Z l r s m ∧ ¬ (l = [] ∧ r = []) ∧ (c = true → l ≠ [] ∧ (lastI l).single = false) ∧ (c = false → l ≠ [] → (lastI l).single = false → r ≠ [] ∧ (lastI r).single = false)
def PA4 : List ItemT → List ItemT → σ → Nat → Bool → Prop := fun l r s m c => PIn S f fin sz W Z l r s m ∧ ¬ (l = [] ∧ r = []) ∧ (c = true → r ≠ [] ∧ (lastI r).single = false) ∧ (c = false → (l ≠ [] → (lastI l).single = true) ∧ (r ≠ [] → (lastI r).single = true))
def PA5 : List ItemT → List ItemT → σ → Nat → Bool → Prop := fun l r s m _ => PIn S f fin sz W Z l r s m ∧ ¬ (l = [] ∧ r = []) ∧ (l ≠ [] → (lastI l).single = true) ∧ (r ≠ [] → (lastI r).single = true)
end
theorem btw_self (l : List Ent) : btw l l = [] := by
  have e := btw_common l [] []
  simp only [List.append_nil] at e
  rw [e]
  unfold btw pE; rw [pairs]; rfl
end Go.Proofs.Ytbonbaccmlomhaa.Sx
end
section
/- treework.Pairs with the visitor of diff's Range$1; this file is written by gen_pa.py. -/
namespace Go.Proofs.Ytbonbaccmlomhaa.Sx
open Go

/-KEEP Wf exW inU Arn.cap Arn.free Rep Tr.size Tr.list btw rdS pushL lastI expL inL popI wL stepV pairC goV fR fC fF-/
abbrev chR (lo hi : Int) (s : List Chg) (S : Arn) : List (Chunk C0) := [.box [.ptr 2 0, .slc 3, .slc 4, vU64 S.reads], .box [.fn 107 [5, 6, 7]], .box [.slc 8, .slc 9, .slc 10, vU S.fresh], .row true EC.node S.nodes, .row true EC.int S.counts, .box [vI lo], .box [vI hi], .box [.slc 11], .row true EC.bool S.used, .row true EC.u32 S.gen, .row true EC.u32 S.rel, .row true EC.chg s]
def mR (H : List (Chunk C0)) (k : Int → Int → List Chg → Arn → Prop) : Prop := match H with
  | [.box [.ptr 2 0, .slc 3, .slc 4, .val (.int .u64 rd)], .box [.fn 107 [5, 6, 7]], .box [.slc 8, .slc 9, .slc 10, .val (.int .u32 fr)], .row true .node nd, .row true .int ct, .box [.val (.int .i64 lo)], .box [.val (.int .i64 hi)], .box [.slc 11], .row true .bool us, .row true .u32 gn, .row true .u32 rl, .row true .chg s] => k lo hi s ⟨us, gn, rl, fr, nd, ct, rd⟩
  | _ => False
/-! ### The visitor -/
def tStepR : Tfm C0 := fun args H K => match args, H with
  | [.agg [.val (.int .i64 k), .val (.int .i64 y), .val (.int .i64 o), .val (.int .i64 n)], .at (.ptr 0 0), .at (.ptr 1 0), .at (.ptr 2 0)], [.box [.val (.int .i64 lo)], .box [.val (.int .i64 hi)], .box [.slc 3], .row true .chg s] => s.length ≤ 1000000 ∧
    ∀ s' b, (s', b) = fR lo hi ⟨k, y, o, n⟩ s → K (.one (.at (vB b))) [.box [vI lo], .box [vI hi], .box [.slc 3], .row true EC.chg s'] [2, 3]
  | _, _ => False
noncomputable def aVisR : Ann C0 := { Γ := [(107, frameT [] tStepR)] }
def tVisR : Tfm C0 := fun args H K => match args, H with
  | [.agg [.val (.int .i64 k), .val (.int .i64 x), .val (.int .i64 y), .val (.bool a), .val (.bool b), .val (.bool _), .val (.bool _)], .at (.ptr 0 0)], [.box [.fn 107 [1, 2, 3]], .box [.val (.int .i64 lo)], .box [.val (.int .i64 hi)], .box [.slc 4], .row true .chg s] => s.length ≤ 1000000 ∧ 
    ∀ s' q, (s', q) = stepV (fR lo hi) (pairC k x y a b) s → K (.one (.at (vB q))) [.box [.fn 107 [1, 2, 3]], .box [vI lo], .box [vI hi], .box [.slc 4], .row true EC.chg s'] [3, 4]
  | _, _ => False

/-! ### The walk -/
abbrev hpR (lo hi : Int) (s : List Chg) (S : Arn) (l r : List ItemT) : List (Chunk C0) := chR lo hi s S ++ [.box [.slc 14], .box [.slc 15], .row true EC.item l, .row true EC.item r]
noncomputable def aPaR (P0 P1 P2 P3 P4 P5 : List ItemT → List ItemT → List Chg → Nat → Bool → Prop) (lo hi : Int) (S : Arn) : Ann C0 := { Γ := [(151, frameT [] tPush), (152, frameT [] tTop), (153, frameT [] tPop), (154, frameT [] tExp), (133, frameT [] tCom), (135, frameT [] tVisR)], inv := fun n => match n with
  | 3 => some { X := XP P0, sl := [10, 11], tf := fun x => [.one (.at (.ptr 12 0)), .one (.at (.ptr 13 0))], hf := fun x => hpR lo hi x.s (rdS S x.m) x.l x.r, μ := fun x => wL x.l + wL x.r, wr := [0, 7, 11] }
  | 2015 => some { X := XP P1, sl := [10, 11, 12, 13, 14, 15, 90], tf := fun x => [.one (.at (.ptr 12 0)), .one (.at (.ptr 13 0)), .one (.at (.ptr 16 0)), vb (decide (x.l ≠ [])), .one (.at (.ptr 17 0)), vb (decide (x.r ≠ [])), vb x.c], hf := fun x => hpR lo hi x.s (rdS S x.m) x.l x.r ++ [bxI (lastI x.l), bxI (lastI x.r)], rel := fun _ H x => relP 14 15 H x.l x.r, wr := [0, 7, 11] }
  | 1017 => some { X := XP P2, sl := [10, 11, 12, 13, 14, 15, 97], tf := fun x => [.one (.at (.ptr 12 0)), .one (.at (.ptr 13 0)), .one (.at (.ptr 16 0)), vb (decide (x.l ≠ [])), .one (.at (.ptr 17 0)), vb (decide (x.r ≠ [])), vb x.c], hf := fun x => hpR lo hi x.s (rdS S x.m) x.l x.r ++ [bxI (lastI x.l), bxI (lastI x.r)], rel := fun _ H x => relP 14 15 H x.l x.r, wr := [0, 7, 11] }
  | 1021 => some { X := XP P3, sl := [10, 11, 12, 13, 14, 15, 124], tf := fun x => [.one (.at (.ptr 12 0)), .one (.at (.ptr 13 0)), .one (.at (.ptr 16 0)), vb (decide (x.l ≠ [])), .one (.at (.ptr 17 0)), vb (decide (x.r ≠ [])), vb x.c], hf := fun x => hpR lo hi x.s (rdS S x.m) x.l x.r ++ [bxI (lastI x.l), bxI (lastI x.r)], rel := fun _ H x => relP 14 15 H x.l x.r, wr := [0, 7, 11] }
  | 1023 => some { X := XP P4, sl := [10, 11, 12, 13, 14, 15, 148], tf := fun x => [.one (.at (.ptr 12 0)), .one (.at (.ptr 13 0)), .one (.at (.ptr 16 0)), vb (decide (x.l ≠ [])), .one (.at (.ptr 17 0)), vb (decide (x.r ≠ [])), vb x.c], hf := fun x => hpR lo hi x.s (rdS S x.m) x.l x.r ++ [bxI (lastI x.l), bxI (lastI x.r)], rel := fun _ H x => relP 14 15 H x.l x.r, wr := [0, 7, 11] }
  | 1007 => some { X := XP P5, sl := [10, 11, 12, 13, 14, 15, 16], tf := fun x => [.one (.at (.ptr 12 0)), .one (.at (.ptr 13 0)), .one (.at (.ptr 16 0)), vb (decide (x.l ≠ [])), .one (.at (.ptr 17 0)), vb (decide (x.r ≠ [])), .one (.at (.ptr 18 0))], hf := fun x => hpR lo hi x.s (rdS S x.m) x.l x.r ++ [bxI (lastI x.l), bxI (lastI x.r), .box [vI 0, vI 0, vI 0, vB (inL x.l x.r), vB false, vB (decide (x.l ≠ [])), vB (decide (x.r ≠ []))]], rel := fun _ H x => relP 14 15 H x.l x.r, wr := [0, 7, 11] }
  | 1008 => some { X := XP P5, sl := [10, 11, 12, 13, 14, 15, 16], tf := fun x => [.one (.at (.ptr 12 0)), .one (.at (.ptr 13 0)), .one (.at (.ptr 16 0)), vb (decide (x.l ≠ [])), .one (.at (.ptr 17 0)), vb (decide (x.r ≠ [])), .one (.at (.ptr 18 0))], hf := fun x => hpR lo hi x.s (rdS S x.m) x.l x.r ++ [bxI (lastI x.l), bxI (lastI x.r), .box [vI 0, vI 0, vI 0, vB (inL x.l x.r), vB (inL x.r x.l), vB (decide (x.l ≠ [])), vB (decide (x.r ≠ []))]], rel := fun _ H x => relP 14 15 H x.l x.r, wr := [0, 7, 11] }
  | 1011 => some { X := XP P5, sl := [10, 11, 12, 13, 14, 15, 16], tf := fun x => [.one (.at (.ptr 12 0)), .one (.at (.ptr 13 0)), .one (.at (.ptr 16 0)), vb (decide (x.l ≠ [])), .one (.at (.ptr 17 0)), vb (decide (x.r ≠ [])), .one (.at (.ptr 18 0))], hf := fun x => hpR lo hi x.s (rdS S x.m) (popI (inL x.l x.r) x.l) x.r ++ [bxI (lastI x.l), bxI (lastI x.r), .box [vI (ifI (inL x.l x.r) (lastI x.l).key), vI (ifI (inL x.l x.r) (lastI x.l).value), vI 0, vB (inL x.l x.r), vB (inL x.r x.l), vB (decide (x.l ≠ [])), vB (decide (x.r ≠ []))]], rel := fun _ H x => relP 14 15 H x.l x.r, wr := [0, 7, 11] }
  | _ => none }
def tPaR : Tfm C0 := fun args H K => match args with
  | [.at (.ptr 0 0), .at (.val (.int .u32 x)), .at (.val (.int .u32 y)), .at (.fn 133 []), .at (.fn 135 [1])] => mR H fun lo hi s S => ∃ hs t1 t2, Wf S hs ∧ Rep S t1 x ∧ Rep S t2 y ∧ List.length s + 2 * (t1.size + t2.size) ≤ 800000 ∧ S.reads + (2 + 6 * (t1.size + t2.size)) ≤ 3000000000000000000 ∧
    ∀ s' S' m, s' = goV (fR lo hi) s (btw t1.list t2.list) → S' = rdS S m → m ≤ 2 + 6 * (t1.size + t2.size) → K (.tup []) (chR lo hi s' S') [0, 7, 11]
  | _ => False
/-! ### each, and the function itself -/
abbrev ceR (lo hi : Int) (s : List Chg) (S : Arn) : List (Chunk C0) := [.box [.ptr 4 0, .slc 5, .slc 6, vU64 S.reads], .box [vI lo], .box [vI hi], .box [.slc 7], .box [.slc 8, .slc 9, .slc 10, vU S.fresh], .row true EC.node S.nodes, .row true EC.int S.counts, .row true EC.chg s, .row true EC.bool S.used, .row true EC.u32 S.gen, .row true EC.u32 S.rel]
def meR (H : List (Chunk C0)) (k : Int → Int → List Chg → Arn → Prop) : Prop := match H with
  | [.box [.ptr 4 0, .slc 5, .slc 6, .val (.int .u64 rd)], .box [.val (.int .i64 lo)], .box [.val (.int .i64 hi)], .box [.slc 7], .box [.slc 8, .slc 9, .slc 10, .val (.int .u32 fr)], .row true .node nd, .row true .int ct, .row true .chg s, .row true .bool us, .row true .u32 gn, .row true .u32 rl] => k lo hi s ⟨us, gn, rl, fr, nd, ct, rd⟩
  | _ => False
noncomputable def aEaR : Ann C0 := { Γ := [(134, frameT [] tPaR)] }
def tEaR : Tfm C0 := fun args H K => match args with
  | [.at (.ptr 0 0), .at (.val (.int .u32 x)), .at (.val (.int .u32 y)), .at (.fn 107 [1, 2, 3])] => meR H fun lo hi s S => ∃ hs t1 t2, Wf S hs ∧ Rep S t1 x ∧ Rep S t2 y ∧ List.length s + 2 * (t1.size + t2.size) ≤ 800000 ∧ S.reads + (2 + 6 * (t1.size + t2.size)) ≤ 3000000000000000000 ∧
    ∀ s' S' m, s' = goV (fR lo hi) s (btw t1.list t2.list) → S' = rdS S m → m ≤ 2 + 6 * (t1.size + t2.size) → (x = y → m = 0) → K (.tup []) (ceR lo hi s' S') [0, 3, 7]
  | _ => False
noncomputable def aFnR : Ann C0 := { Γ := [(106, frameT [] tEaR)] }
def tFnR : Tfm C0 := fun args H K => match args with
  | [.at (.ptr 0 0), .at (.val (.int .u32 x)), .at (.val (.int .u32 y)), .at (.val (.int .i64 lo)), .at (.val (.int .i64 hi))] => arM H fun S => ∃ hs t1 t2, Wf S hs ∧ Rep S t1 x ∧ Rep S t2 y ∧ t1.size + t2.size ≤ 300000 ∧ S.reads + (2 + 6 * (t1.size + t2.size)) ≤ 3000000000000000000 ∧
    ∀ s' S' m, s' = goV (fR lo hi) [] (btw t1.list t2.list) → S' = rdS S m → m ≤ 2 + 6 * (t1.size + t2.size) → (x = y → m = 0) → K (.one (.at (.slc 7))) (chS S' ++ [.row true EC.chg s']) [0]
  | _ => False
end Go.Proofs.Ytbonbaccmlomhaa.Sx
end
section
/- treework.Pairs with the visitor of diff's Count$1; this file is written by gen_pa.py. -/
namespace Go.Proofs.Ytbonbaccmlomhaa.Sx
open Go

/-KEEP Wf exW inU Arn.cap Arn.free Rep Tr.size Tr.list btw rdS pushL lastI expL inL popI wL stepV pairC goV fR fC fF-/
abbrev chC (s : Int) (S : Arn) : List (Chunk C0) := [.box [.ptr 2 0, .slc 3, .slc 4, vU64 S.reads], .box [.fn 119 [5]], .box [.slc 6, .slc 7, .slc 8, vU S.fresh], .row true EC.node S.nodes, .row true EC.int S.counts, .box [vI s], .row true EC.bool S.used, .row true EC.u32 S.gen, .row true EC.u32 S.rel]
def mC (H : List (Chunk C0)) (k : Int → Arn → Prop) : Prop := match H with
  | [.box [.ptr 2 0, .slc 3, .slc 4, .val (.int .u64 rd)], .box [.fn 119 [5]], .box [.slc 6, .slc 7, .slc 8, .val (.int .u32 fr)], .row true .node nd, .row true .int ct, .box [.val (.int .i64 s)], .row true .bool us, .row true .u32 gn, .row true .u32 rl] => k s ⟨us, gn, rl, fr, nd, ct, rd⟩
  | _ => False
/-! ### The visitor -/
def tStepC : Tfm C0 := fun args H K => match args, H with
  | [.agg [.val (.int .i64 k), .val (.int .i64 y), .val (.int .i64 o), .val (.int .i64 n)], .at (.ptr 0 0)], [.box [.val (.int .i64 s)]] => ∀ s' b, (s', b) = fC ⟨k, y, o, n⟩ s → K (.one (.at (vB b))) [.box [vI s']] [0]
  | _, _ => False
noncomputable def aVisC : Ann C0 := { Γ := [(119, frameT [] tStepC)] }
def tVisC : Tfm C0 := fun args H K => match args, H with
  | [.agg [.val (.int .i64 k), .val (.int .i64 x), .val (.int .i64 y), .val (.bool a), .val (.bool b), .val (.bool _), .val (.bool _)], .at (.ptr 0 0)], [.box [.fn 119 [1]], .box [.val (.int .i64 s)]] => 
    ∀ s' q, (s', q) = stepV fC (pairC k x y a b) s → K (.one (.at (vB q))) [.box [.fn 119 [1]], .box [vI s']] [1]
  | _, _ => False

/-! ### The walk -/
abbrev hpC (s : Int) (S : Arn) (l r : List ItemT) : List (Chunk C0) := chC  s S ++ [.box [.slc 11], .box [.slc 12], .row true EC.item l, .row true EC.item r]
noncomputable def aPaC (P0 P1 P2 P3 P4 P5 : List ItemT → List ItemT → Int → Nat → Bool → Prop) (S : Arn) : Ann C0 := { Γ := [(151, frameT [] tPush), (152, frameT [] tTop), (153, frameT [] tPop), (154, frameT [] tExp), (133, frameT [] tCom), (135, frameT [] tVisC)], inv := fun n => match n with
  | 3 => some { X := XP P0, sl := [10, 11], tf := fun x => [.one (.at (.ptr 9 0)), .one (.at (.ptr 10 0))], hf := fun x => hpC  x.s (rdS S x.m) x.l x.r, μ := fun x => wL x.l + wL x.r, wr := [0, 5] }
  | 2015 => some { X := XP P1, sl := [10, 11, 12, 13, 14, 15, 90], tf := fun x => [.one (.at (.ptr 9 0)), .one (.at (.ptr 10 0)), .one (.at (.ptr 13 0)), vb (decide (x.l ≠ [])), .one (.at (.ptr 14 0)), vb (decide (x.r ≠ [])), vb x.c], hf := fun x => hpC  x.s (rdS S x.m) x.l x.r ++ [bxI (lastI x.l), bxI (lastI x.r)], rel := fun _ H x => relP 11 12 H x.l x.r, wr := [0, 5] }
  | 1017 => some { X := XP P2, sl := [10, 11, 12, 13, 14, 15, 97], tf := fun x => [.one (.at (.ptr 9 0)), .one (.at (.ptr 10 0)), .one (.at (.ptr 13 0)), vb (decide (x.l ≠ [])), .one (.at (.ptr 14 0)), vb (decide (x.r ≠ [])), vb x.c], hf := fun x => hpC  x.s (rdS S x.m) x.l x.r ++ [bxI (lastI x.l), bxI (lastI x.r)], rel := fun _ H x => relP 11 12 H x.l x.r, wr := [0, 5] }
  | 1021 => some { X := XP P3, sl := [10, 11, 12, 13, 14, 15, 124], tf := fun x => [.one (.at (.ptr 9 0)), .one (.at (.ptr 10 0)), .one (.at (.ptr 13 0)), vb (decide (x.l ≠ [])), .one (.at (.ptr 14 0)), vb (decide (x.r ≠ [])), vb x.c], hf := fun x => hpC  x.s (rdS S x.m) x.l x.r ++ [bxI (lastI x.l), bxI (lastI x.r)], rel := fun _ H x => relP 11 12 H x.l x.r, wr := [0, 5] }
  | 1023 => some { X := XP P4, sl := [10, 11, 12, 13, 14, 15, 148], tf := fun x => [.one (.at (.ptr 9 0)), .one (.at (.ptr 10 0)), .one (.at (.ptr 13 0)), vb (decide (x.l ≠ [])), .one (.at (.ptr 14 0)), vb (decide (x.r ≠ [])), vb x.c], hf := fun x => hpC  x.s (rdS S x.m) x.l x.r ++ [bxI (lastI x.l), bxI (lastI x.r)], rel := fun _ H x => relP 11 12 H x.l x.r, wr := [0, 5] }
  | 1007 => some { X := XP P5, sl := [10, 11, 12, 13, 14, 15, 16], tf := fun x => [.one (.at (.ptr 9 0)), .one (.at (.ptr 10 0)), .one (.at (.ptr 13 0)), vb (decide (x.l ≠ [])), .one (.at (.ptr 14 0)), vb (decide (x.r ≠ [])), .one (.at (.ptr 15 0))], hf := fun x => hpC  x.s (rdS S x.m) x.l x.r ++ [bxI (lastI x.l), bxI (lastI x.r), .box [vI 0, vI 0, vI 0, vB (inL x.l x.r), vB false, vB (decide (x.l ≠ [])), vB (decide (x.r ≠ []))]], rel := fun _ H x => relP 11 12 H x.l x.r, wr := [0, 5] }
  | 1008 => some { X := XP P5, sl := [10, 11, 12, 13, 14, 15, 16], tf := fun x => [.one (.at (.ptr 9 0)), .one (.at (.ptr 10 0)), .one (.at (.ptr 13 0)), vb (decide (x.l ≠ [])), .one (.at (.ptr 14 0)), vb (decide (x.r ≠ [])), .one (.at (.ptr 15 0))], hf := fun x => hpC  x.s (rdS S x.m) x.l x.r ++ [bxI (lastI x.l), bxI (lastI x.r), .box [vI 0, vI 0, vI 0, vB (inL x.l x.r), vB (inL x.r x.l), vB (decide (x.l ≠ [])), vB (decide (x.r ≠ []))]], rel := fun _ H x => relP 11 12 H x.l x.r, wr := [0, 5] }
  | 1011 => some { X := XP P5, sl := [10, 11, 12, 13, 14, 15, 16], tf := fun x => [.one (.at (.ptr 9 0)), .one (.at (.ptr 10 0)), .one (.at (.ptr 13 0)), vb (decide (x.l ≠ [])), .one (.at (.ptr 14 0)), vb (decide (x.r ≠ [])), .one (.at (.ptr 15 0))], hf := fun x => hpC  x.s (rdS S x.m) (popI (inL x.l x.r) x.l) x.r ++ [bxI (lastI x.l), bxI (lastI x.r), .box [vI (ifI (inL x.l x.r) (lastI x.l).key), vI (ifI (inL x.l x.r) (lastI x.l).value), vI 0, vB (inL x.l x.r), vB (inL x.r x.l), vB (decide (x.l ≠ [])), vB (decide (x.r ≠ []))]], rel := fun _ H x => relP 11 12 H x.l x.r, wr := [0, 5] }
  | _ => none }
def tPaC : Tfm C0 := fun args H K => match args with
  | [.at (.ptr 0 0), .at (.val (.int .u32 x)), .at (.val (.int .u32 y)), .at (.fn 133 []), .at (.fn 135 [1])] => mC H fun  s S => ∃ hs t1 t2, Wf S hs ∧ Rep S t1 x ∧ Rep S t2 y ∧ (fun _ => 0) s + 2 * (t1.size + t2.size) ≤ 800000 ∧ S.reads + (2 + 6 * (t1.size + t2.size)) ≤ 3000000000000000000 ∧
    ∀ s' S' m, s' = goV fC s (btw t1.list t2.list) → S' = rdS S m → m ≤ 2 + 6 * (t1.size + t2.size) → K (.tup []) (chC  s' S') [0, 5]
  | _ => False
/-! ### each, and the function itself -/
abbrev ceC (s : Int) (S : Arn) : List (Chunk C0) := [.box [.ptr 2 0, .slc 3, .slc 4, vU64 S.reads], .box [vI s], .box [.slc 5, .slc 6, .slc 7, vU S.fresh], .row true EC.node S.nodes, .row true EC.int S.counts, .row true EC.bool S.used, .row true EC.u32 S.gen, .row true EC.u32 S.rel]
def meC (H : List (Chunk C0)) (k : Int → Arn → Prop) : Prop := match H with
  | [.box [.ptr 2 0, .slc 3, .slc 4, .val (.int .u64 rd)], .box [.val (.int .i64 s)], .box [.slc 5, .slc 6, .slc 7, .val (.int .u32 fr)], .row true .node nd, .row true .int ct, .row true .bool us, .row true .u32 gn, .row true .u32 rl] => k s ⟨us, gn, rl, fr, nd, ct, rd⟩
  | _ => False
noncomputable def aEaC : Ann C0 := { Γ := [(134, frameT [] tPaC)] }
def tEaC : Tfm C0 := fun args H K => match args with
  | [.at (.ptr 0 0), .at (.val (.int .u32 x)), .at (.val (.int .u32 y)), .at (.fn 119 [1])] => meC H fun  s S => ∃ hs t1 t2, Wf S hs ∧ Rep S t1 x ∧ Rep S t2 y ∧ (fun _ => 0) s + 2 * (t1.size + t2.size) ≤ 800000 ∧ S.reads + (2 + 6 * (t1.size + t2.size)) ≤ 3000000000000000000 ∧
    ∀ s' S' m, s' = goV fC s (btw t1.list t2.list) → S' = rdS S m → m ≤ 2 + 6 * (t1.size + t2.size) → (x = y → m = 0) → K (.tup []) (ceC  s' S') [0, 1]
  | _ => False
noncomputable def aFnC : Ann C0 := { Γ := [(106, frameT [] tEaC)] }
def tFnC : Tfm C0 := fun args H K => match args with
  | [.at (.ptr 0 0), .at (.val (.int .u32 x)), .at (.val (.int .u32 y))] => arM H fun S => ∃ hs t1 t2, Wf S hs ∧ Rep S t1 x ∧ Rep S t2 y ∧ t1.size + t2.size ≤ 300000 ∧ S.reads + (2 + 6 * (t1.size + t2.size)) ≤ 3000000000000000000 ∧
    ∀ s' S' m, s' = goV fC 0 (btw t1.list t2.list) → S' = rdS S m → m ≤ 2 + 6 * (t1.size + t2.size) → (x = y → m = 0) → K (.one (.at (vI s'))) (chS S') [0]
  | _ => False
end Go.Proofs.Ytbonbaccmlomhaa.Sx
end
section
/- treework.Pairs with the visitor of diff's First$1; this file is written by gen_pa.py. -/
namespace Go.Proofs.Ytbonbaccmlomhaa.Sx
open Go

/-KEEP Wf exW inU Arn.cap Arn.free Rep Tr.size Tr.list btw rdS pushL lastI expL inL popI wL stepV pairC goV fR fC fF-/
abbrev chF (s : Chg × Bool) (S : Arn) : List (Chunk C0) := [.box [.ptr 2 0, .slc 3, .slc 4, vU64 S.reads], .box [.fn 120 [5, 6]], .box [.slc 7, .slc 8, .slc 9, vU S.fresh], .row true EC.node S.nodes, .row true EC.int S.counts, .box [vI s.1.kind, vI s.1.key, vI s.1.old, vI s.1.new], .box [vB s.2], .row true EC.bool S.used, .row true EC.u32 S.gen, .row true EC.u32 S.rel]
def mF (H : List (Chunk C0)) (k : Chg × Bool → Arn → Prop) : Prop := match H with
  | [.box [.ptr 2 0, .slc 3, .slc 4, .val (.int .u64 rd)], .box [.fn 120 [5, 6]], .box [.slc 7, .slc 8, .slc 9, .val (.int .u32 fr)], .row true .node nd, .row true .int ct, .box [.val (.int .i64 sk), .val (.int .i64 sy), .val (.int .i64 so), .val (.int .i64 sn)], .box [.val (.bool sb)], .row true .bool us, .row true .u32 gn, .row true .u32 rl] => k (⟨sk, sy, so, sn⟩, sb) ⟨us, gn, rl, fr, nd, ct, rd⟩
  | _ => False
/-! ### The visitor -/
def tStepF : Tfm C0 := fun args H K => match args, H with
  | [.agg [.val (.int .i64 k), .val (.int .i64 y), .val (.int .i64 o), .val (.int .i64 n)], .at (.ptr 0 0), .at (.ptr 1 0)], [.box [.val (.int .i64 sk), .val (.int .i64 sy), .val (.int .i64 so), .val (.int .i64 sn)], .box [.val (.bool sb)]] =>
    ∀ s' b, (s', b) = fF ⟨k, y, o, n⟩ (⟨sk, sy, so, sn⟩, sb) → K (.one (.at (vB b))) [.box [vI s'.1.kind, vI s'.1.key, vI s'.1.old, vI s'.1.new], .box [vB s'.2]] [0, 1]
  | _, _ => False
noncomputable def aVisF : Ann C0 := { Γ := [(120, frameT [] tStepF)] }
def tVisF : Tfm C0 := fun args H K => match args, H with
  | [.agg [.val (.int .i64 k), .val (.int .i64 x), .val (.int .i64 y), .val (.bool a), .val (.bool b), .val (.bool _), .val (.bool _)], .at (.ptr 0 0)], [.box [.fn 120 [1, 2]], .box [.val (.int .i64 sk), .val (.int .i64 sy), .val (.int .i64 so), .val (.int .i64 sn)], .box [.val (.bool sb)]] => 
    ∀ s' q, (s', q) = stepV fF (pairC k x y a b) (⟨sk, sy, so, sn⟩, sb) → K (.one (.at (vB q))) [.box [.fn 120 [1, 2]], .box [vI s'.1.kind, vI s'.1.key, vI s'.1.old, vI s'.1.new], .box [vB s'.2]] [1, 2]
  | _, _ => False

/-! ### The walk -/
abbrev hpF (s : Chg × Bool) (S : Arn) (l r : List ItemT) : List (Chunk C0) := chF  s S ++ [.box [.slc 12], .box [.slc 13], .row true EC.item l, .row true EC.item r]
noncomputable def aPaF (P0 P1 P2 P3 P4 P5 : List ItemT → List ItemT → Chg × Bool → Nat → Bool → Prop) (S : Arn) : Ann C0 := { Γ := [(151, frameT [] tPush), (152, frameT [] tTop), (153, frameT [] tPop), (154, frameT [] tExp), (133, frameT [] tCom), (135, frameT [] tVisF)], inv := fun n => match n with
  | 3 => some { X := XP P0, sl := [10, 11], tf := fun x => [.one (.at (.ptr 10 0)), .one (.at (.ptr 11 0))], hf := fun x => hpF  x.s (rdS S x.m) x.l x.r, μ := fun x => wL x.l + wL x.r, wr := [0, 5, 6] }
  | 2015 => some { X := XP P1, sl := [10, 11, 12, 13, 14, 15, 90], tf := fun x => [.one (.at (.ptr 10 0)), .one (.at (.ptr 11 0)), .one (.at (.ptr 14 0)), vb (decide (x.l ≠ [])), .one (.at (.ptr 15 0)), vb (decide (x.r ≠ [])), vb x.c], hf := fun x => hpF  x.s (rdS S x.m) x.l x.r ++ [bxI (lastI x.l), bxI (lastI x.r)], rel := fun _ H x => relP 12 13 H x.l x.r, wr := [0, 5, 6] }
  | 1017 => some { X := XP P2, sl := [10, 11, 12, 13, 14, 15, 97], tf := fun x => [.one (.at (.ptr 10 0)), .one (.at (.ptr 11 0)), .one (.at (.ptr 14 0)), vb (decide (x.l ≠ [])), .one (.at (.ptr 15 0)), vb (decide (x.r ≠ [])), vb x.c], hf := fun x => hpF  x.s (rdS S x.m) x.l x.r ++ [bxI (lastI x.l), bxI (lastI x.r)], rel := fun _ H x => relP 12 13 H x.l x.r, wr := [0, 5, 6] }
  | 1021 => some { X := XP P3, sl := [10, 11, 12, 13, 14, 15, 124], tf := fun x => [.one (.at (.ptr 10 0)), .one (.at (.ptr 11 0)), .one (.at (.ptr 14 0)), vb (decide (x.l ≠ [])), .one (.at (.ptr 15 0)), vb (decide (x.r ≠ [])), vb x.c], hf := fun x => hpF  x.s (rdS S x.m) x.l x.r ++ [bxI (lastI x.l), bxI (lastI x.r)], rel := fun _ H x => relP 12 13 H x.l x.r, wr := [0, 5, 6] }
  | 1023 => some { X := XP P4, sl := [10, 11, 12, 13, 14, 15, 148], tf := fun x => [.one (.at (.ptr 10 0)), .one (.at (.ptr 11 0)), .one (.at (.ptr 14 0)), vb (decide (x.l ≠ [])), .one (.at (.ptr 15 0)), vb (decide (x.r ≠ [])), vb x.c], hf := fun x => hpF  x.s (rdS S x.m) x.l x.r ++ [bxI (lastI x.l), bxI (lastI x.r)], rel := fun _ H x => relP 12 13 H x.l x.r, wr := [0, 5, 6] }
  | 1007 => some { X := XP P5, sl := [10, 11, 12, 13, 14, 15, 16], tf := fun x => [.one (.at (.ptr 10 0)), .one (.at (.ptr 11 0)), .one (.at (.ptr 14 0)), vb (decide (x.l ≠ [])), .one (.at (.ptr 15 0)), vb (decide (x.r ≠ [])), .one (.at (.ptr 16 0))], hf := fun x => hpF  x.s (rdS S x.m) x.l x.r ++ [bxI (lastI x.l), bxI (lastI x.r), .box [vI 0, vI 0, vI 0, vB (inL x.l x.r), vB false, vB (decide (x.l ≠ [])), vB (decide (x.r ≠ []))]], rel := fun _ H x => relP 12 13 H x.l x.r, wr := [0, 5, 6] }
  | 1008 => some { X := XP P5, sl := [10, 11, 12, 13, 14, 15, 16], tf := fun x => [.one (.at (.ptr 10 0)), .one (.at (.ptr 11 0)), .one (.at (.ptr 14 0)), vb (decide (x.l ≠ [])), .one (.at (.ptr 15 0)), vb (decide (x.r ≠ [])), .one (.at (.ptr 16 0))], hf := fun x => hpF  x.s (rdS S x.m) x.l x.r ++ [bxI (lastI x.l), bxI (lastI x.r), .box [vI 0, vI 0, vI 0, vB (inL x.l x.r), vB (inL x.r x.l), vB (decide (x.l ≠ [])), vB (decide (x.r ≠ []))]], rel := fun _ H x => relP 12 13 H x.l x.r, wr := [0, 5, 6] }
  | 1011 => some { X := XP P5, sl := [10, 11, 12, 13, 14, 15, 16], tf := fun x => [.one (.at (.ptr 10 0)), .one (.at (.ptr 11 0)), .one (.at (.ptr 14 0)), vb (decide (x.l ≠ [])), .one (.at (.ptr 15 0)), vb (decide (x.r ≠ [])), .one (.at (.ptr 16 0))], hf := fun x => hpF  x.s (rdS S x.m) (popI (inL x.l x.r) x.l) x.r ++ [bxI (lastI x.l), bxI (lastI x.r), .box [vI (ifI (inL x.l x.r) (lastI x.l).key), vI (ifI (inL x.l x.r) (lastI x.l).value), vI 0, vB (inL x.l x.r), vB (inL x.r x.l), vB (decide (x.l ≠ [])), vB (decide (x.r ≠ []))]], rel := fun _ H x => relP 12 13 H x.l x.r, wr := [0, 5, 6] }
  | _ => none }
def tPaF : Tfm C0 := fun args H K => match args with
  | [.at (.ptr 0 0), .at (.val (.int .u32 x)), .at (.val (.int .u32 y)), .at (.fn 133 []), .at (.fn 135 [1])] => mF H fun  s S => ∃ hs t1 t2, Wf S hs ∧ Rep S t1 x ∧ Rep S t2 y ∧ (fun _ => 0) s + 2 * (t1.size + t2.size) ≤ 800000 ∧ S.reads + (2 + 6 * (t1.size + t2.size)) ≤ 3000000000000000000 ∧
    ∀ s' S' m, s' = goV fF s (btw t1.list t2.list) → S' = rdS S m → m ≤ 2 + 6 * (t1.size + t2.size) → K (.tup []) (chF  s' S') [0, 5, 6]
  | _ => False
/-! ### each, and the function itself -/
abbrev ceF (s : Chg × Bool) (S : Arn) : List (Chunk C0) := [.box [.ptr 3 0, .slc 4, .slc 5, vU64 S.reads], .box [vI s.1.kind, vI s.1.key, vI s.1.old, vI s.1.new], .box [vB s.2], .box [.slc 6, .slc 7, .slc 8, vU S.fresh], .row true EC.node S.nodes, .row true EC.int S.counts, .row true EC.bool S.used, .row true EC.u32 S.gen, .row true EC.u32 S.rel]
def meF (H : List (Chunk C0)) (k : Chg × Bool → Arn → Prop) : Prop := match H with
  | [.box [.ptr 3 0, .slc 4, .slc 5, .val (.int .u64 rd)], .box [.val (.int .i64 sk), .val (.int .i64 sy), .val (.int .i64 so), .val (.int .i64 sn)], .box [.val (.bool sb)], .box [.slc 6, .slc 7, .slc 8, .val (.int .u32 fr)], .row true .node nd, .row true .int ct, .row true .bool us, .row true .u32 gn, .row true .u32 rl] => k (⟨sk, sy, so, sn⟩, sb) ⟨us, gn, rl, fr, nd, ct, rd⟩
  | _ => False
noncomputable def aEaF : Ann C0 := { Γ := [(134, frameT [] tPaF)] }
def tEaF : Tfm C0 := fun args H K => match args with
  | [.at (.ptr 0 0), .at (.val (.int .u32 x)), .at (.val (.int .u32 y)), .at (.fn 120 [1, 2])] => meF H fun  s S => ∃ hs t1 t2, Wf S hs ∧ Rep S t1 x ∧ Rep S t2 y ∧ (fun _ => 0) s + 2 * (t1.size + t2.size) ≤ 800000 ∧ S.reads + (2 + 6 * (t1.size + t2.size)) ≤ 3000000000000000000 ∧
    ∀ s' S' m, s' = goV fF s (btw t1.list t2.list) → S' = rdS S m → m ≤ 2 + 6 * (t1.size + t2.size) → (x = y → m = 0) → K (.tup []) (ceF  s' S') [0, 1, 2]
  | _ => False
noncomputable def aFnF : Ann C0 := { Γ := [(106, frameT [] tEaF)] }
def tFnF : Tfm C0 := fun args H K => match args with
  | [.at (.ptr 0 0), .at (.val (.int .u32 x)), .at (.val (.int .u32 y))] => arM H fun S => ∃ hs t1 t2, Wf S hs ∧ Rep S t1 x ∧ Rep S t2 y ∧ t1.size + t2.size ≤ 300000 ∧ S.reads + (2 + 6 * (t1.size + t2.size)) ≤ 3000000000000000000 ∧
    ∀ s' S' m, s' = goV fF (⟨0, 0, 0, 0⟩, false) (btw t1.list t2.list) → S' = rdS S m → m ≤ 2 + 6 * (t1.size + t2.size) → (x = y → m = 0) → K (.tup [.agg [vI s'.1.kind, vI s'.1.key, vI s'.1.old, vI s'.1.new], .at (vB s'.2)]) (chS S') [0]
  | _ => False
end Go.Proofs.Ytbonbaccmlomhaa.Sx
end
section
/- diff's functions as they are used, and the law DiffOfSelf. -/
namespace Go.Proofs.Ytbonbaccmlomhaa.Sx
open Go

/-! ### Plain -/
def rngC (lo hi : Int) (cs : List Chg) : List Chg := cs.filter fun c => decide (lo ≤ c.key ∧ c.key ≤ hi)
def Kin (l : List Ent) : Prop := ∀ x ∈ l, -9223372036854775808 ≤ x.1 ∧ x.1 ≤ 9223372036854775807
/-! ### The contracts -/
/-KEEP Wf exW inU live Arn.cap Arn.free Rep rdS Tr.size Tr.list btw rngC goV fR Asc Kin PlantR listE newS sameB-/
def tRangeB : Tfm C0 := fun args H K => match args with
  | [.at (.ptr 0 0), .at (.val (.int .u32 x)), .at (.val (.int .u32 y)), .at (.val (.int .i64 lo)), .at (.val (.int .i64 hi))] => arM H fun S => ∃ hs t1 t2, Wf S hs ∧ Rep S t1 x ∧ Rep S t2 y ∧ t1.size + t2.size ≤ 300000 ∧ S.reads + (2 + 6 * (t1.size + t2.size)) ≤ 3000000000000000000 ∧ Asc t1.list ∧ Asc t2.list ∧
    ∀ s' S' m, s' = rngC lo hi (btw t1.list t2.list) → S' = rdS S m → m ≤ 2 + 6 * (t1.size + t2.size) → (x = y → m = 0) → K (.one (.at (.slc 7))) (chS S' ++ [.row true EC.chg s']) [0]
  | _ => False
noncomputable def aDiff : Ann C0 := { Γ := [(62, frameT [] tRangeB)] }
def tDiff : Tfm C0 := fun args H K => match args with
  | [.at (.ptr 0 0), .at (.val (.int .u32 x)), .at (.val (.int .u32 y))] => arM H fun S => ∃ hs t1 t2, Wf S hs ∧ Rep S t1 x ∧ Rep S t2 y ∧ t1.size + t2.size ≤ 300000 ∧ S.reads + (2 + 6 * (t1.size + t2.size)) ≤ 3000000000000000000 ∧ Asc t1.list ∧ Asc t2.list ∧ Kin t1.list ∧ Kin t2.list ∧
    ∀ s' S' m, s' = btw t1.list t2.list → S' = rdS S m → m ≤ 2 + 6 * (t1.size + t2.size) → (x = y → m = 0) → K (.one (.at (.slc 7))) (chS S' ++ [.row true EC.chg s']) [0]
  | _ => False
/-! A tree and itself. -/
def selfM (x y : Int) (S : Arn) : Prop := x = y ∧ ∃ hs t, Wf S hs ∧ Rep S t x ∧ t.size ≤ 100000 ∧ S.reads ≤ 1000000000000000000 ∧ Asc t.list ∧ Kin t.list
theorem selfM.go {x y : Int} {S : Arn} (h : selfM x y S) : ∃ hs t, Wf S hs ∧ Rep S t x ∧ Rep S t y ∧ t.size + t.size ≤ 300000 ∧ S.reads + (2 + 6 * ((t.size : Int) + t.size)) ≤ 3000000000000000000 ∧ Asc t.list ∧ Kin t.list ∧ btw t.list t.list = [] ∧ (∀ m, (x = y → m = 0) → rdS S m = S) := by
  obtain ⟨rfl, hs, t, h1, h2, h3, h4, h5, h6⟩ := h
  exact ⟨hs, t, h1, h2, h2, by omega, by omega, h5, h6, btw_self _, fun m hm => by rw [hm rfl, rdS_zero]⟩
def tDiffS : Tfm C0 := fun args H K => match args with
  | [.at (.ptr 0 0), .at (.val (.int .u32 x)), .at (.val (.int .u32 y))] => arM H fun S => selfM x y S ∧ K (.one (.at (.slc 7))) (chS S ++ [.row true EC.chg []]) [0]
  | _ => False
def tRangeS : Tfm C0 := fun args H K => match args with
  | [.at (.ptr 0 0), .at (.val (.int .u32 x)), .at (.val (.int .u32 y)), .at (.val (.int .i64 _)), .at (.val (.int .i64 _))] => arM H fun S => selfM x y S ∧ K (.one (.at (.slc 7))) (chS S ++ [.row true EC.chg []]) [0]
  | _ => False
def tFirstS : Tfm C0 := fun args H K => match args with
  | [.at (.ptr 0 0), .at (.val (.int .u32 x)), .at (.val (.int .u32 y))] => arM H fun S => selfM x y S ∧ K (.tup [.agg [vI 0, vI 0, vI 0, vI 0], .at (vB false)]) (chS S) [0]
  | _ => False
def tCountS : Tfm C0 := fun args H K => match args with
  | [.at (.ptr 0 0), .at (.val (.int .u32 x)), .at (.val (.int .u32 y))] => arM H fun S => selfM x y S ∧ K (.one (.at (vI 0))) (chS S) [0]
  | _ => False
def tSameT : Tfm C0 := fun args H K => match args, H with
  | [.at (.slc 0), .at (.slc 1)], [.row false .chg l, .row false .chg m] => l = m ∧ K (.one (.at (vB true))) [.row false EC.chg l, .row false EC.chg m] []
  | _, _ => False
/-! ### The example of the chapter -/
noncomputable def aAwake18 : Ann C0 := { Γ := [(34, frameT [] tNew), (51, frameT [] tPlantA), (16, frameT [] tDiff), (61, frameT [] tSameT)] }
def tAwake18 : Tfm C0 := fun args H K => match args, H with
  | [], [] => K (.one (.at (vB true))) [] []
  | _, _ => False
/-! ### The law -/
noncomputable def aDos : Ann C0 := { Γ := [(36, frameT [] tLst), (54, frameT [] tGrow), (15, frameT [] tAwake18), (27, frameT [] tReads), (16, frameT [] tDiffS), (62, frameT [] tRangeS), (85, frameT [] tFirstS), (84, frameT [] tCountS), (78, frameT [] tWi)] }
def tDos : Tfm C0 := fun args H K => match args, H with
  | [.at (.slc 0), .at (.val (.int .u64 t)), .at (.val (.int .i64 _)), .at (.val (.int .i64 _))], [.row false .ent raw] => 0 ≤ t ∧ Kin raw ∧ K (.one (.at (vB true))) [.row false EC.ent raw] []
  | _, _ => False
theorem listE_sub (raw : List Ent) (n : Nat) : ∀ x ∈ listE raw n, x ∈ raw := by
  have key : ∀ (l acc : List Ent), Asc acc → ∀ x ∈ l.foldl insE acc, x ∈ acc ∨ x ∈ l := by
    intro l
    induction l with
    | nil => intro acc _ x hx; exact .inl hx
    | cons a l ih =>
      intro acc ha x hx
      rcases ih (insE acc a) (insE_asc a ha) x hx with h | h
      · rcases insE_mem ha h with h | h
        · exact .inr (by simp [h])
        · exact .inl h
      · exact .inr (by simp [h])
  intro x hx
  unfold listE at hx
  rcases key (raw.take n) [] (by simp [Srt]) x hx with h | h
  · simp at h
  · exact List.mem_of_mem_take h
end Go.Proofs.Ytbonbaccmlomhaa.Sx
end
section
/- Trees that are held, with their entries: what is free, and what a set operation answers. No program in sight. -/
namespace Go.Proofs.Ytbonbaccmlomhaa.Sx
open Go

variable {S S' : Arn} {hs : List Int} {f : Int → Option Int → Option Int → Option Int}
def sumL (E : List (Int × List Ent)) : Nat := (E.map fun p => p.2.length).sum
structure Hld (S : Arn) (E : List (Int × List Ent)) : Prop where
  wf : Wf S (E.map Prod.fst)
  rep : ∀ p ∈ E, ∃ t, Rep S t p.1 ∧ t.list = p.2 ∧ t.Bal
  asc : ∀ p ∈ E, Asc p.2
  kin : ∀ p ∈ E, Kin p.2
theorem nuR_sum (w : Wf S hs) : ∀ E : List (Int × List Ent), (∀ p ∈ E, ∃ t, Rep S t p.1 ∧ t.list = p.2 ∧ t.Bal) → nuR S (E.map Prod.fst) ≤ nuR S [] + sumL E
  | [], _ => by simp [sumL]
  | p :: E, h => by
    obtain ⟨t, rp, lt, _⟩ := h p (List.mem_cons_self ..)
    have a := nuR_cons (hs := E.map Prod.fst) w rp
    have b := nuR_sum w E fun q hq => h q (List.mem_cons_of_mem _ hq)
    have c : t.size = p.2.length := by rw [← t.list_len, lt]
    rw [List.map_cons]
    unfold sumL at *
    rw [List.map_cons, List.sum_cons]
    omega
open Classical in
theorem nuR_nil (w : Wf S hs) : nuR S [] = 0 := by
  unfold nuR
  refine List.countP_eq_zero.2 fun i _ hi => ?_
  have hr : Rch S [] (i : Int) := of_decide_eq_true hi
  clear hi
  generalize (i : Int) = j at hr
  induction hr with
  | root a _ => cases a
  | left _ _ ih => exact ih
  | right _ _ ih => exact ih
theorem Hld.room {E : List (Int × List Ent)} (h : Hld S E) : S.cap ≤ S.free + sumL E := by
  have a := h.wf.free_nonneg.2.2.2
  have b := h.wf.nuR
  have c := nuR_sum h.wf E h.rep
  have d := nuR_nil h.wf
  omega
theorem Hld.step {E : List (Int × List Ent)} {L : List Ent} {m r : Nat} {j : Int} (e : Hld S E) (tr : TrR S (E.map Prod.fst) L m r S' j) (ha : Asc L) (hk : Kin L) : Hld S' ((j, L) :: E) where
  wf := tr.got.wf
  rep p hp := by
    rcases List.mem_cons.1 hp with rfl | hp
    · exact tr.tree
    · obtain ⟨t, rp, lt, bt⟩ := e.rep p hp
      exact ⟨t, rp.held e.wf tr.got.stay (.inr (List.mem_map.2 ⟨p, hp, rfl⟩)), lt, bt⟩
  asc p hp := by
    rcases List.mem_cons.1 hp with rfl | hp
    · exact ha
    · exact e.asc p hp
  kin p hp := by
    rcases List.mem_cons.1 hp with rfl | hp
    · exact hk
    · exact e.kin p hp
theorem Hld.rd {E : List (Int × List Ent)} {n : Nat} (e : Hld S E) (h : S.reads + n ≤ 4000000000000000000) : Hld (rdS S n) E where
  wf := e.wf.rd h
  rep p hp := by
    obtain ⟨t, rp, lt, bt⟩ := e.rep p hp
    exact ⟨t, rp.rdn, lt, bt⟩
  asc := e.asc
  kin := e.kin
theorem set_kin {g : Option Int → Option Int → Option Int} {l m L : List Ent} (g0 : g none none = none) (h : SetR g l m L) (hl : Kin l) (hm : Kin m) : Kin L := fun x hx => by
  have e := getE_in hx
  rw [h.get] at e
  cases ea : getE l x.1 with
  | some v => exact hl (x.1, v) (getE_some ea)
  | none =>
    cases eb : getE m x.1 with
    | some v => exact hm (x.1, v) (getE_some eb)
    | none => rw [ea, eb] at e; exact absurd g0 e
theorem sumL_le {E : List (Int × List Ent)} {p : Int × List Ent} (h : p ∈ E) : p.2.length ≤ sumL E := by
  induction E with
  | nil => cases h
  | cons q E ih =>
    unfold sumL at *
    rw [List.map_cons, List.sum_cons]
    rcases List.mem_cons.1 h with rfl | h
    · omega
    · have := ih h; omega
theorem Hld.op {E : List (Int × List Ent)} {x y : Int} {l m : List Ent} (e : Hld S E) (hx : (x, l) ∈ E) (hy : (y, m) ∈ E) (hl : l.length ≤ 65536) (hm : m.length ≤ 65536) (he : E.length ≤ 900000) (hr : S.reads ≤ 900000000000000000) :
    ∃ tx ty, OpM S (E.map Prod.fst) tx ty x y ∧ tx.list = l ∧ ty.list = m ∧ tx.size = l.length ∧ ty.size = m.length := by
  obtain ⟨t, rp, lt, bt⟩ := e.rep _ hx
  obtain ⟨u, ru, lu, bu⟩ := e.rep _ hy
  have lt : t.list = l := lt
  have lu : u.list = m := lu
  have a1 := e.asc _ hx
  have a2 := e.asc _ hy
  have sz : t.size = l.length := by rw [← t.list_len, lt]
  have su : u.size = m.length := by rw [← u.list_len, lu]
  exact ⟨t, u, ⟨e.wf, rp, ru, bt, bu, by rw [lt]; exact a1, by rw [lu]; exact a2, by omega, by omega, by simpa using he, hr⟩, lt, lu, sz, su⟩
theorem needS_le (tx ty : Tr) : needS tx ty ≤ (tx.size : Int) + ty.size + 984 ∧ 0 ≤ needS tx ty := by
  have := Hn_rng ((tx.size : Int) + ty.size)
  unfold needS
  omega
/-- Where there is room, a set operation makes a tree of its answer. -/
theorem SoR.ok {whole : Int → Int → Int → Prop} {res : Int → Int → Int} {tx ty : Tr} {x y p i e : Int} (o : OpM S hs tx ty x y) (hf : needS tx ty ≤ S.free)
    (hw : whole x y p → ∃ t, Rep S t (res x y) ∧ t.Bal ∧ SetR (f p) tx.list ty.list t.list) (h : SoR f whole res S hs tx ty x y p S' i e) :
    e = 0 ∧ ∃ L, SetR (f p) tx.list ty.list L ∧ TrR S hs L 65537 2000000000 S' i := by
  have hr := o.rd
  have hl := o.hl
  rcases h with ⟨a, b, c, d⟩ | ⟨_, a, _⟩ | ⟨_, _, b, c⟩
  · obtain ⟨t, rp, bal, st⟩ := hw a
    rw [c]
    exact ⟨b, t.list, st, hold_tr (m := 0) o.wf rp bal (by omega) (by omega) (by rw [d, rdS_zero]) (by omega) rfl⟩
  · omega
  · exact ⟨b, c⟩
theorem wh_uni {tx ty : Tr} {x y p : Int} (o : OpM S hs tx ty x y) (h : whU x y p) : ∃ t, Rep S t (reU x y) ∧ t.Bal ∧ SetR (fUni p) tx.list ty.list t.list := by
  have h0 : S.us 0 = false := o.wf.us0 (Int.le_refl 0)
  unfold reU
  split
  · rename_i c
    have ry := o.ry
    rw [c] at ry
    rw [ry.zero o.wf]
    exact ⟨tx, o.rx, o.bx, SetR.left o.ax (fUni_l p)⟩
  · rename_i c
    split
    · rename_i d
      have ry := o.ry
      rw [← d] at ry
      rcases h with h | h | h
      · have rx := o.rx
        rw [h] at rx
        rw [rx.zero o.wf]
        rw [d] at h
        exact absurd h c
      · exact absurd h c
      · rw [ry.inj h0 o.rx]
        exact ⟨tx, o.rx, o.bx, SetR.same o.ax (fUni_s h.2)⟩
    · rename_i d
      rcases h with h | h | h
      · have rx := o.rx
        rw [h] at rx
        rw [rx.zero o.wf]
        exact ⟨ty, o.ry, o.bY, SetR.right o.ay (fUni_r p)⟩
      · exact absurd h c
      · exact absurd h.1 d
theorem wh_int {tx ty : Tr} {x y p : Int} (o : OpM S hs tx ty x y) (h : whU x y p) : ∃ t, Rep S t (reI x y) ∧ t.Bal ∧ SetR (fInt p) tx.list ty.list t.list := by
  have h0 : S.us 0 = false := o.wf.us0 (Int.le_refl 0)
  unfold reI
  split
  · rename_i c
    refine ⟨.nil, rfl, trivial, SetR.none fun k => ?_⟩
    rcases c with c | c
    · have rx := o.rx
      rw [c] at rx
      rw [rx.zero o.wf]
      rfl
    · have ry := o.ry
      rw [c] at ry
      rw [ry.zero o.wf]
      show fInt p _ none = none
      cases getE tx.list k <;> rfl
  · rename_i c
    rcases h with h | h | h
    · exact absurd (.inl h) c
    · exact absurd (.inr h) c
    · have ry := o.ry
      rw [← h.1] at ry
      rw [ry.inj h0 o.rx]
      exact ⟨tx, o.rx, o.bx, SetR.same o.ax (fInt_s h.2)⟩
/-- The short forms: there is room. -/
def tSoPk (f : Int → Option Int → Option Int → Option Int) : Tfm C0 := fun args H K => match args with
  | [.at (.ptr 0 0), .at (.val (.int .u32 x)), .at (.val (.int .u32 y)), .at (.val (.int .i64 p))] => arM H fun S => ∃ hs tx ty, OpM S hs tx ty x y ∧ 1 ≤ p ∧ p ≤ 5 ∧ needS tx ty ≤ S.free ∧
    ∀ S' i L, SetR (f p) tx.list ty.list L → TrR S hs L 65537 2000000000 S' i → K (.tup [.at (vU i), .at (vI 0)]) (chS S') W7
  | _ => False
def tSoNk (f : Int → Option Int → Option Int → Option Int) : Tfm C0 := fun args H K => match args with
  | [.at (.ptr 0 0), .at (.val (.int .u32 x)), .at (.val (.int .u32 y))] => arM H fun S => ∃ hs tx ty, OpM S hs tx ty x y ∧ needS tx ty ≤ S.free ∧
    ∀ S' i L, SetR (f 1) tx.list ty.list L → TrR S hs L 65537 2000000000 S' i → K (.tup [.at (vU i), .at (vI 0)]) (chS S') W7
  | _ => False
theorem soPk {g : FuncId} {whole : Int → Int → Int → Prop} {res : Int → Int → Int} (s : SoundT C0 g (tSoP f whole res))
    (hw : ∀ S hs tx ty x y p, OpM S hs tx ty x y → whole x y p → ∃ t, Rep S t (res x y) ∧ t.Bal ∧ SetR (f p) tx.list ty.list t.list) : SoundT C0 g (tSoPk f) := s.weak fun args H K h => by
  unfold tSoPk at h
  unfold tSoP
  split at h <;> try exact h.elim
  unfold arM at h ⊢
  split at h <;> try exact h.elim
  obtain ⟨hs, tx, ty, o, p1, p2, hf, h⟩ := h
  refine ⟨hs, tx, ty, o, fun q => absurd ⟨p1, p2⟩ q, fun _ _ S' i e so => ?_⟩
  obtain ⟨e0, L, hL, tr⟩ := SoR.ok o hf (hw _ _ _ _ _ _ _ o) so
  rw [e0]
  exact h S' i L hL tr
theorem s_soUk : SoundT C0 22 (tSoPk fUni) := soPk s_soU fun _ _ _ _ _ _ _ o h => wh_uni o h
/-- An operation on two trees that are held. -/
theorem Hld.set {E : List (Int × List Ent)} {l m L : List Ent} {p j : Int} (e : Hld S E) {x y : Int} (hx : (x, l) ∈ E) (hy : (y, m) ∈ E) (h0 : f p none none = none) (hL : SetR (f p) l m L) (tr : TrR S (E.map Prod.fst) L 65537 2000000000 S' j) : Hld S' ((j, L) :: E) :=
  e.step tr hL.asc (set_kin h0 hL (e.kin _ hx) (e.kin _ hy))
/-- In an arena of at least 4000 slots there is room while no more than 1000 entries are held. -/
theorem Hld.go {E : List (Int × List Ent)} {x y : Int} {l m : List Ent} (e : Hld S E) (hx : (x, l) ∈ E) (hy : (y, m) ∈ E) (hE : sumL E ≤ 1000) (he : E.length ≤ 20) (hc : 4000 ≤ S.cap) (hr : S.reads ≤ 900000000000000000) :
    ∃ tx ty, OpM S (E.map Prod.fst) tx ty x y ∧ tx.list = l ∧ ty.list = m ∧ needS tx ty ≤ S.free := by
  have a := sumL_le hx
  have b := sumL_le hy
  have a : l.length ≤ sumL E := a
  have b : m.length ≤ sumL E := b
  obtain ⟨tx, ty, o, h1, h2, h3, h4⟩ := e.op hx hy (by omega) (by omega) (by omega) hr
  have c := needS_le tx ty
  have d := e.room
  exact ⟨tx, ty, o, h1, h2, by omega⟩
theorem sumL_cons (j : Int) (L : List Ent) (E : List (Int × List Ent)) : sumL ((j, L) :: E) = L.length + sumL E := by
  unfold sumL; rw [List.map_cons, List.sum_cons]
theorem sumL_nil : sumL [] = 0 := rfl
theorem tr_cap {L : List Ent} {m r : Nat} {j : Int} (tr : TrR S hs L m r S' j) : S'.cap = S.cap := cap_len tr.got.len
end Go.Proofs.Ytbonbaccmlomhaa.Sx
end
