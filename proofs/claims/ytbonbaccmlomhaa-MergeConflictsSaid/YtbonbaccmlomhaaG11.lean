/- A part of the proof. -/
import Derived.Test.YtbonbaccmlomhaaG10
import Derived.Test.YtbonbaccmlomhaaG5
import Derived.Test.YtbonbaccmlomhaaG6
import Derived.Test.YtbonbaccmlomhaaG1
import Derived.Test.YtbonbaccmlomhaaG8
section
/- A dump's allocated slots, edges, marks; the reference's Check; Sound. -/
namespace Go.Proofs.Ytbonbaccmlomhaa.Sx
open Go

/-KEEP Wf exW inU allU Arn.cap Arn.free alcD cntL kidsL slotsOf orderOf MarksR CleanD kidsU-/
def alcD (d : List SlotT) (i : Int) : Bool := decide (1 ≤ i) && (decide (i ≤ (d.length : Int)) && (d.getD (i - 1).toNat SlotT.zero).alloc)
def cntL (l : List Int) (n : Nat) : List Int := (List.range n).map fun (j : Nat) => ((l.count ((j : Int) + 1) : Nat) : Int)
def kidsL (d : List SlotT) : List Int := d.flatMap fun x => if x.alloc = true then [x.node.left, x.node.right] else []
def allU (l : List Int) : Prop := ∀ x ∈ l, inU x
def kidsU (d : List SlotT) : Prop := ∀ x ∈ d, inU x.node.left ∧ inU x.node.right
def mkd (m : List Bool) (i : Int) : Prop := 1 ≤ i ∧ m.getD (i - 1).toNat false = true
def sltD (d : List SlotT) (i : Int) : SlotT := d.getD (i - 1).toNat SlotT.zero
abbrev eS (d : List SlotT) (i : Nat) : SlotT := d.getD i SlotT.zero
structure MarksR (d : List SlotT) (roots : List Int) (m : List Bool) : Prop where
  len : m.length = d.length
  root : ∀ i ∈ roots, alcD d i = true → mkd m i
  left : ∀ i, mkd m i → alcD d (sltD d i).node.left = true → mkd m (sltD d i).node.left
  right : ∀ i, mkd m i → alcD d (sltD d i).node.right = true → mkd m (sltD d i).node.right
def szD (d : List SlotT) (i : Int) : Int := if alcD d i = true then (sltD d i).node.size else 0
structure CleanD (d : List SlotT) (fl roots : List Int) : Prop where
  free : ∀ i < d.length, fl.count ((i : Int) + 1) = if (d.getD i SlotT.zero).alloc = true then 0 else 1
  left : ∀ i < d.length, (d.getD i SlotT.zero).alloc = true → (d.getD i SlotT.zero).node.left = 0 ∨ alcD d (d.getD i SlotT.zero).node.left = true
  right : ∀ i < d.length, (d.getD i SlotT.zero).alloc = true → (d.getD i SlotT.zero).node.right = 0 ∨ alcD d (d.getD i SlotT.zero).node.right = true
  size : ∀ i < d.length, (d.getD i SlotT.zero).alloc = true → (d.getD i SlotT.zero).node.size = 1 + szD d (d.getD i SlotT.zero).node.left + szD d (d.getD i SlotT.zero).node.right
  zr : ∀ i < d.length, 0 ≤ (d.getD i SlotT.zero).node.size ∧ (d.getD i SlotT.zero).node.size ≤ 4294967296
  count : ∀ i < d.length, (d.getD i SlotT.zero).count = if (d.getD i SlotT.zero).alloc = true then ((kidsL d).count ((i : Int) + 1) : Int) + (roots.count ((i : Int) + 1) : Int) else 0
  mark : ∀ m, MarksR d roots m → ∀ i < d.length, (d.getD i SlotT.zero).alloc = true → m.getD i false = true
  rng : ∀ x ∈ fl, 1 ≤ x ∧ x ≤ d.length
  held : ∀ x ∈ roots, x = 0 ∨ alcD d x = true
def tAlc : Tfm C0 := fun args H K => match args, H with
  | [.agg [.slc 0, .slc 1], .at (.val (.int .u32 i))], [.row false .slot d, .row false .u32 fl] => inU i ∧ d.length ≤ 1000000 ∧ K (.one (.at (vB (alcD d i)))) [.row false EC.slot d, .row false EC.u32 fl] []
  | _, _ => False
def tKids : Tfm C0 := fun args H K => match args, H with
  | [.agg [.val (.bool _), .val (.int .i64 _), .val (.int .u32 _), .val (.int .i64 _), .val (.int .i64 _), .val (.int .u32 l), .val (.int .u32 r), .val (.int .i64 _), .val (.int .i64 _), .val (.int .i64 _), .val (.int .i64 _)]], [] => K (.one (.agg [vU l, vU r])) [] []
  | _, _ => False
structure XIx (n : Nat) where
  i : Nat
  h : i ≤ n
structure XIn (d : List SlotT) where
  i : Nat
  h : i < d.length
noncomputable def aInE (d : List SlotT) (fl : List Int) : Ann C0 := { Γ := [(149, frameT [] tKids)], rounds := fun n => if n = 7 then 3 else 0, inv := fun n => match n with
  | 3 => some { X := XIx d.length, sl := [4, 1, 3], tf := fun x => [vi .i64 x.i, .one (.at (.ptr 2 0)), .one (.at (.slc 3))], hf := fun x => [.row false EC.slot d, .row false EC.u32 fl, .box [.slc 0, .slc 1], .row true EC.int (cntL (kidsL (d.take x.i)) d.length)], μ := fun x => d.length - x.i }
  | 1004 => some { X := XIn d, sl := [4, 1, 3], tf := fun x => [vi .i64 x.i, .one (.at (.ptr 2 0)), .one (.at (.slc 3))], hf := fun x => [.row false EC.slot d, .row false EC.u32 fl, .box [.slc 0, .slc 1], .row true EC.int (cntL (kidsL (d.take (x.i + 1))) d.length)], rel := fun T _ z => slotI T 4 z.i }
  | _ => none }
def tInE : Tfm C0 := fun args H K => match args, H with
  | [.agg [.slc 0, .slc 1]], [.row false .slot d, .row false .u32 fl] => d.length ≤ 100000 ∧ kidsU d ∧ ∀ o, o = cntL (kidsL d) d.length → K (.one (.at (.slc 2))) [.row false EC.slot d, .row false EC.u32 fl, .row true EC.int o] []
  | _, _ => False
noncomputable def aCnt (l : List Int) (n : Int) : Ann C0 := { Γ := [], inv := fun k => match k with
  | 3 => some { X := XIx l.length, sl := [6, 5], tf := fun x => [vi .i64 x.i, .one (.at (.slc 1))], hf := fun x => [.row false EC.u32 l, .row true EC.int (cntL (l.take x.i) n.toNat)], μ := fun x => l.length - x.i }
  | _ => none }
def tCnt : Tfm C0 := fun args H K => match args, H with
  | [.at (.slc 0), .at (.val (.int .i64 n))], [.row false .u32 l] => 0 ≤ n ∧ n ≤ 100000 ∧ l.length ≤ 1000000 ∧ allU l ∧ ∀ o, o = cntL l n.toNat → K (.one (.at (.slc 1))) [.row false EC.u32 l, .row true EC.int o] []
  | _, _ => False
structure XMks (P : List Bool → List Int → Prop) where
  m : List Bool
  w : List Int
  h : P m w
noncomputable def aMk (P : List Bool → List Int → Prop) (d : List SlotT) (fl roots : List Int) : Ann C0 := { Γ := [(140, frameT [] tAlc), (149, frameT [] tKids)], trunc := fun n => n = 28, inv := fun k => match k with
  | 3 => some { X := XMks P, sl := [2, 5, 6], tf := fun _ => [.one (.at (.ptr 3 0)), .one (.at (.slc 4)), .one (.at (.slc 5))], hf := fun x => [.row false EC.slot d, .row false EC.u32 fl, .row false EC.u32 roots, .box [.slc 0, .slc 1], .row true EC.bool x.m, .row true EC.u32 x.w], μ := fun x => x.w.length + 3 * x.m.count false }
  | _ => none }
def tMk : Tfm C0 := fun args H K => match args, H with
  | [.agg [.slc 0, .slc 1], .at (.slc 2)], [.row false .slot d, .row false .u32 fl, .row false .u32 roots] => d.length ≤ 100000 ∧ roots.length ≤ 1000000 ∧ kidsU d ∧ allU roots ∧ ∀ m, MarksR d roots m → K (.one (.at (.slc 3))) [.row false EC.slot d, .row false EC.u32 fl, .row false EC.u32 roots, .row true EC.bool m] []
  | _, _ => False
theorem alcD_lo {d : List SlotT} {i : Int} (h : ¬ 1 ≤ i) : alcD d i = false := by simp [alcD, h]
theorem alcD_rng {d : List SlotT} {i : Int} (h : alcD d i = true) : 1 ≤ i ∧ i ≤ (d.length : Int) := by simp [alcD] at h; exact ⟨h.1, h.2.1⟩
structure PMk (d : List SlotT) (roots : List Int) (m : List Bool) (w : List Int) : Prop where
  len : m.length = d.length
  u : ∀ x ∈ w, inU x
  wl : w.length + 2 * m.count false ≤ roots.length + 2 * d.length
  root : ∀ i ∈ roots, alcD d i = true → mkd m i ∨ i ∈ w
  left : ∀ i, mkd m i → alcD d (sltD d i).node.left = true → mkd m (sltD d i).node.left ∨ (sltD d i).node.left ∈ w
  right : ∀ i, mkd m i → alcD d (sltD d i).node.right = true → mkd m (sltD d i).node.right ∨ (sltD d i).node.right ∈ w
theorem PMk.start (d : List SlotT) (roots : List Int) (h : ∀ x ∈ roots, inU x) : PMk d roots (List.replicate d.length false) roots := by
  have z : ∀ i, ¬ mkd (List.replicate d.length false) i := fun i hi => by
    have := hi.2
    rw [getD_replicate] at this; cases this
  exact ⟨by simp, h, by simp, fun i hi _ => .inr hi, fun i hi => (z i hi).elim, fun i hi => (z i hi).elim⟩
theorem PMk.done {d : List SlotT} {roots : List Int} {m : List Bool} (h : PMk d roots m []) : MarksR d roots m :=
  ⟨h.len, fun i a b => (h.root i a b).resolve_right (by simp), fun i a b => (h.left i a b).resolve_right (by simp), fun i a b => (h.right i a b).resolve_right (by simp)⟩
/-- What was taken from the work needs no mark: it is marked, or not allocated. -/
theorem PMk.skip {d : List SlotT} {roots : List Int} {m : List Bool} {w : List Int} {x : Int} (h : PMk d roots m (w ++ [x])) (hx : alcD d x = true → mkd m x) : PMk d roots m w := by
  have key : ∀ j, alcD d j = true → mkd m j ∨ j ∈ w ++ [x] → mkd m j ∨ j ∈ w := fun j ha hj => by
    rcases hj with hj | hj
    · exact .inl hj
    · rcases List.mem_append.1 hj with hj | hj
      · exact .inr hj
      · have e : j = x := by simpa using hj
        subst e; exact .inl (hx ha)
  refine ⟨h.len, fun y hy => h.u y (by simp [hy]), by have := h.wl; simp at this; omega, fun i a b => key i b (h.root i a b), fun i a b => key _ b (h.left i a b), fun i a b => key _ b (h.right i a b)⟩
theorem count_mark {m : List Bool} {k : Nat} (h1 : k < m.length) (h2 : m.getD k false = false) : (m.set k true).count false + 1 = m.count false := by
  have := countP_set' (fun b : Bool => b == false) m k true false h1
  rw [h2] at this
  simpa [List.count] using this
theorem PMk.mark {d : List SlotT} {roots : List Int} {m : List Bool} {w : List Int} {x : Int} (h : PMk d roots m (w ++ [x])) (hx : alcD d x = true) (hm : m.getD (x - 1).toNat false = false) (hk : inU (sltD d x).node.left ∧ inU (sltD d x).node.right) :
    PMk d roots (m.set (x - 1).toNat true) (w ++ [(sltD d x).node.left, (sltD d x).node.right]) := by
  obtain ⟨x1, x2⟩ := alcD_rng hx
  have hl := h.len
  have hs : ∀ j, mkd (m.set (x - 1).toNat true) j ↔ j = x ∨ mkd m j := fun j => by
    unfold mkd
    rw [getD_set]
    constructor
    · rintro ⟨a, b⟩
      by_cases e : j = x
      · exact .inl e
      · rw [if_neg (by omega)] at b; exact .inr ⟨a, b⟩
    · rintro (e | ⟨a, b⟩)
      · subst e; exact ⟨x1, by rw [if_pos ⟨rfl, by omega⟩]⟩
      · refine ⟨a, ?_⟩
        split
        · rfl
        · exact b
  have key : ∀ j, mkd m j ∨ j ∈ w ++ [x] → mkd (m.set (x - 1).toNat true) j ∨ j ∈ w ++ [(sltD d x).node.left, (sltD d x).node.right] := fun j hj => by
    rw [hs]
    rcases hj with hj | hj
    · exact .inl (.inr hj)
    · rcases List.mem_append.1 hj with hj | hj
      · exact .inr (by simp [hj])
      · exact .inl (.inl (by simpa using hj))
  have hc := count_mark (m := m) (k := (x - 1).toNat) (by omega) hm
  have l1 : (w ++ [(sltD d x).node.left, (sltD d x).node.right]).length = w.length + 2 := by simp
  have l2 : (w ++ [x]).length = w.length + 1 := by simp
  refine ⟨by simp [hl], fun y hy => ?_, by have := h.wl; omega, fun i a b => key i (h.root i a b), fun i a b => ?_, fun i a b => ?_⟩
  · simp at hy
    rcases hy with hy | hy | hy
    · exact h.u y (by simp [hy])
    · subst hy; exact hk.1
    · subst hy; exact hk.2
  · rcases (hs i).1 a with e | e
    · subst e; exact .inr (by simp)
    · exact key _ (h.left i e b)
  · rcases (hs i).1 a with e | e
    · subst e; exact .inr (by simp)
    · exact key _ (h.right i e b)
/-! ### The plain law: a whole arena's dump is clean. -/
theorem slotsOf_len (S : Arn) : (slotsOf S).length = ncap S := by simp [slotsOf]
theorem order_len {S : Arn} {hs : List Int} (w : Wf S hs) : (orderOf S).length ≤ 131074 := by
  have h1 := w.n2; have h2 := w.nus; have h3 := w.fr
  unfold orderOf orderL upTo
  simp; omega
def ineQ (out : List Int) (c : Int) (al : Bool) (ja jb : Prop) (G : List Int → Prop) : Prop :=
  brS al (ja ∧ jb ∧ brS (decide (c ≥ 1)) (ja ∧ jb ∧ brS (decide (IntKind.u64.wrap c ≤ IntKind.u64.wrap (out.length : Int))) (ja ∧ jb ∧ 0 ≤ IntKind.u32.wrap (c - 1) ∧ IntKind.u32.wrap (c - 1) < (out.length : Int) ∧ 0 ≤ IntKind.u32.wrap (c - 1) ∧ IntKind.u32.wrap (c - 1) < (out.length : Int) ∧
    G (out.set (IntKind.u32.wrap (c - 1)).toNat (IntKind.i64.wrap (out.getD (IntKind.u32.wrap (c - 1)).toNat 0 + 1)))) (G out)) (G out)) (G out)
end Go.Proofs.Ytbonbaccmlomhaa.Sx
end
section
/- Equal dumps, and the count of a slot of a dump. -/
namespace Go.Proofs.Ytbonbaccmlomhaa.Sx
open Go

/-KEEP Wf exW inU alcD slotsOf orderOf-/
noncomputable def aSameS (l m : List SlotT) : Ann C0 := { Γ := [], inv := fun n => match n with
  | 4 => some { X := XIx l.length, sl := [5], tf := fun x => [vi .i64 x.i], hf := fun _ => [.row false EC.slot l, .row false EC.slot m], μ := fun x => l.length - x.i }
  | _ => none }
def tSameS : Tfm C0 := fun args H K => match args, H with
  | [.at (.slc 0), .at (.slc 1)], [.row false .slot l, .row false .slot m] => l = m ∧ l.length ≤ 1000000 ∧ K (.one (.at (vB true))) [.row false EC.slot l, .row false EC.slot m] []
  | _, _ => False
noncomputable def aSameU (l m : List Int) : Ann C0 := { Γ := [], inv := fun n => match n with
  | 4 => some { X := XIx l.length, sl := [5], tf := fun x => [vi .i64 x.i], hf := fun _ => [.row false EC.u32 l, .row false EC.u32 m], μ := fun x => l.length - x.i }
  | _ => none }
def tSameU : Tfm C0 := fun args H K => match args, H with
  | [.at (.slc 0), .at (.slc 1)], [.row false .u32 l, .row false .u32 m] => l = m ∧ l.length ≤ 1000000 ∧ K (.one (.at (vB true))) [.row false EC.u32 l, .row false EC.u32 m] []
  | _, _ => False
noncomputable def aSameD : Ann C0 := { Γ := [(74, frameT [] tSameS), (75, frameT [] tSameU)] }
def tSameD : Tfm C0 := fun args H K => match args, H with
  | [.agg [.slc 0, .slc 1], .agg [.slc 2, .slc 3]], [.row false .slot d, .row false .u32 f, .row false .slot e, .row false .u32 g] => d = e ∧ f = g ∧ d.length ≤ 1000000 ∧ f.length ≤ 1000000 ∧ K (.one (.at (vB true))) [.row false EC.slot d, .row false EC.u32 f, .row false EC.slot e, .row false EC.u32 g] []
  | _, _ => False
def cntD (d : List SlotT) (i : Int) : Int := if alcD d i = true then (sltD d i).count else 0
noncomputable def aCn24 : Ann C0 := { Γ := [(140, frameT [] tAlc)] }
def tCn24 : Tfm C0 := fun args H K => match args, H with
  | [.agg [.slc 0, .slc 1], .at (.val (.int .u32 i))], [.row false .slot d, .row false .u32 fl] => inU i ∧ d.length ≤ 1000000 ∧ ∀ c, c = cntD d i → K (.one (.at (vI c))) [.row false EC.slot d, .row false EC.u32 fl] []
  | _, _ => False
theorem vc_sameS (l : List SlotT) (K : KT) (h1 : l.length ≤ 1000000) (h : K (.one (.at (vB true))) [.row false EC.slot l, .row false EC.slot l] []) :
    vc C0 (aSameS l l) Try.f74 [.at (.slc 0), .at (.slc 1)] [.row false EC.slot l, .row false EC.slot l] (normK 2 K) := by
  have hm : ∀ m : List SlotT, m = l → vc C0 (aSameS l m) Try.f74 [.at (.slc 0), .at (.slc 1)] [.row false EC.slot l, .row false EC.slot m] (normK 2 K) := fun m em => by
    refine Eq.mp (show (brS ((↑l.length : Int) != (↑m.length : Int)) ((K (SV.one (TV.at (At.val (Value.bool false)))) [(Chunk.row false (EC.slot) (l)), (Chunk.row false (EC.slot) (m))] [])) (((∃ x : XIx l.length, (True ∧ (True ∧ True ∧ ((Value.int IntKind.i64 0) = (Value.int IntKind.i64 ((↑x.i : Int)))) ∧ True) ∧ ((l) = (l)) ∧ ((m) = (m)) ∧ True)) ∧ (∀ x : XIx l.length, (True → (brS (decide ((↑x.i : Int) < (↑l.length : Int))) (((0 ≤ (↑x.i : Int)) ∧ ((↑x.i : Int) < (↑l.length : Int)) ∧ (0 ≤ (↑x.i : Int)) ∧ ((↑x.i : Int) < (↑m.length : Int)) ∧ (brS (!((eS l (↑x.i : Int).toNat).alloc == (eS m (↑x.i : Int).toNat).alloc && ((eS l (↑x.i : Int).toNat).count == (eS m (↑x.i : Int).toNat).count && ((eS l (↑x.i : Int).toNat).gen == (eS m (↑x.i : Int).toNat).gen && ((eS l (↑x.i : Int).toNat).node.key == (eS m (↑x.i : Int).toNat).node.key && ((eS l (↑x.i : Int).toNat).node.value == (eS m (↑x.i : Int).toNat).node.value && ((eS l (↑x.i : Int).toNat).node.left == (eS m (↑x.i : Int).toNat).node.left && ((eS l (↑x.i : Int).toNat).node.right == (eS m (↑x.i : Int).toNat).node.right && ((eS l (↑x.i : Int).toNat).node.size == (eS m (↑x.i : Int).toNat).node.size && ((eS l (↑x.i : Int).toNat).node.sum == (eS m (↑x.i : Int).toNat).node.sum && ((eS l (↑x.i : Int).toNat).node.min == (eS m (↑x.i : Int).toNat).node.min && ((eS l (↑x.i : Int).toNat).node.max == (eS m (↑x.i : Int).toNat).node.max && true))))))) && true)))))
    ((K (SV.one (TV.at (At.val (Value.bool false)))) [(Chunk.row false (EC.slot) (l)), (Chunk.row false (EC.slot) (m))] [])) ((∃ x' : XIx l.length, (True ∧ ((True ∧ True ∧ ((Value.int IntKind.i64 (IntKind.i64.wrap ((↑x.i : Int) + 1))) = (Value.int IntKind.i64 ((↑x'.i : Int)))) ∧ True) ∧ ((l) = (l)) ∧ ((m) = (m)) ∧ True) ∧ (l.length - x'.i < l.length - x.i))))))) ((K (SV.one (TV.at (At.val (Value.bool true)))) [(Chunk.row false (EC.slot) (l)), (Chunk.row false (EC.slot) (m))] [])))))))) = _ by kernel_rfl) ?_
    subst em
    refine brS_of (fun c => by simp at c) fun _ => ⟨⟨⟨0, Nat.zero_le _⟩, ?_⟩, fun x _ => brS_of (fun c => ?_) fun c => h⟩
    · (repeat' first | exact trivial | exact rfl | refine And.intro ?_ ?_)
    have c : x.i < m.length := by have := of_decide_eq_true c; omega
    refine ⟨by omega, by omega, by omega, by omega, brS_of (fun e => by simp at e) fun _ => ⟨⟨x.i + 1, c⟩, ?_⟩⟩
    (repeat' first | exact trivial | exact rfl | refine And.intro ?_ ?_)
    · rw [wrap_id (by omega) (by omega)]; congr 1
    · show m.length - (x.i + 1) < _; omega
  exact hm l rfl
theorem s_sameS : SoundT C0 74 tSameS := by
  refine .of Try.func74 (by decide) rfl fun args H K h hB => ?_
  unfold tSameS at h
  split at h <;> try exact h.elim
  rename_i l m
  obtain ⟨rfl, h1, h⟩ := h
  exact ⟨aSameS l l, trivial, vc_sameS l K h1 h⟩
theorem vc_sameU (l : List Int) (K : KT) (h1 : l.length ≤ 1000000) (h : K (.one (.at (vB true))) [.row false EC.u32 l, .row false EC.u32 l] []) :
    vc C0 (aSameU l l) Try.f75 [.at (.slc 0), .at (.slc 1)] [.row false EC.u32 l, .row false EC.u32 l] (normK 2 K) := by
  have hm : ∀ m : List Int, m = l → vc C0 (aSameU l m) Try.f75 [.at (.slc 0), .at (.slc 1)] [.row false EC.u32 l, .row false EC.u32 m] (normK 2 K) := fun m em => by
    refine Eq.mp (show (brS ((↑l.length : Int) != (↑m.length : Int)) ((K (SV.one (TV.at (At.val (Value.bool false)))) [(Chunk.row false (EC.u32) (l)), (Chunk.row false (EC.u32) (m))] [])) (((∃ x : XIx l.length, (True ∧ (True ∧ True ∧ ((Value.int IntKind.i64 0) = (Value.int IntKind.i64 ((↑x.i : Int)))) ∧ True) ∧ ((l) = (l)) ∧ ((m) = (m)) ∧ True)) ∧ (∀ x : XIx l.length, (True → (brS (decide ((↑x.i : Int) < (↑l.length : Int))) (((0 ≤ (↑x.i : Int)) ∧ ((↑x.i : Int) < (↑l.length : Int)) ∧ (0 ≤ (↑x.i : Int)) ∧ ((↑x.i : Int) < (↑m.length : Int)) ∧ (brS (l.getD (↑x.i : Int).toNat 0 != m.getD (↑x.i : Int).toNat 0) ((K (SV.one (TV.at (At.val (Value.bool false)))) [(Chunk.row false (EC.u32) (l)), (Chunk.row false (EC.u32) (m))] [])) ((∃ x' : XIx l.length, (True ∧ ((True ∧ True ∧ ((Value.int IntKind.i64 (IntKind.i64.wrap ((↑x.i : Int) + 1))) = (Value.int IntKind.i64 ((↑x'.i : Int)))) ∧ True) ∧ ((l) = (l)) ∧ ((m) = (m)) ∧ True) ∧ (l.length - x'.i < l.length - x.i))))))) ((K (SV.one (TV.at (At.val (Value.bool true)))) [(Chunk.row false (EC.u32) (l)), (Chunk.row false (EC.u32) (m))] [])))))))) = _ by kernel_rfl) ?_
    subst em
    refine brS_of (fun c => by simp at c) fun _ => ⟨⟨⟨0, Nat.zero_le _⟩, ?_⟩, fun x _ => brS_of (fun c => ?_) fun c => h⟩
    · (repeat' first | exact trivial | exact rfl | refine And.intro ?_ ?_)
    have c : x.i < m.length := by have := of_decide_eq_true c; omega
    refine ⟨by omega, by omega, by omega, by omega, brS_of (fun e => by simp at e) fun _ => ⟨⟨x.i + 1, c⟩, ?_⟩⟩
    (repeat' first | exact trivial | exact rfl | refine And.intro ?_ ?_)
    · rw [wrap_id (by omega) (by omega)]; congr 1
    · show m.length - (x.i + 1) < _; omega
  exact hm l rfl
theorem s_sameU : SoundT C0 75 tSameU := by
  refine .of Try.func75 (by decide) rfl fun args H K h hB => ?_
  unfold tSameU at h
  split at h <;> try exact h.elim
  rename_i l m
  obtain ⟨rfl, h1, h⟩ := h
  exact ⟨aSameU l l, trivial, vc_sameU l K h1 h⟩
theorem s_sameD : SoundT C0 24 tSameD := by
  refine .of Try.func24 (by decide) rfl fun args H K h hB => ?_
  unfold tSameD at h
  split at h <;> try exact h.elim
  rename_i d f e g
  refine ⟨aSameD, ⟨frame C0.ok s_sameS _, frame C0.ok s_sameU _, trivial⟩, Eq.mp (show (((d) = (e)) ∧
(d.length ≤ 1000000) ∧
((f) = (g)) ∧
(f.length ≤ 1000000) ∧
(K (SV.one (TV.at (At.val (Value.bool true)))) [(Chunk.row false (EC.slot) (d)), (Chunk.row false (EC.u32) (f)), (Chunk.row false (EC.slot) (e)), (Chunk.row false (EC.u32) (g))] [])) = _ by kernel_rfl) ?_⟩
  exact ⟨h.1, h.2.2.1, h.2.1, h.2.2.2.1, h.2.2.2.2⟩
end Go.Proofs.Ytbonbaccmlomhaa.Sx
end
section
/- The reference's Check of a dump, Clean and Sound. -/
namespace Go.Proofs.Ytbonbaccmlomhaa.Sx
open Go

/-KEEP Wf exW inU allU Arn.cap Arn.free alcD cntL kidsL slotsOf orderOf MarksR CleanD kidsU-/
structure XCk (d : List SlotT) (roots : List Int) where
  i : Nat
  m : List Bool
  h : i ≤ d.length ∧ MarksR d roots m
structure XCj (d : List SlotT) (roots : List Int) (P : Nat → Int → Prop) where
  i : Nat
  m : List Bool
  c : Int
  h : i < d.length ∧ MarksR d roots m ∧ P i c
abbrev bxSl (x : SlotT) : Chunk C0 := .box [.val (.bool x.alloc), vI x.count, vU x.gen, vI x.node.key, vI x.node.value, vU x.node.left, vU x.node.right, vI x.node.size, vI x.node.sum, vI x.node.min, vI x.node.max]
abbrev chK (d : List SlotT) (fl roots : List Int) (m : List Bool) : List (Chunk C0) := [.row false EC.slot d, .row false EC.u32 fl, .row false EC.u32 roots, .box [.slc 0, .slc 1], .row true EC.int (cntL (kidsL d) d.length), .row true EC.bool m, .row true EC.int (cntL fl d.length), .row true EC.int (cntL roots d.length), .row true EC.find []]
structure XIy (n : Nat) where
  i : Nat
  h : i < n
noncomputable def aChk (P0 P1 P2 P3 P4 : Nat → Int → Prop) (d : List SlotT) (fl roots : List Int) : Ann C0 := { Γ := [(146, frameT [] tInE), (147, frameT [] tMk), (148, frameT [] tCnt), (140, frameT [] tAlc), (149, frameT [] tKids)], quiet := [146, 147, 148, 140, 149], rounds := fun n => if n = 19 then 3 else 0, inv := fun n => match n with
  | 5 => some { X := XCk d roots, sl := [2, 6, 7, 8, 9, 5, 10], tf := fun x => [.one (.at (.ptr 3 0)), .one (.at (.slc 4)), .one (.at (.slc 5)), .one (.at (.slc 6)), .one (.at (.slc 7)), .one (.at (.slc 8)), vi .i64 x.i], hf := fun x => chK d fl roots x.m, μ := fun x => d.length - x.i }
  | 1011 => some { X := XCj d roots P4, sl := [2, 6, 7, 8, 9, 5, 10, 12, 13], tf := fun x => [.one (.at (.ptr 3 0)), .one (.at (.slc 4)), .one (.at (.slc 5)), .one (.at (.slc 6)), .one (.at (.slc 7)), .one (.at (.slc 8)), vi .i64 x.i, .one (.at (.ptr 9 0)), vi .i64 x.c], hf := fun x => chK d fl roots x.m ++ [bxSl (eS d x.i)], rel := fun T _ z => slotI T 10 z.i }
  | 1013 => some { X := XCj d roots P0, sl := [2, 6, 7, 8, 9, 5, 10, 12, 60], tf := fun x => [.one (.at (.ptr 3 0)), .one (.at (.slc 4)), .one (.at (.slc 5)), .one (.at (.slc 6)), .one (.at (.slc 7)), .one (.at (.slc 8)), vi .i64 x.i, .one (.at (.ptr 9 0)), vb false], hf := fun x => chK d fl roots x.m ++ [bxSl (eS d x.i)], rel := fun T _ z => slotI T 10 z.i }
  | 1025 => some { X := XCj d roots P1, sl := [2, 6, 7, 8, 9, 5, 10, 12, 17], tf := fun x => [.one (.at (.ptr 3 0)), .one (.at (.slc 4)), .one (.at (.slc 5)), .one (.at (.slc 6)), .one (.at (.slc 7)), .one (.at (.slc 8)), vi .i64 x.i, .one (.at (.ptr 9 0)), vi .i64 x.c], hf := fun x => chK d fl roots x.m ++ [bxSl (eS d x.i)], rel := fun T _ z => slotI T 10 z.i }
  | 1026 => some { X := XCj d roots P2, sl := [2, 6, 7, 8, 9, 5, 10, 12, 110], tf := fun x => [.one (.at (.ptr 3 0)), .one (.at (.slc 4)), .one (.at (.slc 5)), .one (.at (.slc 6)), .one (.at (.slc 7)), .one (.at (.slc 8)), vi .i64 x.i, .one (.at (.ptr 9 0)), vb false], hf := fun x => chK d fl roots x.m ++ [bxSl (eS d x.i)], rel := fun T _ z => slotI T 10 z.i }
  | 1028 => some { X := XCj d roots P3, sl := [2, 6, 7, 8, 9, 5, 10, 12, 15], tf := fun x => [.one (.at (.ptr 3 0)), .one (.at (.slc 4)), .one (.at (.slc 5)), .one (.at (.slc 6)), .one (.at (.slc 7)), .one (.at (.slc 8)), vi .i64 x.i, .one (.at (.ptr 9 0)), vi .i64 x.c], hf := fun x => chK d fl roots x.m ++ [bxSl (eS d x.i)], rel := fun T _ z => slotI T 10 z.i }
  | 1029 => some { X := XCj d roots P0, sl := [2, 6, 7, 8, 9, 5, 10, 12, 132], tf := fun x => [.one (.at (.ptr 3 0)), .one (.at (.slc 4)), .one (.at (.slc 5)), .one (.at (.slc 6)), .one (.at (.slc 7)), .one (.at (.slc 8)), vi .i64 x.i, .one (.at (.ptr 9 0)), vb false], hf := fun x => chK d fl roots x.m ++ [bxSl (eS d x.i)], rel := fun T _ z => slotI T 10 z.i }
  | 1031 => some { X := XCj d roots P0, sl := [2, 6, 7, 8, 9, 5, 10, 12, 149], tf := fun x => [.one (.at (.ptr 3 0)), .one (.at (.slc 4)), .one (.at (.slc 5)), .one (.at (.slc 6)), .one (.at (.slc 7)), .one (.at (.slc 8)), vi .i64 x.i, .one (.at (.ptr 9 0)), vb false], hf := fun x => chK d fl roots x.m ++ [bxSl (eS d x.i)], rel := fun T _ z => slotI T 10 z.i }
  | 33 => some { X := XIx fl.length, sl := [2, 5, 19], tf := fun x => [.one (.at (.ptr 3 0)), .one (.at (.slc 4)), vi .i64 x.i], hf := fun _ => [.row false EC.slot d, .row false EC.u32 fl, .row false EC.u32 roots, .box [.slc 0, .slc 1], .row true EC.find []], μ := fun x => fl.length - x.i }
  | 1036 => some { X := XIy fl.length, sl := [2, 5, 19, 180], tf := fun x => [.one (.at (.ptr 3 0)), .one (.at (.slc 4)), vi .i64 x.i, vb false], hf := fun _ => [.row false EC.slot d, .row false EC.u32 fl, .row false EC.u32 roots, .box [.slc 0, .slc 1], .row true EC.find []], rel := fun T _ z => slotI T 19 z.i }
  | 38 => some { X := XIx roots.length, sl := [2, 5, 20], tf := fun x => [.one (.at (.ptr 3 0)), .one (.at (.slc 4)), vi .i64 x.i], hf := fun _ => [.row false EC.slot d, .row false EC.u32 fl, .row false EC.u32 roots, .box [.slc 0, .slc 1], .row true EC.find []], μ := fun x => roots.length - x.i }
  | 1041 => some { X := XIy roots.length, sl := [2, 5, 20, 209], tf := fun x => [.one (.at (.ptr 3 0)), .one (.at (.slc 4)), vi .i64 x.i, vb false], hf := fun _ => [.row false EC.slot d, .row false EC.u32 fl, .row false EC.u32 roots, .box [.slc 0, .slc 1], .row true EC.find []], rel := fun T _ z => slotI T 20 z.i }
  | _ => none }
def tChk : Tfm C0 := fun args H K => match args, H with
  | [.agg [.slc 0, .slc 1], .at (.slc 2)], [.row false .slot d, .row false .u32 fl, .row false .u32 roots] => CleanD d fl roots ∧ kidsU d ∧ allU fl ∧ allU roots ∧ d.length ≤ 100000 ∧ fl.length ≤ 1000000 ∧ roots.length ≤ 1000000 ∧
    K (.one (.at (.slc 3))) [.row false EC.slot d, .row false EC.u32 fl, .row false EC.u32 roots, .row true EC.find []] []
  | _, _ => False
noncomputable def aCln : Ann C0 := { Γ := [(125, frameT [] tChk)] }
def tCln : Tfm C0 := fun args H K => match args, H with
  | [.agg [.slc 0, .slc 1], .at (.slc 2)], [.row false .slot d, .row false .u32 fl, .row false .u32 roots] => CleanD d fl roots ∧ kidsU d ∧ allU fl ∧ allU roots ∧ d.length ≤ 100000 ∧ fl.length ≤ 1000000 ∧ roots.length ≤ 1000000 ∧
    K (.one (.at (vB true))) [.row false EC.slot d, .row false EC.u32 fl, .row false EC.u32 roots] []
  | _, _ => False
noncomputable def aSound : Ann C0 := { Γ := [(21, frameT [] tDump), (91, frameT [] tCln)] }
def tSound : Tfm C0 := fun args H K => match args with
  | [.at (.ptr 0 0), .at (.slc 7)] => arMr H fun S rest => match rest with
    | [.row false .u32 roots] => ∃ hs, Wf S hs ∧ roots.Perm hs ∧ roots.length ≤ 1000000 ∧ K (.one (.at (vB true))) (chS S ++ [.row false EC.u32 roots]) []
    | _ => False
  | _ => False
def P0c (_ : Nat) (_ : Int) : Prop := True
def P4c (d : List SlotT) (i : Nat) (c : Int) : Prop := c = if (eS d i).alloc = true then 0 else 1
def P1c (d : List SlotT) (i : Nat) (c : Int) : Prop := (eS d i).alloc = true ∧ c = 1 + szD d (eS d i).node.left + szD d (eS d i).node.right
def P2c (d : List SlotT) (i : Nat) (_ : Int) : Prop := (eS d i).alloc = true
def P3c (d : List SlotT) (roots : List Int) (i : Nat) (c : Int) : Prop := c = if (eS d i).alloc = true then ((kidsL d).count ((i : Int) + 1) : Int) + (roots.count ((i : Int) + 1) : Int) else 0
end Go.Proofs.Ytbonbaccmlomhaa.Sx
end
section
/- The reference's trees over a dump: nodes, balance, height, list, order, Check, Tree. -/
namespace Go.Proofs.Ytbonbaccmlomhaa.Sx
open Go

/-KEEP Wf exW inU alcD slotsOf orderOf ndD RepD Asc Tr.Bal Tr.size Tr.list ht balB lastK anyK gtL ShpT-/
def ndD (d : List SlotT) (i : Int) : NodeT := if alcD d i = true then (sltD d i).node else NodeT.zero
def lastK : Tr → Int → Int
  | .nil, x => x
  | .node _ k _ r, _ => lastK r k
def anyK : Tr → Bool → Bool
  | .nil, b => b
  | .node _ _ _ _, _ => true
def gtL (x : Int) (l : List Ent) : Prop := ∀ y ∈ l, x < y.1
/-- An index of a dump stands for a tree. -/
def RepD (d : List SlotT) : Tr → Int → Prop
  | .nil, i => i = 0
  | .node l k v r, i => alcD d i = true ∧ (ndD d i).key = k ∧ (ndD d i).value = v ∧ (ndD d i).size = 1 + l.size + r.size ∧ RepD d l (ndD d i).left ∧ RepD d r (ndD d i).right
noncomputable def aAlcG : Ann C0 := { Γ := [(140, frameT [] tAlc)] }
def tNd : Tfm C0 := fun args H K => match args, H with
  | [.agg [.slc 0, .slc 1], .at (.val (.int .u32 i))], [.row false .slot d, .row false .u32 fl] => inU i ∧ d.length ≤ 1000000 ∧ ∀ n, n = ndD d i → K (.one (nodeA n)) [.row false EC.slot d, .row false EC.u32 fl] []
  | _, _ => False
def tBl7 (n : Nat) : Tfm C0 := fun args H K => match args, H with
  | [.agg [.slc 0, .slc 1], .at (.val (.int .u32 i))], [.row false .slot d, .row false .u32 fl] => d.length ≤ 1000000 ∧ (∃ t, RepD d t i ∧ t.Bal ∧ t.size < n ∧ t.size ≤ 1000000) ∧ K (.one (.at (vB true))) [.row false EC.slot d, .row false EC.u32 fl] []
  | _, _ => False
noncomputable def aBl7 (n : Nat) : Ann C0 := { quiet := [116, 130, 142], Γ := [(116, frameT [] tNd), (130, frameT [] tBal), (142, frameT [] (tBl7 n))] }
def tHt7 (n : Nat) : Tfm C0 := fun args H K => match args, H with
  | [.agg [.slc 0, .slc 1], .at (.val (.int .u32 i))], [.row false .slot d, .row false .u32 fl] => d.length ≤ 1000000 ∧ ∃ t, RepD d t i ∧ t.size < n ∧ t.size ≤ 1000000 ∧ ∀ h, h = (ht t : Int) → K (.one (.at (vI h))) [.row false EC.slot d, .row false EC.u32 fl] []
  | _, _ => False
def tLi7 (n : Nat) : Tfm C0 := fun args H K => match args, H with
  | [.agg [.slc 0, .slc 1], .at (.val (.int .u32 i))], [.row false .slot d, .row false .u32 fl] => d.length ≤ 1000000 ∧ ∃ t, RepD d t i ∧ t.size < n ∧ t.size ≤ 1000000 ∧ ∀ r, r = t.list → K (.one (.at (.slc 2))) [.row false EC.slot d, .row false EC.u32 fl, .row true EC.ent r] []
  | _, _ => False
noncomputable def aLi7 (n : Nat) : Ann C0 := { quiet := [116, 117], Γ := [(116, frameT [] tNd), (117, frameT [] (tLi7 n))] }
def tOr7 (n : Nat) : Tfm C0 := fun args H K => match args, H with
  | [.at (.ptr 0 0), .at (.val (.int .u32 i))], [.box [.slc 1, .slc 2, .val (.int .i64 last), .val (.bool any), .val (.int .i64 most)], .row false .slot d, .row false .u32 fl] => d.length ≤ 1000000 ∧ ∃ t, RepD d t i ∧ Asc t.list ∧ t.size < n ∧ (t.size : Int) ≤ most ∧ most ≤ 10000000 ∧ (any = true → gtL last t.list) ∧
    ∀ la an mo, la = lastK t last → an = anyK t any → mo = most - t.size → K (.one (.at (vB true))) [.box [.slc 1, .slc 2, vI la, vB an, vI mo], .row false EC.slot d, .row false EC.u32 fl] [0]
  | _, _ => False
noncomputable def aOr7 (n : Nat) : Ann C0 := { Γ := [(116, frameT [] tNd), (141, frameT [] (tOr7 n))] }
noncomputable def aCk7 (n : Nat) : Ann C0 := { Γ := [(140, frameT [] tAlc), (141, frameT [] (tOr7 n)), (142, frameT [] (tBl7 n))] }
def tCk7 : Tfm C0 := fun args H K => match args, H with
  | [.agg [.slc 0, .slc 1], .at (.val (.int .u32 i))], [.row false .slot d, .row false .u32 fl] => d.length ≤ 1000000 ∧ (∃ t, RepD d t i ∧ Asc t.list ∧ t.Bal ∧ t.size ≤ 2 * d.length + 2 ∧ t.size ≤ 1000000) ∧ K (.one (.at (vI 0))) [.row false EC.slot d, .row false EC.u32 fl] []
  | _, _ => False
noncomputable def aTr7 (n : Nat) (l : List Ent) (d : List SlotT) (fl : List Int) : Ann C0 := { Γ := [(115, frameT [] tCk7), (116, frameT [] tNd), (117, frameT [] (tLi7 n))], inv := fun k => match k with
  | 7 => some { X := XIx l.length, sl := [8, 3, 7], tf := fun x => [vi .i64 x.i, .one (.at (.ptr 3 0)), .one (.at (.slc 4))], hf := fun _ => [.row false EC.slot d, .row false EC.u32 fl, .row false EC.ent l, .box [.slc 0, .slc 1], .row true EC.ent l], μ := fun x => l.length - x.i }
  | _ => none }
def tTr7 : Tfm C0 := fun args H K => match args, H with
  | [.agg [.slc 0, .slc 1], .at (.val (.int .u32 i)), .at (.slc 2)], [.row false .slot d, .row false .u32 fl, .row false .ent l] => d.length ≤ 1000000 ∧ (∃ t, RepD d t i ∧ Asc t.list ∧ t.Bal ∧ t.size ≤ 2 * d.length + 2 ∧ t.size ≤ 1000000 ∧ t.list = l) ∧ K (.one (.at (vB true))) [.row false EC.slot d, .row false EC.u32 fl, .row false EC.ent l] []
  | _, _ => False
theorem bt7 {b : Bool} {t f : Prop} (h : b = true) (ht : t) : brS b t f := by rw [h]; exact ht
theorem RepD.inU {d : List SlotT} {t : Tr} {i : Int} (h : RepD d t i) (hl : d.length ≤ 1000000) : inU i := by
  cases t with
  | nil => have : i = 0 := h; rw [this]; exact ⟨by omega, by omega⟩
  | node l k v r => have := alcD_rng h.1; exact ⟨by omega, by omega⟩
theorem RepD.sz {d : List SlotT} {t : Tr} {i : Int} (h : RepD d t i) : (ndD d i).size = t.size := by
  cases t with
  | nil =>
    have : i = 0 := h
    unfold ndD
    rw [this, alcD_lo (by omega)]; rfl
  | node l k v r => rw [h.2.2.2.1]; simp [Tr.size]
theorem RepD.ne {d : List SlotT} {l r : Tr} {k v i : Int} (h : RepD d (.node l k v r) i) : i ≠ 0 := by have := alcD_rng h.1; omega
/-! ### From the arena to its dump -/
end Go.Proofs.Ytbonbaccmlomhaa.Sx
end
section
/- What the update laws share: Kept, spare, awake, lengths of dumps. -/
namespace Go.Proofs.Ytbonbaccmlomhaa.Sx
open Go

/-KEEP Wf exW inU live Arn.cap Arn.free Rep rdS Tr.size Tr.list alcD slotsOf orderOf PlantR newS insE flt getE TrR upM Hn-/
/-- Every slot that is allocated in d is so in e, with the same node and generation. -/
def keptD (d e : List SlotT) : Prop := d.length = e.length ∧ ∀ i : Nat, i < d.length → (eS d i).alloc = true → (eS e i).alloc = true ∧ (eS e i).node = (eS d i).node ∧ (eS e i).gen = (eS d i).gen
structure XKp (d : List SlotT) where
  i : Nat
  h : i ≤ d.length
noncomputable def aKp (d e : List SlotT) (fl gl : List Int) : Ann C0 := { Γ := [], inv := fun n => match n with
  | 4 => some { X := XKp d, sl := [5, 2, 3], tf := fun x => [vi .i64 x.i, .one (.at (.ptr 4 0)), .one (.at (.ptr 5 0))], hf := fun _ => [.row false EC.slot d, .row false EC.u32 fl, .row false EC.slot e, .row false EC.u32 gl, .box [.slc 0, .slc 1], .box [.slc 2, .slc 3]], μ := fun x => d.length - x.i }
  | _ => none }
def tKept : Tfm C0 := fun args H K => match args, H with
  | [.agg [.slc 0, .slc 1], .agg [.slc 2, .slc 3]], [.row false .slot d, .row false .u32 fl, .row false .slot e, .row false .u32 gl] => keptD d e ∧ d.length ≤ 1000000 ∧ K (.one (.at (vB true))) [.row false EC.slot d, .row false EC.u32 fl, .row false EC.slot e, .row false EC.u32 gl] []
  | _, _ => False
def tSpare : Tfm C0 := fun args H K => match args, H with
  | [.at (.val (.int .u16 n)), .at (.val (.int .i64 need))], [] => 0 ≤ n ∧ n ≤ 65535 ∧ 0 ≤ need ∧ need ≤ 60000 ∧ ∀ s, 0 ≤ s → s ≤ need + 8 → K (.one (.at (vI s))) [] []
  | _, _ => False
noncomputable def aAw14 : Ann C0 := { Γ := [(34, frameT [] tNew), (59, frameT [] tUpIn), (57, frameT [] tUpDe), (49, frameT [] tSize)] }
def tAw14 : Tfm C0 := fun args H K => match args, H with
  | [], [] => K (.one (.at (vB true))) [] []
  | _, _ => False
theorem slots_le {S : Arn} {hs : List Int} (w : Wf S hs) : (slotsOf S).length ≤ 65537 := by have := w.n2; rw [slotsOf_len]; unfold ncap; omega
theorem plant_free {S : Arn} {hs : List Int} {l : List Ent} {c : Nat} {i : Int} (hp : PlantR (newS c) hs l S i) : S.free = c - l.length := by
  have h1 := hp.wf.free_nonneg.2.2.2
  have h2 : S.cap = c := by unfold Arn.cap; rw [hp.len]; simp [newS]
  have h3 : (newS c).nu = 0 := by simp [Arn.nu, newS, List.countP_replicate]
  have := hp.nu
  omega
theorem plant_up {S : Arn} {l : List Ent} {c : Nat} {i : Int} (hp : PlantR (newS c) [] l S i) (asc : Asc l) (hl : l.length ≤ 60000) : ∃ t, upM S [i] t i ∧ t.list = l ∧ t.size = l.length := by
  obtain ⟨t, r1, r2, r3⟩ := hp.rep
  have sz : t.size = l.length := by rw [← t.list_len, r2]
  have rd : S.reads = 0 := by rw [hp.rds]; rfl
  exact ⟨t, ⟨hp.wf, r1, r3, by rw [r2]; exact asc, by omega, by simp, by omega⟩, r2, sz⟩
end Go.Proofs.Ytbonbaccmlomhaa.Sx
end
