/- A part of the proof. -/
import Derived.Test.YtjbkckcjmmmooaaG10
import Derived.Test.YtjbkckcjmmmooaaG7
section
/- The law that Split splits. -/
namespace Go.Proofs.Ytjbkckcjmmmooaa.Sx
open Go

/-KEEP Wf exW inU live Arn.cap Arn.free Rep rdS retL Tr.size Tr.list Tr.Bal gN TrR Got flt ltK gtK getE Asc Hn ht entO List.head? List.getLast? PlantR newS slotsOf orderOf RepD upM listE Kept List.Perm keptD rkE outE-/
structure XSa (P : Arn → Int → List Ent → Prop) where
  S : Arn
  i : Int
  l : List Ent
  k : Int
  h : P S i l
structure SpS where
  S0 : Arn
  S : Arn
  root : Int
  l : List Ent
  k : Int
  low : List Ent
  high : List Ent
  v : Int
  is : Bool
  d : List SlotT
  o : List Int
  r : Int
  x : Int
  w : Int
  ws : Bool
  y : Int
  e : Int
structure XSb (P : SpS → Prop) where
  z : SpS
  h : P z
structure XSc (P : SpS → Bool → Prop) where
  z : SpS
  b : Bool
  h : P z b
abbrev chSp (raw : List Ent) (z : SpS) : List (Chunk C0) := [.row false EC.ent raw] ++ chSk 1 z.S ++ [.row true EC.ent z.l, .row true EC.ent z.low, .row true EC.ent z.high, .box [.slc 12, .slc 13], .row true EC.slot z.d, .row true EC.u32 z.o]
noncomputable def aJsp (raw : List Ent) (P : Arn → Int → List Ent → Prop) (P2 : SpS → Prop) (P3 : SpS → Bool → Prop) : Ann C0 := { quiet := [30, 38, 22, 31, 39, 44, 50, 51, 52, 53], Γ := [(34, frameT [] tLst), (50, frameT [] (tRes1 12 0)), (47, frameT [] tSpare), (17, frameT [] tGrow), (41, frameT [] tAw13), (15, frameT [] tMod), (52, frameT [] tRk9), (51, frameT [] tHd), (53, frameT [] tOut), (27, frameT [] tGet), (30, frameT [] tDump), (19, frameT [] tReads), (42, frameT [] tJs), (24, frameT [] tMh), (23, frameT [] tWi), (38, frameT [] tSameD), (44, frameT [] tTree13), (22, frameT [] tFree), (39, frameT [] tKept), (31, frameT [] tSound)], inv := fun n => match n with
  | 1007 => some { X := XSa P, sl := [12, 13, 11, 2], tf := fun x => [.one (.at (.ptr 1 0)), vi .u32 x.i, .one (.at (.slc 8)), vi .i64 x.k], hf := fun x => [.row false EC.ent raw] ++ chSk 1 x.S ++ [.row true EC.ent x.l] }
  | 1011 => some { X := XSb P2, sl := [12, 13, 11, 15, 16, 17, 18, 19, 20, 21, 22, 23, 24, 25], tf := fun x => [.one (.at (.ptr 1 0)), vi .u32 x.z.root, .one (.at (.slc 8)), .one (.at (.slc 9)), .one (.at (.slc 10)), vi .i64 x.z.v, vb x.z.is, .one (.at (.ptr 11 0)), vi .u64 x.z.r, vi .u32 x.z.x, vi .i64 x.z.w, vb x.z.ws, vi .u32 x.z.y, vi .i64 x.z.e], hf := fun x => chSp raw x.z }
  | 1014 => some { X := XSc P3, sl := [12, 13, 11, 15, 16, 17, 18, 19, 20, 21, 22, 23, 24, 25, 26], tf := fun x => [.one (.at (.ptr 1 0)), vi .u32 x.z.root, .one (.at (.slc 8)), .one (.at (.slc 9)), .one (.at (.slc 10)), vi .i64 x.z.v, vb x.z.is, .one (.at (.ptr 11 0)), vi .u64 x.z.r, vi .u32 x.z.x, vi .i64 x.z.w, vb x.z.ws, vi .u32 x.z.y, vi .i64 x.z.e, vb x.b], hf := fun x => chSp raw x.z }
  | _ => none }
def tJsp : Tfm C0 := fun args H K => match args, H with
  | [.at (.slc 0), .at (.val (.int .u64 t)), .at (.val (.int .i64 _)), .at (.val (.int .i64 _)), .at (.val (.int .u16 f))], [.row false .ent raw] => 0 ≤ t ∧ 0 ≤ f ∧ f ≤ 65535 ∧ (∀ x ∈ raw, -9223372036854775808 ≤ x.1 ∧ x.1 ≤ 9223372036854775807) ∧ K (.one (.at (vB true))) [.row false EC.ent raw] []
  | _, _ => False
theorem listE_memJ (raw : List Ent) (n : Nat) : ∀ x ∈ listE raw n, x ∈ raw := by
  have key : ∀ (L acc : List Ent), Asc acc → ∀ x ∈ L.foldl insE acc, x ∈ L ∨ x ∈ acc := by
    intro L
    induction L with
    | nil => intro acc _ x hx; exact .inr hx
    | cons y L ih =>
      intro acc ha x hx
      rcases ih (insE acc y) (insE_asc _ ha) x hx with h | h
      · exact .inl (by simp [h])
      · rcases insE_mem ha h with h | h
        · exact .inl (by simp [h])
        · exact .inr h
  intro x hx
  rcases key (raw.take n) [] List.Pairwise.nil x hx with h | h
  · exact List.mem_of_mem_take h
  · simp at h
def whl (z : SpS) : Prop := getE z.l z.k = none ∧ (z.low = [] ∨ z.high = [])
def SpD (z : SpS) (t : Tr) : Prop := upM z.S0 [z.root] t z.root ∧ t.list = z.l ∧ t.size = z.l.length ∧ z.l.length ≤ 150 ∧ z.S0.reads = 0 ∧ z.r = 0 ∧ z.d = slotsOf z.S0 ∧ z.o = orderOf z.S0 ∧ 0 ≤ z.S.reads ∧ z.S.reads ≤ 120 * (Hn (z.l.length : Int) + 2) ∧ z.low = flt (ltK z.k) z.l ∧ z.high = flt (gtK z.k) z.l ∧ z.v = (getE z.l z.k).getD 0 ∧ z.is = (getE z.l z.k).isSome
def SpO (z : SpS) : Prop := (¬ whl z ∧ z.S0.free < 12 * (Hn (z.l.length : Int) + 2) ∧ z.e = 2 ∧ z.x = 0 ∧ z.y = 0 ∧ z.w = 0 ∧ z.ws = false ∧ ∃ m, z.S = rdS z.S0 m) ∨
  ((whl z ∨ 12 * (Hn (z.l.length : Int) + 2) ≤ z.S0.free) ∧ z.e = 0 ∧ z.w = z.v ∧ z.ws = z.is ∧ Wf z.S [z.x, z.y, z.root] ∧ keptD z.d (slotsOf z.S) ∧ (∃ t, Rep z.S t z.x ∧ t.list = z.low ∧ t.Bal) ∧ (∃ t, Rep z.S t z.y ∧ t.list = z.high ∧ t.Bal) ∧ (whl z → (z.low ≠ [] → z.x = z.root) ∧ (z.high ≠ [] → z.y = z.root) ∧ z.S.free = z.S0.free))
def PSb (z : SpS) : Prop := ∃ t, SpD z t ∧ SpO z
def PSc (z : SpS) (b : Bool) : Prop := PSb z ∧ (b = true ↔ whl z)
def PSa (S : Arn) (i : Int) (l : List Ent) : Prop := ∃ t, upM S [i] t i ∧ t.list = l ∧ t.size = l.length ∧ l.length ≤ 150 ∧ S.reads = 0 ∧ ∀ x ∈ l, -9223372036854775808 ≤ x.1
end Go.Proofs.Ytjbkckcjmmmooaa.Sx
end
