/- The kinds of elements of the arena's programs, and the logic over them. -/
import Derived.Test.YtacdmmomkngpkaaSxO
import Derived.Test.YtacdmmomkngpkaaPat
import Derived.Test.YtacdmmomkngpkaaArB
import Derived.Test.YtacdmmomkngpkaaProg
import Derived.Test.YtacdmmomkngpkaaChecked
import Derived.Conc.MuLone
namespace Go.Proofs.Ytacdmmomkngpkaa.Sx
open Go

structure SlotT where
  alloc : Bool
  count : Int
  gen : Int
  node : NodeT
  deriving DecidableEq
structure FindT where
  kind : Int
  slot : Int
  want : Int
  have_ : Int
  deriving DecidableEq
structure ItemT where
  index : Int
  size : Int
  key : Int
  value : Int
  single : Bool
  deriving DecidableEq
structure PStepT where
  index : Int
  open_ : Bool
  deriving DecidableEq
structure LStepT where
  drop : Bool
  key : Int
  value : Int
  left : Int
  right : Int
  deriving DecidableEq
structure MoveT where
  kind : Int
  key : Int
  at_ : Int
  deriving DecidableEq

inductive EC where
  | ent
  | i64
  | int
  | u32
  | bool
  | node
  | chg
  | slot
  | find
  | item
  | pstep
  | lstep
  | move
  deriving DecidableEq

def EC.α : EC → Type
  | .ent => Ent
  | .i64 => Int
  | .int => Int
  | .u32 => Int
  | .bool => Bool
  | .node => NodeT
  | .chg => Chg
  | .slot => SlotT
  | .find => FindT
  | .item => ItemT
  | .pstep => PStepT
  | .lstep => LStepT
  | .move => MoveT

def EC.enc : (e : EC) → e.α → List Value
  | .ent, x => [.int .i64 x.1, .int .i64 x.2]
  | .i64, x => [.int .i64 x]
  | .int, x => [.int .i64 x]
  | .u32, x => [.int .u32 x]
  | .bool, x => [.bool x]
  | .node, x => [.int .i64 x.key, .int .i64 x.value, .int .u32 x.left, .int .u32 x.right, .int .i64 x.size, .int .i64 x.sum, .int .i64 x.min, .int .i64 x.max]
  | .chg, x => [.int .i64 x.kind, .int .i64 x.key, .int .i64 x.old, .int .i64 x.new]
  | .slot, x => [.bool x.alloc, .int .i64 x.count, .int .u32 x.gen, .int .i64 x.node.key, .int .i64 x.node.value, .int .u32 x.node.left, .int .u32 x.node.right, .int .i64 x.node.size, .int .i64 x.node.sum, .int .i64 x.node.min, .int .i64 x.node.max]
  | .find, x => [.int .i64 x.kind, .int .u32 x.slot, .int .i64 x.want, .int .i64 x.have_]
  | .item, x => [.int .u32 x.index, .int .i64 x.size, .int .i64 x.key, .int .i64 x.value, .bool x.single]
  | .pstep, x => [.int .u32 x.index, .bool x.open_]
  | .lstep, x => [.bool x.drop, .int .i64 x.key, .int .i64 x.value, .int .i64 x.left, .int .i64 x.right]
  | .move, x => [.int .i64 x.kind, .int .i64 x.key, .int .i64 x.at_]

def dcd_ent : List Value → Option Ent := fun l => match l with | [.int .i64 x0, .int .i64 x1] => some (x0, x1) | _ => none
def dcd_i64 : List Value → Option Int := fun l => match l with | [.int .i64 x0] => some x0 | _ => none
def dcd_int : List Value → Option Int := fun l => match l with | [.int .i64 x0] => some x0 | _ => none
def dcd_u32 : List Value → Option Int := fun l => match l with | [.int .u32 x0] => some x0 | _ => none
def dcd_bool : List Value → Option Bool := fun l => match l with | [.bool x0] => some x0 | _ => none
def dcd_node : List Value → Option NodeT := fun l => match l with | [.int .i64 x0, .int .i64 x1, .int .u32 x2, .int .u32 x3, .int .i64 x4, .int .i64 x5, .int .i64 x6, .int .i64 x7] => some ⟨x0, x1, x2, x3, x4, x5, x6, x7⟩ | _ => none
def dcd_chg : List Value → Option Chg := fun l => match l with | [.int .i64 x0, .int .i64 x1, .int .i64 x2, .int .i64 x3] => some ⟨x0, x1, x2, x3⟩ | _ => none
def dcd_slot : List Value → Option SlotT := fun l => match l with | [.bool x0, .int .i64 x1, .int .u32 x2, .int .i64 x3, .int .i64 x4, .int .u32 x5, .int .u32 x6, .int .i64 x7, .int .i64 x8, .int .i64 x9, .int .i64 x10] => some ⟨x0, x1, x2, ⟨x3, x4, x5, x6, x7, x8, x9, x10⟩⟩ | _ => none
def dcd_find : List Value → Option FindT := fun l => match l with | [.int .i64 x0, .int .u32 x1, .int .i64 x2, .int .i64 x3] => some ⟨x0, x1, x2, x3⟩ | _ => none
def dcd_item : List Value → Option ItemT := fun l => match l with | [.int .u32 x0, .int .i64 x1, .int .i64 x2, .int .i64 x3, .bool x4] => some ⟨x0, x1, x2, x3, x4⟩ | _ => none
def dcd_pstep : List Value → Option PStepT := fun l => match l with | [.int .u32 x0, .bool x1] => some ⟨x0, x1⟩ | _ => none
def dcd_lstep : List Value → Option LStepT := fun l => match l with | [.bool x0, .int .i64 x1, .int .i64 x2, .int .i64 x3, .int .i64 x4] => some ⟨x0, x1, x2, x3, x4⟩ | _ => none
def dcd_move : List Value → Option MoveT := fun l => match l with | [.int .i64 x0, .int .i64 x1, .int .i64 x2] => some ⟨x0, x1, x2⟩ | _ => none
def EC.dcd : (e : EC) → List Value → Option e.α
  | .ent => dcd_ent
  | .i64 => dcd_i64
  | .int => dcd_int
  | .u32 => dcd_u32
  | .bool => dcd_bool
  | .node => dcd_node
  | .chg => dcd_chg
  | .slot => dcd_slot
  | .find => dcd_find
  | .item => dcd_item
  | .pstep => dcd_pstep
  | .lstep => dcd_lstep
  | .move => dcd_move

def EC.dft : (e : EC) → e.α
  | .ent => ((0 : Int), (0 : Int))
  | .i64 => (0 : Int)
  | .int => (0 : Int)
  | .u32 => (0 : Int)
  | .bool => false
  | .node => ⟨0, 0, 0, 0, 0, 0, 0, 0⟩
  | .chg => ⟨0, 0, 0, 0⟩
  | .slot => ⟨false, 0, 0, ⟨0, 0, 0, 0, 0, 0, 0, 0⟩⟩
  | .find => ⟨0, 0, 0, 0⟩
  | .item => ⟨0, 0, 0, 0, false⟩
  | .pstep => ⟨0, false⟩
  | .lstep => ⟨false, 0, 0, 0, 0⟩
  | .move => ⟨0, 0, 0⟩

def EC.sz : EC → Nat
  | .ent => 2
  | .i64 => 1
  | .int => 1
  | .u32 => 1
  | .bool => 1
  | .node => 8
  | .chg => 4
  | .slot => 11
  | .find => 4
  | .item => 5
  | .pstep => 2
  | .lstep => 5
  | .move => 3

def EC.tid : EC → TypeId
  | .ent => 65
  | .i64 => 2
  | .int => 3
  | .u32 => 28
  | .bool => 4
  | .node => 122
  | .chg => 89
  | .slot => 136
  | .find => 203
  | .item => 210
  | .pstep => 217
  | .lstep => 148
  | .move => 111

def EC.byT (t : TypeId) : Option EC :=
  if t = 65 then some .ent else
  if t = 2 then some .i64 else
  if t = 3 then some .int else
  if t = 28 then some .u32 else
  if t = 4 then some .bool else
  if t = 122 then some .node else
  if t = 89 then some .chg else
  if t = 136 then some .slot else
  if t = 203 then some .find else
  if t = 210 then some .item else
  if t = 217 then some .pstep else
  if t = 148 then some .lstep else
  if t = 111 then some .move else
  none

noncomputable def C0 : Ctx where
  P := Try.prog
  EC := EC
  deq := inferInstance
  α := EC.α
  enc := EC.enc
  dcd := EC.dcd
  dft := EC.dft
  sz := EC.sz
  tid := EC.tid
  byT := EC.byT
  X := Empty
  I := fun _ _ _ _ => False

theorem dcd_ent_spec {cs : List Value} {x : Ent} (h : dcd_ent cs = some x) : EC.enc .ent x = cs := by unfold dcd_ent at h; split at h <;> simp at h; subst h; rfl
theorem dcd_i64_spec {cs : List Value} {x : Int} (h : dcd_i64 cs = some x) : EC.enc .i64 x = cs := by unfold dcd_i64 at h; split at h <;> simp at h; subst h; rfl
theorem dcd_int_spec {cs : List Value} {x : Int} (h : dcd_int cs = some x) : EC.enc .int x = cs := by unfold dcd_int at h; split at h <;> simp at h; subst h; rfl
theorem dcd_u32_spec {cs : List Value} {x : Int} (h : dcd_u32 cs = some x) : EC.enc .u32 x = cs := by unfold dcd_u32 at h; split at h <;> simp at h; subst h; rfl
theorem dcd_bool_spec {cs : List Value} {x : Bool} (h : dcd_bool cs = some x) : EC.enc .bool x = cs := by unfold dcd_bool at h; split at h <;> simp at h; subst h; rfl
theorem dcd_node_spec {cs : List Value} {x : NodeT} (h : dcd_node cs = some x) : EC.enc .node x = cs := by unfold dcd_node at h; split at h <;> simp at h; subst h; rfl
theorem dcd_chg_spec {cs : List Value} {x : Chg} (h : dcd_chg cs = some x) : EC.enc .chg x = cs := by unfold dcd_chg at h; split at h <;> simp at h; subst h; rfl
theorem dcd_slot_spec {cs : List Value} {x : SlotT} (h : dcd_slot cs = some x) : EC.enc .slot x = cs := by unfold dcd_slot at h; split at h <;> simp at h; subst h; rfl
theorem dcd_find_spec {cs : List Value} {x : FindT} (h : dcd_find cs = some x) : EC.enc .find x = cs := by unfold dcd_find at h; split at h <;> simp at h; subst h; rfl
theorem dcd_item_spec {cs : List Value} {x : ItemT} (h : dcd_item cs = some x) : EC.enc .item x = cs := by unfold dcd_item at h; split at h <;> simp at h; subst h; rfl
theorem dcd_pstep_spec {cs : List Value} {x : PStepT} (h : dcd_pstep cs = some x) : EC.enc .pstep x = cs := by unfold dcd_pstep at h; split at h <;> simp at h; subst h; rfl
theorem dcd_lstep_spec {cs : List Value} {x : LStepT} (h : dcd_lstep cs = some x) : EC.enc .lstep x = cs := by unfold dcd_lstep at h; split at h <;> simp at h; subst h; rfl
theorem dcd_move_spec {cs : List Value} {x : MoveT} (h : dcd_move cs = some x) : EC.enc .move x = cs := by unfold dcd_move at h; split at h <;> simp at h; subst h; rfl
theorem byT_spec {t : TypeId} {e : EC} (h : EC.byT t = some e) : t = e.tid := by
  unfold EC.byT at h
  by_cases h_ent : t = 65; (rw [if_pos h_ent] at h; cases h; exact h_ent); rw [if_neg h_ent] at h
  by_cases h_i64 : t = 2; (rw [if_pos h_i64] at h; cases h; exact h_i64); rw [if_neg h_i64] at h
  by_cases h_int : t = 3; (rw [if_pos h_int] at h; cases h; exact h_int); rw [if_neg h_int] at h
  by_cases h_u32 : t = 28; (rw [if_pos h_u32] at h; cases h; exact h_u32); rw [if_neg h_u32] at h
  by_cases h_bool : t = 4; (rw [if_pos h_bool] at h; cases h; exact h_bool); rw [if_neg h_bool] at h
  by_cases h_node : t = 122; (rw [if_pos h_node] at h; cases h; exact h_node); rw [if_neg h_node] at h
  by_cases h_chg : t = 89; (rw [if_pos h_chg] at h; cases h; exact h_chg); rw [if_neg h_chg] at h
  by_cases h_slot : t = 136; (rw [if_pos h_slot] at h; cases h; exact h_slot); rw [if_neg h_slot] at h
  by_cases h_find : t = 203; (rw [if_pos h_find] at h; cases h; exact h_find); rw [if_neg h_find] at h
  by_cases h_item : t = 210; (rw [if_pos h_item] at h; cases h; exact h_item); rw [if_neg h_item] at h
  by_cases h_pstep : t = 217; (rw [if_pos h_pstep] at h; cases h; exact h_pstep); rw [if_neg h_pstep] at h
  by_cases h_lstep : t = 148; (rw [if_pos h_lstep] at h; cases h; exact h_lstep); rw [if_neg h_lstep] at h
  by_cases h_move : t = 111; (rw [if_pos h_move] at h; cases h; exact h_move); rw [if_neg h_move] at h
  cases h
theorem info_of {P : Program} {t : TypeId} {z : Value} {n b : Nat} {l : List Value} (h : (P.info? t).map (fun i => (i.zero, i.size, i.bytes)) = some (some z, n, b)) (hz : z.cells.toList = l) (hb : 0 < b) :
    ∃ i z, P.info? t = some i ∧ i.zero = some z ∧ i.size = n ∧ z.cells.toList = l ∧ 0 < i.bytes := by
  rw [Option.map_eq_some_iff] at h
  obtain ⟨i, h1, h2⟩ := h
  simp only [Prod.mk.injEq] at h2
  exact ⟨i, z, h1, h2.1, h2.2.1, hz, h2.2.2 ▸ hb⟩

theorem C0.ok : C0.OK where
  len e x := by cases e <;> rfl
  one e x := by
    have h : ∀ u ∈ EC.enc e x, u.oneCell' = true := by cases e <;> (intro u hu; simp [EC.enc] at hu; (first | (repeat (rcases hu with rfl | hu; exact rfl)); done | (repeat (rcases hu with rfl | hu; exact rfl)); (subst hu; rfl)))
    exact h
  dcd e cs x h := by
    cases e with
    | ent => exact dcd_ent_spec h
    | i64 => exact dcd_i64_spec h
    | int => exact dcd_int_spec h
    | u32 => exact dcd_u32_spec h
    | bool => exact dcd_bool_spec h
    | node => exact dcd_node_spec h
    | chg => exact dcd_chg_spec h
    | slot => exact dcd_slot_spec h
    | find => exact dcd_find_spec h
    | item => exact dcd_item_spec h
    | pstep => exact dcd_pstep_spec h
    | lstep => exact dcd_lstep_spec h
    | move => exact dcd_move_spec h
  pos e := by cases e <;> decide
  info e := by
    cases e with
    | ent => exact info_of (z := .agg #[.int .i64 0, .int .i64 0]) (n := 2) (b := 16) (by kernel_rfl) rfl (by decide)
    | i64 => exact info_of (z := .int .i64 0) (n := 1) (b := 8) (by kernel_rfl) rfl (by decide)
    | int => exact info_of (z := .int .i64 0) (n := 1) (b := 8) (by kernel_rfl) rfl (by decide)
    | u32 => exact info_of (z := .int .u32 0) (n := 1) (b := 4) (by kernel_rfl) rfl (by decide)
    | bool => exact info_of (z := .bool false) (n := 1) (b := 1) (by kernel_rfl) rfl (by decide)
    | node => exact info_of (z := .agg #[.int .i64 0, .int .i64 0, .int .u32 0, .int .u32 0, .int .i64 0, .int .i64 0, .int .i64 0, .int .i64 0]) (n := 8) (b := 56) (by kernel_rfl) rfl (by decide)
    | chg => exact info_of (z := .agg #[.int .i64 0, .int .i64 0, .int .i64 0, .int .i64 0]) (n := 4) (b := 32) (by kernel_rfl) rfl (by decide)
    | slot => exact info_of (z := .agg #[.bool false, .int .i64 0, .int .u32 0, .int .i64 0, .int .i64 0, .int .u32 0, .int .u32 0, .int .i64 0, .int .i64 0, .int .i64 0, .int .i64 0]) (n := 11) (b := 80) (by kernel_rfl) rfl (by decide)
    | find => exact info_of (z := .agg #[.int .i64 0, .int .u32 0, .int .i64 0, .int .i64 0]) (n := 4) (b := 32) (by kernel_rfl) rfl (by decide)
    | item => exact info_of (z := .agg #[.int .u32 0, .int .i64 0, .int .i64 0, .int .i64 0, .bool false]) (n := 5) (b := 40) (by kernel_rfl) rfl (by decide)
    | pstep => exact info_of (z := .agg #[.int .u32 0, .bool false]) (n := 2) (b := 8) (by kernel_rfl) rfl (by decide)
    | lstep => exact info_of (z := .agg #[.bool false, .int .i64 0, .int .i64 0, .int .i64 0, .int .i64 0]) (n := 5) (b := 40) (by kernel_rfl) rfl (by decide)
    | move => exact info_of (z := .agg #[.int .i64 0, .int .i64 0, .int .i64 0]) (n := 3) (b := 24) (by kernel_rfl) rfl (by decide)
  byT t e h := by
    exact byT_spec h
  local_ x := x.elim
  mixed := Try.checked.mixed

theorem enter_of {f : FuncId} {fn : Func} {c : Code} (hf : Try.prog.funcs[f]? = some fn) (hname : (fn.name == "runtime.NumGoroutine") = false) (hb : fn.body = some c) (args : Array Value) (w : World) :
    (callFunc f args).run C0.P w = .ok (.enter f args) w := MuLone.run_callFunc_enter hf hname hb args w

abbrev vI (x : Int) : At := .val (.int .i64 x)
abbrev vU (x : Int) : At := .val (.int .u32 x)
abbrev vU64 (x : Int) : At := .val (.int .u64 x)
abbrev vB (b : Bool) : At := .val (.bool b)
abbrev KT := SV → List (Chunk C0) → List Nat → Prop
/-- A contract out of a run. -/
theorem SoundT.of {f : FuncId} {fn : Func} {c : Code} {t : Tfm C0} (hf : Try.prog.funcs[f]? = some fn) (hname : (fn.name == "runtime.NumGoroutine") = false) (hb : fn.body = some c)
    (h : ∀ args H K, t args H K → RowB H → ∃ A : Ann C0, GOK C0 A.Γ ∧ vc C0 A fn args H (normK H.length K)) : SoundT C0 f t :=
  ⟨enter_of hf hname hb, fun args H K hk => by
    refine CallOK.rowB C0.ok fun hB => ?_
    obtain ⟨A, hG, hv⟩ := h args H K hk hB
    exact CallOK.norm (call_of_vc C0.ok hG hf hv)⟩
/-- The same names touched, whichever way a run takes. -/
def wideK (W0 : List Nat) (K : KT) : KT := fun r H ts => if ts.all W0.contains then K r H W0 else False
theorem CallOK.wide {f : FuncId} {args : List TV} {H : List (Chunk C0)} {K : KT} (W0 : List Nat) (h : CallOK C0 f args H (wideK W0 K)) : CallOK C0 f args H K := by
  intro σ φ w vs hs hr hn
  refine Calls.mono (h σ φ w vs hs hr hn) fun e w' hh => ?_
  cases e with
  | panicked ch => exact hh.elim
  | outgrown => exact hh.elim
  | returned v =>
    obtain ⟨r, H', ts, σ', φ', hout, hK⟩ := hh
    unfold wideK at hK
    split at hK <;> try exact hK.elim
    rename_i hsub
    have hts : ∀ n, n ∉ W0 → n ∉ ts := fun n hn ht => hn (by simpa using List.all_eq_true.1 hsub n ht)
    exact ⟨r, H', W0, σ', φ', ⟨hout.rel, hout.rcl, hout.sat, hout.adv, hout.len, fun n hn ho => hout.agree n hn (ho.imp id (hts n)), hout.own, fun n hn ht => hout.touch n hn (hts n ht)⟩, hK⟩
theorem SoundT.ofW {f : FuncId} {fn : Func} {c : Code} {t : Tfm C0} (W0 : List Nat) (hf : Try.prog.funcs[f]? = some fn) (hname : (fn.name == "runtime.NumGoroutine") = false) (hb : fn.body = some c)
    (h : ∀ args H K, t args H K → RowB H → ∃ A : Ann C0, GOK C0 A.Γ ∧ vc C0 A fn args H (normK H.length (wideK W0 K))) : SoundT C0 f t :=
  ⟨enter_of hf hname hb, fun args H K hk => by
    refine CallOK.wide W0 (CallOK.rowB C0.ok fun hB => ?_)
    obtain ⟨A, hG, hv⟩ := h args H K hk hB
    exact CallOK.norm (call_of_vc C0.ok hG hf hv)⟩

theorem SoundT.weak {f : FuncId} {t t' : Tfm C0} (h : SoundT C0 f t) (hw : ∀ args H K, t' args H K → t args H K) : SoundT C0 f t' := ⟨h.enter, fun args H K hk => h.call args H K (hw args H K hk)⟩
noncomputable def A0 : Ann C0 := { Γ := [] }
theorem brS_of {b : Bool} {t f : Prop} (ht : b = true → t) (hf : b = false → f) : brS b t f := by cases b <;> simp_all [brS]
theorem bytes_ent : bytesOf C0 EC.ent = 16 := by kernel_rfl
theorem bytes_i64 : bytesOf C0 EC.i64 = 8 := by kernel_rfl
theorem bytes_int : bytesOf C0 EC.int = 8 := by kernel_rfl
theorem bytes_u32 : bytesOf C0 EC.u32 = 4 := by kernel_rfl
theorem bytes_bool : bytesOf C0 EC.bool = 1 := by kernel_rfl
theorem bytes_node : bytesOf C0 EC.node = 56 := by kernel_rfl
theorem bytes_chg : bytesOf C0 EC.chg = 32 := by kernel_rfl
theorem bytes_slot : bytesOf C0 EC.slot = 80 := by kernel_rfl
theorem bytes_find : bytesOf C0 EC.find = 32 := by kernel_rfl
theorem bytes_item : bytesOf C0 EC.item = 40 := by kernel_rfl
theorem bytes_pstep : bytesOf C0 EC.pstep = 8 := by kernel_rfl
theorem bytes_lstep : bytesOf C0 EC.lstep = 40 := by kernel_rfl
theorem bytes_move : bytesOf C0 EC.move = 24 := by kernel_rfl
end Go.Proofs.Ytacdmmomkngpkaa.Sx
